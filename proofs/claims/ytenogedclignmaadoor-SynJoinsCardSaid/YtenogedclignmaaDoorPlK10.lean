/-
  HELPER.
-/
import Derived.Test.YtenogedclignmaaDoorPlKA
import Derived.Test.YtenogedclignmaaDoorPlK9
set_option linter.unusedVariables false
set_option linter.unusedSimpArgs false
namespace Go.Proofs.YtenogedclignmaaDoor.Q
open Go.RowKit Go.Maps Go.WideMaps Go.Proofs.YtenogedclignmaaDoorW.PrintWords Go.Proofs.YtenogedclignmaaDoorW.PrintLast Go.Proofs.YtenogedclignmaaDoorW.PrintMore
set_option maxHeartbeats 8000000 in
set_option maxRecDepth 100000 in
theorem primary_word (G bp : Nat) (s : ByteArray) (A : Option Addr) (c : Nat) (l : List Tok) (begun : Int) (fv : Value) (k : Nat) (hE : ExprT G bp s A c l begun fv k) (a : Nat) (w : World) (res : PR Ex) (h : St G bp s A c l begun fv a w) (tk : Tok) (htk : looks (l.drop a) = tk) (hnp : ¬ (tk.f0 = 2 ∨ tk.f0 = 1 ∧ wordP (txt tk) = false)) (ht0 : takeP [40] (l.drop a) = none) (ht : takeP [123] (l.drop a) = none) (opv : Int) (hw : wordsL.lookup (txt tk) = some opv) (hres : primaryP (k + 1) (l.drop a) = some res) : Calls Tryd.prog 90 #[.pointer (some ⟨bp, 0, none⟩)] w (Tells bp l no w (encE (Lo w.heap.size) 8) res) := by
 have HROOM := aS h.room
 have hb1 := below_alloc (bR w.heap.size w) (.cells #[.int .i64 0, .string ⟨#[]⟩, .int .i64 0, .string ⟨#[]⟩, .int .i64 0, .string ⟨#[]⟩, .int .i64 0, .string ⟨#[]⟩, .int .i64 0, .string ⟨#[]⟩, .slice none 0 0] 56)
 have HO1 := aS (MapKept.heap_alloc w (.cells #[.int .i64 0, .string ⟨#[]⟩, .int .i64 0, .string ⟨#[]⟩, .int .i64 0, .string ⟨#[]⟩, .int .i64 0, .string ⟨#[]⟩, .int .i64 0, .string ⟨#[]⟩, .slice none 0 0] 56)).1
 have HA1 := aS ((h.same (X := no)).below h.lt hb1)
 have HS1 := aS (h.below hb1)
 have HN := aS (show w.heap.size ≠ bp by have := h.lt; omega)
 have HW := aS h.lt
 have HZ := aS (show (w.alloc (.cells #[.int .i64 0, .string ⟨#[]⟩, .int .i64 0, .string ⟨#[]⟩, .int .i64 0, .string ⟨#[]⟩, .int .i64 0, .string ⟨#[]⟩, .int .i64 0, .string ⟨#[]⟩, .slice none 0 0] 56)).heap.size = w.heap.size + 1 by show (w.heap.push _).size = _; simp)
 clear h hb1
 have HTK := aS htk
 have hsz := looks_short HS1.out.short a
 rw [htk] at hsz
 have HSZ := aS hsz
 clear hsz htk
 have y2 := blk_cell HS1.out.blk 2
 have HQ1 := aS (show (andThen (some (needP [40] (l.drop (a + 1)))) fun _ r1 => if opv = 19 then andThen (some (nameP r1)) fun nm r2 => andThen (some (needP [44] r2)) fun _ r3 => andThen (exprP k r3) fun x r4 => andThen (some (needP [41] r4)) fun _ r5 => madeP (l.drop a) (exRead nm x) r5 else andThen (exprP k r1) fun x r4 => andThen (some (needP [41] r4)) fun _ r5 => madeP (l.drop a) (exK opv [x]) r5) = some res by rw [← hres, primaryP, if_neg (by rw [HTK.out]; exact hnp), ht0, ht, HTK.out, hw, tail_drop])
 have HLT := aS (show a < l.length from looks_lt2 (by rw [HTK.out]; intro q; rw [q] at hw; cases hw))
 have HT := aS ht
 have HT0 := aS ht0
 have HW0 := aS (show wordsL.lookup tk.f1.data.toList = some opv from hw)
 clear ht ht0 hw
 have HE := aS hE
 have hwd : tk.f0 = 1 → wordP tk.f1.data.toList = true := fun h1 => by cases hq : wordP tk.f1.data.toList with | true => rfl | false => exact absurd (.inr ⟨h1, hq⟩) hnp
 have e2 : (tk.f0 == 2) = false := beq_eq_false_iff_ne.2 (fun q => hnp (.inl q))
 have HNP := aS hnp
 have HWD0 := aS hwd
 clear hnp hwd hE hres
 obtain ⟨q1, hq1⟩ : ∃ q, (tk.f0 == 1) = q := ⟨_, rfl⟩
 cases q1
 all_goals
  (try have HWD := aS (HWD0.out (by simpa using hq1)))
  go_enter Tryd.func90, Tryd.ntmps90
  go_upto_region 1 with (fail)
  generalize w.alloc (.cells #[.int .i64 0, .string ⟨#[]⟩, .int .i64 0, .string ⟨#[]⟩, .int .i64 0, .string ⟨#[]⟩, .int .i64 0, .string ⟨#[]⟩, .int .i64 0, .string ⟨#[]⟩, .slice none 0 0] 56) = w1 at *
  go_region_held3 (fun w' => w'.cell? ⟨bp, 2, none⟩ = some (.int .i64 a)) (go_keep) (first | (go_at_call 33; refine (look_at bp s A c l begun fv a tk HTK.out _ (HS1.out.below (by repeat (first | exact bR _ _ | apply below_drew | apply pw_below_drewN | apply below_alloc))).ps).mono ?_; rintro e w2 ⟨rfl, hb⟩; have HB2 := aS hb; have z2 : w2.cell? ⟨bp, 2, none⟩ = some (.int .i64 a) := blk_cell (PS.below (HS1.out.below (by repeat (first | exact bR _ _ | apply below_drew | apply pw_below_drewN | apply below_alloc))).ps hb).blk 2; (try (have hzt : w2.heap[w1.heap.size]? = some (.cells #[.int .i64 0, .string ⟨#[]⟩, .int .i64 0, .int .i64 0] 37) := fbelow (heap_drew (MapKept.heap_alloc w1 (.cells #[.int .i64 0, .string ⟨#[]⟩, .int .i64 0, .int .i64 0] 37)).1) hb; have nz := (show w1.heap.size ≠ bp by have := HS1.out.lt; omega); have zt0 := cH hzt 0; have zt1 := cH hzt 1; have zt2 := cH hzt 2; have zt3 := cH hzt 3;have zf0 := blk_frozen hzt 0; have zg0 := cH hzt 0; have zf1 := blk_frozen hzt 1; have zg1 := cH hzt 1; have zf2 := blk_frozen hzt 2; have zg2 := cH hzt 2; have zf3 := blk_frozen hzt 3; have zg3 := cH hzt 3; have HZT := aS hzt; clear hzt)); clear hb))
 all_goals
  (first | (have hb := below_fill4 (b0 := .int .i64 tk.f0) (b1 := .string tk.f1) (b2 := .int .i64 tk.f2) (b3 := .int .i64 tk.f3) ((below_drew (below_alloc (bR w1.heap.size w1) (.cells #[.int .i64 0, .string ⟨#[]⟩, .int .i64 0, .int .i64 0] 37))).trans (HB2.out.mono (show w1.heap.size ≤ (w1.alloc (.cells #[.int .i64 0, .string ⟨#[]⟩, .int .i64 0, .int .i64 0] 37)).heap.size by show _ ≤ (w1.heap.push _).size; simp))) (Nat.le_refl w1.heap.size); have HTB3 := aS (fill4 (b0 := .int .i64 tk.f0) (b1 := .string tk.f1) (b2 := .int .i64 tk.f2) (b3 := .int .i64 tk.f3) HZT.out); have NHTB := aS (show w1.heap.size ≠ bp by have := HS1.out.lt; omega); have HA3 := aS (HA1.out.below HS1.out.lt hb); have HS3 := aS (HS1.out.below hb); have HO3 := aS (fbelow HO1.out hb); clear hb z2 nz HZT zt0 zf0 zg0 zt1 zf1 zg1 zt2 zf2 zg2 zt3 zf3 zg3; generalize ((((w2.setCell ⟨w1.heap.size, 0, none⟩ (.int .i64 tk.f0)).setCell ⟨w1.heap.size, 1, none⟩ (.string tk.f1)).setCell ⟨w1.heap.size, 2, none⟩ (.int .i64 tk.f2)).setCell ⟨w1.heap.size, 3, none⟩ (.int .i64 tk.f3)) = w3 at *; obtain ⟨tb, htb⟩ : ∃ tb, w1.heap.size = tb := ⟨_, rfl⟩; simp only [htb] at HTB3 NHTB ⊢; clear htb) | (have hb := below_alloc ((below_drew (bR w1.heap.size w1)).trans HB2.out) (.cells #[.int .i64 tk.f0, .string tk.f1, .int .i64 tk.f2, .int .i64 tk.f3] 37); have HTB3 := aS (MapKept.heap_alloc w2 (.cells #[.int .i64 tk.f0, .string tk.f1, .int .i64 tk.f2, .int .i64 tk.f3] 37)).1; have NHTB := aS (show w2.heap.size ≠ bp by have h1 := HB2.out.size; have h2 := HS1.out.lt; have h3 : w1.drew.heap.size = w1.heap.size := rfl; omega); have HA3 := aS (HA1.out.below HS1.out.lt hb); have HS3 := aS (HS1.out.below hb); have HO3 := aS (fbelow HO1.out hb); clear hb z2; generalize w2.alloc (.cells #[.int .i64 tk.f0, .string tk.f1, .int .i64 tk.f2, .int .i64 tk.f3] 37) = w3 at *; generalize w2.heap.size = tb at *))
  clear HB2 y2
  obtain ⟨bm, hbm3, hlk⟩ := MapAt.look2 HS3.out.tab.tab.words tk.f1 HSZ.out
  obtain ⟨op, hop⟩ : ∃ op, (wordsL.lookup tk.f1.data.toList).getD 0 = op := ⟨_, rfl⟩
  obtain ⟨iw, hiw⟩ : ∃ iw, (wordsL.lookup tk.f1.data.toList).isSome = iw := ⟨_, rfl⟩
  rw [hop, hiw] at hlk
  have HOP := aS hop
  have HIW := aS hiw
  clear hop hiw
  have t0 := cH HTB3.out 0
  have t1 := cH HTB3.out 1
  go_upto_region 3 with (fail)
 all_goals
  clear hbm3 hlk
  have hiw1 : iw = true := by rw [← HIW.out, HW0.out]; rfl
  subst hiw1
  have hop1 : op = opv := by rw [← HOP.out, HW0.out]; rfl
  subst hop1
  go_upto_region 10 with (first | (go_at_call 18; refine (word_calls tk.f1 _ HS3.out.tab.tab HSZ.out).mono ?_; rintro e w5 ⟨rfl, hw5⟩; rw [HWD.out, hw5]; clear hw5) | (go_at_call 36; refine calls_take (take_tells ⟨#[40]⟩ HS3.out) (fun w' hq hb hat => absurd (hq.symm.trans HT0.out) (by simp)) ?_; rintro w4 hq hat; have hb := HS3.out.room; have HA4 := aS (HA3.out.then_ hat); have HS4 := aS (HS3.out.next hat hb); have HZ4 := aS hat.size; have HO4 := aS (hat.obj HO3.out HN.out id); have HTB4 := aS (hat.obj HTB3.out NHTB.out id);  clear hq hb hat))
  go_upto_region 16 with (go_at_call 36; refine calls_take (take_tells ⟨#[123]⟩ HS4.out) (fun w' hq hb hat => absurd (hq.symm.trans HT.out) (by simp)) ?_; rintro w5 hq hat; have hb := HS4.out.room; have HA5 := aS (HA4.out.then_ hat); have HS5 := aS (HS4.out.next hat hb); have HZ5 := aS hat.size; have HO5 := aS (hat.obj HO4.out HN.out id); have HTB5 := aS (hat.obj HTB4.out NHTB.out id);  clear hq hb hat)
  have hlt := HLT.out
  have hsm := HS5.out.small
  have y5 := blk_cell HS5.out.blk 2
  have f5 := blk_frozen HS5.out.blk 2
  go_upto_region 18 with (fail)
  clear y5 f5 hsm
  have hat : At bp (a + 1) no w5 (w5.setCell ⟨bp, 2, none⟩ (.int .i64 ((a : Int) + 1))) := at_set (bR _ _)
  have hb := hlt
  have HA6 := aS (HA5.out.then_ hat)
  have HS6 := aS (HS5.out.next hat hb)
  have HZ6 := aS hat.size
  have HO6 := aS (hat.obj HO5.out HN.out id)
  have HTB6 := aS (hat.obj HTB5.out NHTB.out id)
  clear hat hb
  generalize w5.setCell ⟨bp, 2, none⟩ (.int .i64 ((a : Int) + 1)) = w6 at *
  go_upto_region 19 with (go_at_call 39; refine calls_tells (need_tells ⟨#[40]⟩ HS6.out) ?_ (fun er t b a2 w' hq ht hb ha hat => And.intro rfl (tells_bad (and_bad HQ1.out rfl hq) ht hb ha (HA6.out.then_ hat))); rintro u r b2 vv w7 hq rfl hb rfl hat; have qq := and_ok HQ1.out rfl hq; (try dsimp only at qq); have HQ2 := aS qq; clear qq; have HA7 := aS (HA6.out.then_ hat); have HS7 := aS (HS6.out.next hat hb); have HZ7 := aS hat.size; have HO7 := aS (hat.obj HO6.out HN.out id); have HTB7 := aS (hat.obj HTB6.out NHTB.out id); clear hq hb hat)
  go_upto_region 20 with (fail)
  have hb := below_alloc (bR w7.heap.size w7) (.cells #[.int .i64 op, .string ⟨#[]⟩, .int .i64 0, .string ⟨#[]⟩, .int .i64 0, .string ⟨#[]⟩, .int .i64 0, .string ⟨#[]⟩, .int .i64 0, .string ⟨#[]⟩, .slice none 0 0] 56)
  have HXB8 := aS (MapKept.heap_alloc w7 (.cells #[.int .i64 op, .string ⟨#[]⟩, .int .i64 0, .string ⟨#[]⟩, .int .i64 0, .string ⟨#[]⟩, .int .i64 0, .string ⟨#[]⟩, .int .i64 0, .string ⟨#[]⟩, .slice none 0 0] 56)).1
  have NHXB := aS (show w7.heap.size ≠ bp by have := HS7.out.lt; omega)
  have HA8 := aS (HA7.out.below HS7.out.lt hb)
  have HS8 := aS (HS7.out.below hb)
  have HZ8 := aS hb.size
  have HO8 := aS (fbelow HO7.out hb)
  have HTB8 := aS (fbelow HTB7.out hb)
  clear hb
  generalize w7.alloc (.cells #[.int .i64 op, .string ⟨#[]⟩, .int .i64 0, .string ⟨#[]⟩, .int .i64 0, .string ⟨#[]⟩, .int .i64 0, .string ⟨#[]⟩, .int .i64 0, .string ⟨#[]⟩, .slice none 0 0] 56) = w8 at *
  have GE := aS (show w.heap.size ≤ w7.heap.size from Nat.le_of_lt (Array.getElem?_eq_some_iff.1 HO7.out).1)
  have DHO_HXB := aS (show w.heap.size ≠ w7.heap.size by have := (Array.getElem?_eq_some_iff.1 HO7.out).1; omega)
  have DHTB_HXB := aS (show tb ≠ w7.heap.size by have := (Array.getElem?_eq_some_iff.1 HTB7.out).1; omega)
  generalize w7.heap.size = xb at *
  by_cases h19 : op = 19
  ·have e19 : (op == 19) = true := by rw [h19]; rfl
   have qq := HQ2.out
   rw [if_pos h19] at qq
   have HQ3 := aS qq
   clear qq
   have HOPE := aS h19
   clear h19
   go_upto_region 22 with (go_at_call 35; refine calls_tells (name_tells HS8.out) ?_ (fun er t b a2 w' hq ht hb ha hat => And.intro rfl (tells_bad (and_bad HQ3.out rfl hq) ht hb ha (HA8.out.then_ hat))); rintro nm r b3 vv w9 hq rfl hb rfl hat; have qq := and_ok HQ3.out rfl hq; (try dsimp only at qq); have HQ4 := aS qq; clear qq; have HA9 := aS (HA8.out.then_ hat); have HS9 := aS (HS8.out.next hat hb); have HZ9 := aS hat.size; have HO9 := aS (hat.obj HO8.out HN.out id); have HTB9 := aS (hat.obj HTB8.out NHTB.out id); have HXB9 := aS (hat.obj HXB8.out NHXB.out id); have g9 := blk_frozen HXB9.out 9; have p9 := cH HXB9.out 9; clear hq hb hat)
   clear g9 p9
   have HXB10 := aS (show (w9.setCell ⟨xb, 9, none⟩ (.string nm)).heap[xb]? = some (.cells #[.int .i64 op, .string ⟨#[]⟩, .int .i64 0, .string ⟨#[]⟩, .int .i64 0, .string ⟨#[]⟩, .int .i64 0, .string ⟨#[]⟩, .int .i64 0, .string nm, .slice none 0 0] 56) from (set_heap (i := 9) (v := .string nm) HXB9.out))
   have HA10 := aS (HA9.out.own (p := ⟨xb, 9, none⟩) (.inl GE.out) NHXB.out (.string nm))
   have HS10 := aS (HS9.out.step ((HS9.out.same (X := fun k => k = xb)).own (p := ⟨xb, 9, none⟩) (.inr rfl) NHXB.out (.string nm)) (fun k hk => by have h1 : k = xb := hk; have h2 : w.heap.size ≤ xb := GE.out; have h3 := HW.out; have h4 := HS9.out.low; omega) HS9.out.room)
   have HO10 := aS ((Below.heap_setCell _ ⟨xb, 9, none⟩ (.string nm) _ DHO_HXB.out).trans HO9.out)
   have HTB10 := aS ((Below.heap_setCell _ ⟨xb, 9, none⟩ (.string nm) _ DHTB_HXB.out).trans HTB9.out)
   generalize (w9.setCell ⟨xb, 9, none⟩ (.string nm)) = w10 at *
   go_upto_region 23 with (go_at_call 39; refine calls_tells (need_tells ⟨#[44]⟩ HS10.out) ?_ (fun er t b a2 w' hq ht hb ha hat => And.intro rfl (tells_bad (and_bad HQ4.out rfl hq) ht hb ha (HA10.out.then_ hat))); rintro u r b4 vv w11 hq rfl hb rfl hat; have qq := and_ok HQ4.out rfl hq; (try dsimp only at qq); have HQ5 := aS qq; clear qq; have HA11 := aS (HA10.out.then_ hat); have HS11 := aS (HS10.out.next hat hb); have HZ11 := aS hat.size; have HO11 := aS (hat.obj HO10.out HN.out id); have HTB11 := aS (hat.obj HTB10.out NHTB.out id); have HXB11 := aS (hat.obj HXB10.out NHXB.out id); clear hq hb hat)
   have hexp : exRead nm = fun x => (⟨op, zDm, zDm, zDm, zDm, nm, [x]⟩ : Ex) := by funext x; rw [HOPE.out]; rfl
   have qq := HQ5.out
   rw [hexp] at qq
   have HQ6 := aS qq
   clear qq hexp
   obtain ⟨y8, hy8⟩ := and_get HQ6.out
   have HX8 := aS hy8
   clear hy8
   have HSZ8 := aS (show xb < w11.heap.size from (Array.getElem?_eq_some_iff.1 HXB11.out).1)
   go_upto_region 24 with (go_at_call 71; refine calls_tells (HE.out (b4) w11 y8 HS11.out HX8.out) ?_ (fun er t b a2 w' hq ht hb ha hat => And.intro rfl (tells_bad (and_bad HQ6.out HX8.out hq) ht hb ha (HA11.out.then_ hat))); rintro x r b7 vv w12 hq rfl hb ⟨B, q, rfl, hx, ho⟩ hat; have qq := and_ok HQ6.out HX8.out hq; (try dsimp only at qq); have HQA := aS qq; clear qq; have HA12 := aS (HA11.out.then_ hat); have HS12 := aS (HS11.out.next hat hb); have HZ12 := aS hat.size; have HO12 := aS (hat.obj HO11.out HN.out id); have HTB12 := aS (hat.obj HTB11.out NHTB.out id); have HXB12 := aS (hat.obj HXB11.out NHXB.out id); have HP12 := aS (hx.mono (ok' := (fun k => xb < k)) (fun k hk => by have h1 : w11.heap.size ≤ k := hk; have h2 := HSZ8.out; show xb < k; omega)); have HKP := aS ho; have HBR := below_alloc (bR w12.heap.size w12) (.cells #[.int .i64 x.f0, .string x.f1.f0, .int .i64 x.f1.f1, .string x.f2.f0, .int .i64 x.f2.f1, .string x.f3.f0, .int .i64 x.f3.f1, .string x.f4.f0, .int .i64 x.f4.f1, .string x.f5, .slice B x.f6.length q] 56); have hxr := fbelow HXB12.out HBR; have g10 := blk_frozen hxr 10; have p10 := cH hxr 10; clear hxr HBR; clear hq hb hat hx ho)
   clear g10 p10
   have HRW13 := aS (show ExR (fun k => xb < k) (w12.alloc (.cells #[.int .i64 x.f0, .string x.f1.f0, .int .i64 x.f1.f1, .string x.f2.f0, .int .i64 x.f2.f1, .string x.f3.f0, .int .i64 x.f3.f1, .string x.f4.f0, .int .i64 x.f4.f1, .string x.f5, .slice B x.f6.length q] 56)) (.slice (some ⟨w12.heap.size, 0, none⟩) 1 1) [x] from exR_lit (ok := (fun k => xb < k)) (w := w12) (by have h1 := (Array.getElem?_eq_some_iff.1 HXB12.out).1; exact h1) (reps_one HP12.out) (by simp))
   have hb := below_alloc (bR w12.heap.size w12) (.cells #[.int .i64 x.f0, .string x.f1.f0, .int .i64 x.f1.f1, .string x.f2.f0, .int .i64 x.f2.f1, .string x.f3.f0, .int .i64 x.f3.f1, .string x.f4.f0, .int .i64 x.f4.f1, .string x.f5, .slice B x.f6.length q] 56)
   have HRWO13 := aS (MapKept.heap_alloc w12 (.cells #[.int .i64 x.f0, .string x.f1.f0, .int .i64 x.f1.f1, .string x.f2.f0, .int .i64 x.f2.f1, .string x.f3.f0, .int .i64 x.f3.f1, .string x.f4.f0, .int .i64 x.f4.f1, .string x.f5, .slice B x.f6.length q] 56)).1
   have NHRWO := aS (show w12.heap.size ≠ bp by have := HS12.out.lt; omega)
   have HA13 := aS (HA12.out.below HS12.out.lt hb)
   have HS13 := aS (HS12.out.below hb)
   have HZ13 := aS hb.size
   have HO13 := aS (fbelow HO12.out hb)
   have HTB13 := aS (fbelow HTB12.out hb)
   have HXB13 := aS (fbelow HXB12.out hb)
   clear hb
   generalize w12.alloc (.cells #[.int .i64 x.f0, .string x.f1.f0, .int .i64 x.f1.f1, .string x.f2.f0, .int .i64 x.f2.f1, .string x.f3.f0, .int .i64 x.f3.f1, .string x.f4.f0, .int .i64 x.f4.f1, .string x.f5, .slice B x.f6.length q] 56) = w13 at *
   have HRB := aS (show xb < w12.heap.size from (Array.getElem?_eq_some_iff.1 HXB12.out).1)
   generalize w12.heap.size = rb at *
   have HXB14 := aS (show (w13.setCell ⟨xb, 10, none⟩ (.slice (some ⟨rb, 0, none⟩) 1 1)).heap[xb]? = some (.cells #[.int .i64 op, .string ⟨#[]⟩, .int .i64 0, .string ⟨#[]⟩, .int .i64 0, .string ⟨#[]⟩, .int .i64 0, .string ⟨#[]⟩, .int .i64 0, .string nm, .slice (some ⟨rb, 0, none⟩) 1 1] 56) from (set_heap (i := 10) (v := .slice (some ⟨rb, 0, none⟩) 1 1) HXB13.out))
   have HA14 := aS (HA13.out.own (p := ⟨xb, 10, none⟩) (.inl GE.out) NHXB.out (.slice (some ⟨rb, 0, none⟩) 1 1))
   have HS14 := aS (HS13.out.step ((HS13.out.same (X := fun k => k = xb)).own (p := ⟨xb, 10, none⟩) (.inr rfl) NHXB.out (.slice (some ⟨rb, 0, none⟩) 1 1)) (fun k hk => by have h1 : k = xb := hk; have h2 : w.heap.size ≤ xb := GE.out; have h3 := HW.out; have h4 := HS13.out.low; omega) HS13.out.room)
   have HO14 := aS ((Below.heap_setCell _ ⟨xb, 10, none⟩ (.slice (some ⟨rb, 0, none⟩) 1 1) _ DHO_HXB.out).trans HO13.out)
   have HTB14 := aS ((Below.heap_setCell _ ⟨xb, 10, none⟩ (.slice (some ⟨rb, 0, none⟩) 1 1) _ DHTB_HXB.out).trans HTB13.out)
   have HRW14 := aS (HRW13.out.own (p := ⟨xb, 10, none⟩) (fun k hk => by have h1 : xb < k := hk; show k ≠ xb; omega) (.slice (some ⟨rb, 0, none⟩) 1 1))
   generalize (w13.setCell ⟨xb, 10, none⟩ (.slice (some ⟨rb, 0, none⟩) 1 1)) = w14 at *
   go_upto_region 25 with (go_at_call 39; refine calls_tells (need_tells ⟨#[41]⟩ HS14.out) ?_ (fun er t b a2 w' hq ht hb ha hat => And.intro rfl (tells_bad (and_bad HQA.out rfl hq) ht hb ha (HA14.out.then_ hat))); rintro u r b8 vv w15 hq rfl hb rfl hat; have qq := and_ok HQA.out rfl hq; (try dsimp only at qq); have HQB := aS qq; clear qq; have HA15 := aS (HA14.out.then_ hat); have HS15 := aS (HS14.out.next hat hb); have HZ15 := aS hat.size; have HO15 := aS (hat.obj HO14.out HN.out id); have HTB15 := aS (hat.obj HTB14.out NHTB.out id); have HXB15 := aS (hat.obj HXB14.out NHXB.out id); have HRW15 := aS (HRW14.out.no hat (fun k hk => by have h1 : xb < k := hk; have h2 := GE.out; have h3 := HW.out; omega)); clear hq hb hat)
   have n0 := cH HXB15.out 0; have n1 := cH HXB15.out 1; have n2 := cH HXB15.out 2; have n3 := cH HXB15.out 3; have n4 := cH HXB15.out 4; have n5 := cH HXB15.out 5; have n6 := cH HXB15.out 6; have n7 := cH HXB15.out 7; have n8 := cH HXB15.out 8; have n9 := cH HXB15.out 9; have n10 := cH HXB15.out 10;
   have HOE := aS (show okE 9 (⟨op, zDm, zDm, zDm, zDm, nm, [x]⟩) from okE_up (by simp) (fun k hk => by rcases List.mem_cons.1 hk with rfl | hk; exact HKP.out; cases hk))
   go_wp2_with (go_at_call 80; refine calls_tells (made_tells G bp s A c l begun fv b8 _ HS15.out 9 (by omega) (⟨op, zDm, zDm, zDm, zDm, nm, [x]⟩) _ (fun k => xb < k) (fun k hk => by have h1 : xb < k := hk; have h2 := GE.out; have h3 := HW.out; omega) ⟨_, _, rfl, HRW15.out, HOE.out⟩ a HROOM.out res HQB.out) ?_ (fun er t b a2 w' hq ht hb ha hat => And.intro rfl (tells_bad (last_bad HQB.out HQB.out hq) ht hb ha (HA15.out.then_ hat))); rintro v r b5 x5 w16 hq rfl hb ⟨E, e5, rfl, hx, ho⟩ hat; have HR := aS (congrArg some hq).symm; have HXF := aS hx; have HKV := aS ho; have HA16 := aS (HA15.out.then_ hat); have HS16 := aS (HS15.out.next hat hb); have HZ16 := aS hat.size; have HO16 := aS (hat.obj HO15.out HN.out id); have HTB16 := aS (hat.obj HTB15.out NHTB.out id); have HXB16 := aS (hat.obj HXB15.out NHXB.out id); have HRW16 := aS (HRW15.out.no hat (fun k hk => by have h1 : xb < k := hk; have h2 := GE.out; have h3 := HW.out; omega));  have ho6 := HO16.out; have f0 := blk_frozen ho6 0; have j0 := cH ho6 0; have f1 := blk_frozen ho6 1; have j1 := cH ho6 1; have f2 := blk_frozen ho6 2; have j2 := cH ho6 2; have f3 := blk_frozen ho6 3; have j3 := cH ho6 3; have f4 := blk_frozen ho6 4; have j4 := cH ho6 4; have f5 := blk_frozen ho6 5; have j5 := cH ho6 5; have f6 := blk_frozen ho6 6; have j6 := cH ho6 6; have f7 := blk_frozen ho6 7; have j7 := cH ho6 7; have f8 := blk_frozen ho6 8; have j8 := cH ho6 8; have f9 := blk_frozen ho6 9; have j9 := cH ho6 9; have f10 := blk_frozen ho6 10; have j10 := cH ho6 10; clear ho6; clear hq hb hx ho hat)
   exact ret_fill rfl rfl HO16.out HA16.out HN.out (.inl (Nat.le_refl _)) (fun k hk => by have h1 : xb < k := hk; have h2 := GE.out; omega) (fun k hk => by have h1 : xb < k := hk; have h2 := GE.out; show w.heap.size ≤ k; omega) HXF.out HKV.out HR.out rfl HS16.out.room
  ·have e19 : (op == 19) = false := beq_eq_false_iff_ne.2 h19
   have qq := HQ2.out
   rw [if_neg h19] at qq
   have HQ3 := aS qq
   clear qq h19
   go_upto_region 23 with (fail)
   obtain ⟨y8, hy8⟩ := and_get HQ3.out
   have HX8 := aS hy8
   clear hy8
   have HSZ8 := aS (show xb < w8.heap.size from (Array.getElem?_eq_some_iff.1 HXB8.out).1)
   go_upto_region 24 with (go_at_call 71; refine calls_tells (HE.out (b2) w8 y8 HS8.out HX8.out) ?_ (fun er t b a2 w' hq ht hb ha hat => And.intro rfl (tells_bad (and_bad HQ3.out HX8.out hq) ht hb ha (HA8.out.then_ hat))); rintro x r b7 vv w9 hq rfl hb ⟨B, q, rfl, hx, ho⟩ hat; have qq := and_ok HQ3.out HX8.out hq; (try dsimp only at qq); have HQA := aS qq; clear qq; have HA9 := aS (HA8.out.then_ hat); have HS9 := aS (HS8.out.next hat hb); have HZ9 := aS hat.size; have HO9 := aS (hat.obj HO8.out HN.out id); have HTB9 := aS (hat.obj HTB8.out NHTB.out id); have HXB9 := aS (hat.obj HXB8.out NHXB.out id); have HP9 := aS (hx.mono (ok' := (fun k => xb < k)) (fun k hk => by have h1 : w8.heap.size ≤ k := hk; have h2 := HSZ8.out; show xb < k; omega)); have HKP := aS ho; have HBR := below_alloc (bR w9.heap.size w9) (.cells #[.int .i64 x.f0, .string x.f1.f0, .int .i64 x.f1.f1, .string x.f2.f0, .int .i64 x.f2.f1, .string x.f3.f0, .int .i64 x.f3.f1, .string x.f4.f0, .int .i64 x.f4.f1, .string x.f5, .slice B x.f6.length q] 56); have hxr := fbelow HXB9.out HBR; have g10 := blk_frozen hxr 10; have p10 := cH hxr 10; clear hxr HBR; clear hq hb hat hx ho)
   clear g10 p10
   have HRW10 := aS (show ExR (fun k => xb < k) (w9.alloc (.cells #[.int .i64 x.f0, .string x.f1.f0, .int .i64 x.f1.f1, .string x.f2.f0, .int .i64 x.f2.f1, .string x.f3.f0, .int .i64 x.f3.f1, .string x.f4.f0, .int .i64 x.f4.f1, .string x.f5, .slice B x.f6.length q] 56)) (.slice (some ⟨w9.heap.size, 0, none⟩) 1 1) [x] from exR_lit (ok := (fun k => xb < k)) (w := w9) (by have h1 := (Array.getElem?_eq_some_iff.1 HXB9.out).1; exact h1) (reps_one HP9.out) (by simp))
   have hb := below_alloc (bR w9.heap.size w9) (.cells #[.int .i64 x.f0, .string x.f1.f0, .int .i64 x.f1.f1, .string x.f2.f0, .int .i64 x.f2.f1, .string x.f3.f0, .int .i64 x.f3.f1, .string x.f4.f0, .int .i64 x.f4.f1, .string x.f5, .slice B x.f6.length q] 56)
   have HRWO10 := aS (MapKept.heap_alloc w9 (.cells #[.int .i64 x.f0, .string x.f1.f0, .int .i64 x.f1.f1, .string x.f2.f0, .int .i64 x.f2.f1, .string x.f3.f0, .int .i64 x.f3.f1, .string x.f4.f0, .int .i64 x.f4.f1, .string x.f5, .slice B x.f6.length q] 56)).1
   have NHRWO := aS (show w9.heap.size ≠ bp by have := HS9.out.lt; omega)
   have HA10 := aS (HA9.out.below HS9.out.lt hb)
   have HS10 := aS (HS9.out.below hb)
   have HZ10 := aS hb.size
   have HO10 := aS (fbelow HO9.out hb)
   have HTB10 := aS (fbelow HTB9.out hb)
   have HXB10 := aS (fbelow HXB9.out hb)
   clear hb
   generalize w9.alloc (.cells #[.int .i64 x.f0, .string x.f1.f0, .int .i64 x.f1.f1, .string x.f2.f0, .int .i64 x.f2.f1, .string x.f3.f0, .int .i64 x.f3.f1, .string x.f4.f0, .int .i64 x.f4.f1, .string x.f5, .slice B x.f6.length q] 56) = w10 at *
   have HRB := aS (show xb < w9.heap.size from (Array.getElem?_eq_some_iff.1 HXB9.out).1)
   generalize w9.heap.size = rb at *
   have HXB11 := aS (show (w10.setCell ⟨xb, 10, none⟩ (.slice (some ⟨rb, 0, none⟩) 1 1)).heap[xb]? = some (.cells #[.int .i64 op, .string ⟨#[]⟩, .int .i64 0, .string ⟨#[]⟩, .int .i64 0, .string ⟨#[]⟩, .int .i64 0, .string ⟨#[]⟩, .int .i64 0, .string ⟨#[]⟩, .slice (some ⟨rb, 0, none⟩) 1 1] 56) from (set_heap (i := 10) (v := .slice (some ⟨rb, 0, none⟩) 1 1) HXB10.out))
   have HA11 := aS (HA10.out.own (p := ⟨xb, 10, none⟩) (.inl GE.out) NHXB.out (.slice (some ⟨rb, 0, none⟩) 1 1))
   have HS11 := aS (HS10.out.step ((HS10.out.same (X := fun k => k = xb)).own (p := ⟨xb, 10, none⟩) (.inr rfl) NHXB.out (.slice (some ⟨rb, 0, none⟩) 1 1)) (fun k hk => by have h1 : k = xb := hk; have h2 : w.heap.size ≤ xb := GE.out; have h3 := HW.out; have h4 := HS10.out.low; omega) HS10.out.room)
   have HO11 := aS ((Below.heap_setCell _ ⟨xb, 10, none⟩ (.slice (some ⟨rb, 0, none⟩) 1 1) _ DHO_HXB.out).trans HO10.out)
   have HTB11 := aS ((Below.heap_setCell _ ⟨xb, 10, none⟩ (.slice (some ⟨rb, 0, none⟩) 1 1) _ DHTB_HXB.out).trans HTB10.out)
   have HRW11 := aS (HRW10.out.own (p := ⟨xb, 10, none⟩) (fun k hk => by have h1 : xb < k := hk; show k ≠ xb; omega) (.slice (some ⟨rb, 0, none⟩) 1 1))
   generalize (w10.setCell ⟨xb, 10, none⟩ (.slice (some ⟨rb, 0, none⟩) 1 1)) = w11 at *
   go_upto_region 25 with (go_at_call 39; refine calls_tells (need_tells ⟨#[41]⟩ HS11.out) ?_ (fun er t b a2 w' hq ht hb ha hat => And.intro rfl (tells_bad (and_bad HQA.out rfl hq) ht hb ha (HA11.out.then_ hat))); rintro u r b8 vv w12 hq rfl hb rfl hat; have qq := and_ok HQA.out rfl hq; (try dsimp only at qq); have HQB := aS qq; clear qq; have HA12 := aS (HA11.out.then_ hat); have HS12 := aS (HS11.out.next hat hb); have HZ12 := aS hat.size; have HO12 := aS (hat.obj HO11.out HN.out id); have HTB12 := aS (hat.obj HTB11.out NHTB.out id); have HXB12 := aS (hat.obj HXB11.out NHXB.out id); have HRW12 := aS (HRW11.out.no hat (fun k hk => by have h1 : xb < k := hk; have h2 := GE.out; have h3 := HW.out; omega)); clear hq hb hat)
   have n0 := cH HXB12.out 0; have n1 := cH HXB12.out 1; have n2 := cH HXB12.out 2; have n3 := cH HXB12.out 3; have n4 := cH HXB12.out 4; have n5 := cH HXB12.out 5; have n6 := cH HXB12.out 6; have n7 := cH HXB12.out 7; have n8 := cH HXB12.out 8; have n9 := cH HXB12.out 9; have n10 := cH HXB12.out 10;
   have HOE := aS (show okE 9 (exK op [x]) from okE_up (by simp) (fun k hk => by rcases List.mem_cons.1 hk with rfl | hk; exact HKP.out; cases hk))
   go_wp2_with (go_at_call 80; refine calls_tells (made_tells G bp s A c l begun fv b8 _ HS12.out 9 (by omega) (exK op [x]) _ (fun k => xb < k) (fun k hk => by have h1 : xb < k := hk; have h2 := GE.out; have h3 := HW.out; omega) ⟨_, _, rfl, HRW12.out, HOE.out⟩ a HROOM.out res HQB.out) ?_ (fun er t b a2 w' hq ht hb ha hat => And.intro rfl (tells_bad (last_bad HQB.out HQB.out hq) ht hb ha (HA12.out.then_ hat))); rintro v r b5 x5 w13 hq rfl hb ⟨E, e5, rfl, hx, ho⟩ hat; have HR := aS (congrArg some hq).symm; have HXF := aS hx; have HKV := aS ho; have HA13 := aS (HA12.out.then_ hat); have HS13 := aS (HS12.out.next hat hb); have HZ13 := aS hat.size; have HO13 := aS (hat.obj HO12.out HN.out id); have HTB13 := aS (hat.obj HTB12.out NHTB.out id); have HXB13 := aS (hat.obj HXB12.out NHXB.out id); have HRW13 := aS (HRW12.out.no hat (fun k hk => by have h1 : xb < k := hk; have h2 := GE.out; have h3 := HW.out; omega));  have ho6 := HO13.out; have f0 := blk_frozen ho6 0; have j0 := cH ho6 0; have f1 := blk_frozen ho6 1; have j1 := cH ho6 1; have f2 := blk_frozen ho6 2; have j2 := cH ho6 2; have f3 := blk_frozen ho6 3; have j3 := cH ho6 3; have f4 := blk_frozen ho6 4; have j4 := cH ho6 4; have f5 := blk_frozen ho6 5; have j5 := cH ho6 5; have f6 := blk_frozen ho6 6; have j6 := cH ho6 6; have f7 := blk_frozen ho6 7; have j7 := cH ho6 7; have f8 := blk_frozen ho6 8; have j8 := cH ho6 8; have f9 := blk_frozen ho6 9; have j9 := cH ho6 9; have f10 := blk_frozen ho6 10; have j10 := cH ho6 10; clear ho6; clear hq hb hx ho hat)
   exact ret_fill rfl rfl HO13.out HA13.out HN.out (.inl (Nat.le_refl _)) (fun k hk => by have h1 : xb < k := hk; have h2 := GE.out; omega) (fun k hk => by have h1 : xb < k := hk; have h2 := GE.out; show w.heap.size ≤ k; omega) HXF.out HKV.out HR.out rfl HS13.out.room
set_option maxHeartbeats 8000000 in
set_option maxRecDepth 100000 in
theorem primary_none (G bp : Nat) (s : ByteArray) (A : Option Addr) (c : Nat) (l : List Tok) (begun : Int) (fv : Value) (k : Nat) (hE : ExprT G bp s A c l begun fv k) (a : Nat) (w : World) (res : PR Ex) (h : St G bp s A c l begun fv a w) (tk : Tok) (htk : looks (l.drop a) = tk) (hnp : ¬ (tk.f0 = 2 ∨ tk.f0 = 1 ∧ wordP (txt tk) = false)) (ht0 : takeP [40] (l.drop a) = none) (ht : takeP [123] (l.drop a) = none) (hw : wordsL.lookup (txt tk) = none) (hres : primaryP (k + 1) (l.drop a) = some res) : Calls Tryd.prog 90 #[.pointer (some ⟨bp, 0, none⟩)] w (Tells bp l no w (encE (Lo w.heap.size) 8) res) := by
 have HROOM := aS h.room
 have hb1 := below_alloc (bR w.heap.size w) (.cells #[.int .i64 0, .string ⟨#[]⟩, .int .i64 0, .string ⟨#[]⟩, .int .i64 0, .string ⟨#[]⟩, .int .i64 0, .string ⟨#[]⟩, .int .i64 0, .string ⟨#[]⟩, .slice none 0 0] 56)
 have HO1 := aS (MapKept.heap_alloc w (.cells #[.int .i64 0, .string ⟨#[]⟩, .int .i64 0, .string ⟨#[]⟩, .int .i64 0, .string ⟨#[]⟩, .int .i64 0, .string ⟨#[]⟩, .int .i64 0, .string ⟨#[]⟩, .slice none 0 0] 56)).1
 have HA1 := aS ((h.same (X := no)).below h.lt hb1)
 have HS1 := aS (h.below hb1)
 have HN := aS (show w.heap.size ≠ bp by have := h.lt; omega)
 have HW := aS h.lt
 have HZ := aS (show (w.alloc (.cells #[.int .i64 0, .string ⟨#[]⟩, .int .i64 0, .string ⟨#[]⟩, .int .i64 0, .string ⟨#[]⟩, .int .i64 0, .string ⟨#[]⟩, .int .i64 0, .string ⟨#[]⟩, .slice none 0 0] 56)).heap.size = w.heap.size + 1 by show (w.heap.push _).size = _; simp)
 clear h hb1
 have HTK := aS htk
 have hsz := looks_short HS1.out.short a
 rw [htk] at hsz
 have HSZ := aS hsz
 clear hsz htk
 have y2 := blk_cell HS1.out.blk 2
 have HQ1 := aS (show some (PR.bad (failE l 20 a) (l.drop a)) = some res by rw [← hres, primaryP, if_neg (by rw [HTK.out]; exact hnp), ht0, ht, HTK.out, hw]; dsimp only; rw [fail_at])
 have HT := aS ht
 have HT0 := aS ht0
 have HW0 := aS (show wordsL.lookup tk.f1.data.toList = none from hw)
 clear ht ht0 hw
 have HE := aS hE
 have hwd : tk.f0 = 1 → wordP tk.f1.data.toList = true := fun h1 => by cases hq : wordP tk.f1.data.toList with | true => rfl | false => exact absurd (.inr ⟨h1, hq⟩) hnp
 have e2 : (tk.f0 == 2) = false := beq_eq_false_iff_ne.2 (fun q => hnp (.inl q))
 have HNP := aS hnp
 have HWD0 := aS hwd
 clear hnp hwd hE hres
 obtain ⟨q1, hq1⟩ : ∃ q, (tk.f0 == 1) = q := ⟨_, rfl⟩
 cases q1
 all_goals
  (try have HWD := aS (HWD0.out (by simpa using hq1)))
  go_enter Tryd.func90, Tryd.ntmps90
  go_upto_region 1 with (fail)
  generalize w.alloc (.cells #[.int .i64 0, .string ⟨#[]⟩, .int .i64 0, .string ⟨#[]⟩, .int .i64 0, .string ⟨#[]⟩, .int .i64 0, .string ⟨#[]⟩, .int .i64 0, .string ⟨#[]⟩, .slice none 0 0] 56) = w1 at *
  go_region_held3 (fun w' => w'.cell? ⟨bp, 2, none⟩ = some (.int .i64 a)) (go_keep) (first | (go_at_call 33; refine (look_at bp s A c l begun fv a tk HTK.out _ (HS1.out.below (by repeat (first | exact bR _ _ | apply below_drew | apply pw_below_drewN | apply below_alloc))).ps).mono ?_; rintro e w2 ⟨rfl, hb⟩; have HB2 := aS hb; have z2 : w2.cell? ⟨bp, 2, none⟩ = some (.int .i64 a) := blk_cell (PS.below (HS1.out.below (by repeat (first | exact bR _ _ | apply below_drew | apply pw_below_drewN | apply below_alloc))).ps hb).blk 2; (try (have hzt : w2.heap[w1.heap.size]? = some (.cells #[.int .i64 0, .string ⟨#[]⟩, .int .i64 0, .int .i64 0] 37) := fbelow (heap_drew (MapKept.heap_alloc w1 (.cells #[.int .i64 0, .string ⟨#[]⟩, .int .i64 0, .int .i64 0] 37)).1) hb; have nz := (show w1.heap.size ≠ bp by have := HS1.out.lt; omega); have zt0 := cH hzt 0; have zt1 := cH hzt 1; have zt2 := cH hzt 2; have zt3 := cH hzt 3;have zf0 := blk_frozen hzt 0; have zg0 := cH hzt 0; have zf1 := blk_frozen hzt 1; have zg1 := cH hzt 1; have zf2 := blk_frozen hzt 2; have zg2 := cH hzt 2; have zf3 := blk_frozen hzt 3; have zg3 := cH hzt 3; have HZT := aS hzt; clear hzt)); clear hb))
 all_goals
  (first | (have hb := below_fill4 (b0 := .int .i64 tk.f0) (b1 := .string tk.f1) (b2 := .int .i64 tk.f2) (b3 := .int .i64 tk.f3) ((below_drew (below_alloc (bR w1.heap.size w1) (.cells #[.int .i64 0, .string ⟨#[]⟩, .int .i64 0, .int .i64 0] 37))).trans (HB2.out.mono (show w1.heap.size ≤ (w1.alloc (.cells #[.int .i64 0, .string ⟨#[]⟩, .int .i64 0, .int .i64 0] 37)).heap.size by show _ ≤ (w1.heap.push _).size; simp))) (Nat.le_refl w1.heap.size); have HTB3 := aS (fill4 (b0 := .int .i64 tk.f0) (b1 := .string tk.f1) (b2 := .int .i64 tk.f2) (b3 := .int .i64 tk.f3) HZT.out); have NHTB := aS (show w1.heap.size ≠ bp by have := HS1.out.lt; omega); have HA3 := aS (HA1.out.below HS1.out.lt hb); have HS3 := aS (HS1.out.below hb); have HO3 := aS (fbelow HO1.out hb); clear hb z2 nz HZT zt0 zf0 zg0 zt1 zf1 zg1 zt2 zf2 zg2 zt3 zf3 zg3; generalize ((((w2.setCell ⟨w1.heap.size, 0, none⟩ (.int .i64 tk.f0)).setCell ⟨w1.heap.size, 1, none⟩ (.string tk.f1)).setCell ⟨w1.heap.size, 2, none⟩ (.int .i64 tk.f2)).setCell ⟨w1.heap.size, 3, none⟩ (.int .i64 tk.f3)) = w3 at *; obtain ⟨tb, htb⟩ : ∃ tb, w1.heap.size = tb := ⟨_, rfl⟩; simp only [htb] at HTB3 NHTB ⊢; clear htb) | (have hb := below_alloc ((below_drew (bR w1.heap.size w1)).trans HB2.out) (.cells #[.int .i64 tk.f0, .string tk.f1, .int .i64 tk.f2, .int .i64 tk.f3] 37); have HTB3 := aS (MapKept.heap_alloc w2 (.cells #[.int .i64 tk.f0, .string tk.f1, .int .i64 tk.f2, .int .i64 tk.f3] 37)).1; have NHTB := aS (show w2.heap.size ≠ bp by have h1 := HB2.out.size; have h2 := HS1.out.lt; have h3 : w1.drew.heap.size = w1.heap.size := rfl; omega); have HA3 := aS (HA1.out.below HS1.out.lt hb); have HS3 := aS (HS1.out.below hb); have HO3 := aS (fbelow HO1.out hb); clear hb z2; generalize w2.alloc (.cells #[.int .i64 tk.f0, .string tk.f1, .int .i64 tk.f2, .int .i64 tk.f3] 37) = w3 at *; generalize w2.heap.size = tb at *))
  clear HB2 y2
  obtain ⟨bm, hbm3, hlk⟩ := MapAt.look2 HS3.out.tab.tab.words tk.f1 HSZ.out
  obtain ⟨op, hop⟩ : ∃ op, (wordsL.lookup tk.f1.data.toList).getD 0 = op := ⟨_, rfl⟩
  obtain ⟨iw, hiw⟩ : ∃ iw, (wordsL.lookup tk.f1.data.toList).isSome = iw := ⟨_, rfl⟩
  rw [hop, hiw] at hlk
  have HOP := aS hop
  have HIW := aS hiw
  clear hop hiw
  have t0 := cH HTB3.out 0
  have t1 := cH HTB3.out 1
  go_upto_region 3 with (fail)
 all_goals
  clear hbm3 hlk
  have hiw0 : iw = false := by rw [← HIW.out, HW0.out]; rfl
  subst hiw0
  go_upto_region 10 with (first | (go_at_call 18; refine (word_calls tk.f1 _ HS3.out.tab.tab HSZ.out).mono ?_; rintro e w5 ⟨rfl, hw5⟩; rw [HWD.out, hw5]; clear hw5) | (go_at_call 36; refine calls_take (take_tells ⟨#[40]⟩ HS3.out) (fun w' hq hb hat => absurd (hq.symm.trans HT0.out) (by simp)) ?_; rintro w4 hq hat; have hb := HS3.out.room; have HA4 := aS (HA3.out.then_ hat); have HS4 := aS (HS3.out.next hat hb); have HZ4 := aS hat.size; have HO4 := aS (hat.obj HO3.out HN.out id); have HTB4 := aS (hat.obj HTB3.out NHTB.out id);  clear hq hb hat))
  go_upto_region 26 with (go_at_call 36; refine calls_take (take_tells ⟨#[123]⟩ HS4.out) (fun w' hq hb hat => absurd (hq.symm.trans HT.out) (by simp)) ?_; rintro w5 hq hat; have hb := HS4.out.room; have HA5 := aS (HA4.out.then_ hat); have HS5 := aS (HS4.out.next hat hb); have HZ5 := aS hat.size; have HO5 := aS (hat.obj HO4.out HN.out id); have HTB5 := aS (hat.obj HTB4.out NHTB.out id);  clear hq hb hat)
  go_wp2_with (go_at_call 34; refine (fail_calls bp s A c l begun fv a _ HS5.out.ps 20 a HS5.out.room).mono ?_; rintro e w6 ⟨rfl, hw6⟩; rw [hw6])
  exact And.intro rfl (tells_bad HQ1.out rfl HS5.out.room HS5.out.room HA5.out)
section
variable {G bp : Nat} {s : ByteArray} {A : Option Addr} {c : Nat} {l : List Tok} {begun : Int} {fv : Value}
theorem primary_tells {k : Nat} (hE : ExprT G bp s A c l begun fv k) : PrimaryT G bp s A c l begun fv (k + 1) := by
 intro a w res h hres
 by_cases hp : (looks (l.drop a)).f0 = 2 ∨ (looks (l.drop a)).f0 = 1 ∧ wordP (txt (looks (l.drop a))) = false
 ·exact primary_plain G bp s A c l begun fv k a w res h _ rfl hp hres
 ·have t1 := take_is [40] l a
  by_cases h1 : a < l.length ∧ txt (looks (l.drop a)) = [40]
  ·rw [if_pos h1] at t1
   exact primary_round G bp s A c l begun fv k hE a w res h _ rfl hp t1 hres
  ·rw [if_neg h1] at t1
   have t2 := take_is [123] l a
   by_cases h2 : a < l.length ∧ txt (looks (l.drop a)) = [123]
   ·rw [if_pos h2] at t2
    exact primary_cat G bp s A c l begun fv k hE a w res h _ rfl hp t1 t2 hres
   ·rw [if_neg h2] at t2
    cases hw : wordsL.lookup (txt (looks (l.drop a))) with
    | none => exact primary_none G bp s A c l begun fv k hE a w res h _ rfl hp t1 t2 hw hres
    | some op => exact primary_word G bp s A c l begun fv k hE a w res h _ rfl hp t1 t2 op hw hres
theorem exprs_all : ∀ k : Nat, (∀ j, j ≤ k → BetweenT G bp s A c l begun fv j) ∧ ExprT G bp s A c l begun fv k ∧ UnaryT G bp s A c l begun fv k ∧ PrimaryT G bp s A c l begun fv k := by
 intro k
 induction k with
 | zero =>
  refine ⟨fun j hj => ?_, ?_, ?_, ?_⟩
  ·obtain rfl : j = 0 := by omega
   intro lev z a w res _ _ _ h; rw [betweenP] at h; cases h
  ·intro a w res _ h; rw [exprP] at h; cases h
  ·intro a w res _ h; rw [unaryP] at h; cases h
  ·intro a w res _ h; rw [primaryP] at h; cases h
 | succ k ih =>
  obtain ⟨hb, he, hu, hp⟩ := ih
  have hb2 : BetweenT G bp s A c l begun fv (k + 1) := between_tells hb hu
  refine ⟨fun j hj => ?_, expr_tells G bp s A c l begun fv k (hb k (Nat.le_refl _)) he, unary_tells hu hp, primary_tells he⟩
  rcases Nat.lt_or_ge k j with h1 | h1
  ·obtain rfl : j = k + 1 := by omega
   exact hb2
  ·exact hb j h1
theorem expr_is {k a : Nat} {w : World} {res : PR Ex} (h : St G bp s A c l begun fv a w) (hres : exprP k (l.drop a) = some res) : Calls Tryd.prog 71 #[.pointer (some ⟨bp, 0, none⟩)] w (Tells bp l no w (encE (Lo w.heap.size) 8) res) := (exprs_all k).2.1 a w res h hres
end
end Go.Proofs.YtenogedclignmaaDoor.Q
namespace Go.Proofs.YtenogedclignmaaDoor.Q
open Go.RowKit Go.Proofs.YtenogedclignmaaDoorW.PrintWords Go.Proofs.YtenogedclignmaaDoorW.PrintLast Go.Proofs.YtenogedclignmaaDoorW.PrintMore
theorem and_some {α β : Type} {x : Option (PR α)} {f : α → List Tok → Option (PR β)} (hx : x ≠ none) (hf : ∀ v r1, x = some (.ok v r1) → f v r1 ≠ none) : andThen x f ≠ none := by
 cases x with
 | none => exact absurd rfl hx
 | some q =>
  cases q with
  | ok v r1 => exact hf v r1 rfl
  | bad e t => intro h; cases h
theorem made_some (at_ r : List Tok) (e : Ex) : madeP at_ e r ≠ none := by unfold madeP; intro h; cases h
theorem need_len {x : List UInt8} {r r1 : List Tok} {u : Unit} (h : some (needP x r) = some (.ok u r1)) : r1.length + 1 ≤ r.length := by
 have h2 := fine_need x r
 injection h with h
 rw [h] at h2; exact h2.2
theorem dim_len {r r1 : List Tok} {d : Dm} (h : some (dimP r) = some (.ok d r1)) : r1.length + 1 ≤ r.length := by
 have h2 := fine_dim r
 injection h with h
 rw [h] at h2; exact h2.2
theorem name_len {r r1 : List Tok} {d : ByteArray} (h : some (nameP r) = some (.ok d r1)) : r1.length + 1 ≤ r.length := by
 have h2 := fine_name r
 injection h with h
 rw [h] at h2; exact h2.2
theorem made_len {at_ r r1 : List Tok} {e a : Ex} (h : madeP at_ e r = some (.ok a r1)) : r1 = r ∧ a = e ∧ deepE e ≤ 8 := by
 unfold madeP at h
 injection h with h
 by_cases hd : deepE e > 8
 ·rw [if_pos hd] at h
  cases at_ with
  | nil => cases h
  | cons t u => cases h
 ·rw [if_neg hd] at h; cases h; exact ⟨rfl, rfl, by omega⟩
theorem tot_exprs : ∀ k : Nat, (∀ lev r, 12 * r.length + 9 ≤ k + lev → lev ≤ 6 → betweenP k lev r ≠ none) ∧ (∀ lev a r, 12 * r.length + 1 ≤ k → lev ≤ 5 → loopP k lev a r ≠ none) ∧ (∀ r, 12 * r.length + 10 ≤ k → exprP k r ≠ none) ∧ (∀ r, 12 * r.length + 2 ≤ k → unaryP k r ≠ none) ∧ (∀ a r, 12 * r.length + 1 ≤ k → cutsP k a r ≠ none) ∧ (∀ r, 12 * r.length + 1 ≤ k → primaryP k r ≠ none) := by
 intro k
 induction k with
 | zero => exact ⟨fun lev r h1 h2 => by omega, fun lev a r h1 h2 => by omega, fun r h1 => by omega, fun r h1 => by omega, fun a r h1 => by omega, fun r h1 => by omega⟩
 | succ k ih =>
  obtain ⟨hb, hl, he, hu, hc, hp⟩ := ih
  obtain ⟨fb, fl, fe, fu, fc, fp⟩ := fine_exprs k
  refine ⟨fun lev r h1 h2 => ?_, fun lev a r h1 h2 => ?_, fun r h1 => ?_, fun r h1 => ?_, fun a r h1 => ?_, fun r h1 => ?_⟩
  ·unfold betweenP
   by_cases h : lev = 6
   ·rw [if_pos h]; exact hu r (by omega)
   ·rw [if_neg h]
    refine and_some (hb (lev + 1) r (by omega) (by omega)) (fun v r1 hq => hl lev v r1 ?_ (by omega))
    have := (fb (lev + 1) r _ hq).2; omega
  ·unfold loopP
   by_cases h : opP lev (looks r) = 0
   ·rw [if_pos h]; intro h3; cases h3
   ·rw [if_neg h]
    obtain ⟨t, r0, rfl⟩ := op_ne h
    simp only [List.length_cons] at h1
    refine and_some (hb (lev + 1) r0 (by omega) (by omega)) (fun v r1 hq => and_some (made_some _ _ _) (fun v2 r2 hm => ?_))
    have h5 := (fb (lev + 1) r0 _ hq).2
    obtain ⟨rfl, _, _⟩ := made_len hm
    by_cases h6 : lev = 3
    ·rw [if_pos h6]; intro h3; cases h3
    ·rw [if_neg h6]; exact hl lev v2 r2 (by omega) h2
  ·unfold exprP
   refine and_some (hb 0 r (by omega) (by omega)) (fun v r1 hq => ?_)
   have h2 := (fb 0 r _ hq).2
   cases ht : takeP [63] r1 with
   | none => dsimp only; intro h3; cases h3
   | some r2 =>
    obtain ⟨t, rfl, _⟩ := take_some ht
    simp only [List.length_cons] at h2
    dsimp only
    refine and_some (he r2 (by omega)) (fun b r3 hq3 => and_some (fun h => by cases h) (fun u r4 hq4 => and_some (he r4 ?_) (fun c r5 hq5 => made_some _ _ _)))
    have := (fe r2 _ hq3).2
    have := need_len hq4
    omega
  ·unfold unaryP
   cases ht : takeP [126] r with
   | some r1 =>
    obtain ⟨t, rfl, _⟩ := take_some ht
    simp only [List.length_cons] at h1
    exact and_some (hu r1 (by omega)) (fun v r2 _ => made_some _ _ _)
   | none =>
    refine and_some (hp r (by omega)) (fun v r1 hq => hc v r1 ?_)
    have := (fp r _ hq).2; omega
  ·unfold cutsP
   cases ht : takeP [91] r with
   | none => dsimp only; intro h3; cases h3
   | some r1 =>
    obtain ⟨t, rfl, _⟩ := take_some ht
    simp only [List.length_cons] at h1
    dsimp only
    refine and_some (fun h => by cases h) (fun hi r2 hq2 => ?_)
    have h2 := dim_len hq2
    cases hq : takeP [58] r2 with
    | some r3 =>
     obtain ⟨t3, rfl, _⟩ := take_some hq
     simp only [List.length_cons] at h2
     dsimp only
     refine and_some (fun h => by cases h) (fun lo r4 hq4 => and_some (fun h => by cases h) (fun u r5 hq5 => and_some (made_some _ _ _) (fun a' r6 hq6 => hc a' r6 ?_)))
     have := dim_len hq4
     have := need_len hq5
     obtain ⟨rfl, _, _⟩ := made_len hq6
     omega
    | none =>
     dsimp only
     refine and_some (fun h => by cases h) (fun u r5 hq5 => and_some (made_some _ _ _) (fun a' r6 hq6 => hc a' r6 ?_))
     have := need_len hq5
     obtain ⟨rfl, _, _⟩ := made_len hq6
     omega
  ·unfold primaryP
   by_cases h : (looks r).f0 = 2 ∨ (looks r).f0 = 1 ∧ wordP (txt (looks r)) = false
   ·rw [if_pos h]; intro h3; cases h3
   ·rw [if_neg h]
    cases ht : takeP [40] r with
    | some r1 =>
     obtain ⟨t, rfl, _⟩ := take_some ht
     simp only [List.length_cons] at h1
     dsimp only
     exact and_some (he r1 (by omega)) (fun a r2 _ => and_some (fun h => by cases h) (fun u r3 _ h => by cases h))
    | none =>
     dsimp only
     cases hq : takeP [123] r with
     | some r1 =>
      obtain ⟨t, rfl, _⟩ := take_some hq
      simp only [List.length_cons] at h1
      dsimp only
      refine and_some (he r1 (by omega)) (fun a r2 hq2 => and_some (fun h => by cases h) (fun u r3 hq3 => and_some (he r3 ?_) (fun b r4 _ => and_some (fun h => by cases h) (fun u r5 _ => made_some _ _ _))))
      have := (fe r1 _ hq2).2
      have := need_len hq3
      omega
     | none =>
      dsimp only
      cases hw : wordsL.lookup (txt (looks r)) with
      | none => dsimp only; intro h3; cases h3
      | some op =>
       dsimp only
       have hlen : r.tail.length ≤ r.length := by rw [List.length_tail]; omega
       refine and_some (fun h => by cases h) (fun u r1 hq1 => ?_)
       have h3 := need_len hq1
       by_cases h19 : op = 19
       ·rw [if_pos h19]
        refine and_some (fun h => by cases h) (fun nm r2 hq2 => and_some (fun h => by cases h) (fun u r3 hq3 => and_some (he r3 ?_) (fun a r4 _ => and_some (fun h => by cases h) (fun u r5 _ => made_some _ _ _))))
        have := name_len hq2
        have := need_len hq3
        omega
       ·rw [if_neg h19]
        exact and_some (he r1 (by omega)) (fun a r4 _ => and_some (fun h => by cases h) (fun u r5 _ => made_some _ _ _))
theorem tot_expr (k : Nat) (r : List Tok) (h : 12 * r.length + 10 ≤ k) : exprP k r ≠ none := (tot_exprs k).2.2.1 r h
end Go.Proofs.YtenogedclignmaaDoor.Q
