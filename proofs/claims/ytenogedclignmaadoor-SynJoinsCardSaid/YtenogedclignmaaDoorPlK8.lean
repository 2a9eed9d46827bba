/-
  HELPER.
-/
import Derived.Test.YtenogedclignmaaDoorPlKA
import Derived.Test.YtenogedclignmaaDoorPlK7
set_option linter.unusedVariables false
set_option linter.unusedSimpArgs false
namespace Go.Proofs.YtenogedclignmaaDoor.Q
open Go.RowKit Go.Maps Go.WideMaps Go.Proofs.YtenogedclignmaaDoorW.PrintWords Go.Proofs.YtenogedclignmaaDoorW.PrintLast Go.Proofs.YtenogedclignmaaDoorW.PrintMore
theorem and_get {α β : Type} {x : Option (PR α)} {f : α → List Tok → Option (PR β)} {res : PR β} (h : andThen x f = some res) : ∃ y, x = some y := by
 cases x with
 | none => cases h
 | some y => exact ⟨y, rfl⟩
theorem and_ok {α β : Type} {x : Option (PR α)} {f : α → List Tok → Option (PR β)} {res : PR β} {y : PR α} {v : α} {r : List Tok} (h : andThen x f = some res) (hx : x = some y) (hq : y = .ok v r) : f v r = some res := by subst hx hq; exact h
theorem and_bad {α β : Type} {x : Option (PR α)} {f : α → List Tok → Option (PR β)} {res : PR β} {y : PR α} {er : Int} {r : List Tok} (h : andThen x f = some res) (hx : x = some y) (hq : y = .bad er r) : some (PR.bad er r) = some res := by subst hx hq; exact h
theorem last_bad {α : Type} {x : Option (PR α)} {res y : PR α} {er : Int} {r : List Tok} (h : x = some res) (hx : x = some y) (hq : y = .bad er r) : some (PR.bad er r) = some res := by subst hx hq; exact h
set_option maxHeartbeats 8000000 in
set_option maxRecDepth 100000 in
theorem expr_tells (G bp : Nat) (s : ByteArray) (A : Option Addr) (c : Nat) (l : List Tok) (begun : Int) (fv : Value) (k : Nat) (hB : BetweenT G bp s A c l begun fv k) (hE : ExprT G bp s A c l begun fv k) : ExprT G bp s A c l begun fv (k + 1) := by
 intro a w res h hres
 have hb1 := below_alloc (bR w.heap.size w) (.cells #[.int .i64 0, .string ⟨#[]⟩, .int .i64 0, .string ⟨#[]⟩, .int .i64 0, .string ⟨#[]⟩, .int .i64 0, .string ⟨#[]⟩, .int .i64 0, .string ⟨#[]⟩, .slice none 0 0] 56)
 have HO1 := aS (MapKept.heap_alloc w (.cells #[.int .i64 0, .string ⟨#[]⟩, .int .i64 0, .string ⟨#[]⟩, .int .i64 0, .string ⟨#[]⟩, .int .i64 0, .string ⟨#[]⟩, .int .i64 0, .string ⟨#[]⟩, .slice none 0 0] 56)).1
 have HA1 := aS ((h.same (X := no)).below h.lt hb1)
 have HS1 := aS (h.below hb1)
 have HN := aS (show w.heap.size ≠ bp by have := h.lt; omega)
 have HW := aS h.lt
 have HZ := aS (show (w.alloc (.cells #[.int .i64 0, .string ⟨#[]⟩, .int .i64 0, .string ⟨#[]⟩, .int .i64 0, .string ⟨#[]⟩, .int .i64 0, .string ⟨#[]⟩, .int .i64 0, .string ⟨#[]⟩, .slice none 0 0] 56)).heap.size = w.heap.size + 1 by show (w.heap.push _).size = _; simp)
 clear h hb1
 rw [exprP] at hres
 have HQ1 := aS hres
 have HB := aS hB
 have HE := aS hE
 clear hres hB hE
 obtain ⟨y1, hy1⟩ := and_get HQ1.out
 have HX1 := aS hy1
 clear hy1
 go_enter Tryd.func71, Tryd.ntmps71
 go_upto_region 1 with (fail)
 generalize w.alloc (.cells #[.int .i64 0, .string ⟨#[]⟩, .int .i64 0, .string ⟨#[]⟩, .int .i64 0, .string ⟨#[]⟩, .int .i64 0, .string ⟨#[]⟩, .int .i64 0, .string ⟨#[]⟩, .slice none 0 0] 56) = w1 at *
 go_upto_region 2 with (go_at_call 79; refine calls_tells (HB.out 0 _ a w1 y1 rfl (by omega) HS1.out HX1.out) ?_ ?bad; (case bad => exact (fun er t b a2 w' hq ht hb ha hat => And.intro rfl (tells_bad (and_bad HQ1.out HX1.out hq) ht hb ha (HA1.out.then_ hat)))); rintro x r b vv w2 hq rfl hb ⟨B, q, rfl, hx, ho⟩ hat; have qq := and_ok HQ1.out HX1.out hq; (try dsimp only at qq); have HQ2 := aS qq; clear qq; have HA2 := aS (HA1.out.then_ hat); have HS2 := aS (HS1.out.next hat hb); have HZ2 := aS hat.size; have HO2 := aS (hat.obj HO1.out HN.out id); have HP2 := aS (hx.mono (ok' := (fun k => w.heap.size < k)) (fun k hk => by have h1 : w1.heap.size ≤ k := hk; have h2 := HZ.out; show w.heap.size < k; omega)); have HKP := aS ho; clear hq hb hat hx ho)
 have hb := below_alloc (bR w2.heap.size w2) (.cells #[.int .i64 x.f0, .string x.f1.f0, .int .i64 x.f1.f1, .string x.f2.f0, .int .i64 x.f2.f1, .string x.f3.f0, .int .i64 x.f3.f1, .string x.f4.f0, .int .i64 x.f4.f1, .string x.f5, .slice B x.f6.length q] 56)
 have HBX3 := aS (MapKept.heap_alloc w2 (.cells #[.int .i64 x.f0, .string x.f1.f0, .int .i64 x.f1.f1, .string x.f2.f0, .int .i64 x.f2.f1, .string x.f3.f0, .int .i64 x.f3.f1, .string x.f4.f0, .int .i64 x.f4.f1, .string x.f5, .slice B x.f6.length q] 56)).1
 have NHBX := aS (show w2.heap.size ≠ bp by have := HS2.out.lt; omega)
 have HA3 := aS (HA2.out.below HS2.out.lt hb)
 have HS3 := aS (HS2.out.below hb)
 have HZ3 := aS hb.size
 have HO3 := aS (fbelow HO2.out hb)
 have HP3 := aS (HP2.out.below hb)
 clear hb
 generalize w2.alloc (.cells #[.int .i64 x.f0, .string x.f1.f0, .int .i64 x.f1.f1, .string x.f2.f0, .int .i64 x.f2.f1, .string x.f3.f0, .int .i64 x.f3.f1, .string x.f4.f0, .int .i64 x.f4.f1, .string x.f5, .slice B x.f6.length q] 56) = w3 at *
 have y2 := blk_cell HS3.out.blk 2
 go_upto_region 5 with (go_at_call 36; refine calls_take (take_tells ⟨#[63]⟩ HS3.out) ?yes ?no; (case' no => (rintro w4 hq hat; have hb := HS3.out.room; have qq := HQ2.out; rw [hq] at qq; (try dsimp only at qq); have HR := aS qq; clear qq; have HA4 := aS (HA3.out.then_ hat); have HS4 := aS (HS3.out.next hat hb); have HZ4 := aS hat.size; have HO4 := aS (hat.obj HO3.out HN.out id); have HBX4 := aS (hat.obj HBX3.out NHBX.out id); have HP4 := aS (HP3.out.no hat (fun k hk => by have h1 : w.heap.size < k := hk; have := HW.out; omega)); have ho6 := HO4.out; have f0 := blk_frozen ho6 0; have j0 := cH ho6 0; have f1 := blk_frozen ho6 1; have j1 := cH ho6 1; have f2 := blk_frozen ho6 2; have j2 := cH ho6 2; have f3 := blk_frozen ho6 3; have j3 := cH ho6 3; have f4 := blk_frozen ho6 4; have j4 := cH ho6 4; have f5 := blk_frozen ho6 5; have j5 := cH ho6 5; have f6 := blk_frozen ho6 6; have j6 := cH ho6 6; have f7 := blk_frozen ho6 7; have j7 := cH ho6 7; have f8 := blk_frozen ho6 8; have j8 := cH ho6 8; have f9 := blk_frozen ho6 9; have j9 := cH ho6 9; have f10 := blk_frozen ho6 10; have j10 := cH ho6 10; have m0 := cH HBX4.out 0; have m1 := cH HBX4.out 1; have m2 := cH HBX4.out 2; have m3 := cH HBX4.out 3; have m4 := cH HBX4.out 4; have m5 := cH HBX4.out 5; have m6 := cH HBX4.out 6; have m7 := cH HBX4.out 7; have m8 := cH HBX4.out 8; have m9 := cH HBX4.out 9; have m10 := cH HBX4.out 10; clear hq hb hat ho6)); (case' yes => (rintro w4 hq hb hat; have qq := HQ2.out; rw [hq] at qq; (try dsimp only at qq); have HQ3 := aS qq; clear qq; have HA4 := aS (HA3.out.then_ hat); have HS4 := aS (HS3.out.next hat hb); have HZ4 := aS hat.size; have HO4 := aS (hat.obj HO3.out HN.out id); have HBX4 := aS (hat.obj HBX3.out NHBX.out id); have HP4 := aS (HP3.out.no hat (fun k hk => by have h1 : w.heap.size < k := hk; have := HW.out; omega)); clear hq hb hat)))
 ·clear y2
  obtain ⟨y4, hy4⟩ := and_get HQ3.out
  have HX4 := aS hy4
  clear hy4
  go_upto_region 6 with (go_at_call 71; refine calls_tells (HE.out (b + 1) w4 y4 HS4.out HX4.out) ?_ ?bad; (case bad => exact (fun er t b a2 w' hq ht hb ha hat => And.intro rfl (tells_bad (and_bad HQ3.out HX4.out hq) ht hb ha (HA4.out.then_ hat)))); rintro y r b2 vv w5 hq rfl hb ⟨C, p, rfl, hx, ho⟩ hat; have qq := and_ok HQ3.out HX4.out hq; (try dsimp only at qq); have HQ4 := aS qq; clear qq; have HA5 := aS (HA4.out.then_ hat); have HS5 := aS (HS4.out.next hat hb); have HZ5 := aS hat.size; have HO5 := aS (hat.obj HO4.out HN.out id); have HBX5 := aS (hat.obj HBX4.out NHBX.out id); have HP5 := aS (HP4.out.no hat (fun k hk => by have h1 : w.heap.size < k := hk; have := HW.out; omega)); have HP2_5 := aS (hx.mono (ok' := (fun k => w.heap.size < k)) (fun k hk => by have h1 : w4.heap.size ≤ k := hk; have h2 := (Array.getElem?_eq_some_iff.1 HO4.out).1; show w.heap.size < k; omega)); have HKP2 := aS ho; clear hq hb hat hx ho)
  have hb := below_alloc (bR w5.heap.size w5) (.cells #[.int .i64 y.f0, .string y.f1.f0, .int .i64 y.f1.f1, .string y.f2.f0, .int .i64 y.f2.f1, .string y.f3.f0, .int .i64 y.f3.f1, .string y.f4.f0, .int .i64 y.f4.f1, .string y.f5, .slice C y.f6.length p] 56)
  have HBY6 := aS (MapKept.heap_alloc w5 (.cells #[.int .i64 y.f0, .string y.f1.f0, .int .i64 y.f1.f1, .string y.f2.f0, .int .i64 y.f2.f1, .string y.f3.f0, .int .i64 y.f3.f1, .string y.f4.f0, .int .i64 y.f4.f1, .string y.f5, .slice C y.f6.length p] 56)).1
  have NHBY := aS (show w5.heap.size ≠ bp by have := HS5.out.lt; omega)
  have HA6 := aS (HA5.out.below HS5.out.lt hb)
  have HS6 := aS (HS5.out.below hb)
  have HZ6 := aS hb.size
  have HO6 := aS (fbelow HO5.out hb)
  have HBX6 := aS (fbelow HBX5.out hb)
  have HP6 := aS (HP5.out.below hb)
  have HP2_6 := aS (HP2_5.out.below hb)
  clear hb
  generalize w5.alloc (.cells #[.int .i64 y.f0, .string y.f1.f0, .int .i64 y.f1.f1, .string y.f2.f0, .int .i64 y.f2.f1, .string y.f3.f0, .int .i64 y.f3.f1, .string y.f4.f0, .int .i64 y.f4.f1, .string y.f5, .slice C y.f6.length p] 56) = w6 at *
  go_upto_region 7 with (go_at_call 39; refine calls_tells (need_tells ⟨#[58]⟩ HS6.out) ?_ ?bad; (case bad => exact (fun er t b a2 w' hq ht hb ha hat => And.intro rfl (tells_bad (and_bad HQ4.out rfl hq) ht hb ha (HA6.out.then_ hat)))); rintro u r b3 vv w7 hq rfl hb rfl hat; have qq := and_ok HQ4.out rfl hq; (try dsimp only at qq); have HQ5 := aS qq; clear qq; have HA7 := aS (HA6.out.then_ hat); have HS7 := aS (HS6.out.next hat hb); have HZ7 := aS hat.size; have HO7 := aS (hat.obj HO6.out HN.out id); have HBX7 := aS (hat.obj HBX6.out NHBX.out id); have HBY7 := aS (hat.obj HBY6.out NHBY.out id); have HP7 := aS (HP6.out.no hat (fun k hk => by have h1 : w.heap.size < k := hk; have := HW.out; omega)); have HP2_7 := aS (HP2_6.out.no hat (fun k hk => by have h1 : w.heap.size < k := hk; have := HW.out; omega)); clear hq hb hat)
  obtain ⟨y7, hy7⟩ := and_get HQ5.out
  have HX7 := aS hy7
  clear hy7
  go_upto_region 8 with (go_at_call 71; refine calls_tells (HE.out b3 w7 y7 HS7.out HX7.out) ?_ ?bad; (case bad => exact (fun er t b a2 w' hq ht hb ha hat => And.intro rfl (tells_bad (and_bad HQ5.out HX7.out hq) ht hb ha (HA7.out.then_ hat)))); rintro z r b4 vv w8 hq rfl hb ⟨D, o, rfl, hx, ho⟩ hat; have qq := and_ok HQ5.out HX7.out hq; (try dsimp only at qq); have HQ6 := aS qq; clear qq; have HA8 := aS (HA7.out.then_ hat); have HS8 := aS (HS7.out.next hat hb); have HZ8 := aS hat.size; have HO8 := aS (hat.obj HO7.out HN.out id); have HBX8 := aS (hat.obj HBX7.out NHBX.out id); have HBY8 := aS (hat.obj HBY7.out NHBY.out id); have HP8 := aS (HP7.out.no hat (fun k hk => by have h1 : w.heap.size < k := hk; have := HW.out; omega)); have HP2_8 := aS (HP2_7.out.no hat (fun k hk => by have h1 : w.heap.size < k := hk; have := HW.out; omega)); have HP3_8 := aS (hx.mono (ok' := (fun k => w.heap.size < k)) (fun k hk => by have h1 : w7.heap.size ≤ k := hk; have h2 := (Array.getElem?_eq_some_iff.1 HO7.out).1; show w.heap.size < k; omega)); have HKP3 := aS ho; clear hq hb hat hx ho)
  have hb := below_alloc (bR w8.heap.size w8) (.cells #[.int .i64 z.f0, .string z.f1.f0, .int .i64 z.f1.f1, .string z.f2.f0, .int .i64 z.f2.f1, .string z.f3.f0, .int .i64 z.f3.f1, .string z.f4.f0, .int .i64 z.f4.f1, .string z.f5, .slice D z.f6.length o] 56)
  have HBZ9 := aS (MapKept.heap_alloc w8 (.cells #[.int .i64 z.f0, .string z.f1.f0, .int .i64 z.f1.f1, .string z.f2.f0, .int .i64 z.f2.f1, .string z.f3.f0, .int .i64 z.f3.f1, .string z.f4.f0, .int .i64 z.f4.f1, .string z.f5, .slice D z.f6.length o] 56)).1
  have NHBZ := aS (show w8.heap.size ≠ bp by have := HS8.out.lt; omega)
  have HA9 := aS (HA8.out.below HS8.out.lt hb)
  have HS9 := aS (HS8.out.below hb)
  have HZ9 := aS hb.size
  have HO9 := aS (fbelow HO8.out hb)
  have HBX9 := aS (fbelow HBX8.out hb)
  have HBY9 := aS (fbelow HBY8.out hb)
  have HP9 := aS (HP8.out.below hb)
  have HP2_9 := aS (HP2_8.out.below hb)
  have HP3_9 := aS (HP3_8.out.below hb)
  clear hb
  generalize w8.alloc (.cells #[.int .i64 z.f0, .string z.f1.f0, .int .i64 z.f1.f1, .string z.f2.f0, .int .i64 z.f2.f1, .string z.f3.f0, .int .i64 z.f3.f1, .string z.f4.f0, .int .i64 z.f4.f1, .string z.f5, .slice D z.f6.length o] 56) = w9 at *
  have HROW := aS (exR_lit (ok := (fun k => w.heap.size < k)) (w := w9) (Array.getElem?_eq_some_iff.1 HO9.out).1 (reps_three HP9.out HP2_9.out HP3_9.out) (by simp))
  have HBR := aS (below_alloc (bR w9.heap.size w9) (.cells (((exV x (.slice B x.f6.length q)).toList ++ (exV y (.slice C y.f6.length p)).toList ++ (exV z (.slice D z.f6.length o)).toList).toArray) 56))
  have HOE := aS (show okE 9 (exK 16 [x, y, z]) from okE_up (by simp) (fun k hk => by rcases List.mem_cons.1 hk with rfl | hk; exact HKP.out; rcases List.mem_cons.1 hk with rfl | hk; exact HKP2.out; rcases List.mem_cons.1 hk with rfl | hk; exact HKP3.out; cases hk))
  have HRB := aS HS3.out.room
  have m0 := cH HBX9.out 0; have m1 := cH HBX9.out 1; have m2 := cH HBX9.out 2; have m3 := cH HBX9.out 3; have m4 := cH HBX9.out 4; have m5 := cH HBX9.out 5; have m6 := cH HBX9.out 6; have m7 := cH HBX9.out 7; have m8 := cH HBX9.out 8; have m9 := cH HBX9.out 9; have m10 := cH HBX9.out 10;have n0 := cH HBY9.out 0; have n1 := cH HBY9.out 1; have n2 := cH HBY9.out 2; have n3 := cH HBY9.out 3; have n4 := cH HBY9.out 4; have n5 := cH HBY9.out 5; have n6 := cH HBY9.out 6; have n7 := cH HBY9.out 7; have n8 := cH HBY9.out 8; have n9 := cH HBY9.out 9; have n10 := cH HBY9.out 10;have o0 := cH HBZ9.out 0; have o1 := cH HBZ9.out 1; have o2 := cH HBZ9.out 2; have o3 := cH HBZ9.out 3; have o4 := cH HBZ9.out 4; have o5 := cH HBZ9.out 5; have o6 := cH HBZ9.out 6; have o7 := cH HBZ9.out 7; have o8 := cH HBZ9.out 8; have o9 := cH HBZ9.out 9; have o10 := cH HBZ9.out 10;
  go_wp2_with (go_at_call 80; refine calls_tells (made_tells G bp s A c l begun fv b4 _ (HS9.out.below HBR.out) 9 (by omega) (exK 16 [x, y, z]) _ (fun k => w.heap.size < k) (fun k hk => by have h1 : w.heap.size < k := hk; have := HW.out; omega) ⟨_, _, rfl, HROW.out, HOE.out⟩ b HRB.out res HQ6.out) ?_ ?bad; (case bad => exact (fun er t b a2 w' hq ht hb ha hat => And.intro rfl (tells_bad (last_bad HQ6.out HQ6.out hq) ht hb ha ((HA9.out.below HS9.out.lt HBR.out).then_ hat)))); rintro v r b5 x5 w10 hq rfl hb ⟨E, e5, rfl, hx, ho⟩ hat; have HR := aS (congrArg some hq).symm; have HA10 := aS ((HA9.out.below HS9.out.lt HBR.out).then_ hat); have HX10 := aS hx; have HKV := aS ho; have HB10 := aS hb; have ho6 := hat.obj (fbelow HO9.out HBR.out) HN.out id; have f0 := blk_frozen ho6 0; have j0 := cH ho6 0; have f1 := blk_frozen ho6 1; have j1 := cH ho6 1; have f2 := blk_frozen ho6 2; have j2 := cH ho6 2; have f3 := blk_frozen ho6 3; have j3 := cH ho6 3; have f4 := blk_frozen ho6 4; have j4 := cH ho6 4; have f5 := blk_frozen ho6 5; have j5 := cH ho6 5; have f6 := blk_frozen ho6 6; have j6 := cH ho6 6; have f7 := blk_frozen ho6 7; have j7 := cH ho6 7; have f8 := blk_frozen ho6 8; have j8 := cH ho6 8; have f9 := blk_frozen ho6 9; have j9 := cH ho6 9; have f10 := blk_frozen ho6 10; have j10 := cH ho6 10; have HO10 := aS ho6; clear hq hb hx ho hat ho6)
  exact ret_fill rfl rfl HO10.out HA10.out HN.out (.inl (Nat.le_refl _)) (fun k hk => by have h1 : w.heap.size < k := hk; omega) (fun k hk => Nat.le_of_lt hk) HX10.out HKV.out HR.out rfl HB10.out
 ·exact ret_fill rfl rfl HO4.out HA4.out HN.out (.inl (Nat.le_refl _)) (fun k hk => by have h1 : w.heap.size < k := hk; omega) (fun k hk => Nat.le_of_lt hk) HP4.out HKP.out HR.out rfl HS4.out.room
set_option maxHeartbeats 8000000 in
set_option maxRecDepth 100000 in
theorem unary_inv (G bp : Nat) (s : ByteArray) (A : Option Addr) (c : Nat) (l : List Tok) (begun : Int) (fv : Value) (k : Nat) (hU : UnaryT G bp s A c l begun fv k) (a : Nat) (w : World) (res : PR Ex) (h : St G bp s A c l begun fv a w) (r0 : List Tok) (hr0 : takeP [126] (l.drop a) = some r0) (hres : unaryP (k + 1) (l.drop a) = some res) : Calls Tryd.prog 85 #[.pointer (some ⟨bp, 0, none⟩)] w (Tells bp l no w (encE (Lo w.heap.size) 8) res) := by
 have HROOM := aS h.room
 have hb1 := below_alloc (bR w.heap.size w) (.cells #[.int .i64 0, .string ⟨#[]⟩, .int .i64 0, .string ⟨#[]⟩, .int .i64 0, .string ⟨#[]⟩, .int .i64 0, .string ⟨#[]⟩, .int .i64 0, .string ⟨#[]⟩, .slice none 0 0] 56)
 have HO1 := aS (MapKept.heap_alloc w (.cells #[.int .i64 0, .string ⟨#[]⟩, .int .i64 0, .string ⟨#[]⟩, .int .i64 0, .string ⟨#[]⟩, .int .i64 0, .string ⟨#[]⟩, .int .i64 0, .string ⟨#[]⟩, .slice none 0 0] 56)).1
 have HA1 := aS ((h.same (X := no)).below h.lt hb1)
 have HS1 := aS (h.below hb1)
 have HN := aS (show w.heap.size ≠ bp by have := h.lt; omega)
 have HW := aS h.lt
 have HZ := aS (show (w.alloc (.cells #[.int .i64 0, .string ⟨#[]⟩, .int .i64 0, .string ⟨#[]⟩, .int .i64 0, .string ⟨#[]⟩, .int .i64 0, .string ⟨#[]⟩, .int .i64 0, .string ⟨#[]⟩, .slice none 0 0] 56)).heap.size = w.heap.size + 1 by show (w.heap.push _).size = _; simp)
 clear h hb1
 rw [unaryP, hr0] at hres
 dsimp only at hres
 have HT0 := aS hr0
 have HQ1 := aS hres
 have HU := aS hU
 clear hres hU hr0
 obtain ⟨y1, hy1⟩ := and_get HQ1.out
 have HX1 := aS hy1
 clear hy1
 go_enter Tryd.func85, Tryd.ntmps85
 go_upto_region 1 with (fail)
 generalize w.alloc (.cells #[.int .i64 0, .string ⟨#[]⟩, .int .i64 0, .string ⟨#[]⟩, .int .i64 0, .string ⟨#[]⟩, .int .i64 0, .string ⟨#[]⟩, .int .i64 0, .string ⟨#[]⟩, .slice none 0 0] 56) = w1 at *
 have y2 := blk_cell HS1.out.blk 2
 go_upto_region 3 with (go_at_call 36; refine calls_take (take_tells ⟨#[126]⟩ HS1.out) ?yes ?no; (case' no => (rintro w2 hq hat; exact absurd (hq.symm.trans HT0.out) (by simp))); (case' yes => (rintro w2 hq hb hat; have HR0 := aS (Option.some.inj (HT0.out.symm.trans hq)); have HA2 := aS (HA1.out.then_ hat); have HS2 := aS (HS1.out.next hat hb); have HZ2 := aS hat.size; have HO2 := aS (hat.obj HO1.out HN.out id); clear hq hb hat)))
 clear y2
 have HX2 := aS (show unaryP k (l.drop (a + 1)) = some y1 by rw [← HR0.out]; exact HX1.out)
 go_wp2_with (first | (go_at_call 80; refine calls_tells (made_tells G bp s A c l begun fv b _ (HS3.out.below HBR.out) 9 (by omega) (exK 3 [x]) _ (fun k => w.heap.size < k) (fun k hk => by have h1 : w.heap.size < k := hk; have := HW.out; omega) ⟨_, _, rfl, HROW.out, HOE.out⟩ a HROOM.out _ HQ3.out) ?_ ?bad; (case bad => exact (fun er t b a2 w' hq ht hb ha hat => And.intro rfl (tells_bad (last_bad HQ3.out HQ3.out hq) ht hb ha ((HA3.out.below HS3.out.lt HBR.out).then_ hat)))); rintro v r b5 x5 w4 hq rfl hb ⟨E, e5, rfl, hx, ho⟩ hat; have HR := aS (congrArg some hq).symm; have HA4 := aS ((HA3.out.below HS3.out.lt HBR.out).then_ hat); have HX4 := aS hx; have HKV := aS ho; have HB4 := aS hb; have ho6 := hat.obj (fbelow HO3.out HBR.out) HN.out id; have f0 := blk_frozen ho6 0; have j0 := cH ho6 0; have f1 := blk_frozen ho6 1; have j1 := cH ho6 1; have f2 := blk_frozen ho6 2; have j2 := cH ho6 2; have f3 := blk_frozen ho6 3; have j3 := cH ho6 3; have f4 := blk_frozen ho6 4; have j4 := cH ho6 4; have f5 := blk_frozen ho6 5; have j5 := cH ho6 5; have f6 := blk_frozen ho6 6; have j6 := cH ho6 6; have f7 := blk_frozen ho6 7; have j7 := cH ho6 7; have f8 := blk_frozen ho6 8; have j8 := cH ho6 8; have f9 := blk_frozen ho6 9; have j9 := cH ho6 9; have f10 := blk_frozen ho6 10; have j10 := cH ho6 10; have HO4 := aS ho6; clear hq hb hx ho hat ho6) | (go_at_call 85; refine calls_tells (HU.out (a + 1) w2 y1 HS2.out HX2.out) ?_ ?bad; (case bad => exact (fun er t b a2 w' hq ht hb ha hat => And.intro rfl (tells_bad (and_bad HQ1.out HX1.out hq) ht hb ha (HA2.out.then_ hat)))); rintro x r b vv w3 hq rfl hb ⟨B, q, rfl, hx, ho⟩ hat; have qq := and_ok HQ1.out HX1.out hq; (try dsimp only at qq); have HQ3 := aS qq; clear qq; have HA3 := aS (HA2.out.then_ hat); have HS3 := aS (HS2.out.next hat hb); have HZ3 := aS hat.size; have HO3 := aS (hat.obj HO2.out HN.out id); have HP3 := aS (hx.mono (ok' := (fun k => w.heap.size < k)) (fun k hk => by have h1 : w2.heap.size ≤ k := hk; have h2 := (Array.getElem?_eq_some_iff.1 HO2.out).1; show w.heap.size < k; omega)); have HROW := aS (exR_lit (ok := (fun k => w.heap.size < k)) (w := w3) (Array.getElem?_eq_some_iff.1 HO3.out).1 (reps_one HP3.out) (by simp)); have HBR := aS (below_alloc (bR w3.heap.size w3) (.cells ((exV x (.slice B x.f6.length q)).toList.toArray) 56)); have HOE := aS (show okE 9 (exK 3 [x]) from okE_up (by simp) (fun k hk => by rcases List.mem_cons.1 hk with rfl | hk; exact ho; cases hk)); clear hq hb hat hx ho))
 exact ret_fill rfl rfl HO4.out HA4.out HN.out (.inl (Nat.le_refl _)) (fun k hk => by have h1 : w.heap.size < k := hk; omega) (fun k hk => Nat.le_of_lt hk) HX4.out HKV.out HR.out rfl HB4.out
set_option maxHeartbeats 8000000 in
set_option maxRecDepth 100000 in
theorem unary_cut (G bp : Nat) (s : ByteArray) (A : Option Addr) (c : Nat) (l : List Tok) (begun : Int) (fv : Value) (k : Nat) (hP : PrimaryT G bp s A c l begun fv k) (a : Nat) (w : World) (res : PR Ex) (h : St G bp s A c l begun fv a w) (hr0 : takeP [126] (l.drop a) = none) (hres : unaryP (k + 1) (l.drop a) = some res) : Calls Tryd.prog 85 #[.pointer (some ⟨bp, 0, none⟩)] w (Tells bp l no w (encE (Lo w.heap.size) 8) res) := by
 have hb1 := below_alloc (bR w.heap.size w) (.cells #[.int .i64 0, .string ⟨#[]⟩, .int .i64 0, .string ⟨#[]⟩, .int .i64 0, .string ⟨#[]⟩, .int .i64 0, .string ⟨#[]⟩, .int .i64 0, .string ⟨#[]⟩, .slice none 0 0] 56)
 have HO1 := aS (MapKept.heap_alloc w (.cells #[.int .i64 0, .string ⟨#[]⟩, .int .i64 0, .string ⟨#[]⟩, .int .i64 0, .string ⟨#[]⟩, .int .i64 0, .string ⟨#[]⟩, .int .i64 0, .string ⟨#[]⟩, .slice none 0 0] 56)).1
 have HA1 := aS ((h.same (X := no)).below h.lt hb1)
 have HS1 := aS (h.below hb1)
 have HN := aS (show w.heap.size ≠ bp by have := h.lt; omega)
 have HW := aS h.lt
 have HZ := aS (show (w.alloc (.cells #[.int .i64 0, .string ⟨#[]⟩, .int .i64 0, .string ⟨#[]⟩, .int .i64 0, .string ⟨#[]⟩, .int .i64 0, .string ⟨#[]⟩, .int .i64 0, .string ⟨#[]⟩, .slice none 0 0] 56)).heap.size = w.heap.size + 1 by show (w.heap.push _).size = _; simp)
 clear h hb1
 rw [unaryP, hr0] at hres
 dsimp only at hres
 have HT0 := aS hr0
 have HQ1 := aS hres
 have HP := aS hP
 clear hres hP hr0
 obtain ⟨y1, hy1⟩ := and_get HQ1.out
 have HX1 := aS hy1
 clear hy1
 go_enter Tryd.func85, Tryd.ntmps85
 go_upto_region 1 with (fail)
 generalize w.alloc (.cells #[.int .i64 0, .string ⟨#[]⟩, .int .i64 0, .string ⟨#[]⟩, .int .i64 0, .string ⟨#[]⟩, .int .i64 0, .string ⟨#[]⟩, .int .i64 0, .string ⟨#[]⟩, .slice none 0 0] 56) = w1 at *
 have y2 := blk_cell HS1.out.blk 2
 go_upto_region 5 with (first | (go_at_call 90; refine calls_tells (HP.out a w2 y1 HS2.out HX1.out) ?_ ?bad2; (case bad2 => exact (fun er t b a2 w' hq ht hb ha hat => And.intro rfl (tells_bad (and_bad HQ1.out HX1.out hq) ht hb ha (HA2.out.then_ hat)))); rintro x r b vv w3 hq rfl hb ⟨B, q, rfl, hx, ho⟩ hat; have qq := and_ok HQ1.out HX1.out hq; (try dsimp only at qq); have HQ3 := aS qq; clear qq; have HA3 := aS (HA2.out.then_ hat); have HS3 := aS (HS2.out.next hat hb); have HZ3 := aS hat.size; have HO3 := aS (hat.obj HO2.out HN.out id); have HPX := aS hx; have HKP := aS ho; clear hq hb hat hx ho) | (go_at_call 36; refine calls_take (take_tells ⟨#[126]⟩ HS1.out) ?yes1 ?no1; (case' yes1 => (rintro w2 hq hb hat; exact absurd (hq.symm.trans HT0.out) (by simp))); (case' no1 => (rintro w2 hq hat; have hb := HS1.out.room; have HA2 := aS (HA1.out.then_ hat); have HS2 := aS (HS1.out.next hat hb); have HZ2 := aS hat.size; have HO2 := aS (hat.obj HO1.out HN.out id); clear hq hb hat))))
 clear y2
 have HOB := aS (Array.getElem?_eq_some_iff.1 HO2.out).1
 have HOC := aS (Array.getElem?_eq_some_iff.1 HO3.out).1
 have hb := below_alloc (bR w3.heap.size w3) (.cells #[.int .i64 x.f0, .string x.f1.f0, .int .i64 x.f1.f1, .string x.f2.f0, .int .i64 x.f2.f1, .string x.f3.f0, .int .i64 x.f3.f1, .string x.f4.f0, .int .i64 x.f4.f1, .string x.f5, .slice B x.f6.length q] 56)
 have HP4 := aS ((HPX.out.bound.below hb).mono (ok' := But w.heap.size w3.heap.size) (fun k hk => ⟨by have h1 : w2.heap.size ≤ k := hk.1; have := HOB.out; omega, by have := hk.2; omega⟩))
 have HBX4 := aS (MapKept.heap_alloc w3 (.cells #[.int .i64 x.f0, .string x.f1.f0, .int .i64 x.f1.f1, .string x.f2.f0, .int .i64 x.f2.f1, .string x.f3.f0, .int .i64 x.f3.f1, .string x.f4.f0, .int .i64 x.f4.f1, .string x.f5, .slice B x.f6.length q] 56)).1
 have NHBX := aS (show w3.heap.size ≠ bp by have := HS3.out.lt; omega)
 have HA4 := aS (HA3.out.below HS3.out.lt hb)
 have HS4 := aS (HS3.out.below hb)
 have HZ4 := aS hb.size
 have HO4 := aS (fbelow HO3.out hb)
 clear hb
 generalize w3.alloc (.cells #[.int .i64 x.f0, .string x.f1.f0, .int .i64 x.f1.f1, .string x.f2.f0, .int .i64 x.f2.f1, .string x.f3.f0, .int .i64 x.f3.f1, .string x.f4.f0, .int .i64 x.f4.f1, .string x.f5, .slice B x.f6.length q] 56) = w4 at *
 have HAB := aS HOC.out
 have y4 := blk_cell HS4.out.blk 2
 generalize w3.heap.size = ab at *
 skip
 go_wp2_with (fail)
 go_loopg [3] k (fun kq v3 w' => ∃ (a' : Nat) (x : Ex) (B : Option Addr) (q : Nat), v3 = .int .i64 a' ∧ Aside0 (kq ≤ k) ∧ Aside0 (cutsP kq x (l.drop a') = some res) ∧ Aside0 (At bp a' no w w') ∧ Aside0 (St G bp s A c l begun fv a' w') ∧ Aside0 (w'.heap[w.heap.size]? = some (.cells #[.int .i64 0, .string ⟨#[]⟩, .int .i64 0, .string ⟨#[]⟩, .int .i64 0, .string ⟨#[]⟩, .int .i64 0, .string ⟨#[]⟩, .int .i64 0, .string ⟨#[]⟩, .slice none 0 0] 56)) ∧ Aside0 (w'.heap[ab]? = some (.cells #[.int .i64 x.f0, .string x.f1.f0, .int .i64 x.f1.f1, .string x.f2.f0, .int .i64 x.f2.f1, .string x.f3.f0, .int .i64 x.f3.f1, .string x.f4.f0, .int .i64 x.f4.f1, .string x.f5, .slice B x.f6.length q] 56)) ∧ Aside0 (ExR (But w.heap.size ab) w' (.slice B x.f6.length q) x.f6) ∧ Aside0 (okE 8 x))
 case atStart => exact ⟨b, x, B, q, rfl, ⟨Nat.le_refl _⟩, HQ3, HA4, HS4, HO4, HBX4, HP4, HKP⟩
 case round =>
  clear y4 HQ1 HQ3 HX1 HA1 HS1 HO1 HA2 HS2 HO2 HA3 HS3 HO3 HA4 HS4 HO4 HBX4 HP4 HKP HPX HT0
  obtain ⟨a', x, B, q, rfl, HK, HLP, HA10, HS10, HO10, HBX10, HP10, HKP⟩ := hrel
  generalize wr = w10 at *
  have HROOM := aS HS10.out.room
  obtain ⟨j, rfl⟩ : ∃ j, gk = j + 1 := by
   cases gk with
   | zero => have qq := HLP.out; unfold cutsP at qq; cases qq
   | succ j => exact ⟨j, rfl⟩
  have qq := HLP.out
  rw [cutsP] at qq
  have HQ10 := aS qq
  clear qq HLP
  go_upto_region 8 with (go_at_call 36; refine calls_take (take_tells ⟨#[91]⟩ HS10.out) ?yes2 ?no2; (case' no2 => (rintro w11 hq hat; have hb := HS10.out.room; have qq := HQ10.out; rw [hq] at qq; (try dsimp only at qq); have HR := aS qq; clear qq; have HA11 := aS (HA10.out.then_ hat); have HS11 := aS (HS10.out.next hat hb); have HZ11 := aS hat.size; have HO11 := aS (hat.obj HO10.out HN.out id); have HBX11 := aS (hat.obj HBX10.out NHBX.out id); have HP11 := aS (HP10.out.no hat (fun k hk => by have h1 := hk.1; have := HW.out; omega)); have ho6 := HO11.out; have f0 := blk_frozen ho6 0; have j0 := cH ho6 0; have f1 := blk_frozen ho6 1; have j1 := cH ho6 1; have f2 := blk_frozen ho6 2; have j2 := cH ho6 2; have f3 := blk_frozen ho6 3; have j3 := cH ho6 3; have f4 := blk_frozen ho6 4; have j4 := cH ho6 4; have f5 := blk_frozen ho6 5; have j5 := cH ho6 5; have f6 := blk_frozen ho6 6; have j6 := cH ho6 6; have f7 := blk_frozen ho6 7; have j7 := cH ho6 7; have f8 := blk_frozen ho6 8; have j8 := cH ho6 8; have f9 := blk_frozen ho6 9; have j9 := cH ho6 9; have f10 := blk_frozen ho6 10; have j10 := cH ho6 10; have m0 := cH HBX11.out 0; have m1 := cH HBX11.out 1; have m2 := cH HBX11.out 2; have m3 := cH HBX11.out 3; have m4 := cH HBX11.out 4; have m5 := cH HBX11.out 5; have m6 := cH HBX11.out 6; have m7 := cH HBX11.out 7; have m8 := cH HBX11.out 8; have m9 := cH HBX11.out 9; have m10 := cH HBX11.out 10; clear hq hb hat ho6)); (case' yes2 => (rintro w11 hq hb hat; have qq := HQ10.out; rw [hq] at qq; (try dsimp only at qq); have HQ11 := aS qq; clear qq; have HA11 := aS (HA10.out.then_ hat); have HS11 := aS (HS10.out.next hat hb); have HZ11 := aS hat.size; have HO11 := aS (hat.obj HO10.out HN.out id); have HBX11 := aS (hat.obj HBX10.out NHBX.out id); have HP11 := aS (HP10.out.no hat (fun k hk => by have h1 := hk.1; have := HW.out; omega)); clear hq hb hat)))
  ·go_upto_region 9 with (go_at_call 41; refine calls_tells (dim_tells HS11.out) ?_ ?bad11; (case bad11 => exact (fun er t b a2 w' hq ht hb ha hat => And.intro rfl (tells_bad (and_bad HQ11.out rfl hq) ht hb ha (HA11.out.then_ hat)))); rintro hi r b2 vv w12 hq rfl hb rfl hat; have qq := and_ok HQ11.out rfl hq; (try dsimp only at qq); have HQ12 := aS qq; clear qq; have HA12 := aS (HA11.out.then_ hat); have HS12 := aS (HS11.out.next hat hb); have HZ12 := aS hat.size; have HO12 := aS (hat.obj HO11.out HN.out id); have HBX12 := aS (hat.obj HBX11.out NHBX.out id); have HP12 := aS (HP11.out.no hat (fun k hk => by have h1 := hk.1; have := HW.out; omega)); have HSZ12 := aS (show w.heap.size < w12.heap.size ∧ ab < w12.heap.size from ⟨Nat.lt_of_lt_of_le (Array.getElem?_eq_some_iff.1 HO11.out).1 hat.size, Nat.lt_of_lt_of_le (Array.getElem?_eq_some_iff.1 HBX11.out).1 hat.size⟩); clear hq hb hat)
   have hb := below_alloc (bR w12.heap.size w12) (.cells #[.int .i64 18, .string ⟨#[]⟩, .int .i64 0, .string ⟨#[]⟩, .int .i64 0, .string hi.f0, .int .i64 hi.f1, .string ⟨#[]⟩, .int .i64 0, .string ⟨#[]⟩, .slice none 0 0] 56)
   have HXB13 := aS (MapKept.heap_alloc w12 (.cells #[.int .i64 18, .string ⟨#[]⟩, .int .i64 0, .string ⟨#[]⟩, .int .i64 0, .string hi.f0, .int .i64 hi.f1, .string ⟨#[]⟩, .int .i64 0, .string ⟨#[]⟩, .slice none 0 0] 56)).1
   have NHXB := aS (show w12.heap.size ≠ bp by have := HS12.out.lt; omega)
   have HA13 := aS (HA12.out.below HS12.out.lt hb)
   have HS13 := aS (HS12.out.below hb)
   have HZ13 := aS hb.size
   have HO13 := aS (fbelow HO12.out hb)
   have HBX13 := aS (fbelow HBX12.out hb)
   have HP13 := aS ((HP12.out.bound.below hb).mono (ok' := (fun k => w.heap.size < k ∧ k ≠ ab ∧ k ≠ w12.heap.size)) (fun k hk => ⟨hk.1.1, hk.1.2, by have := hk.2; omega⟩))
   clear hb
   generalize w12.alloc (.cells #[.int .i64 18, .string ⟨#[]⟩, .int .i64 0, .string ⟨#[]⟩, .int .i64 0, .string hi.f0, .int .i64 hi.f1, .string ⟨#[]⟩, .int .i64 0, .string ⟨#[]⟩, .slice none 0 0] 56) = w13 at *
   have DHO_HXB := aS (show w.heap.size ≠ w12.heap.size by have := HSZ12.out.1; omega)
   have DHBX_HXB := aS (show ab ≠ w12.heap.size by have := HSZ12.out.2; omega)
   have GE := aS (show w.heap.size ≤ w12.heap.size from Nat.le_of_lt HSZ12.out.1)
   generalize w12.heap.size = xb at *
   have g7 := blk_frozen HXB13.out 7; have g8 := blk_frozen HXB13.out 8; have p7 := cH HXB13.out 7;  have p8 := cH HXB13.out 8; have p5 := cH HXB13.out 5; have p6 := cH HXB13.out 6
   go_upto_region 10 with (fail)
   clear g7 g8 p5 p6 p7 p8
   have HXB14 := aS (show ((w13.setCell ⟨xb, 7, none⟩ (.string hi.f0)).setCell ⟨xb, 8, none⟩ (.int .i64 hi.f1)).heap[xb]? = some (.cells #[.int .i64 18, .string ⟨#[]⟩, .int .i64 0, .string ⟨#[]⟩, .int .i64 0, .string hi.f0, .int .i64 hi.f1, .string hi.f0, .int .i64 hi.f1, .string ⟨#[]⟩, .slice none 0 0] 56) from (set_heap (i := 8) (v := .int .i64 hi.f1) (set_heap (i := 7) (v := .string hi.f0) HXB13.out)))
   have HA14 := aS ((HA13.out.own (p := ⟨xb, 7, none⟩) (.inl GE.out) NHXB.out (.string hi.f0)).own (p := ⟨xb, 8, none⟩) (.inl GE.out) NHXB.out (.int .i64 hi.f1))
   have HS14 := aS (HS13.out.step (((HS13.out.same (X := fun k => k = xb)).own (p := ⟨xb, 7, none⟩) (.inr rfl) NHXB.out (.string hi.f0)).own (p := ⟨xb, 8, none⟩) (.inr rfl) NHXB.out (.int .i64 hi.f1)) (fun k hk => by have h1 : k = xb := hk; have h2 : w.heap.size ≤ xb := GE.out; have h3 := HW.out; have h4 := HS13.out.low; omega) HS13.out.room)
   have HO14 := aS ((Below.heap_setCell _ ⟨xb, 8, none⟩ (.int .i64 hi.f1) _ DHO_HXB.out).trans ((Below.heap_setCell _ ⟨xb, 7, none⟩ (.string hi.f0) _ DHO_HXB.out).trans HO13.out))
   have HBX14 := aS ((Below.heap_setCell _ ⟨xb, 8, none⟩ (.int .i64 hi.f1) _ DHBX_HXB.out).trans ((Below.heap_setCell _ ⟨xb, 7, none⟩ (.string hi.f0) _ DHBX_HXB.out).trans HBX13.out))
   have HP14 := aS ((HP13.out.own (p := ⟨xb, 7, none⟩) (fun k hk => hk.2.2) (.string hi.f0)).own (p := ⟨xb, 8, none⟩) (fun k hk => hk.2.2) (.int .i64 hi.f1))
   generalize ((w13.setCell ⟨xb, 7, none⟩ (.string hi.f0)).setCell ⟨xb, 8, none⟩ (.int .i64 hi.f1)) = w14 at *
   have hgo : True := trivial
   go_upto_region 11 with (first | (go_not_at_region 12; go_at_call 36; refine calls_take (take_tells ⟨#[58]⟩ HS14.out) ?yes3 ?no3; (case' no3 => (rintro w15 hq hat; have hb := HS14.out.room; have qq := HQ12.out; rw [hq] at qq; (try dsimp only at qq); have HQ15 := aS qq; clear qq; have HA15 := aS (HA14.out.then_ hat); have HS15 := aS (HS14.out.next hat hb); have HZ15 := aS hat.size; have HO15 := aS (hat.obj HO14.out HN.out id); have HBX15 := aS (hat.obj HBX14.out NHBX.out id); have HXB15 := aS (hat.obj HXB14.out NHXB.out id); have HP15 := aS (HP14.out.no hat (fun k hk => by have h1 := hk.1; have := HW.out; omega)); clear hq hb hat)); (case' yes3 => (rintro w15 hq hb hat; have qq := HQ12.out; rw [hq] at qq; (try dsimp only at qq); have HQ15 := aS qq; clear qq; have HA15 := aS (HA14.out.then_ hat); have HS15 := aS (HS14.out.next hat hb); have HZ15 := aS hat.size; have HO15 := aS (hat.obj HO14.out HN.out id); have HBX15 := aS (hat.obj HBX14.out NHBX.out id); have HXB15 := aS (hat.obj HXB14.out NHXB.out id); have HP15 := aS (HP14.out.no hat (fun k hk => by have h1 := hk.1; have := HW.out; omega)); clear hq hb hat))))
   ·go_upto_region 12 with (go_at_call 41; refine calls_tells (dim_tells HS15.out) ?_ ?bad15; (case bad15 => exact (fun er t b a2 w' hq ht hb ha hat => And.intro rfl (tells_bad (and_bad HQ15.out rfl hq) ht hb ha (HA15.out.then_ hat)))); rintro lo r b3 vv w16 hq rfl hb rfl hat; have qq := and_ok HQ15.out rfl hq; (try dsimp only at qq); have HQ16 := aS qq; clear qq; have HA16 := aS (HA15.out.then_ hat); have HS16 := aS (HS15.out.next hat hb); have HZ16 := aS hat.size; have HO16 := aS (hat.obj HO15.out HN.out id); have HBX16 := aS (hat.obj HBX15.out NHBX.out id); have HXB16 := aS (hat.obj HXB15.out NHXB.out id); have HP16 := aS (HP15.out.no hat (fun k hk => by have h1 := hk.1; have := HW.out; omega)); have g7 := blk_frozen HXB16.out 7; have g8 := blk_frozen HXB16.out 8; have p7 := cH HXB16.out 7;  have p8 := cH HXB16.out 8; clear hq hb hat)
    clear g7 g8 p7 p8
    have HXB17 := aS (show ((w16.setCell ⟨xb, 7, none⟩ (.string lo.f0)).setCell ⟨xb, 8, none⟩ (.int .i64 lo.f1)).heap[xb]? = some (.cells #[.int .i64 18, .string ⟨#[]⟩, .int .i64 0, .string ⟨#[]⟩, .int .i64 0, .string hi.f0, .int .i64 hi.f1, .string lo.f0, .int .i64 lo.f1, .string ⟨#[]⟩, .slice none 0 0] 56) from (set_heap (i := 8) (v := .int .i64 lo.f1) (set_heap (i := 7) (v := .string lo.f0) HXB16.out)))
    have HA17 := aS ((HA16.out.own (p := ⟨xb, 7, none⟩) (.inl GE.out) NHXB.out (.string lo.f0)).own (p := ⟨xb, 8, none⟩) (.inl GE.out) NHXB.out (.int .i64 lo.f1))
    have HS17 := aS (HS16.out.step (((HS16.out.same (X := fun k => k = xb)).own (p := ⟨xb, 7, none⟩) (.inr rfl) NHXB.out (.string lo.f0)).own (p := ⟨xb, 8, none⟩) (.inr rfl) NHXB.out (.int .i64 lo.f1)) (fun k hk => by have h1 : k = xb := hk; have h2 : w.heap.size ≤ xb := GE.out; have h3 := HW.out; have h4 := HS16.out.low; omega) HS16.out.room)
    have HO17 := aS ((Below.heap_setCell _ ⟨xb, 8, none⟩ (.int .i64 lo.f1) _ DHO_HXB.out).trans ((Below.heap_setCell _ ⟨xb, 7, none⟩ (.string lo.f0) _ DHO_HXB.out).trans HO16.out))
    have HBX17 := aS ((Below.heap_setCell _ ⟨xb, 8, none⟩ (.int .i64 lo.f1) _ DHBX_HXB.out).trans ((Below.heap_setCell _ ⟨xb, 7, none⟩ (.string lo.f0) _ DHBX_HXB.out).trans HBX16.out))
    have HP17 := aS ((HP16.out.own (p := ⟨xb, 7, none⟩) (fun k hk => hk.2.2) (.string lo.f0)).own (p := ⟨xb, 8, none⟩) (fun k hk => hk.2.2) (.int .i64 lo.f1))
    generalize ((w16.setCell ⟨xb, 7, none⟩ (.string lo.f0)).setCell ⟨xb, 8, none⟩ (.int .i64 lo.f1)) = w17 at *
    go_upto_region 13 with (go_at_call 39; refine calls_tells (need_tells ⟨#[93]⟩ HS17.out) ?_ ?bad17; (case bad17 => exact (fun er t b a2 w' hq ht hb ha hat => And.intro rfl (tells_bad (and_bad HQ16.out rfl hq) ht hb ha (HA17.out.then_ hat)))); rintro u r b4 vv w18 hq rfl hb rfl hat; have qq := and_ok HQ16.out rfl hq; (try dsimp only at qq); have HQN := aS qq; clear qq; have HA18 := aS (HA17.out.then_ hat); have HS18 := aS (HS17.out.next hat hb); have HZ18 := aS hat.size; have HO18 := aS (hat.obj HO17.out HN.out id); have HBX18 := aS (hat.obj HBX17.out NHBX.out id); have HXB18 := aS (hat.obj HXB17.out NHXB.out id); have HP18 := aS (HP17.out.no hat (fun k hk => by have h1 := hk.1; have := HW.out; omega)); clear hq hb hat)
    have HBR := aS (below_alloc (bR w18.heap.size w18) (.cells #[.int .i64 x.f0, .string x.f1.f0, .int .i64 x.f1.f1, .string x.f2.f0, .int .i64 x.f2.f1, .string x.f3.f0, .int .i64 x.f3.f1, .string x.f4.f0, .int .i64 x.f4.f1, .string x.f5, .slice B x.f6.length q] 56))
    have hxr := fbelow HXB18.out HBR.out
    have g10 := blk_frozen hxr 10
    have p10 := cH hxr 10
    have m0 := cH HBX18.out 0; have m1 := cH HBX18.out 1; have m2 := cH HBX18.out 2; have m3 := cH HBX18.out 3; have m4 := cH HBX18.out 4; have m5 := cH HBX18.out 5; have m6 := cH HBX18.out 6; have m7 := cH HBX18.out 7; have m8 := cH HBX18.out 8; have m9 := cH HBX18.out 9; have m10 := cH HBX18.out 10;
    go_upto_region 14 with (fail)
    clear hxr g10 p10 m0 m1 m2 m3 m4 m5 m6 m7 m8 m9 m10
    have HSZN := aS (show w.heap.size < w18.heap.size ∧ ab < w18.heap.size ∧ xb < w18.heap.size from ⟨(Array.getElem?_eq_some_iff.1 HO18.out).1, (Array.getElem?_eq_some_iff.1 HBX18.out).1, (Array.getElem?_eq_some_iff.1 HXB18.out).1⟩)
    have HRW19 := aS (show ExR (fun k => w.heap.size < k ∧ k ≠ ab ∧ k ≠ xb) (w18.alloc (.cells #[.int .i64 x.f0, .string x.f1.f0, .int .i64 x.f1.f1, .string x.f2.f0, .int .i64 x.f2.f1, .string x.f3.f0, .int .i64 x.f3.f1, .string x.f4.f0, .int .i64 x.f4.f1, .string x.f5, .slice B x.f6.length q] 56)) (.slice (some ⟨w18.heap.size, 0, none⟩) 1 1) [x] from exR_lit (ok := fun k => w.heap.size < k ∧ k ≠ ab ∧ k ≠ xb) (w := w18) ⟨HSZN.out.1, by have := HSZN.out.2.1; omega, by have := HSZN.out.2.2; omega⟩ (reps_one HP18.out) (by simp))
    clear HBR
    have hb := below_alloc (bR w18.heap.size w18) (.cells #[.int .i64 x.f0, .string x.f1.f0, .int .i64 x.f1.f1, .string x.f2.f0, .int .i64 x.f2.f1, .string x.f3.f0, .int .i64 x.f3.f1, .string x.f4.f0, .int .i64 x.f4.f1, .string x.f5, .slice B x.f6.length q] 56)
    have HRWO19 := aS (MapKept.heap_alloc w18 (.cells #[.int .i64 x.f0, .string x.f1.f0, .int .i64 x.f1.f1, .string x.f2.f0, .int .i64 x.f2.f1, .string x.f3.f0, .int .i64 x.f3.f1, .string x.f4.f0, .int .i64 x.f4.f1, .string x.f5, .slice B x.f6.length q] 56)).1
    have NHRWO := aS (show w18.heap.size ≠ bp by have := HS18.out.lt; omega)
    have HA19 := aS (HA18.out.below HS18.out.lt hb)
    have HS19 := aS (HS18.out.below hb)
    have HZ19 := aS hb.size
    have HO19 := aS (fbelow HO18.out hb)
    have HBX19 := aS (fbelow HBX18.out hb)
    have HXB19 := aS (fbelow HXB18.out hb)
    have HP19 := aS (HP18.out.below hb)
    clear hb
    generalize w18.alloc (.cells #[.int .i64 x.f0, .string x.f1.f0, .int .i64 x.f1.f1, .string x.f2.f0, .int .i64 x.f2.f1, .string x.f3.f0, .int .i64 x.f3.f1, .string x.f4.f0, .int .i64 x.f4.f1, .string x.f5, .slice B x.f6.length q] 56) = w19 at *
    generalize w18.heap.size = rb at *
    have HXB20 := aS (show (w19.setCell ⟨xb, 10, none⟩ (.slice (some ⟨rb, 0, none⟩) 1 1)).heap[xb]? = some (.cells #[.int .i64 18, .string ⟨#[]⟩, .int .i64 0, .string ⟨#[]⟩, .int .i64 0, .string hi.f0, .int .i64 hi.f1, .string lo.f0, .int .i64 lo.f1, .string ⟨#[]⟩, .slice (some ⟨rb, 0, none⟩) 1 1] 56) from (set_heap (i := 10) (v := .slice (some ⟨rb, 0, none⟩) 1 1) HXB19.out))
    have HA20 := aS (HA19.out.own (p := ⟨xb, 10, none⟩) (.inl GE.out) NHXB.out (.slice (some ⟨rb, 0, none⟩) 1 1))
    have HS20 := aS (HS19.out.step ((HS19.out.same (X := fun k => k = xb)).own (p := ⟨xb, 10, none⟩) (.inr rfl) NHXB.out (.slice (some ⟨rb, 0, none⟩) 1 1)) (fun k hk => by have h1 : k = xb := hk; have h2 : w.heap.size ≤ xb := GE.out; have h3 := HW.out; have h4 := HS19.out.low; omega) HS19.out.room)
    have HO20 := aS ((Below.heap_setCell _ ⟨xb, 10, none⟩ (.slice (some ⟨rb, 0, none⟩) 1 1) _ DHO_HXB.out).trans HO19.out)
    have HBX20 := aS ((Below.heap_setCell _ ⟨xb, 10, none⟩ (.slice (some ⟨rb, 0, none⟩) 1 1) _ DHBX_HXB.out).trans HBX19.out)
    have HRW20 := aS (HRW19.out.own (p := ⟨xb, 10, none⟩) (fun k hk => hk.2.2) (.slice (some ⟨rb, 0, none⟩) 1 1))
    generalize (w19.setCell ⟨xb, 10, none⟩ (.slice (some ⟨rb, 0, none⟩) 1 1)) = w20 at *
    have HOE := aS (show okE 9 (exCut hi lo x) from okE_up (by simp) (fun k hk => by rcases List.mem_cons.1 hk with rfl | hk; exact HKP.out; cases hk))
    have n0 := cH HXB20.out 0; have n1 := cH HXB20.out 1; have n2 := cH HXB20.out 2; have n3 := cH HXB20.out 3; have n4 := cH HXB20.out 4; have n5 := cH HXB20.out 5; have n6 := cH HXB20.out 6; have n7 := cH HXB20.out 7; have n8 := cH HXB20.out 8; have n9 := cH HXB20.out 9; have n10 := cH HXB20.out 10;
    obtain ⟨y9, hy9⟩ := and_get HQN.out
    have HX9 := aS hy9
    clear hy9
    go_upto_region 7 with (go_at_call 80; refine calls_tells (made_tells G bp s A c l begun fv b4 _ HS20.out 9 (by omega) (exCut hi lo x) _ (But w.heap.size ab) (fun k hk => by have h1 := hk.1; have := HW.out; omega) ⟨_, _, rfl, HRW20.out.mono (fun k hk => ⟨hk.1, hk.2.1⟩), HOE.out⟩ a' HROOM.out y9 HX9.out) ?_ ?bad; (case bad => exact (fun er t b a2 w' hq ht hb ha hat => And.intro rfl (tells_bad (and_bad HQN.out HX9.out hq) ht hb ha (HA20.out.then_ hat)))); rintro z r b5 x5 w21 hq rfl hb ⟨E, e5, rfl, hx, ho⟩ hat; have HQZ := aS (and_ok HQN.out HX9.out hq); have HZZ := aS hx; have HKZ := aS ho; have HA21 := aS (HA20.out.then_ hat); have HS21 := aS (HS20.out.next hat hb); have HZ21 := aS hat.size; have HO21 := aS (hat.obj HO20.out HN.out id); have HBX21 := aS (hat.obj HBX20.out NHBX.out id); have HXB21 := aS (hat.obj HXB20.out NHXB.out id); have HRW21 := aS (HRW20.out.no hat (fun k hk => by have h1 := hk.1; have := HW.out; omega)); have ho6 := HBX21.out; have f0 := blk_frozen ho6 0; have j0 := cH ho6 0; have f1 := blk_frozen ho6 1; have j1 := cH ho6 1; have f2 := blk_frozen ho6 2; have j2 := cH ho6 2; have f3 := blk_frozen ho6 3; have j3 := cH ho6 3; have f4 := blk_frozen ho6 4; have j4 := cH ho6 4; have f5 := blk_frozen ho6 5; have j5 := cH ho6 5; have f6 := blk_frozen ho6 6; have j6 := cH ho6 6; have f7 := blk_frozen ho6 7; have j7 := cH ho6 7; have f8 := blk_frozen ho6 8; have j8 := cH ho6 8; have f9 := blk_frozen ho6 9; have j9 := cH ho6 9; have f10 := blk_frozen ho6 10; have j10 := cH ho6 10; clear hq hb hx ho hat ho6)
    change Code.wp _ _ _ _ (fillW w21 ab z (.slice E z.f6.length e5))
    have HAZ := aS (fillW_at HA21.out (.inl (Nat.le_of_lt HAB.out)) NHBX.out z (.slice E z.f6.length e5))
    have HSZ := aS (HS21.out.step (fillW_at (HS21.out.same (X := fun k => k = ab)) (.inr rfl) NHBX.out z (.slice E z.f6.length e5)) (fun k hk => by have h1 : k = ab := hk; have h2 := HAB.out; have h3 := HW.out; have h4 := HS21.out.low; omega) HS21.out.room)
    have HBXZ := aS (fillW_heap HBX21.out z (.slice E z.f6.length e5))
    have HOZ := aS (fillW_other HO21.out (show w.heap.size ≠ ab by have := HAB.out; omega) z (.slice E z.f6.length e5))
    have HXZ := aS (fillW_ex HZZ.out (fun k hk => hk.2) z (.slice E z.f6.length e5))
    clear f0 j0 n0 f1 j1 n1 f2 j2 n2 f3 j3 n3 f4 j4 n4 f5 j5 n5 f6 j6 n6 f7 j7 n7 f8 j8 n8 f9 j9 n9 f10 j10 n10
    generalize fillW w21 ab z (.slice E z.f6.length e5) = wz at *
    have yz := blk_cell HSZ.out.blk 2
    go_wp2
    go_roundg j
    case measure => omega
    case rel => exact ⟨b5, z, E, e5, rfl, ⟨by have := HK.out; omega⟩, HQZ, HAZ, HSZ, HOZ, HBXZ, HXZ, HKZ⟩
   ·go_upto_region 13 with (go_at_call 39; refine calls_tells (need_tells ⟨#[93]⟩ HS15.out) ?_ ?bad15; (case bad15 => exact (fun er t b a2 w' hq ht hb ha hat => And.intro rfl (tells_bad (and_bad HQ15.out rfl hq) ht hb ha (HA15.out.then_ hat)))); rintro u r b4 vv w16 hq rfl hb rfl hat; have qq := and_ok HQ15.out rfl hq; (try dsimp only at qq); have HQN := aS qq; clear qq; have HA16 := aS (HA15.out.then_ hat); have HS16 := aS (HS15.out.next hat hb); have HZ16 := aS hat.size; have HO16 := aS (hat.obj HO15.out HN.out id); have HBX16 := aS (hat.obj HBX15.out NHBX.out id); have HXB16 := aS (hat.obj HXB15.out NHXB.out id); have HP16 := aS (HP15.out.no hat (fun k hk => by have h1 := hk.1; have := HW.out; omega)); clear hq hb hat)
    have HBR := aS (below_alloc (bR w16.heap.size w16) (.cells #[.int .i64 x.f0, .string x.f1.f0, .int .i64 x.f1.f1, .string x.f2.f0, .int .i64 x.f2.f1, .string x.f3.f0, .int .i64 x.f3.f1, .string x.f4.f0, .int .i64 x.f4.f1, .string x.f5, .slice B x.f6.length q] 56))
    have hxr := fbelow HXB16.out HBR.out
    have g10 := blk_frozen hxr 10
    have p10 := cH hxr 10
    have m0 := cH HBX16.out 0; have m1 := cH HBX16.out 1; have m2 := cH HBX16.out 2; have m3 := cH HBX16.out 3; have m4 := cH HBX16.out 4; have m5 := cH HBX16.out 5; have m6 := cH HBX16.out 6; have m7 := cH HBX16.out 7; have m8 := cH HBX16.out 8; have m9 := cH HBX16.out 9; have m10 := cH HBX16.out 10;
    go_upto_region 14 with (fail)
    clear hxr g10 p10 m0 m1 m2 m3 m4 m5 m6 m7 m8 m9 m10
    have HSZN := aS (show w.heap.size < w16.heap.size ∧ ab < w16.heap.size ∧ xb < w16.heap.size from ⟨(Array.getElem?_eq_some_iff.1 HO16.out).1, (Array.getElem?_eq_some_iff.1 HBX16.out).1, (Array.getElem?_eq_some_iff.1 HXB16.out).1⟩)
    have HRW17 := aS (show ExR (fun k => w.heap.size < k ∧ k ≠ ab ∧ k ≠ xb) (w16.alloc (.cells #[.int .i64 x.f0, .string x.f1.f0, .int .i64 x.f1.f1, .string x.f2.f0, .int .i64 x.f2.f1, .string x.f3.f0, .int .i64 x.f3.f1, .string x.f4.f0, .int .i64 x.f4.f1, .string x.f5, .slice B x.f6.length q] 56)) (.slice (some ⟨w16.heap.size, 0, none⟩) 1 1) [x] from exR_lit (ok := fun k => w.heap.size < k ∧ k ≠ ab ∧ k ≠ xb) (w := w16) ⟨HSZN.out.1, by have := HSZN.out.2.1; omega, by have := HSZN.out.2.2; omega⟩ (reps_one HP16.out) (by simp))
    clear HBR
    have hb := below_alloc (bR w16.heap.size w16) (.cells #[.int .i64 x.f0, .string x.f1.f0, .int .i64 x.f1.f1, .string x.f2.f0, .int .i64 x.f2.f1, .string x.f3.f0, .int .i64 x.f3.f1, .string x.f4.f0, .int .i64 x.f4.f1, .string x.f5, .slice B x.f6.length q] 56)
    have HRWO17 := aS (MapKept.heap_alloc w16 (.cells #[.int .i64 x.f0, .string x.f1.f0, .int .i64 x.f1.f1, .string x.f2.f0, .int .i64 x.f2.f1, .string x.f3.f0, .int .i64 x.f3.f1, .string x.f4.f0, .int .i64 x.f4.f1, .string x.f5, .slice B x.f6.length q] 56)).1
    have NHRWO := aS (show w16.heap.size ≠ bp by have := HS16.out.lt; omega)
    have HA17 := aS (HA16.out.below HS16.out.lt hb)
    have HS17 := aS (HS16.out.below hb)
    have HZ17 := aS hb.size
    have HO17 := aS (fbelow HO16.out hb)
    have HBX17 := aS (fbelow HBX16.out hb)
    have HXB17 := aS (fbelow HXB16.out hb)
    have HP17 := aS (HP16.out.below hb)
    clear hb
    generalize w16.alloc (.cells #[.int .i64 x.f0, .string x.f1.f0, .int .i64 x.f1.f1, .string x.f2.f0, .int .i64 x.f2.f1, .string x.f3.f0, .int .i64 x.f3.f1, .string x.f4.f0, .int .i64 x.f4.f1, .string x.f5, .slice B x.f6.length q] 56) = w17 at *
    generalize w16.heap.size = rb at *
    have HXB18 := aS (show (w17.setCell ⟨xb, 10, none⟩ (.slice (some ⟨rb, 0, none⟩) 1 1)).heap[xb]? = some (.cells #[.int .i64 18, .string ⟨#[]⟩, .int .i64 0, .string ⟨#[]⟩, .int .i64 0, .string hi.f0, .int .i64 hi.f1, .string hi.f0, .int .i64 hi.f1, .string ⟨#[]⟩, .slice (some ⟨rb, 0, none⟩) 1 1] 56) from (set_heap (i := 10) (v := .slice (some ⟨rb, 0, none⟩) 1 1) HXB17.out))
    have HA18 := aS (HA17.out.own (p := ⟨xb, 10, none⟩) (.inl GE.out) NHXB.out (.slice (some ⟨rb, 0, none⟩) 1 1))
    have HS18 := aS (HS17.out.step ((HS17.out.same (X := fun k => k = xb)).own (p := ⟨xb, 10, none⟩) (.inr rfl) NHXB.out (.slice (some ⟨rb, 0, none⟩) 1 1)) (fun k hk => by have h1 : k = xb := hk; have h2 : w.heap.size ≤ xb := GE.out; have h3 := HW.out; have h4 := HS17.out.low; omega) HS17.out.room)
    have HO18 := aS ((Below.heap_setCell _ ⟨xb, 10, none⟩ (.slice (some ⟨rb, 0, none⟩) 1 1) _ DHO_HXB.out).trans HO17.out)
    have HBX18 := aS ((Below.heap_setCell _ ⟨xb, 10, none⟩ (.slice (some ⟨rb, 0, none⟩) 1 1) _ DHBX_HXB.out).trans HBX17.out)
    have HRW18 := aS (HRW17.out.own (p := ⟨xb, 10, none⟩) (fun k hk => hk.2.2) (.slice (some ⟨rb, 0, none⟩) 1 1))
    generalize (w17.setCell ⟨xb, 10, none⟩ (.slice (some ⟨rb, 0, none⟩) 1 1)) = w18 at *
    have HOE := aS (show okE 9 (exCut hi hi x) from okE_up (by simp) (fun k hk => by rcases List.mem_cons.1 hk with rfl | hk; exact HKP.out; cases hk))
    have n0 := cH HXB18.out 0; have n1 := cH HXB18.out 1; have n2 := cH HXB18.out 2; have n3 := cH HXB18.out 3; have n4 := cH HXB18.out 4; have n5 := cH HXB18.out 5; have n6 := cH HXB18.out 6; have n7 := cH HXB18.out 7; have n8 := cH HXB18.out 8; have n9 := cH HXB18.out 9; have n10 := cH HXB18.out 10;
    obtain ⟨y9, hy9⟩ := and_get HQN.out
    have HX9 := aS hy9
    clear hy9
    go_upto_region 7 with (go_at_call 80; refine calls_tells (made_tells G bp s A c l begun fv b4 _ HS18.out 9 (by omega) (exCut hi hi x) _ (But w.heap.size ab) (fun k hk => by have h1 := hk.1; have := HW.out; omega) ⟨_, _, rfl, HRW18.out.mono (fun k hk => ⟨hk.1, hk.2.1⟩), HOE.out⟩ a' HROOM.out y9 HX9.out) ?_ ?bad; (case bad => exact (fun er t b a2 w' hq ht hb ha hat => And.intro rfl (tells_bad (and_bad HQN.out HX9.out hq) ht hb ha (HA18.out.then_ hat)))); rintro z r b5 x5 w19 hq rfl hb ⟨E, e5, rfl, hx, ho⟩ hat; have HQZ := aS (and_ok HQN.out HX9.out hq); have HZZ := aS hx; have HKZ := aS ho; have HA19 := aS (HA18.out.then_ hat); have HS19 := aS (HS18.out.next hat hb); have HZ19 := aS hat.size; have HO19 := aS (hat.obj HO18.out HN.out id); have HBX19 := aS (hat.obj HBX18.out NHBX.out id); have HXB19 := aS (hat.obj HXB18.out NHXB.out id); have HRW19 := aS (HRW18.out.no hat (fun k hk => by have h1 := hk.1; have := HW.out; omega)); have ho6 := HBX19.out; have f0 := blk_frozen ho6 0; have j0 := cH ho6 0; have f1 := blk_frozen ho6 1; have j1 := cH ho6 1; have f2 := blk_frozen ho6 2; have j2 := cH ho6 2; have f3 := blk_frozen ho6 3; have j3 := cH ho6 3; have f4 := blk_frozen ho6 4; have j4 := cH ho6 4; have f5 := blk_frozen ho6 5; have j5 := cH ho6 5; have f6 := blk_frozen ho6 6; have j6 := cH ho6 6; have f7 := blk_frozen ho6 7; have j7 := cH ho6 7; have f8 := blk_frozen ho6 8; have j8 := cH ho6 8; have f9 := blk_frozen ho6 9; have j9 := cH ho6 9; have f10 := blk_frozen ho6 10; have j10 := cH ho6 10; clear hq hb hx ho hat ho6)
    change Code.wp _ _ _ _ (fillW w19 ab z (.slice E z.f6.length e5))
    have HAZ := aS (fillW_at HA19.out (.inl (Nat.le_of_lt HAB.out)) NHBX.out z (.slice E z.f6.length e5))
    have HSZ := aS (HS19.out.step (fillW_at (HS19.out.same (X := fun k => k = ab)) (.inr rfl) NHBX.out z (.slice E z.f6.length e5)) (fun k hk => by have h1 : k = ab := hk; have h2 := HAB.out; have h3 := HW.out; have h4 := HS19.out.low; omega) HS19.out.room)
    have HBXZ := aS (fillW_heap HBX19.out z (.slice E z.f6.length e5))
    have HOZ := aS (fillW_other HO19.out (show w.heap.size ≠ ab by have := HAB.out; omega) z (.slice E z.f6.length e5))
    have HXZ := aS (fillW_ex HZZ.out (fun k hk => hk.2) z (.slice E z.f6.length e5))
    clear f0 j0 n0 f1 j1 n1 f2 j2 n2 f3 j3 n3 f4 j4 n4 f5 j5 n5 f6 j6 n6 f7 j7 n7 f8 j8 n8 f9 j9 n9 f10 j10 n10
    generalize fillW w19 ab z (.slice E z.f6.length e5) = wz at *
    have yz := blk_cell HSZ.out.blk 2
    go_wp2
    go_roundg j
    case measure => omega
    case rel => exact ⟨b5, z, E, e5, rfl, ⟨by have := HK.out; omega⟩, HQZ, HAZ, HSZ, HOZ, HBXZ, HXZ, HKZ⟩
  ·go_wp2
   exact ret_fill rfl rfl HO11.out HA11.out HN.out (.inl (Nat.le_refl _)) (fun k hk => by have := hk.1; omega) (fun k hk => Nat.le_of_lt hk.1) HP11.out HKP.out HR.out rfl HS11.out.room
theorem unary_tells {G bp : Nat} {s : ByteArray} {A : Option Addr} {c : Nat} {l : List Tok} {begun : Int} {fv : Value} {k : Nat} (hU : UnaryT G bp s A c l begun fv k) (hP : PrimaryT G bp s A c l begun fv k) : UnaryT G bp s A c l begun fv (k + 1) := by
 intro a w res h hres
 cases ht : takeP [126] (l.drop a) with
 | none => exact unary_cut G bp s A c l begun fv k hP a w res h ht hres
 | some r0 => exact unary_inv G bp s A c l begun fv k hU a w res h r0 ht hres
end Go.Proofs.YtenogedclignmaaDoor.Q
