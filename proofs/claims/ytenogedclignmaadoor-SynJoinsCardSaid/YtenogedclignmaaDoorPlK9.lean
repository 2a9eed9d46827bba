/-
  HELPER.
-/
import Derived.Test.YtenogedclignmaaDoorPlKA
import Derived.Test.YtenogedclignmaaDoorPlK8
set_option linter.unusedVariables false
set_option linter.unusedSimpArgs false
namespace Go.Proofs.YtenogedclignmaaDoor.Q
open Go.RowKit Go.Maps Go.WideMaps Go.Proofs.YtenogedclignmaaDoorW.PrintWords Go.Proofs.YtenogedclignmaaDoorW.PrintLast Go.Proofs.YtenogedclignmaaDoorW.PrintMore
theorem MapAt.look2 {g j : Nat} {L : List (List UInt8 × Int)} {w : World} (h : MapAt g j L w) (x : ByteArray) (hx : x.size ≤ 140737488355328) :
  ∃ bm, w.cell? ⟨g, j, none⟩ = some (.map (some bm)) ∧ (Instr.lookup 82 (.map (some bm)) (.string x) true).run Tryd.prog w = .ok (.tuple #[.int .i64 ((L.lookup x.data.toList).getD 0), .bool (L.lookup x.data.toList).isSome]) w := by
 obtain ⟨bm, n, hc, hown⟩ := h
 have hkey := keyOf_string_mk (s := x) Tryd.underlying9 (by unfold maxLen; omega)
 obtain ⟨v, ps, hrun, hv⟩ := World.ownsMap.look_ok hown strKey Tryd.underlying82 (zeroInt w) (plainElem_int Tryd.underlying3 (by decide)) hkey
 obtain ⟨q, rfl, hq, _⟩ := plainElem_int_inv Tryd.underlying3 hv
 simp only [Prod.mk.injEq] at hq
 have hat := hq.1
 rw [atKey_enc] at hat
 cases hat
 rw [has_enc] at hrun
 exact ⟨bm, hc, hrun⟩
theorem looks_lt2 {l : List Tok} {a : Nat} (h : txt (looks (l.drop a)) ≠ []) : a < l.length := by
 by_cases hlt : a < l.length
 ·exact hlt
 ·exfalso; apply h
  rw [List.drop_eq_nil_of_le (by omega)]; rfl
set_option maxHeartbeats 8000000 in
set_option maxRecDepth 100000 in
theorem primary_plain (G bp : Nat) (s : ByteArray) (A : Option Addr) (c : Nat) (l : List Tok) (begun : Int) (fv : Value) (k : Nat)  (a : Nat) (w : World) (res : PR Ex) (h : St G bp s A c l begun fv a w) (tk : Tok) (htk : looks (l.drop a) = tk) (hp : tk.f0 = 2 ∨ tk.f0 = 1 ∧ wordP (txt tk) = false) (hres : primaryP (k + 1) (l.drop a) = some res) : Calls Tryd.prog 90 #[.pointer (some ⟨bp, 0, none⟩)] w (Tells bp l no w (encE (Lo w.heap.size) 8) res) := by
 have HROOM := aS h.room
 have hb1 := below_alloc (bR w.heap.size w) (.cells #[.int .i64 0, .string ⟨#[]⟩, .int .i64 0, .string ⟨#[]⟩, .int .i64 0, .string ⟨#[]⟩, .int .i64 0, .string ⟨#[]⟩, .int .i64 0, .string ⟨#[]⟩, .slice none 0 0] 56)
 have HO1 := aS (MapKept.heap_alloc w (.cells #[.int .i64 0, .string ⟨#[]⟩, .int .i64 0, .string ⟨#[]⟩, .int .i64 0, .string ⟨#[]⟩, .int .i64 0, .string ⟨#[]⟩, .int .i64 0, .string ⟨#[]⟩, .slice none 0 0] 56)).1
 have HA1 := aS ((h.same (X := no)).below h.lt hb1)
 have HS1 := aS (h.below hb1)
 have HN := aS (show w.heap.size ≠ bp by have := h.lt; omega)
 have HW := aS h.lt
 have HZ := aS (show (w.alloc (.cells #[.int .i64 0, .string ⟨#[]⟩, .int .i64 0, .string ⟨#[]⟩, .int .i64 0, .string ⟨#[]⟩, .int .i64 0, .string ⟨#[]⟩, .int .i64 0, .string ⟨#[]⟩, .slice none 0 0] 56)).heap.size = w.heap.size + 1 by show (w.heap.push _).size = _; simp)
 clear h hb1
 have HTK := aS htk
 have hsz := looks_short HS1.out.short a
 rw [htk] at hsz
 have HSZ := aS hsz
 clear hsz htk
 have y2 := blk_cell HS1.out.blk 2
 have HQ := aS (show some (plainP (l.drop a)) = some res by rw [← hres, primaryP, if_pos (by rw [HTK.out]; exact hp)])
 clear hres
 obtain ⟨q2, hq2⟩ : ∃ q, (tk.f0 == 2) = q := ⟨_, rfl⟩
 have HPL := aS hp
 clear hp
 cases q2
 all_goals
  (try have HWD := aS (show wordP tk.f1.data.toList = false from (HPL.out.resolve_left (by simpa using hq2)).2))
  (try have e1 : (tk.f0 == 1) = true := beq_iff_eq.2 (HPL.out.resolve_left (by simpa using hq2)).1)
  go_enter Tryd.func90, Tryd.ntmps90
  go_upto_region 1 with (fail)
  generalize w.alloc (.cells #[.int .i64 0, .string ⟨#[]⟩, .int .i64 0, .string ⟨#[]⟩, .int .i64 0, .string ⟨#[]⟩, .int .i64 0, .string ⟨#[]⟩, .int .i64 0, .string ⟨#[]⟩, .slice none 0 0] 56) = w1 at *
  go_region_held3 (fun w' => w'.cell? ⟨bp, 2, none⟩ = some (.int .i64 a)) (go_keep) (first | (go_at_call 33; refine (look_at bp s A c l begun fv a tk HTK.out _ (HS1.out.below (by repeat (first | exact bR _ _ | apply below_drew | apply pw_below_drewN | apply below_alloc))).ps).mono ?_; rintro e w2 ⟨rfl, hb⟩; have HB2 := aS hb; have z2 : w2.cell? ⟨bp, 2, none⟩ = some (.int .i64 a) := blk_cell (PS.below (HS1.out.below (by repeat (first | exact bR _ _ | apply below_drew | apply pw_below_drewN | apply below_alloc))).ps hb).blk 2; (try (have hzt : w2.heap[w1.heap.size]? = some (.cells #[.int .i64 0, .string ⟨#[]⟩, .int .i64 0, .int .i64 0] 37) := fbelow (heap_drew (MapKept.heap_alloc w1 (.cells #[.int .i64 0, .string ⟨#[]⟩, .int .i64 0, .int .i64 0] 37)).1) hb; have nz := (show w1.heap.size ≠ bp by have := HS1.out.lt; omega); have zt0 := cH hzt 0; have zt1 := cH hzt 1; have zt2 := cH hzt 2; have zt3 := cH hzt 3;have zf0 := blk_frozen hzt 0; have zg0 := cH hzt 0; have zf1 := blk_frozen hzt 1; have zg1 := cH hzt 1; have zf2 := blk_frozen hzt 2; have zg2 := cH hzt 2; have zf3 := blk_frozen hzt 3; have zg3 := cH hzt 3; have HZT := aS hzt; clear hzt)); clear hb))
 all_goals
  (first | (have hb := below_fill4 (b0 := .int .i64 tk.f0) (b1 := .string tk.f1) (b2 := .int .i64 tk.f2) (b3 := .int .i64 tk.f3) ((below_drew (below_alloc (bR w1.heap.size w1) (.cells #[.int .i64 0, .string ⟨#[]⟩, .int .i64 0, .int .i64 0] 37))).trans (HB2.out.mono (show w1.heap.size ≤ (w1.alloc (.cells #[.int .i64 0, .string ⟨#[]⟩, .int .i64 0, .int .i64 0] 37)).heap.size by show _ ≤ (w1.heap.push _).size; simp))) (Nat.le_refl w1.heap.size); have HTB3 := aS (fill4 (b0 := .int .i64 tk.f0) (b1 := .string tk.f1) (b2 := .int .i64 tk.f2) (b3 := .int .i64 tk.f3) HZT.out); have NHTB := aS (show w1.heap.size ≠ bp by have := HS1.out.lt; omega); have HA3 := aS (HA1.out.below HS1.out.lt hb); have HS3 := aS (HS1.out.below hb); have HO3 := aS (fbelow HO1.out hb); clear hb z2 nz HZT zt0 zf0 zg0 zt1 zf1 zg1 zt2 zf2 zg2 zt3 zf3 zg3; generalize ((((w2.setCell ⟨w1.heap.size, 0, none⟩ (.int .i64 tk.f0)).setCell ⟨w1.heap.size, 1, none⟩ (.string tk.f1)).setCell ⟨w1.heap.size, 2, none⟩ (.int .i64 tk.f2)).setCell ⟨w1.heap.size, 3, none⟩ (.int .i64 tk.f3)) = w3 at *; obtain ⟨tb, htb⟩ : ∃ tb, w1.heap.size = tb := ⟨_, rfl⟩; simp only [htb] at HTB3 NHTB ⊢; clear htb) | (have hb := below_alloc ((below_drew (bR w1.heap.size w1)).trans HB2.out) (.cells #[.int .i64 tk.f0, .string tk.f1, .int .i64 tk.f2, .int .i64 tk.f3] 37); have HTB3 := aS (MapKept.heap_alloc w2 (.cells #[.int .i64 tk.f0, .string tk.f1, .int .i64 tk.f2, .int .i64 tk.f3] 37)).1; have NHTB := aS (show w2.heap.size ≠ bp by have h1 := HB2.out.size; have h2 := HS1.out.lt; have h3 : w1.drew.heap.size = w1.heap.size := rfl; omega); have HA3 := aS (HA1.out.below HS1.out.lt hb); have HS3 := aS (HS1.out.below hb); have HO3 := aS (fbelow HO1.out hb); clear hb z2; generalize w2.alloc (.cells #[.int .i64 tk.f0, .string tk.f1, .int .i64 tk.f2, .int .i64 tk.f3] 37) = w3 at *; generalize w2.heap.size = tb at *))
  clear HB2 y2
  obtain ⟨bm, hbm3, hlk⟩ := MapAt.look2 HS3.out.tab.tab.words tk.f1 HSZ.out
  obtain ⟨op, hop⟩ : ∃ op, (wordsL.lookup tk.f1.data.toList).getD 0 = op := ⟨_, rfl⟩
  obtain ⟨iw, hiw⟩ : ∃ iw, (wordsL.lookup tk.f1.data.toList).isSome = iw := ⟨_, rfl⟩
  rw [hop, hiw] at hlk
  have HOP := aS hop
  have HIW := aS hiw
  clear hop hiw
  have t0 := cH HTB3.out 0
  have t1 := cH HTB3.out 1
  go_upto_region 3 with (fail)
 all_goals
  clear hbm3 hlk
  go_wp2_with (first | (go_at_call 92; refine calls_tells (plain_tells HS3.out) ?_ (fun er t b a2 w' hq ht hb ha hat => And.intro rfl (tells_bad (show some (PR.bad er t) = some res by rw [← hq]; exact HQ.out) ht hb ha (HA3.out.then_ hat))); rintro x r b vv w4 hq rfl hb ⟨B, q, rfl, hx, ho⟩ hat; have HR := aS (show some (PR.ok x (l.drop b)) = some res by rw [← hq]; exact HQ.out); have HX4 := aS (hx.mono (ok' := (fun k => w.heap.size < k)) (fun k hk => by have h1 : w3.heap.size ≤ k := hk; have h2 := (Array.getElem?_eq_some_iff.1 HO3.out).1; show w.heap.size < k; omega)); have HK4 := aS ho; have HA4 := aS (HA3.out.then_ hat); have HS4 := aS (HS3.out.next hat hb); have HZ4 := aS hat.size; have HO4 := aS (hat.obj HO3.out HN.out id); have HTB4 := aS (hat.obj HTB3.out NHTB.out id);  have ho6 := HO4.out; have f0 := blk_frozen ho6 0; have j0 := cH ho6 0; have f1 := blk_frozen ho6 1; have j1 := cH ho6 1; have f2 := blk_frozen ho6 2; have j2 := cH ho6 2; have f3 := blk_frozen ho6 3; have j3 := cH ho6 3; have f4 := blk_frozen ho6 4; have j4 := cH ho6 4; have f5 := blk_frozen ho6 5; have j5 := cH ho6 5; have f6 := blk_frozen ho6 6; have j6 := cH ho6 6; have f7 := blk_frozen ho6 7; have j7 := cH ho6 7; have f8 := blk_frozen ho6 8; have j8 := cH ho6 8; have f9 := blk_frozen ho6 9; have j9 := cH ho6 9; have f10 := blk_frozen ho6 10; have j10 := cH ho6 10; clear ho6; clear hq hb hx ho hat) | (go_at_call 18; refine (word_calls tk.f1 _ HS3.out.tab.tab HSZ.out).mono ?_; rintro e w5 ⟨rfl, hw5⟩; rw [HWD.out, hw5]; clear hw5))
  exact ret_fill rfl rfl HO4.out HA4.out HN.out (.inl (Nat.le_refl _)) (fun k hk => by have h1 : w.heap.size < k := hk; omega) (fun k hk => Nat.le_of_lt hk) HX4.out HK4.out HR.out rfl HS4.out.room
set_option maxHeartbeats 8000000 in
set_option maxRecDepth 100000 in
theorem primary_round (G bp : Nat) (s : ByteArray) (A : Option Addr) (c : Nat) (l : List Tok) (begun : Int) (fv : Value) (k : Nat) (hE : ExprT G bp s A c l begun fv k) (a : Nat) (w : World) (res : PR Ex) (h : St G bp s A c l begun fv a w) (tk : Tok) (htk : looks (l.drop a) = tk) (hnp : ¬ (tk.f0 = 2 ∨ tk.f0 = 1 ∧ wordP (txt tk) = false)) (ht : takeP [40] (l.drop a) = some (l.drop (a + 1))) (hres : primaryP (k + 1) (l.drop a) = some res) : Calls Tryd.prog 90 #[.pointer (some ⟨bp, 0, none⟩)] w (Tells bp l no w (encE (Lo w.heap.size) 8) res) := by
 have HROOM := aS h.room
 have hb1 := below_alloc (bR w.heap.size w) (.cells #[.int .i64 0, .string ⟨#[]⟩, .int .i64 0, .string ⟨#[]⟩, .int .i64 0, .string ⟨#[]⟩, .int .i64 0, .string ⟨#[]⟩, .int .i64 0, .string ⟨#[]⟩, .slice none 0 0] 56)
 have HO1 := aS (MapKept.heap_alloc w (.cells #[.int .i64 0, .string ⟨#[]⟩, .int .i64 0, .string ⟨#[]⟩, .int .i64 0, .string ⟨#[]⟩, .int .i64 0, .string ⟨#[]⟩, .int .i64 0, .string ⟨#[]⟩, .slice none 0 0] 56)).1
 have HA1 := aS ((h.same (X := no)).below h.lt hb1)
 have HS1 := aS (h.below hb1)
 have HN := aS (show w.heap.size ≠ bp by have := h.lt; omega)
 have HW := aS h.lt
 have HZ := aS (show (w.alloc (.cells #[.int .i64 0, .string ⟨#[]⟩, .int .i64 0, .string ⟨#[]⟩, .int .i64 0, .string ⟨#[]⟩, .int .i64 0, .string ⟨#[]⟩, .int .i64 0, .string ⟨#[]⟩, .slice none 0 0] 56)).heap.size = w.heap.size + 1 by show (w.heap.push _).size = _; simp)
 clear h hb1
 have HTK := aS htk
 have hsz := looks_short HS1.out.short a
 rw [htk] at hsz
 have HSZ := aS hsz
 clear hsz htk
 have y2 := blk_cell HS1.out.blk 2
 have HQ1 := aS (show (andThen (exprP k (l.drop (a + 1))) fun x r2 => andThen (some (needP [41] r2)) fun _ r3 => some (.ok x r3)) = some res by rw [← hres, primaryP, if_neg (by rw [HTK.out]; exact hnp), ht])
 have HT := aS ht
 clear ht
 have HE := aS hE
 have hwd : tk.f0 = 1 → wordP tk.f1.data.toList = true := fun h1 => by cases hq : wordP tk.f1.data.toList with | true => rfl | false => exact absurd (.inr ⟨h1, hq⟩) hnp
 have e2 : (tk.f0 == 2) = false := beq_eq_false_iff_ne.2 (fun q => hnp (.inl q))
 have HNP := aS hnp
 have HWD0 := aS hwd
 clear hnp hwd hE hres
 obtain ⟨q1, hq1⟩ : ∃ q, (tk.f0 == 1) = q := ⟨_, rfl⟩
 cases q1
 all_goals
  (try have HWD := aS (HWD0.out (by simpa using hq1)))
  go_enter Tryd.func90, Tryd.ntmps90
  go_upto_region 1 with (fail)
  generalize w.alloc (.cells #[.int .i64 0, .string ⟨#[]⟩, .int .i64 0, .string ⟨#[]⟩, .int .i64 0, .string ⟨#[]⟩, .int .i64 0, .string ⟨#[]⟩, .int .i64 0, .string ⟨#[]⟩, .slice none 0 0] 56) = w1 at *
  go_region_held3 (fun w' => w'.cell? ⟨bp, 2, none⟩ = some (.int .i64 a)) (go_keep) (first | (go_at_call 33; refine (look_at bp s A c l begun fv a tk HTK.out _ (HS1.out.below (by repeat (first | exact bR _ _ | apply below_drew | apply pw_below_drewN | apply below_alloc))).ps).mono ?_; rintro e w2 ⟨rfl, hb⟩; have HB2 := aS hb; have z2 : w2.cell? ⟨bp, 2, none⟩ = some (.int .i64 a) := blk_cell (PS.below (HS1.out.below (by repeat (first | exact bR _ _ | apply below_drew | apply pw_below_drewN | apply below_alloc))).ps hb).blk 2; (try (have hzt : w2.heap[w1.heap.size]? = some (.cells #[.int .i64 0, .string ⟨#[]⟩, .int .i64 0, .int .i64 0] 37) := fbelow (heap_drew (MapKept.heap_alloc w1 (.cells #[.int .i64 0, .string ⟨#[]⟩, .int .i64 0, .int .i64 0] 37)).1) hb; have nz := (show w1.heap.size ≠ bp by have := HS1.out.lt; omega); have zt0 := cH hzt 0; have zt1 := cH hzt 1; have zt2 := cH hzt 2; have zt3 := cH hzt 3;have zf0 := blk_frozen hzt 0; have zg0 := cH hzt 0; have zf1 := blk_frozen hzt 1; have zg1 := cH hzt 1; have zf2 := blk_frozen hzt 2; have zg2 := cH hzt 2; have zf3 := blk_frozen hzt 3; have zg3 := cH hzt 3; have HZT := aS hzt; clear hzt)); clear hb))
 all_goals
  (first | (have hb := below_fill4 (b0 := .int .i64 tk.f0) (b1 := .string tk.f1) (b2 := .int .i64 tk.f2) (b3 := .int .i64 tk.f3) ((below_drew (below_alloc (bR w1.heap.size w1) (.cells #[.int .i64 0, .string ⟨#[]⟩, .int .i64 0, .int .i64 0] 37))).trans (HB2.out.mono (show w1.heap.size ≤ (w1.alloc (.cells #[.int .i64 0, .string ⟨#[]⟩, .int .i64 0, .int .i64 0] 37)).heap.size by show _ ≤ (w1.heap.push _).size; simp))) (Nat.le_refl w1.heap.size); have HTB3 := aS (fill4 (b0 := .int .i64 tk.f0) (b1 := .string tk.f1) (b2 := .int .i64 tk.f2) (b3 := .int .i64 tk.f3) HZT.out); have NHTB := aS (show w1.heap.size ≠ bp by have := HS1.out.lt; omega); have HA3 := aS (HA1.out.below HS1.out.lt hb); have HS3 := aS (HS1.out.below hb); have HO3 := aS (fbelow HO1.out hb); clear hb z2 nz HZT zt0 zf0 zg0 zt1 zf1 zg1 zt2 zf2 zg2 zt3 zf3 zg3; generalize ((((w2.setCell ⟨w1.heap.size, 0, none⟩ (.int .i64 tk.f0)).setCell ⟨w1.heap.size, 1, none⟩ (.string tk.f1)).setCell ⟨w1.heap.size, 2, none⟩ (.int .i64 tk.f2)).setCell ⟨w1.heap.size, 3, none⟩ (.int .i64 tk.f3)) = w3 at *; obtain ⟨tb, htb⟩ : ∃ tb, w1.heap.size = tb := ⟨_, rfl⟩; simp only [htb] at HTB3 NHTB ⊢; clear htb) | (have hb := below_alloc ((below_drew (bR w1.heap.size w1)).trans HB2.out) (.cells #[.int .i64 tk.f0, .string tk.f1, .int .i64 tk.f2, .int .i64 tk.f3] 37); have HTB3 := aS (MapKept.heap_alloc w2 (.cells #[.int .i64 tk.f0, .string tk.f1, .int .i64 tk.f2, .int .i64 tk.f3] 37)).1; have NHTB := aS (show w2.heap.size ≠ bp by have h1 := HB2.out.size; have h2 := HS1.out.lt; have h3 : w1.drew.heap.size = w1.heap.size := rfl; omega); have HA3 := aS (HA1.out.below HS1.out.lt hb); have HS3 := aS (HS1.out.below hb); have HO3 := aS (fbelow HO1.out hb); clear hb z2; generalize w2.alloc (.cells #[.int .i64 tk.f0, .string tk.f1, .int .i64 tk.f2, .int .i64 tk.f3] 37) = w3 at *; generalize w2.heap.size = tb at *))
  clear HB2 y2
  obtain ⟨bm, hbm3, hlk⟩ := MapAt.look2 HS3.out.tab.tab.words tk.f1 HSZ.out
  obtain ⟨op, hop⟩ : ∃ op, (wordsL.lookup tk.f1.data.toList).getD 0 = op := ⟨_, rfl⟩
  obtain ⟨iw, hiw⟩ : ∃ iw, (wordsL.lookup tk.f1.data.toList).isSome = iw := ⟨_, rfl⟩
  rw [hop, hiw] at hlk
  have HOP := aS hop
  have HIW := aS hiw
  clear hop hiw
  have t0 := cH HTB3.out 0
  have t1 := cH HTB3.out 1
  go_upto_region 3 with (fail)
 all_goals
  clear hbm3 hlk
  go_upto_region 7 with (first | (go_at_call 18; refine (word_calls tk.f1 _ HS3.out.tab.tab HSZ.out).mono ?_; rintro e w5 ⟨rfl, hw5⟩; rw [HWD.out, hw5]; clear hw5) | (go_at_call 36; refine calls_take (take_tells ⟨#[40]⟩ HS3.out) ?_ (fun w' hq hat => absurd (hq.symm.trans HT.out) (by simp)); rintro w4 hq hb hat; have HA4 := aS (HA3.out.then_ hat); have HS4 := aS (HS3.out.next hat hb); have HZ4 := aS hat.size; have HO4 := aS (hat.obj HO3.out HN.out id); have HTB4 := aS (hat.obj HTB3.out NHTB.out id);  clear hq hb hat))
  skip
  obtain ⟨y4, hy4⟩ := and_get HQ1.out
  have HX4 := aS hy4
  clear hy4
  go_upto_region 8 with (go_at_call 71; refine calls_tells (HE.out (a + 1) w4 y4 HS4.out HX4.out) ?_ (fun er t b a2 w' hq ht hb ha hat => And.intro rfl (tells_bad (and_bad HQ1.out HX4.out hq) ht hb ha (HA4.out.then_ hat))); rintro x r b vv w5 hq rfl hb ⟨B, q, rfl, hx, ho⟩ hat; have qq := and_ok HQ1.out HX4.out hq; (try dsimp only at qq); have HQ2 := aS qq; clear qq; have HA5 := aS (HA4.out.then_ hat); have HS5 := aS (HS4.out.next hat hb); have HZ5 := aS hat.size; have HO5 := aS (hat.obj HO4.out HN.out id); have HTB5 := aS (hat.obj HTB4.out NHTB.out id); have HP5 := aS (hx.mono (ok' := (fun k => w.heap.size < k)) (fun k hk => by have h1 : w4.heap.size ≤ k := hk; have h2 := (Array.getElem?_eq_some_iff.1 HO4.out).1; show w.heap.size < k; omega)); have HKP := aS ho; clear hq hb hat hx ho)
  have hb := below_alloc (bR w5.heap.size w5) (.cells #[.int .i64 x.f0, .string x.f1.f0, .int .i64 x.f1.f1, .string x.f2.f0, .int .i64 x.f2.f1, .string x.f3.f0, .int .i64 x.f3.f1, .string x.f4.f0, .int .i64 x.f4.f1, .string x.f5, .slice B x.f6.length q] 56)
  have HBX6 := aS (MapKept.heap_alloc w5 (.cells #[.int .i64 x.f0, .string x.f1.f0, .int .i64 x.f1.f1, .string x.f2.f0, .int .i64 x.f2.f1, .string x.f3.f0, .int .i64 x.f3.f1, .string x.f4.f0, .int .i64 x.f4.f1, .string x.f5, .slice B x.f6.length q] 56)).1
  have NHBX := aS (show w5.heap.size ≠ bp by have := HS5.out.lt; omega)
  have HA6 := aS (HA5.out.below HS5.out.lt hb)
  have HS6 := aS (HS5.out.below hb)
  have HZ6 := aS hb.size
  have HO6 := aS (fbelow HO5.out hb)
  have HTB6 := aS (fbelow HTB5.out hb)
  have HP6 := aS (HP5.out.below hb)
  clear hb
  generalize w5.alloc (.cells #[.int .i64 x.f0, .string x.f1.f0, .int .i64 x.f1.f1, .string x.f2.f0, .int .i64 x.f2.f1, .string x.f3.f0, .int .i64 x.f3.f1, .string x.f4.f0, .int .i64 x.f4.f1, .string x.f5, .slice B x.f6.length q] 56) = w6 at *
  go_upto_region 9 with (go_at_call 39; refine calls_tells (need_tells ⟨#[41]⟩ HS6.out) ?_ (fun er t b a2 w' hq ht hb ha hat => And.intro rfl (tells_bad (and_bad HQ2.out rfl hq) ht hb ha (HA6.out.then_ hat))); rintro u r b2 vv w7 hq rfl hb rfl hat; have qq := and_ok HQ2.out rfl hq; (try dsimp only at qq); have HR := aS qq; clear qq; have HA7 := aS (HA6.out.then_ hat); have HS7 := aS (HS6.out.next hat hb); have HZ7 := aS hat.size; have HO7 := aS (hat.obj HO6.out HN.out id); have HTB7 := aS (hat.obj HTB6.out NHTB.out id); have HBX7 := aS (hat.obj HBX6.out NHBX.out id); have HP7 := aS (HP6.out.no hat (fun k hk => by have h1 : w.heap.size < k := hk; have := HW.out; omega)); have ho6 := HO7.out; have f0 := blk_frozen ho6 0; have j0 := cH ho6 0; have f1 := blk_frozen ho6 1; have j1 := cH ho6 1; have f2 := blk_frozen ho6 2; have j2 := cH ho6 2; have f3 := blk_frozen ho6 3; have j3 := cH ho6 3; have f4 := blk_frozen ho6 4; have j4 := cH ho6 4; have f5 := blk_frozen ho6 5; have j5 := cH ho6 5; have f6 := blk_frozen ho6 6; have j6 := cH ho6 6; have f7 := blk_frozen ho6 7; have j7 := cH ho6 7; have f8 := blk_frozen ho6 8; have j8 := cH ho6 8; have f9 := blk_frozen ho6 9; have j9 := cH ho6 9; have f10 := blk_frozen ho6 10; have j10 := cH ho6 10; clear ho6;have m0 := cH HBX7.out 0; have m1 := cH HBX7.out 1; have m2 := cH HBX7.out 2; have m3 := cH HBX7.out 3; have m4 := cH HBX7.out 4; have m5 := cH HBX7.out 5; have m6 := cH HBX7.out 6; have m7 := cH HBX7.out 7; have m8 := cH HBX7.out 8; have m9 := cH HBX7.out 9; have m10 := cH HBX7.out 10; clear hq hb hat)
  go_wp2
  exact ret_fill rfl rfl HO7.out HA7.out HN.out (.inl (Nat.le_refl _)) (fun k hk => by have h1 : w.heap.size < k := hk; omega) (fun k hk => Nat.le_of_lt hk) HP7.out HKP.out HR.out rfl HS7.out.room
set_option maxHeartbeats 8000000 in
set_option maxRecDepth 100000 in
theorem primary_cat (G bp : Nat) (s : ByteArray) (A : Option Addr) (c : Nat) (l : List Tok) (begun : Int) (fv : Value) (k : Nat) (hE : ExprT G bp s A c l begun fv k) (a : Nat) (w : World) (res : PR Ex) (h : St G bp s A c l begun fv a w) (tk : Tok) (htk : looks (l.drop a) = tk) (hnp : ¬ (tk.f0 = 2 ∨ tk.f0 = 1 ∧ wordP (txt tk) = false)) (ht0 : takeP [40] (l.drop a) = none) (ht : takeP [123] (l.drop a) = some (l.drop (a + 1))) (hres : primaryP (k + 1) (l.drop a) = some res) : Calls Tryd.prog 90 #[.pointer (some ⟨bp, 0, none⟩)] w (Tells bp l no w (encE (Lo w.heap.size) 8) res) := by
 have HROOM := aS h.room
 have hb1 := below_alloc (bR w.heap.size w) (.cells #[.int .i64 0, .string ⟨#[]⟩, .int .i64 0, .string ⟨#[]⟩, .int .i64 0, .string ⟨#[]⟩, .int .i64 0, .string ⟨#[]⟩, .int .i64 0, .string ⟨#[]⟩, .slice none 0 0] 56)
 have HO1 := aS (MapKept.heap_alloc w (.cells #[.int .i64 0, .string ⟨#[]⟩, .int .i64 0, .string ⟨#[]⟩, .int .i64 0, .string ⟨#[]⟩, .int .i64 0, .string ⟨#[]⟩, .int .i64 0, .string ⟨#[]⟩, .slice none 0 0] 56)).1
 have HA1 := aS ((h.same (X := no)).below h.lt hb1)
 have HS1 := aS (h.below hb1)
 have HN := aS (show w.heap.size ≠ bp by have := h.lt; omega)
 have HW := aS h.lt
 have HZ := aS (show (w.alloc (.cells #[.int .i64 0, .string ⟨#[]⟩, .int .i64 0, .string ⟨#[]⟩, .int .i64 0, .string ⟨#[]⟩, .int .i64 0, .string ⟨#[]⟩, .int .i64 0, .string ⟨#[]⟩, .slice none 0 0] 56)).heap.size = w.heap.size + 1 by show (w.heap.push _).size = _; simp)
 clear h hb1
 have HTK := aS htk
 have hsz := looks_short HS1.out.short a
 rw [htk] at hsz
 have HSZ := aS hsz
 clear hsz htk
 have y2 := blk_cell HS1.out.blk 2
 have HQ1 := aS (show (andThen (exprP k (l.drop (a + 1))) fun x r2 => andThen (some (needP [44] r2)) fun _ r3 => andThen (exprP k r3) fun y r4 => andThen (some (needP [125] r4)) fun _ r5 => madeP (l.drop a) (exK 17 [x, y]) r5) = some res by rw [← hres, primaryP, if_neg (by rw [HTK.out]; exact hnp), ht0, ht])
 have HT := aS ht
 have HT0 := aS ht0
 clear ht ht0
 have HE := aS hE
 have hwd : tk.f0 = 1 → wordP tk.f1.data.toList = true := fun h1 => by cases hq : wordP tk.f1.data.toList with | true => rfl | false => exact absurd (.inr ⟨h1, hq⟩) hnp
 have e2 : (tk.f0 == 2) = false := beq_eq_false_iff_ne.2 (fun q => hnp (.inl q))
 have HNP := aS hnp
 have HWD0 := aS hwd
 clear hnp hwd hE hres
 obtain ⟨q1, hq1⟩ : ∃ q, (tk.f0 == 1) = q := ⟨_, rfl⟩
 cases q1
 all_goals
  (try have HWD := aS (HWD0.out (by simpa using hq1)))
  go_enter Tryd.func90, Tryd.ntmps90
  go_upto_region 1 with (fail)
  generalize w.alloc (.cells #[.int .i64 0, .string ⟨#[]⟩, .int .i64 0, .string ⟨#[]⟩, .int .i64 0, .string ⟨#[]⟩, .int .i64 0, .string ⟨#[]⟩, .int .i64 0, .string ⟨#[]⟩, .slice none 0 0] 56) = w1 at *
  go_region_held3 (fun w' => w'.cell? ⟨bp, 2, none⟩ = some (.int .i64 a)) (go_keep) (first | (go_at_call 33; refine (look_at bp s A c l begun fv a tk HTK.out _ (HS1.out.below (by repeat (first | exact bR _ _ | apply below_drew | apply pw_below_drewN | apply below_alloc))).ps).mono ?_; rintro e w2 ⟨rfl, hb⟩; have HB2 := aS hb; have z2 : w2.cell? ⟨bp, 2, none⟩ = some (.int .i64 a) := blk_cell (PS.below (HS1.out.below (by repeat (first | exact bR _ _ | apply below_drew | apply pw_below_drewN | apply below_alloc))).ps hb).blk 2; (try (have hzt : w2.heap[w1.heap.size]? = some (.cells #[.int .i64 0, .string ⟨#[]⟩, .int .i64 0, .int .i64 0] 37) := fbelow (heap_drew (MapKept.heap_alloc w1 (.cells #[.int .i64 0, .string ⟨#[]⟩, .int .i64 0, .int .i64 0] 37)).1) hb; have nz := (show w1.heap.size ≠ bp by have := HS1.out.lt; omega); have zt0 := cH hzt 0; have zt1 := cH hzt 1; have zt2 := cH hzt 2; have zt3 := cH hzt 3;have zf0 := blk_frozen hzt 0; have zg0 := cH hzt 0; have zf1 := blk_frozen hzt 1; have zg1 := cH hzt 1; have zf2 := blk_frozen hzt 2; have zg2 := cH hzt 2; have zf3 := blk_frozen hzt 3; have zg3 := cH hzt 3; have HZT := aS hzt; clear hzt)); clear hb))
 all_goals
  (first | (have hb := below_fill4 (b0 := .int .i64 tk.f0) (b1 := .string tk.f1) (b2 := .int .i64 tk.f2) (b3 := .int .i64 tk.f3) ((below_drew (below_alloc (bR w1.heap.size w1) (.cells #[.int .i64 0, .string ⟨#[]⟩, .int .i64 0, .int .i64 0] 37))).trans (HB2.out.mono (show w1.heap.size ≤ (w1.alloc (.cells #[.int .i64 0, .string ⟨#[]⟩, .int .i64 0, .int .i64 0] 37)).heap.size by show _ ≤ (w1.heap.push _).size; simp))) (Nat.le_refl w1.heap.size); have HTB3 := aS (fill4 (b0 := .int .i64 tk.f0) (b1 := .string tk.f1) (b2 := .int .i64 tk.f2) (b3 := .int .i64 tk.f3) HZT.out); have NHTB := aS (show w1.heap.size ≠ bp by have := HS1.out.lt; omega); have HA3 := aS (HA1.out.below HS1.out.lt hb); have HS3 := aS (HS1.out.below hb); have HO3 := aS (fbelow HO1.out hb); clear hb z2 nz HZT zt0 zf0 zg0 zt1 zf1 zg1 zt2 zf2 zg2 zt3 zf3 zg3; generalize ((((w2.setCell ⟨w1.heap.size, 0, none⟩ (.int .i64 tk.f0)).setCell ⟨w1.heap.size, 1, none⟩ (.string tk.f1)).setCell ⟨w1.heap.size, 2, none⟩ (.int .i64 tk.f2)).setCell ⟨w1.heap.size, 3, none⟩ (.int .i64 tk.f3)) = w3 at *; obtain ⟨tb, htb⟩ : ∃ tb, w1.heap.size = tb := ⟨_, rfl⟩; simp only [htb] at HTB3 NHTB ⊢; clear htb) | (have hb := below_alloc ((below_drew (bR w1.heap.size w1)).trans HB2.out) (.cells #[.int .i64 tk.f0, .string tk.f1, .int .i64 tk.f2, .int .i64 tk.f3] 37); have HTB3 := aS (MapKept.heap_alloc w2 (.cells #[.int .i64 tk.f0, .string tk.f1, .int .i64 tk.f2, .int .i64 tk.f3] 37)).1; have NHTB := aS (show w2.heap.size ≠ bp by have h1 := HB2.out.size; have h2 := HS1.out.lt; have h3 : w1.drew.heap.size = w1.heap.size := rfl; omega); have HA3 := aS (HA1.out.below HS1.out.lt hb); have HS3 := aS (HS1.out.below hb); have HO3 := aS (fbelow HO1.out hb); clear hb z2; generalize w2.alloc (.cells #[.int .i64 tk.f0, .string tk.f1, .int .i64 tk.f2, .int .i64 tk.f3] 37) = w3 at *; generalize w2.heap.size = tb at *))
  clear HB2 y2
  obtain ⟨bm, hbm3, hlk⟩ := MapAt.look2 HS3.out.tab.tab.words tk.f1 HSZ.out
  obtain ⟨op, hop⟩ : ∃ op, (wordsL.lookup tk.f1.data.toList).getD 0 = op := ⟨_, rfl⟩
  obtain ⟨iw, hiw⟩ : ∃ iw, (wordsL.lookup tk.f1.data.toList).isSome = iw := ⟨_, rfl⟩
  rw [hop, hiw] at hlk
  have HOP := aS hop
  have HIW := aS hiw
  clear hop hiw
  have t0 := cH HTB3.out 0
  have t1 := cH HTB3.out 1
  go_upto_region 3 with (fail)
 all_goals
  clear hbm3 hlk
  go_upto_region 10 with (first | (go_at_call 18; refine (word_calls tk.f1 _ HS3.out.tab.tab HSZ.out).mono ?_; rintro e w5 ⟨rfl, hw5⟩; rw [HWD.out, hw5]; clear hw5) | (go_at_call 36; refine calls_take (take_tells ⟨#[40]⟩ HS3.out) (fun w' hq hb hat => absurd (hq.symm.trans HT0.out) (by simp)) ?_; rintro w4 hq hat; have hb := HS3.out.room; have HA4 := aS (HA3.out.then_ hat); have HS4 := aS (HS3.out.next hat hb); have HZ4 := aS hat.size; have HO4 := aS (hat.obj HO3.out HN.out id); have HTB4 := aS (hat.obj HTB3.out NHTB.out id);  clear hq hb hat))
  go_upto_region 11 with (go_at_call 36; refine calls_take (take_tells ⟨#[123]⟩ HS4.out) ?_ (fun w' hq hat => absurd (hq.symm.trans HT.out) (by simp)); rintro w5 hq hb hat; have HA5 := aS (HA4.out.then_ hat); have HS5 := aS (HS4.out.next hat hb); have HZ5 := aS hat.size; have HO5 := aS (hat.obj HO4.out HN.out id); have HTB5 := aS (hat.obj HTB4.out NHTB.out id);  clear hq hb hat)
  obtain ⟨y4, hy4⟩ := and_get HQ1.out
  have HX4 := aS hy4
  clear hy4
  go_upto_region 12 with (go_at_call 71; refine calls_tells (HE.out (a + 1) w5 y4 HS5.out HX4.out) ?_ (fun er t b a2 w' hq ht hb ha hat => And.intro rfl (tells_bad (and_bad HQ1.out HX4.out hq) ht hb ha (HA5.out.then_ hat))); rintro x r b vv w6 hq rfl hb ⟨B, q, rfl, hx, ho⟩ hat; have qq := and_ok HQ1.out HX4.out hq; (try dsimp only at qq); have HQ2 := aS qq; clear qq; have HA6 := aS (HA5.out.then_ hat); have HS6 := aS (HS5.out.next hat hb); have HZ6 := aS hat.size; have HO6 := aS (hat.obj HO5.out HN.out id); have HTB6 := aS (hat.obj HTB5.out NHTB.out id); have HP6 := aS (hx.mono (ok' := (fun k => w.heap.size < k)) (fun k hk => by have h1 : w5.heap.size ≤ k := hk; have h2 := (Array.getElem?_eq_some_iff.1 HO5.out).1; show w.heap.size < k; omega)); have HKP := aS ho; clear hq hb hat hx ho)
  have hb := below_alloc (bR w6.heap.size w6) (.cells #[.int .i64 x.f0, .string x.f1.f0, .int .i64 x.f1.f1, .string x.f2.f0, .int .i64 x.f2.f1, .string x.f3.f0, .int .i64 x.f3.f1, .string x.f4.f0, .int .i64 x.f4.f1, .string x.f5, .slice B x.f6.length q] 56)
  have HBX7 := aS (MapKept.heap_alloc w6 (.cells #[.int .i64 x.f0, .string x.f1.f0, .int .i64 x.f1.f1, .string x.f2.f0, .int .i64 x.f2.f1, .string x.f3.f0, .int .i64 x.f3.f1, .string x.f4.f0, .int .i64 x.f4.f1, .string x.f5, .slice B x.f6.length q] 56)).1
  have NHBX := aS (show w6.heap.size ≠ bp by have := HS6.out.lt; omega)
  have HA7 := aS (HA6.out.below HS6.out.lt hb)
  have HS7 := aS (HS6.out.below hb)
  have HZ7 := aS hb.size
  have HO7 := aS (fbelow HO6.out hb)
  have HTB7 := aS (fbelow HTB6.out hb)
  have HP7 := aS (HP6.out.below hb)
  clear hb
  generalize w6.alloc (.cells #[.int .i64 x.f0, .string x.f1.f0, .int .i64 x.f1.f1, .string x.f2.f0, .int .i64 x.f2.f1, .string x.f3.f0, .int .i64 x.f3.f1, .string x.f4.f0, .int .i64 x.f4.f1, .string x.f5, .slice B x.f6.length q] 56) = w7 at *
  go_upto_region 13 with (go_at_call 39; refine calls_tells (need_tells ⟨#[44]⟩ HS7.out) ?_ (fun er t b a2 w' hq ht hb ha hat => And.intro rfl (tells_bad (and_bad HQ2.out rfl hq) ht hb ha (HA7.out.then_ hat))); rintro u r b2 vv w8 hq rfl hb rfl hat; have qq := and_ok HQ2.out rfl hq; (try dsimp only at qq); have HQ3 := aS qq; clear qq; have HA8 := aS (HA7.out.then_ hat); have HS8 := aS (HS7.out.next hat hb); have HZ8 := aS hat.size; have HO8 := aS (hat.obj HO7.out HN.out id); have HTB8 := aS (hat.obj HTB7.out NHTB.out id); have HBX8 := aS (hat.obj HBX7.out NHBX.out id); have HP8 := aS (HP7.out.no hat (fun k hk => by have h1 : w.heap.size < k := hk; have := HW.out; omega)); clear hq hb hat)
  obtain ⟨y8, hy8⟩ := and_get HQ3.out
  have HX8 := aS hy8
  clear hy8
  go_upto_region 14 with (go_at_call 71; refine calls_tells (HE.out b2 w8 y8 HS8.out HX8.out) ?_ (fun er t b a2 w' hq ht hb ha hat => And.intro rfl (tells_bad (and_bad HQ3.out HX8.out hq) ht hb ha (HA8.out.then_ hat))); rintro y r b3 vv w9 hq rfl hb ⟨C, p, rfl, hx, ho⟩ hat; have qq := and_ok HQ3.out HX8.out hq; (try dsimp only at qq); have HQ4 := aS qq; clear qq; have HA9 := aS (HA8.out.then_ hat); have HS9 := aS (HS8.out.next hat hb); have HZ9 := aS hat.size; have HO9 := aS (hat.obj HO8.out HN.out id); have HTB9 := aS (hat.obj HTB8.out NHTB.out id); have HBX9 := aS (hat.obj HBX8.out NHBX.out id); have HP9 := aS (HP8.out.no hat (fun k hk => by have h1 : w.heap.size < k := hk; have := HW.out; omega)); have HPY_9 := aS (hx.mono (ok' := (fun k => w.heap.size < k)) (fun k hk => by have h1 : w8.heap.size ≤ k := hk; have h2 := (Array.getElem?_eq_some_iff.1 HO8.out).1; show w.heap.size < k; omega)); have HKY := aS ho; clear hq hb hat hx ho)
  have hb := below_alloc (bR w9.heap.size w9) (.cells #[.int .i64 y.f0, .string y.f1.f0, .int .i64 y.f1.f1, .string y.f2.f0, .int .i64 y.f2.f1, .string y.f3.f0, .int .i64 y.f3.f1, .string y.f4.f0, .int .i64 y.f4.f1, .string y.f5, .slice C y.f6.length p] 56)
  have HBY10 := aS (MapKept.heap_alloc w9 (.cells #[.int .i64 y.f0, .string y.f1.f0, .int .i64 y.f1.f1, .string y.f2.f0, .int .i64 y.f2.f1, .string y.f3.f0, .int .i64 y.f3.f1, .string y.f4.f0, .int .i64 y.f4.f1, .string y.f5, .slice C y.f6.length p] 56)).1
  have NHBY := aS (show w9.heap.size ≠ bp by have := HS9.out.lt; omega)
  have HA10 := aS (HA9.out.below HS9.out.lt hb)
  have HS10 := aS (HS9.out.below hb)
  have HZ10 := aS hb.size
  have HO10 := aS (fbelow HO9.out hb)
  have HTB10 := aS (fbelow HTB9.out hb)
  have HBX10 := aS (fbelow HBX9.out hb)
  have HP10 := aS (HP9.out.below hb)
  have HPY_10 := aS (HPY_9.out.below hb)
  clear hb
  generalize w9.alloc (.cells #[.int .i64 y.f0, .string y.f1.f0, .int .i64 y.f1.f1, .string y.f2.f0, .int .i64 y.f2.f1, .string y.f3.f0, .int .i64 y.f3.f1, .string y.f4.f0, .int .i64 y.f4.f1, .string y.f5, .slice C y.f6.length p] 56) = w10 at *
  go_upto_region 15 with (go_at_call 39; refine calls_tells (need_tells ⟨#[125]⟩ HS10.out) ?_ (fun er t b a2 w' hq ht hb ha hat => And.intro rfl (tells_bad (and_bad HQ4.out rfl hq) ht hb ha (HA10.out.then_ hat))); rintro u r b4 vv w11 hq rfl hb rfl hat; have qq := and_ok HQ4.out rfl hq; (try dsimp only at qq); have HQ5 := aS qq; clear qq; have HA11 := aS (HA10.out.then_ hat); have HS11 := aS (HS10.out.next hat hb); have HZ11 := aS hat.size; have HO11 := aS (hat.obj HO10.out HN.out id); have HTB11 := aS (hat.obj HTB10.out NHTB.out id); have HBX11 := aS (hat.obj HBX10.out NHBX.out id); have HBY11 := aS (hat.obj HBY10.out NHBY.out id); have HP11 := aS (HP10.out.no hat (fun k hk => by have h1 : w.heap.size < k := hk; have := HW.out; omega)); have HPY_11 := aS (HPY_10.out.no hat (fun k hk => by have h1 : w.heap.size < k := hk; have := HW.out; omega)); clear hq hb hat)
  have HROW := aS (exR_lit (ok := (fun k => w.heap.size < k)) (w := w11) (Array.getElem?_eq_some_iff.1 HO11.out).1 (reps_two HP11.out HPY_11.out) (by simp))
  have HBR := aS (below_alloc (bR w11.heap.size w11) (.cells (((exV x (.slice B x.f6.length q)).toList ++ (exV y (.slice C y.f6.length p)).toList).toArray) 56))
  have HOE := aS (show okE 9 (exK 17 [x, y]) from okE_up (by simp) (fun k hk => by rcases List.mem_cons.1 hk with rfl | hk; exact HKP.out; rcases List.mem_cons.1 hk with rfl | hk; exact HKY.out; cases hk))
  have m0 := cH HBX11.out 0; have m1 := cH HBX11.out 1; have m2 := cH HBX11.out 2; have m3 := cH HBX11.out 3; have m4 := cH HBX11.out 4; have m5 := cH HBX11.out 5; have m6 := cH HBX11.out 6; have m7 := cH HBX11.out 7; have m8 := cH HBX11.out 8; have m9 := cH HBX11.out 9; have m10 := cH HBX11.out 10;have n0 := cH HBY11.out 0; have n1 := cH HBY11.out 1; have n2 := cH HBY11.out 2; have n3 := cH HBY11.out 3; have n4 := cH HBY11.out 4; have n5 := cH HBY11.out 5; have n6 := cH HBY11.out 6; have n7 := cH HBY11.out 7; have n8 := cH HBY11.out 8; have n9 := cH HBY11.out 9; have n10 := cH HBY11.out 10;
  go_wp2_with (go_at_call 80; refine calls_tells (made_tells G bp s A c l begun fv b4 _ (HS11.out.below HBR.out) 9 (by omega) (exK 17 [x, y]) _ (fun k => w.heap.size < k) (fun k hk => by have h1 : w.heap.size < k := hk; have := HW.out; omega) ⟨_, _, rfl, HROW.out, HOE.out⟩ a HROOM.out res HQ5.out) ?_ (fun er t b a2 w' hq ht hb ha hat => And.intro rfl (tells_bad (last_bad HQ5.out HQ5.out hq) ht hb ha ((HA11.out.below HS11.out.lt HBR.out).then_ hat))); rintro v r b5 x5 w12 hq rfl hb ⟨E, e5, rfl, hx, ho⟩ hat; have HR := aS (congrArg some hq).symm; have HA12 := aS ((HA11.out.below HS11.out.lt HBR.out).then_ hat); have HX12 := aS hx; have HKV := aS ho; have HB12 := aS hb; have ho6 := hat.obj (fbelow HO11.out HBR.out) HN.out id; have f0 := blk_frozen ho6 0; have j0 := cH ho6 0; have f1 := blk_frozen ho6 1; have j1 := cH ho6 1; have f2 := blk_frozen ho6 2; have j2 := cH ho6 2; have f3 := blk_frozen ho6 3; have j3 := cH ho6 3; have f4 := blk_frozen ho6 4; have j4 := cH ho6 4; have f5 := blk_frozen ho6 5; have j5 := cH ho6 5; have f6 := blk_frozen ho6 6; have j6 := cH ho6 6; have f7 := blk_frozen ho6 7; have j7 := cH ho6 7; have f8 := blk_frozen ho6 8; have j8 := cH ho6 8; have f9 := blk_frozen ho6 9; have j9 := cH ho6 9; have f10 := blk_frozen ho6 10; have j10 := cH ho6 10; have HO12 := aS ho6; clear hq hb hx ho hat ho6)
  exact ret_fill rfl rfl HO12.out HA12.out HN.out (.inl (Nat.le_refl _)) (fun k hk => by have h1 : w.heap.size < k := hk; omega) (fun k hk => Nat.le_of_lt hk) HX12.out HKV.out HR.out rfl HB12.out
end Go.Proofs.YtenogedclignmaaDoor.Q
