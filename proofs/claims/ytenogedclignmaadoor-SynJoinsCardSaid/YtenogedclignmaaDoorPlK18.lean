/-
  HELPER.
-/
import Derived.Test.YtenogedclignmaaDoorPlKA
import Derived.Test.YtenogedclignmaaDoorPlK17
set_option linter.unusedVariables false
set_option linter.unusedSimpArgs false
namespace Go.Proofs.YtenogedclignmaaDoor.Q
open Go.RowKit Go.Maps Go.WideMaps Go.Proofs.YtenogedclignmaaDoorW.PrintWords Go.Proofs.YtenogedclignmaaDoorW.PrintLast Go.Proofs.YtenogedclignmaaDoorW.PrintMore
structure ModO (bp mb pbx : Nat) (O : Nat → Prop) (nm : ByteArray) (ps : List ByteArray) (qs : List Prt) (B1 : Option Addr) (q1 : Nat) (B2 : Option Addr) (q2 : Nat) (w : World) : Prop where
 p : w.heap[pbx]? = some (.cells #[.pointer (some ⟨bp, 0, none⟩)] 65 (0, 0))
 m : w.heap[mb]? = some (.cells #[.string nm, .slice B1 ps.length q1, .slice B2 qs.length q2, NS] 47 (0, 0))
 r1 : StrR O w (.slice B1 ps.length q1) ps
 r2 : PrtR O w (.slice B2 qs.length q2) qs
section
variable {bp b mb pbx : Nat} {O : Nat → Prop} {nm : ByteArray} {ps : List ByteArray} {qs : List Prt} {B1 : Option Addr} {q1 : Nat} {B2 : Option Addr} {q2 : Nat} {w w' : World}
theorem ModO.step (h : ModO bp mb pbx O nm ps qs B1 q1 B2 q2 w) (hat : At bp b no w w') (hne : mb ≠ bp ∧ pbx ≠ bp) (hO : ∀ k, O k → k ≠ bp) : ModO bp mb pbx O nm ps qs B1 q1 B2 q2 w' :=
 ⟨hat.obj h.p hne.2 id, hat.obj h.m hne.1 id, R_at h.r1 hat (fun k hk => ⟨hO k hk, id⟩), R_at h.r2 hat (fun k hk => ⟨hO k hk, id⟩)⟩
theorem ModO.below (h : ModO bp mb pbx O nm ps qs B1 q1 B2 q2 w) (hb : Below w.heap.size w w') : ModO bp mb pbx O nm ps qs B1 q1 B2 q2 w' := ⟨fbelow h.p hb, fbelow h.m hb, Kd.R_below h.r1 hb, Kd.R_below h.r2 hb⟩
theorem ModO.own (h : ModO bp mb pbx O nm ps qs B1 q1 B2 q2 w) {g : Nat} (i : Nat) (hp : pbx ≠ g) (hm : mb ≠ g) (hO : ∀ k, O k → k ≠ g) (v : Value) : ModO bp mb pbx O nm ps qs B1 q1 B2 q2 (w.setCell ⟨g, i, none⟩ v) :=
 ⟨(Below.heap_setCell _ ⟨g, i, none⟩ _ _ hp).trans h.p, (Below.heap_setCell _ ⟨g, i, none⟩ _ _ hm).trans h.m, Kd.R_far (p := ⟨g, i, none⟩) h.r1 hO v, Kd.R_far (p := ⟨g, i, none⟩) h.r2 hO v⟩
end
set_option maxHeartbeats 8000000 in
set_option maxRecDepth 100000 in
theorem port_calls (G bp : Nat) (s : ByteArray) (A : Option Addr) (c : Nat) (l : List Tok) (begun : Int) (fv : Value) (a : Nat) (w1 : World) (h : St G bp s A c l begun fv a w1) (mb pbx n0 : Nat) (hne : mb ≠ bp ∧ pbx ≠ bp ∧ mb ≠ pbx ∧ mb < n0 ∧ bp < n0 ∧ pbx < n0 ∧ n0 ≤ w1.heap.size ∧ G ≤ mb) (nm0 : ByteArray) (ps : List ByteArray) (acc : List Prt) (hacc : acc.length ≤ 1000) (hI : ModAt bp mb pbx n0 nm0 ps acc w1) (res : PR Prt) (hres : portP (l.drop a) = some res) :
  Calls Tryd.prog 40 #[.pointer (some ⟨pbx, 0, none⟩), .pointer (some ⟨mb, 0, none⟩)] w1 (Tells bp l (InX mb n0) w1 (fun v x w' => x = .tuple #[] ∧ ModAt bp mb pbx n0 nm0 ps (acc ++ [v]) w') res) := by
 obtain ⟨hpx, B1, q1, B2, q2, hmb, hr1, hr2⟩ := hI
 have HO1 := aS (show ModO bp mb pbx (fun k => n0 ≤ k ∧ k < w1.heap.size) nm0 ps acc B1 q1 B2 q2 w1 from ⟨hpx, hmb, Kd.R_mono (Kd.R_bound hr1) (fun k hk => ⟨hk.1, hk.2.2.1⟩), Kd.R_mono (Kd.R_bound hr2) (fun k hk => ⟨hk.1, hk.2.2.1⟩)⟩)
 have HS1 := aS h
 have HNE := aS hne
 have HQ := aS hres
 have HLA := aS hacc
 have HA1 := aS (h.same (X := InX mb n0))
 have HOB := aS (show ∀ k, (n0 ≤ k ∧ k < w1.heap.size) → k ≠ bp from fun k hk => by have := hne; omega)
 have p0 := cH hpx 0
 clear h hpx hmb hr1 hr2 hne hres hacc
 go_enter Tryd.func40, Tryd.ntmps40
 go_upto_region 1 with (go_at_call 36; refine calls_take (take_tells ⟨#[105, 110]⟩ HS1.out) ?_ ?_; rotate_left; rintro w2 hq hat; have HTK := aS hq; have HA2 := aS (HA1.out.then_ hat); have HS2 := aS (HS1.out.next hat HS1.out.room); have HO2 := aS (HO1.out.step hat ⟨HNE.out.1, HNE.out.2.1⟩ HOB.out); have HZ2 := aS (show w1.heap.size ≤ w2.heap.size from hat.size); clear hq hat; rotate_left; rintro w2 hq hb hat; have HTK := aS hq; have HA2 := aS (HA1.out.then_ hat); have HS2 := aS (HS1.out.next hat hb); have HO2 := aS (HO1.out.step hat ⟨HNE.out.1, HNE.out.2.1⟩ HOB.out); have HZ2 := aS (show w1.heap.size ≤ w2.heap.size from hat.size); clear hq hb hat)
 ·clear p0
  have hb3 := below_alloc (bR w2.heap.size w2) (.cells #[.bool true, .string ⟨#[]⟩, .string ⟨#[]⟩, .int .i64 0] 64)
  have HX3 := aS (MapKept.heap_alloc w2 (.cells #[.bool true, .string ⟨#[]⟩, .string ⟨#[]⟩, .int .i64 0] 64)).1
  have HA3 := aS (HA2.out.below HS2.out.lt hb3)
  have HS3 := aS (HS2.out.below hb3)
  have HO3 := aS (HO2.out.below hb3)
  have HXB := aS (show w2.heap.size ≠ bp ∧ pbx ≠ w2.heap.size ∧ mb ≠ w2.heap.size ∧ (∀ k, (n0 ≤ k ∧ k < w1.heap.size) → k ≠ w2.heap.size) ∧ n0 ≤ w2.heap.size from by have h1 := HZ2.out; have h2 := HNE.out; exact ⟨by omega, by omega, by omega, fun k hk => by omega, by omega⟩)
  have hz3 : (w2.alloc (.cells #[.bool true, .string ⟨#[]⟩, .string ⟨#[]⟩, .int .i64 0] 64)).heap.size = w2.heap.size + 1 := by show (w2.heap.push _).size = _; simp
  have HZ3 := aS (show w2.heap.size < (w2.alloc (.cells #[.bool true, .string ⟨#[]⟩, .string ⟨#[]⟩, .int .i64 0] 64)).heap.size by omega)
  clear hb3 hz3 HA2 HS2 HO2
  generalize w2.alloc (.cells #[.bool true, .string ⟨#[]⟩, .string ⟨#[]⟩, .int .i64 0] 64) = w3 at *
  generalize w2.heap.size = xb at *
  have p0 := cH HO3.out.p 0
  have x0 := cH HX3.out 0
  have HQ3 := aS (show (andThen (some (nameP (l.drop (a + 1)))) fun nm r2 => andThen (some (needP [58] r2)) fun _ r3 => andThen (some (dimP r3)) fun d r4 => some (.ok (⟨true, nm, d⟩ : Prt) r4)) = some res from by have qq := HQ.out; unfold portP at qq; rw [show takeP kIn (l.drop a) = some (l.drop (a + 1)) from HTK.out] at qq; exact qq)
  clear HQ
  go_upto_region 3 with (fail)
  clear x0 p0
  have p0 := cH HO3.out.p 0
  have x1 := cH HX3.out 1
  have f1 := blk_frozen HX3.out 1
  go_upto_region 4 with (go_at_call 35; refine calls_tells (name_tells HS3.out) ?_ (fun er t b a2 w' hq ht hb ha hat => And.intro rfl (tells_bad (and_bad HQ3.out rfl hq) ht hb ha (HA3.out.then_ hat))); rintro nm r b4 vv w4 hq rfl hb rfl hat; have qq := and_ok HQ3.out rfl hq; have HQ4 := aS qq; clear qq; have HA4 := aS (HA3.out.then_ hat); have HS4 := aS (HS3.out.next hat hb); have HO4 := aS (HO3.out.step hat ⟨HNE.out.1, HNE.out.2.1⟩ HOB.out); have hx4 := hat.obj HX3.out HXB.out.1 id; have HX4 := aS hx4; have HZ4 := aS (Nat.lt_of_lt_of_le HZ3.out hat.size); have x1 := cH hx4 1; have f1 := blk_frozen hx4 1; clear hq hb hat hx4)
  have HX5 := aS (show (w4.setCell ⟨xb, 1, none⟩ (.string nm)).heap[xb]? = some (.cells #[.bool true, .string nm, .string ⟨#[]⟩, .int .i64 0] 64) from set_new HX4.out (by kernel_rfl))
  have HA5 := aS (HA4.out.own (p := ⟨xb, 1, none⟩) (.inr (.inr HXB.out.2.2.2.2)) HXB.out.1 (.string nm))
  have HS5 := aS (HS4.out.step ((HS4.out.same (X := fun k => k = xb)).own (p := ⟨xb, 1, none⟩) (.inr rfl) HXB.out.1 (.string nm)) (fun k hk => by have h1 : k = xb := hk; have h2 := HXB.out; have h3 := HNE.out; have h4 := HS4.out.low; omega) HS4.out.room)
  have HO5 := aS (HO4.out.own 1 HXB.out.2.1 HXB.out.2.2.1 HXB.out.2.2.2.1 (.string nm))
  have HZ5 := aS (show xb < (w4.setCell ⟨xb, 1, none⟩ (.string nm)).heap.size by rw [size_set]; exact HZ4.out)
  clear x1 f1 p0 HA4 HS4 HO4 HX4 HZ4 HA3 HS3 HO3 HX3 HZ3 HQ3
  generalize w4.setCell ⟨xb, 1, none⟩ (.string nm) = w5 at *
  have p0 := cH HO5.out.p 0
  go_upto_region 5 with (go_at_call 39; refine calls_tells (need_tells ⟨#[58]⟩ HS5.out) ?_ (fun er t b a2 w' hq ht hb ha hat => And.intro rfl (tells_bad (and_bad HQ4.out rfl hq) ht hb ha (HA5.out.then_ hat))); rintro u r b6 vv w6 hq rfl hb rfl hat; have qq := and_ok HQ4.out rfl hq; have HQ6 := aS qq; clear qq; have HA6 := aS (HA5.out.then_ hat); have HS6 := aS (HS5.out.next hat hb); have HO6 := aS (HO5.out.step hat ⟨HNE.out.1, HNE.out.2.1⟩ HOB.out); have HX6 := aS (hat.obj HX5.out HXB.out.1 id); have HZ6 := aS (Nat.lt_of_lt_of_le HZ5.out hat.size); clear hq hb hat)
  clear p0 HA5 HS5 HO5 HX5 HZ5 HQ4
  have p0 := cH HO6.out.p 0
  go_upto_region 6 with (go_at_call 41; refine calls_tells (dim_tells HS6.out) ?_ (fun er t b a2 w' hq ht hb ha hat => And.intro rfl (tells_bad (and_bad HQ6.out rfl hq) ht hb ha (HA6.out.then_ hat))); rintro d r b7 vv w7 hq rfl hb rfl hat; have qq := and_ok HQ6.out rfl hq; have HQ7 := aS qq; clear qq; have HA7 := aS (HA6.out.then_ hat); have HS7 := aS (HS6.out.next hat hb); have HO7 := aS (HO6.out.step hat ⟨HNE.out.1, HNE.out.2.1⟩ HOB.out); have hx7 := hat.obj HX6.out HXB.out.1 id; have HX7 := aS hx7; have HZ7 := aS (Nat.lt_of_lt_of_le HZ6.out hat.size); have x2 := cH hx7 2; have f2 := blk_frozen hx7 2; have x3 := cH hx7 3; have f3 := blk_frozen hx7 3; clear hq hb hat hx7)
  have HX8 := aS (show ((w7.setCell ⟨xb, 2, none⟩ (.string d.f0)).setCell ⟨xb, 3, none⟩ (.int .i64 d.f1)).heap[xb]? = some (.cells #[.bool true, .string nm, .string d.f0, .int .i64 d.f1] 64 (0, 0)) from set_heap (i := 3) (v := .int .i64 d.f1) (set_heap (i := 2) (v := .string d.f0) HX7.out))
  have HA8 := aS ((HA7.out.own (p := ⟨xb, 2, none⟩) (.inr (.inr HXB.out.2.2.2.2)) HXB.out.1 (.string d.f0)).own (p := ⟨xb, 3, none⟩) (.inr (.inr HXB.out.2.2.2.2)) HXB.out.1 (.int .i64 d.f1))
  have HS8 := aS (HS7.out.step (((HS7.out.same (X := fun k => k = xb)).own (p := ⟨xb, 2, none⟩) (.inr rfl) HXB.out.1 (.string d.f0)).own (p := ⟨xb, 3, none⟩) (.inr rfl) HXB.out.1 (.int .i64 d.f1)) (fun k hk => by have h1 : k = xb := hk; have h2 := HXB.out; have h3 := HNE.out; have h4 := HS7.out.low; omega) HS7.out.room)
  have HO8 := aS ((HO7.out.own 2 HXB.out.2.1 HXB.out.2.2.1 HXB.out.2.2.2.1 (.string d.f0)).own 3 HXB.out.2.1 HXB.out.2.2.1 HXB.out.2.2.2.1 (.int .i64 d.f1))
  have HZ8 := aS (show xb < ((w7.setCell ⟨xb, 2, none⟩ (.string d.f0)).setCell ⟨xb, 3, none⟩ (.int .i64 d.f1)).heap.size by rw [size_set, size_set]; exact HZ7.out)
  clear x2 f2 x3 f3 p0 HA7 HS7 HO7 HX7 HZ7 HA6 HS6 HO6 HX6 HZ6 HQ6
  generalize (w7.setCell ⟨xb, 2, none⟩ (.string d.f0)).setCell ⟨xb, 3, none⟩ (.int .i64 d.f1) = w8 at *
  have m2 := cH HO8.out.m 2
  have x0 := cH HX8.out 0
  have x1 := cH HX8.out 1
  have x2 := cH HX8.out 2
  have x3 := cH HX8.out 3
  obtain ⟨v9, w9, hrun9, hR9, hg9, A9, q9, hv9⟩ := R_append_run (P := Tryd.prog) k64 44 44 64 (.agg #[.bool false, .string ⟨#[]⟩, .string ⟨#[]⟩, .int .i64 0]) 48 Tryd.underlying44 infoP rfl (by decide) (by decide) w8 (.slice B2 acc.length q2) acc (⟨true, nm, d⟩ : Prt) [.bool true, .string nm, .string d.f0, .int .i64 d.f1] (Lo n0) (fun _ => False) (k64_mkM _ _ _ (⟨true, nm, d⟩ : Prt)) (fun _ hk => hk.elim) (fun k hk => by have h1 := HZ8.out; have h2 := HXB.out; have h3 : w8.heap.size ≤ k := hk; show n0 ≤ k; omega) (Kd.R_mono HO8.out.r2 (fun k hk => hk.1)) (by have := HLA.out; omega)
  subst hv9
  have nb1 := Kd.R_ne HO8.out.r2 HO8.out.p (by decide)
  have nb2 := Kd.R_ne HO8.out.r2 HO8.out.m (by decide)
  have hlt := fun (g : Nat) (o : Obj) (h : w8.heap[g]? = some o) => (Array.getElem?_eq_some_iff.1 h).1
  have hpx9 := (hg9.block _ (hlt _ _ HO8.out.p) nb1).trans HO8.out.p
  have hmb9 := (hg9.block _ (hlt _ _ HO8.out.m) nb2).trans HO8.out.m
  have hr19 : StrR (Lo n0) w9 (.slice B1 ps.length q1) ps := R_other (Kd.R_mono HO8.out.r1 (fun k hk => hk.1)) HO8.out.r2 (by decide) hg9
  have HA9 := aS (HA8.out.grown HS8.out.lt hg9 (fun k hk => by have h1 := (HO8.out.r2.1 k hk).1; have := HNE.out; exact ⟨by omega, .inl (.inr h1)⟩))
  have HB9 := aS HS8.out.room
  have HPX9 := aS hpx9
  have HMB9 := aS hmb9
  have HR19 := aS hr19
  have HR29 := aS hR9
  have y9 := cH hmb9 2
  have f9 := blk_frozen hmb9 2
  clear nb1 nb2 hlt hpx9 hmb9 hr19 hR9 hg9
  go_upto_region 99 with (refine wpList_value rfl (append_exec hrun9 rfl rfl rfl rfl) ?_)
  have hl : (acc ++ [(⟨true, nm, d⟩ : Prt)]).length = acc.length + 1 := by simp
  have hn1 : pbx ≠ mb := fun q => HNE.out.2.2.1 q.symm
  have hno : ∀ k, Lo n0 k → k ≠ mb := fun k hk => by have h1 : n0 ≤ k := hk; have := HNE.out; omega
  have hmb10 : (w9.setCell ⟨mb, 2, none⟩ (.slice A9 (acc.length + 1) q9)).heap[mb]? = some (.cells #[.string nm0, .slice B1 ps.length q1, .slice A9 (acc.length + 1) q9, NS] 47 (0, 0)) := set_new HMB9.out (by kernel_rfl)
  have HA10 := HA9.out.own (p := ⟨mb, 2, none⟩) (.inr (.inl rfl)) HNE.out.1 (.slice A9 (acc.length + 1) q9)
  refine bodyPost_end (results_none rfl _ _ _) rfl (tells_ok HQ7.out rfl HB9.out ⟨rfl, ⟨(Below.heap_setCell _ ⟨mb, 2, none⟩ _ _ hn1).trans HPX9.out, B1, q1, A9, q9, ?_, ?_, ?_⟩⟩ HA10)
  ·rw [hl]; exact hmb10
  ·exact Kd.R_far (p := ⟨mb, 2, none⟩) HR19.out hno _
  ·rw [hl]; exact Kd.R_far (p := ⟨mb, 2, none⟩) HR29.out hno _
 ·clear p0
  have hb3 := below_alloc (bR w2.heap.size w2) (.cells #[.bool false, .string ⟨#[]⟩, .string ⟨#[]⟩, .int .i64 0] 64)
  have HX3 := aS (MapKept.heap_alloc w2 (.cells #[.bool false, .string ⟨#[]⟩, .string ⟨#[]⟩, .int .i64 0] 64)).1
  have HA3 := aS (HA2.out.below HS2.out.lt hb3)
  have HS3 := aS (HS2.out.below hb3)
  have HO3 := aS (HO2.out.below hb3)
  have HXB := aS (show w2.heap.size ≠ bp ∧ pbx ≠ w2.heap.size ∧ mb ≠ w2.heap.size ∧ (∀ k, (n0 ≤ k ∧ k < w1.heap.size) → k ≠ w2.heap.size) ∧ n0 ≤ w2.heap.size from by have h1 := HZ2.out; have h2 := HNE.out; exact ⟨by omega, by omega, by omega, fun k hk => by omega, by omega⟩)
  have hz3 : (w2.alloc (.cells #[.bool false, .string ⟨#[]⟩, .string ⟨#[]⟩, .int .i64 0] 64)).heap.size = w2.heap.size + 1 := by show (w2.heap.push _).size = _; simp
  have HZ3 := aS (show w2.heap.size < (w2.alloc (.cells #[.bool false, .string ⟨#[]⟩, .string ⟨#[]⟩, .int .i64 0] 64)).heap.size by omega)
  clear hb3 hz3 HA2 HS2 HO2
  generalize w2.alloc (.cells #[.bool false, .string ⟨#[]⟩, .string ⟨#[]⟩, .int .i64 0] 64) = w3 at *
  generalize w2.heap.size = xb at *
  have p0 := cH HO3.out.p 0
  have x0 := cH HX3.out 0
  have HQ2 := aS (show (andThen (some (needP kOut (l.drop a))) fun _ r1 => andThen (some (nameP r1)) fun nm r2 => andThen (some (needP [58] r2)) fun _ r3 => andThen (some (dimP r3)) fun d r4 => some (.ok (⟨false, nm, d⟩ : Prt) r4)) = some res from by have qq := HQ.out; unfold portP at qq; rw [show takeP kIn (l.drop a) = none from HTK.out] at qq; exact qq)
  clear HQ
  go_upto_region 3 with (go_at_call 39; refine calls_tells (need_tells ⟨#[111, 117, 116]⟩ HS3.out) ?_ (fun er t b a2 w' hq ht hb ha hat => And.intro rfl (tells_bad (and_bad HQ2.out rfl hq) ht hb ha (HA3.out.then_ hat))); rintro u r b3 vv w33 hq rfl hb rfl hat; have qq := and_ok HQ2.out rfl hq; have HQ3 := aS qq; clear qq; have HA33 := aS (HA3.out.then_ hat); have HS33 := aS (HS3.out.next hat hb); have HO33 := aS (HO3.out.step hat ⟨HNE.out.1, HNE.out.2.1⟩ HOB.out); have HX33 := aS (hat.obj HX3.out HXB.out.1 id); have HZ33 := aS (Nat.lt_of_lt_of_le HZ3.out hat.size); clear hq hb hat)
  clear HQ2 HA3 HS3 HO3 HX3 HZ3
  have HA3 := HA33
  have HS3 := HS33
  have HO3 := HO33
  have HX3 := HX33
  have HZ3 := HZ33
  clear HA33 HS33 HO33 HX33 HZ33
  clear x0 p0
  have p0 := cH HO3.out.p 0
  have x1 := cH HX3.out 1
  have f1 := blk_frozen HX3.out 1
  go_upto_region 4 with (go_at_call 35; refine calls_tells (name_tells HS3.out) ?_ (fun er t b a2 w' hq ht hb ha hat => And.intro rfl (tells_bad (and_bad HQ3.out rfl hq) ht hb ha (HA3.out.then_ hat))); rintro nm r b4 vv w4 hq rfl hb rfl hat; have qq := and_ok HQ3.out rfl hq; have HQ4 := aS qq; clear qq; have HA4 := aS (HA3.out.then_ hat); have HS4 := aS (HS3.out.next hat hb); have HO4 := aS (HO3.out.step hat ⟨HNE.out.1, HNE.out.2.1⟩ HOB.out); have hx4 := hat.obj HX3.out HXB.out.1 id; have HX4 := aS hx4; have HZ4 := aS (Nat.lt_of_lt_of_le HZ3.out hat.size); have x1 := cH hx4 1; have f1 := blk_frozen hx4 1; clear hq hb hat hx4)
  have HX5 := aS (show (w4.setCell ⟨xb, 1, none⟩ (.string nm)).heap[xb]? = some (.cells #[.bool false, .string nm, .string ⟨#[]⟩, .int .i64 0] 64) from set_new HX4.out (by kernel_rfl))
  have HA5 := aS (HA4.out.own (p := ⟨xb, 1, none⟩) (.inr (.inr HXB.out.2.2.2.2)) HXB.out.1 (.string nm))
  have HS5 := aS (HS4.out.step ((HS4.out.same (X := fun k => k = xb)).own (p := ⟨xb, 1, none⟩) (.inr rfl) HXB.out.1 (.string nm)) (fun k hk => by have h1 : k = xb := hk; have h2 := HXB.out; have h3 := HNE.out; have h4 := HS4.out.low; omega) HS4.out.room)
  have HO5 := aS (HO4.out.own 1 HXB.out.2.1 HXB.out.2.2.1 HXB.out.2.2.2.1 (.string nm))
  have HZ5 := aS (show xb < (w4.setCell ⟨xb, 1, none⟩ (.string nm)).heap.size by rw [size_set]; exact HZ4.out)
  clear x1 f1 p0 HA4 HS4 HO4 HX4 HZ4 HA3 HS3 HO3 HX3 HZ3 HQ3
  generalize w4.setCell ⟨xb, 1, none⟩ (.string nm) = w5 at *
  have p0 := cH HO5.out.p 0
  go_upto_region 5 with (go_at_call 39; refine calls_tells (need_tells ⟨#[58]⟩ HS5.out) ?_ (fun er t b a2 w' hq ht hb ha hat => And.intro rfl (tells_bad (and_bad HQ4.out rfl hq) ht hb ha (HA5.out.then_ hat))); rintro u r b6 vv w6 hq rfl hb rfl hat; have qq := and_ok HQ4.out rfl hq; have HQ6 := aS qq; clear qq; have HA6 := aS (HA5.out.then_ hat); have HS6 := aS (HS5.out.next hat hb); have HO6 := aS (HO5.out.step hat ⟨HNE.out.1, HNE.out.2.1⟩ HOB.out); have HX6 := aS (hat.obj HX5.out HXB.out.1 id); have HZ6 := aS (Nat.lt_of_lt_of_le HZ5.out hat.size); clear hq hb hat)
  clear p0 HA5 HS5 HO5 HX5 HZ5 HQ4
  have p0 := cH HO6.out.p 0
  go_upto_region 6 with (go_at_call 41; refine calls_tells (dim_tells HS6.out) ?_ (fun er t b a2 w' hq ht hb ha hat => And.intro rfl (tells_bad (and_bad HQ6.out rfl hq) ht hb ha (HA6.out.then_ hat))); rintro d r b7 vv w7 hq rfl hb rfl hat; have qq := and_ok HQ6.out rfl hq; have HQ7 := aS qq; clear qq; have HA7 := aS (HA6.out.then_ hat); have HS7 := aS (HS6.out.next hat hb); have HO7 := aS (HO6.out.step hat ⟨HNE.out.1, HNE.out.2.1⟩ HOB.out); have hx7 := hat.obj HX6.out HXB.out.1 id; have HX7 := aS hx7; have HZ7 := aS (Nat.lt_of_lt_of_le HZ6.out hat.size); have x2 := cH hx7 2; have f2 := blk_frozen hx7 2; have x3 := cH hx7 3; have f3 := blk_frozen hx7 3; clear hq hb hat hx7)
  have HX8 := aS (show ((w7.setCell ⟨xb, 2, none⟩ (.string d.f0)).setCell ⟨xb, 3, none⟩ (.int .i64 d.f1)).heap[xb]? = some (.cells #[.bool false, .string nm, .string d.f0, .int .i64 d.f1] 64 (0, 0)) from set_heap (i := 3) (v := .int .i64 d.f1) (set_heap (i := 2) (v := .string d.f0) HX7.out))
  have HA8 := aS ((HA7.out.own (p := ⟨xb, 2, none⟩) (.inr (.inr HXB.out.2.2.2.2)) HXB.out.1 (.string d.f0)).own (p := ⟨xb, 3, none⟩) (.inr (.inr HXB.out.2.2.2.2)) HXB.out.1 (.int .i64 d.f1))
  have HS8 := aS (HS7.out.step (((HS7.out.same (X := fun k => k = xb)).own (p := ⟨xb, 2, none⟩) (.inr rfl) HXB.out.1 (.string d.f0)).own (p := ⟨xb, 3, none⟩) (.inr rfl) HXB.out.1 (.int .i64 d.f1)) (fun k hk => by have h1 : k = xb := hk; have h2 := HXB.out; have h3 := HNE.out; have h4 := HS7.out.low; omega) HS7.out.room)
  have HO8 := aS ((HO7.out.own 2 HXB.out.2.1 HXB.out.2.2.1 HXB.out.2.2.2.1 (.string d.f0)).own 3 HXB.out.2.1 HXB.out.2.2.1 HXB.out.2.2.2.1 (.int .i64 d.f1))
  have HZ8 := aS (show xb < ((w7.setCell ⟨xb, 2, none⟩ (.string d.f0)).setCell ⟨xb, 3, none⟩ (.int .i64 d.f1)).heap.size by rw [size_set, size_set]; exact HZ7.out)
  clear x2 f2 x3 f3 p0 HA7 HS7 HO7 HX7 HZ7 HA6 HS6 HO6 HX6 HZ6 HQ6
  generalize (w7.setCell ⟨xb, 2, none⟩ (.string d.f0)).setCell ⟨xb, 3, none⟩ (.int .i64 d.f1) = w8 at *
  have m2 := cH HO8.out.m 2
  have x0 := cH HX8.out 0
  have x1 := cH HX8.out 1
  have x2 := cH HX8.out 2
  have x3 := cH HX8.out 3
  obtain ⟨v9, w9, hrun9, hR9, hg9, A9, q9, hv9⟩ := R_append_run (P := Tryd.prog) k64 44 44 64 (.agg #[.bool false, .string ⟨#[]⟩, .string ⟨#[]⟩, .int .i64 0]) 48 Tryd.underlying44 infoP rfl (by decide) (by decide) w8 (.slice B2 acc.length q2) acc (⟨false, nm, d⟩ : Prt) [.bool false, .string nm, .string d.f0, .int .i64 d.f1] (Lo n0) (fun _ => False) (k64_mkM _ _ _ (⟨false, nm, d⟩ : Prt)) (fun _ hk => hk.elim) (fun k hk => by have h1 := HZ8.out; have h2 := HXB.out; have h3 : w8.heap.size ≤ k := hk; show n0 ≤ k; omega) (Kd.R_mono HO8.out.r2 (fun k hk => hk.1)) (by have := HLA.out; omega)
  subst hv9
  have nb1 := Kd.R_ne HO8.out.r2 HO8.out.p (by decide)
  have nb2 := Kd.R_ne HO8.out.r2 HO8.out.m (by decide)
  have hlt := fun (g : Nat) (o : Obj) (h : w8.heap[g]? = some o) => (Array.getElem?_eq_some_iff.1 h).1
  have hpx9 := (hg9.block _ (hlt _ _ HO8.out.p) nb1).trans HO8.out.p
  have hmb9 := (hg9.block _ (hlt _ _ HO8.out.m) nb2).trans HO8.out.m
  have hr19 : StrR (Lo n0) w9 (.slice B1 ps.length q1) ps := R_other (Kd.R_mono HO8.out.r1 (fun k hk => hk.1)) HO8.out.r2 (by decide) hg9
  have HA9 := aS (HA8.out.grown HS8.out.lt hg9 (fun k hk => by have h1 := (HO8.out.r2.1 k hk).1; have := HNE.out; exact ⟨by omega, .inl (.inr h1)⟩))
  have HB9 := aS HS8.out.room
  have HPX9 := aS hpx9
  have HMB9 := aS hmb9
  have HR19 := aS hr19
  have HR29 := aS hR9
  have y9 := cH hmb9 2
  have f9 := blk_frozen hmb9 2
  clear nb1 nb2 hlt hpx9 hmb9 hr19 hR9 hg9
  go_upto_region 99 with (refine wpList_value rfl (append_exec hrun9 rfl rfl rfl rfl) ?_)
  have hl : (acc ++ [(⟨false, nm, d⟩ : Prt)]).length = acc.length + 1 := by simp
  have hn1 : pbx ≠ mb := fun q => HNE.out.2.2.1 q.symm
  have hno : ∀ k, Lo n0 k → k ≠ mb := fun k hk => by have h1 : n0 ≤ k := hk; have := HNE.out; omega
  have hmb10 : (w9.setCell ⟨mb, 2, none⟩ (.slice A9 (acc.length + 1) q9)).heap[mb]? = some (.cells #[.string nm0, .slice B1 ps.length q1, .slice A9 (acc.length + 1) q9, NS] 47 (0, 0)) := set_new HMB9.out (by kernel_rfl)
  have HA10 := HA9.out.own (p := ⟨mb, 2, none⟩) (.inr (.inl rfl)) HNE.out.1 (.slice A9 (acc.length + 1) q9)
  refine bodyPost_end (results_none rfl _ _ _) rfl (tells_ok HQ7.out rfl HB9.out ⟨rfl, ⟨(Below.heap_setCell _ ⟨mb, 2, none⟩ _ _ hn1).trans HPX9.out, B1, q1, A9, q9, ?_, ?_, ?_⟩⟩ HA10)
  ·rw [hl]; exact hmb10
  ·exact Kd.R_far (p := ⟨mb, 2, none⟩) HR19.out hno _
  ·rw [hl]; exact Kd.R_far (p := ⟨mb, 2, none⟩) HR29.out hno _
end Go.Proofs.YtenogedclignmaaDoor.Q
