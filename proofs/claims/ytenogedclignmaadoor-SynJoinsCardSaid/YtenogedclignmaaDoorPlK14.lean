/-
  HELPER.
-/
import Derived.Test.YtenogedclignmaaDoorPlKA
import Derived.Test.YtenogedclignmaaDoorPlK13
set_option linter.unusedVariables false
set_option linter.unusedSimpArgs false
namespace Go.Proofs.YtenogedclignmaaDoor.Q
open Go.RowKit Go.Maps Go.WideMaps Go.Proofs.YtenogedclignmaaDoorW.PrintWords Go.Proofs.YtenogedclignmaaDoorW.PrintLast Go.Proofs.YtenogedclignmaaDoorW.PrintMore
theorem R_other {α β : Type} {d : Kd α} {d' : Kd β} {e e' : Nat} {ok ok' : Nat → Prop} {w w1 : World} {v u : Value} {xs : List α} {ys : List β} (h : d.R e w 0 ok v xs) (h2 : d'.R e' w 0 ok' u ys) (ht : ∀ q, q ∈ e :: d.E → q ≠ e') (hg : w.grownBy w1 u.ownBlock) : d.R e w1 0 ok v xs := by
 cases hu : u.ownBlock with
 | none => exact Kd.R_grown h hg (fun k _ q => by rw [hu] at q; cases q)
 | some g =>
  obtain ⟨inner, hown⟩ := Kd.R_own h2
  obtain ⟨cells, hc⟩ := own_typed hown g hu
  exact Kd.R_mono (Kd.R_grown (Kd.R_types h hc ht) hg (fun k hk q => by rw [hu] at q; injection q with q; exact hk.2 q)) (fun k hk => hk.1)
theorem infoB : (Tryd.prog.info? 79).map (fun i => (i.zero, i.size, i.bytes)) = some (some (.agg #[.string ⟨#[]⟩, .int .i64 0, .string ⟨#[]⟩, .int .i64 0, .string ⟨#[]⟩, .int .i64 0, .string ⟨#[]⟩, .int .i64 0, .string ⟨#[]⟩, .int .i64 0, .string ⟨#[]⟩, .slice none 0 0]), 12, 160) := by kernel_rfl
abbrev itB (f0 : Int) (nm md : ByteArray) (as_ : List Dm) (bs : List Bnd) : Itm := { (it0 f0 nm) with f4 := md, f5 := as_, f6 := bs }
def BindsI (bp xb pbx xbx n0 : Nat) (f0 : Int) (nm md : ByteArray) (as_ : List Dm) (B5 : Option Addr) (q5 : Nat) (bs : List Bnd) (w : World) : Prop :=
 Boxes bp xb pbx xbx w ∧ (k51.R 51 w 0 (Lo n0) (.slice B5 as_.length q5) as_) ∧ (∀ b ∈ bs, okE 8 b.f1) ∧ ∃ B q, w.heap[xb]? = some (.cells (itV (itB f0 nm md as_ bs) (.slice B5 as_.length q5) (.slice B bs.length q) NS NS NS) 58 (0, 0)) ∧ k79.R 79 w 0 (Lo n0) (.slice B bs.length q) bs
set_option maxHeartbeats 8000000 in
set_option maxRecDepth 100000 in
theorem bind_calls (G bp : Nat) (s : ByteArray) (A : Option Addr) (c : Nat) (l : List Tok) (begun : Int) (fv : Value) (k a : Nat) (w1 : World) (h : St G bp s A c l begun fv a w1) (xb pbx xbx n0 : Nat) (hne : xb ≠ bp ∧ pbx ≠ bp ∧ xbx ≠ bp ∧ xb < n0 ∧ bp < n0 ∧ n0 ≤ pbx ∧ n0 ≤ xbx ∧ n0 ≤ w1.heap.size ∧ G ≤ xb) (f0 : Int) (nm md : ByteArray) (as_ : List Dm) (B5 : Option Addr) (q5 : Nat) (acc : List Bnd) (hacc : acc.length ≤ 1000) (hI : BindsI bp xb pbx xbx n0 f0 nm md as_ B5 q5 acc w1) (res : PR Bnd) (hres : bindP k (l.drop a) = some res) :
  Calls Tryd.prog 73 #[.pointer (some ⟨pbx, 0, none⟩), .pointer (some ⟨xbx, 0, none⟩)] w1 (Tells bp l (InX xb n0) w1 (fun v x w' => x = .tuple #[] ∧ BindsI bp xb pbx xbx n0 f0 nm md as_ B5 q5 (acc ++ [v]) w') res) := by
 obtain ⟨⟨hp, hx⟩, h5, hok, B, q, hit, h6⟩ := hI
 have HS1 := aS h
 have HBP1 := aS hp
 have HBX1 := aS hx
 have HIT1 := aS hit
 have HR5_1 := aS h5
 have HR6_1 := aS h6
 have HOK := aS hok
 have HNE := aS hne
 have HLA := aS hacc
 have HA1 := aS (h.same (X := InX xb n0))
 have HQ1 := aS (show (andThen (some (nameP (l.drop a))) fun nm r1 => andThen (some (needP [58] r1)) fun _ r2 => andThen (exprP k r2) fun e r3 => some (.ok (⟨nm, e⟩ : Bnd) r3)) = some res from hres)
 have c1 : w1.cell? ⟨pbx, 0, none⟩ = some (.pointer (some ⟨bp, 0, none⟩)) := cH hp 0
 have HZ1 := aS (Nat.le_refl w1.heap.size)
 clear h hp hx h5 hok hit h6 hne hacc hres
 go_enter Tryd.func73, Tryd.ntmps73
 go_upto_region 1 with (go_at_call 35; refine calls_tells (name_tells HS1.out) ?_ (fun er t b a2 w' hq ht hb ha hat => And.intro rfl (tells_bad (and_bad HQ1.out rfl hq) ht hb ha (HA1.out.then_ hat))); rintro pn r b0 vv w2 hq rfl hb rfl hat; have qq := and_ok HQ1.out rfl hq; (try dsimp only at qq); have HQ2 := aS qq; clear qq; have HA2 := aS (HA1.out.then_ hat); have HS2 := aS (HS1.out.next hat hb); have HZ2 := aS hat.size; have HBP2 := aS (hat.obj HBP1.out HNE.out.2.1 id); have HBX2 := aS (hat.obj HBX1.out HNE.out.2.2.1 id); have HIT2 := aS (hat.obj HIT1.out HNE.out.1 id); have HR5_2 := aS (R_at HR5_1.out hat (fun k hk => ⟨by have h1 : n0 ≤ k := hk; have := HNE.out; omega, id⟩)); have HR6_2 := aS (R_at HR6_1.out hat (fun k hk => ⟨by have h1 : n0 ≤ k := hk; have := HNE.out; omega, id⟩)); clear hq hb hat)
 have hb := below_alloc (bR w2.heap.size w2) (.cells #[.string pn, .int .i64 0, .string ⟨#[]⟩, .int .i64 0, .string ⟨#[]⟩, .int .i64 0, .string ⟨#[]⟩, .int .i64 0, .string ⟨#[]⟩, .int .i64 0, .string ⟨#[]⟩, .slice none 0 0] 79)
 have HBB3 := aS (MapKept.heap_alloc w2 (.cells #[.string pn, .int .i64 0, .string ⟨#[]⟩, .int .i64 0, .string ⟨#[]⟩, .int .i64 0, .string ⟨#[]⟩, .int .i64 0, .string ⟨#[]⟩, .int .i64 0, .string ⟨#[]⟩, .slice none 0 0] 79)).1
 have NHBB := aS (show w2.heap.size ≠ bp by have := HS2.out.lt; omega)
 have HA3 := aS (HA2.out.below HS2.out.lt hb)
 have HS3 := aS (HS2.out.below hb)
 have HZ3 := aS hb.size
 have HBP3 := aS (fbelow HBP2.out hb)
 have HBX3 := aS (fbelow HBX2.out hb)
 have HIT3 := aS (fbelow HIT2.out hb)
 have HR5_3 := aS (Kd.R_below HR5_2.out hb)
 have HR6_3 := aS (Kd.R_mono (Kd.R_below (Kd.R_bound HR6_2.out) hb) (fun k hk => hk.1)); have HRB3 := aS (Kd.R_mono (ok' := fun k => n0 ≤ k ∧ k ≠ w2.heap.size) (Kd.R_below (Kd.R_bound HR6_2.out) hb) (fun k hk => ⟨hk.1, by have := hk.2.2.1; omega⟩))
 clear hb
 generalize w2.alloc (.cells #[.string pn, .int .i64 0, .string ⟨#[]⟩, .int .i64 0, .string ⟨#[]⟩, .int .i64 0, .string ⟨#[]⟩, .int .i64 0, .string ⟨#[]⟩, .int .i64 0, .string ⟨#[]⟩, .slice none 0 0] 79) = w3 at *
 have GEB := aS (show n0 ≤ w2.heap.size by have h1 := HNE.out; have h2 := HA2.out.size; omega)
 have HRL := aS (show ∀ k, (Value.slice B acc.length q).ownBlock = some k → k < w2.heap.size from fun k hk => by have h1 := (Kd.R_bound HR6_2.out).1 k hk; exact h1.2.2.1)
 generalize w2.heap.size = bb at *
 have p3 : w3.cell? ⟨pbx, 0, none⟩ = some (.pointer (some ⟨bp, 0, none⟩)) := cH HBP3.out 0
 go_upto_region 2 with (go_at_call 39; refine calls_tells (need_tells ⟨#[58]⟩ HS3.out) ?_ (fun er t b a2 w' hq ht hb ha hat => And.intro rfl (tells_bad (and_bad HQ2.out rfl hq) ht hb ha (HA3.out.then_ hat))); rintro u1 r b1 vv w4 hq rfl hb rfl hat; have qq := and_ok HQ2.out rfl hq; (try dsimp only at qq); have HQ3 := aS qq; clear qq; have HA4 := aS (HA3.out.then_ hat); have HS4 := aS (HS3.out.next hat hb); have HZ4 := aS hat.size; have HBP4 := aS (hat.obj HBP3.out HNE.out.2.1 id); have HBX4 := aS (hat.obj HBX3.out HNE.out.2.2.1 id); have HIT4 := aS (hat.obj HIT3.out HNE.out.1 id); have HBB4 := aS (hat.obj HBB3.out NHBB.out id); have HR5_4 := aS (R_at HR5_3.out hat (fun k hk => ⟨by have h1 : n0 ≤ k := hk; have := HNE.out; omega, id⟩)); have HRB4 := aS (R_at HRB3.out hat (fun k hk => ⟨by have h1 : n0 ≤ k := hk.1; have := HNE.out; omega, id⟩)); have HR6_4 := aS (R_at HR6_3.out hat (fun k hk => ⟨by have h1 : n0 ≤ k := hk; have := HNE.out; omega, id⟩)); have p4 : w4.cell? ⟨pbx, 0, none⟩ = some (.pointer (some ⟨bp, 0, none⟩)) := cH HBP4.out 0; clear hq hb hat)
 obtain ⟨y4, hy4⟩ := and_get HQ3.out
 have HY4 := aS hy4
 clear hy4
 have DHBP := aS (show pbx ≠ bb by rintro rfl; have h1 := HBB4.out; rw [HBP4.out] at h1; cases h1)
 have DHBX := aS (show xbx ≠ bb by rintro rfl; have h1 := HBB4.out; rw [HBX4.out] at h1; cases h1)
 have DHIT := aS (show xb ≠ bb by rintro rfl; have h1 := HBB4.out; rw [HIT4.out] at h1; cases h1)
 have HTY := True.intro
 have HBL := aS (show bb < w4.heap.size from (Array.getElem?_eq_some_iff.1 HBB4.out).1)
 go_upto_region 3 with (go_at_call 71; refine calls_tells (expr_is HS4.out HY4.out) ?_ (fun er t b a2 w' hq ht hb ha hat => And.intro rfl (tells_bad (and_bad HQ3.out HY4.out hq) ht hb ha (HA4.out.then_ hat))); rintro x r b2 vv w5 hq rfl hb ⟨C, p, rfl, hx, ho⟩ hat; have qq := and_ok HQ3.out HY4.out hq; (try dsimp only at qq); have HQ4 := aS qq; clear qq; have HA5 := aS (HA4.out.then_ hat); have HS5 := aS (HS4.out.next hat hb); have HZ5 := aS hat.size; have HBP5 := aS (hat.obj HBP4.out HNE.out.2.1 id); have HBX5 := aS (hat.obj HBX4.out HNE.out.2.2.1 id); have HIT5 := aS (hat.obj HIT4.out HNE.out.1 id); have HBB5 := aS (hat.obj HBB4.out NHBB.out id); have HR5_5 := aS (R_at HR5_4.out hat (fun k hk => ⟨by have h1 : n0 ≤ k := hk; have := HNE.out; omega, id⟩)); have HRB5 := aS (R_at HRB4.out hat (fun k hk => ⟨by have h1 : n0 ≤ k := hk.1; have := HNE.out; omega, id⟩)); have HR6_5 := aS (R_at HR6_4.out hat (fun k hk => ⟨by have h1 : n0 ≤ k := hk; have := HNE.out; omega, id⟩)); have HE_5 := aS (hx.mono (ok' := fun k => bb < k) (fun k hk => by have h1 : w4.heap.size ≤ k := hk; have h2 := HBL.out; omega)); have HKE := aS ho; have g1 := blk_frozen HBB5.out 1; have j1 : w5.cell? ⟨bb, 1, none⟩ = some (.int .i64 0) := cH HBB5.out 1; have g2 := blk_frozen HBB5.out 2; have j2 : w5.cell? ⟨bb, 2, none⟩ = some (.string ⟨#[]⟩) := cH HBB5.out 2; have g3 := blk_frozen HBB5.out 3; have j3 : w5.cell? ⟨bb, 3, none⟩ = some (.int .i64 0) := cH HBB5.out 3; have g4 := blk_frozen HBB5.out 4; have j4 : w5.cell? ⟨bb, 4, none⟩ = some (.string ⟨#[]⟩) := cH HBB5.out 4; have g5 := blk_frozen HBB5.out 5; have j5 : w5.cell? ⟨bb, 5, none⟩ = some (.int .i64 0) := cH HBB5.out 5; have g6 := blk_frozen HBB5.out 6; have j6 : w5.cell? ⟨bb, 6, none⟩ = some (.string ⟨#[]⟩) := cH HBB5.out 6; have g7 := blk_frozen HBB5.out 7; have j7 : w5.cell? ⟨bb, 7, none⟩ = some (.int .i64 0) := cH HBB5.out 7; have g8 := blk_frozen HBB5.out 8; have j8 : w5.cell? ⟨bb, 8, none⟩ = some (.string ⟨#[]⟩) := cH HBB5.out 8; have g9 := blk_frozen HBB5.out 9; have j9 : w5.cell? ⟨bb, 9, none⟩ = some (.int .i64 0) := cH HBB5.out 9; have g10 := blk_frozen HBB5.out 10; have j10 : w5.cell? ⟨bb, 10, none⟩ = some (.string ⟨#[]⟩) := cH HBB5.out 10; have g11 := blk_frozen HBB5.out 11; have j11 : w5.cell? ⟨bb, 11, none⟩ = some (.slice none 0 0) := cH HBB5.out 11; clear hq hb hat hx ho)
 change Code.wp _ _ _ _ (storeW w5 bb 1 [.int .i64 x.f0, .string x.f1.f0, .int .i64 x.f1.f1, .string x.f2.f0, .int .i64 x.f2.f1, .string x.f3.f0, .int .i64 x.f3.f1, .string x.f4.f0, .int .i64 x.f4.f1, .string x.f5, .slice C x.f6.length p])
 have HBB6 := aS (show (storeW w5 bb 1 [.int .i64 x.f0, .string x.f1.f0, .int .i64 x.f1.f1, .string x.f2.f0, .int .i64 x.f2.f1, .string x.f3.f0, .int .i64 x.f3.f1, .string x.f4.f0, .int .i64 x.f4.f1, .string x.f5, .slice C x.f6.length p]).heap[bb]? = some (.cells #[.string pn, .int .i64 x.f0, .string x.f1.f0, .int .i64 x.f1.f1, .string x.f2.f0, .int .i64 x.f2.f1, .string x.f3.f0, .int .i64 x.f3.f1, .string x.f4.f0, .int .i64 x.f4.f1, .string x.f5, .slice C x.f6.length p] 79) from storeW_new HBB5.out (by kernel_rfl))
 have HA6 := aS (storeW_at (X := InX xb n0) (.inr (.inr GEB.out)) NHBB.out [.int .i64 x.f0, .string x.f1.f0, .int .i64 x.f1.f1, .string x.f2.f0, .int .i64 x.f2.f1, .string x.f3.f0, .int .i64 x.f3.f1, .string x.f4.f0, .int .i64 x.f4.f1, .string x.f5, .slice C x.f6.length p] w5 1 HA5.out)
 have HS6 := aS (HS5.out.step (storeW_at (X := (fun k => k = bb)) (.inr rfl) NHBB.out [.int .i64 x.f0, .string x.f1.f0, .int .i64 x.f1.f1, .string x.f2.f0, .int .i64 x.f2.f1, .string x.f3.f0, .int .i64 x.f3.f1, .string x.f4.f0, .int .i64 x.f4.f1, .string x.f5, .slice C x.f6.length p] w5 1 (HS5.out.same (X := (fun k => k = bb)))) (fun k hk => by have h1 : k = bb := hk; have h2 := GEB.out; have h3 := HNE.out; have h4 := HS5.out.low; omega) HS5.out.room)
 have HBP6 := aS (storeW_other (show pbx ≠ bb from DHBP.out) [.int .i64 x.f0, .string x.f1.f0, .int .i64 x.f1.f1, .string x.f2.f0, .int .i64 x.f2.f1, .string x.f3.f0, .int .i64 x.f3.f1, .string x.f4.f0, .int .i64 x.f4.f1, .string x.f5, .slice C x.f6.length p] w5 1 HBP5.out)
 have HBX6 := aS (storeW_other (show xbx ≠ bb from DHBX.out) [.int .i64 x.f0, .string x.f1.f0, .int .i64 x.f1.f1, .string x.f2.f0, .int .i64 x.f2.f1, .string x.f3.f0, .int .i64 x.f3.f1, .string x.f4.f0, .int .i64 x.f4.f1, .string x.f5, .slice C x.f6.length p] w5 1 HBX5.out)
 have HIT6 := aS (storeW_other (show xb ≠ bb from DHIT.out) [.int .i64 x.f0, .string x.f1.f0, .int .i64 x.f1.f1, .string x.f2.f0, .int .i64 x.f2.f1, .string x.f3.f0, .int .i64 x.f3.f1, .string x.f4.f0, .int .i64 x.f4.f1, .string x.f5, .slice C x.f6.length p] w5 1 HIT5.out)
 have HR5_6 := aS (Kd.R_mono (storeW_rows (g := bb) (ok := fun k => n0 ≤ k ∧ k ≠ bb) (fun k hk => hk.2) [.int .i64 x.f0, .string x.f1.f0, .int .i64 x.f1.f1, .string x.f2.f0, .int .i64 x.f2.f1, .string x.f3.f0, .int .i64 x.f3.f1, .string x.f4.f0, .int .i64 x.f4.f1, .string x.f5, .slice C x.f6.length p] w5 1 (Kd.R_types HR5_5.out HBB5.out (by decide))) (fun k hk => hk.1))
 have HRB6' := aS (storeW_rows (g := bb) (ok := fun k => n0 ≤ k ∧ k ≠ bb) (fun k hk => hk.2) [.int .i64 x.f0, .string x.f1.f0, .int .i64 x.f1.f1, .string x.f2.f0, .int .i64 x.f2.f1, .string x.f3.f0, .int .i64 x.f3.f1, .string x.f4.f0, .int .i64 x.f4.f1, .string x.f5, .slice C x.f6.length p] w5 1 HRB5.out)
 have HR6_6 := aS (Kd.R_mono (storeW_rows (g := bb) (ok := fun k => n0 ≤ k ∧ k ≠ bb) (fun k hk => hk.2) [.int .i64 x.f0, .string x.f1.f0, .int .i64 x.f1.f1, .string x.f2.f0, .int .i64 x.f2.f1, .string x.f3.f0, .int .i64 x.f3.f1, .string x.f4.f0, .int .i64 x.f4.f1, .string x.f5, .slice C x.f6.length p] w5 1 HRB5.out) (fun k hk => hk.1))
 have HE_6 := aS (show ExR (fun k => bb < k) (storeW w5 bb 1 [.int .i64 x.f0, .string x.f1.f0, .int .i64 x.f1.f1, .string x.f2.f0, .int .i64 x.f2.f1, .string x.f3.f0, .int .i64 x.f3.f1, .string x.f4.f0, .int .i64 x.f4.f1, .string x.f5, .slice C x.f6.length p]) _ _ from storeW_rows (g := bb) (ok := fun k => bb < k) (fun k hk => by have h1 : bb < k := hk; omega) [.int .i64 x.f0, .string x.f1.f0, .int .i64 x.f1.f1, .string x.f2.f0, .int .i64 x.f2.f1, .string x.f3.f0, .int .i64 x.f3.f1, .string x.f4.f0, .int .i64 x.f4.f1, .string x.f5, .slice C x.f6.length p] w5 1 HE_5.out)
 clear g1 j1 g2 j2 g3 j3 g4 j4 g5 j5 g6 j6 g7 j7 g8 j8 g9 j9 g10 j10 g11 j11
 generalize storeW w5 bb 1 [.int .i64 x.f0, .string x.f1.f0, .int .i64 x.f1.f1, .string x.f2.f0, .int .i64 x.f2.f1, .string x.f3.f0, .int .i64 x.f3.f1, .string x.f4.f0, .int .i64 x.f4.f1, .string x.f5, .slice C x.f6.length p] = w6 at *
 have n1 : w6.cell? ⟨xbx, 0, none⟩ = some (.pointer (some ⟨xb, 0, none⟩)) := cH HBX6.out 0
 have n2 : w6.cell? ⟨xb, 8, none⟩ = some (.slice B acc.length q) := cH HIT6.out 8
 have m0 : w6.cell? ⟨bb, 0, none⟩ = some (.string pn) := cH HBB6.out 0
 have m1 : w6.cell? ⟨bb, 1, none⟩ = some (.int .i64 x.f0) := cH HBB6.out 1
 have m2 : w6.cell? ⟨bb, 2, none⟩ = some (.string x.f1.f0) := cH HBB6.out 2
 have m3 : w6.cell? ⟨bb, 3, none⟩ = some (.int .i64 x.f1.f1) := cH HBB6.out 3
 have m4 : w6.cell? ⟨bb, 4, none⟩ = some (.string x.f2.f0) := cH HBB6.out 4
 have m5 : w6.cell? ⟨bb, 5, none⟩ = some (.int .i64 x.f2.f1) := cH HBB6.out 5
 have m6 : w6.cell? ⟨bb, 6, none⟩ = some (.string x.f3.f0) := cH HBB6.out 6
 have m7 : w6.cell? ⟨bb, 7, none⟩ = some (.int .i64 x.f3.f1) := cH HBB6.out 7
 have m8 : w6.cell? ⟨bb, 8, none⟩ = some (.string x.f4.f0) := cH HBB6.out 8
 have m9 : w6.cell? ⟨bb, 9, none⟩ = some (.int .i64 x.f4.f1) := cH HBB6.out 9
 have m10 : w6.cell? ⟨bb, 10, none⟩ = some (.string x.f5) := cH HBB6.out 10
 have m11 : w6.cell? ⟨bb, 11, none⟩ = some (.slice C x.f6.length p) := cH HBB6.out 11
 have hbr := below_alloc (bR w6.heap.size w6) (.cells #[.string pn, .int .i64 x.f0, .string x.f1.f0, .int .i64 x.f1.f1, .string x.f2.f0, .int .i64 x.f2.f1, .string x.f3.f0, .int .i64 x.f3.f1, .string x.f4.f0, .int .i64 x.f4.f1, .string x.f5, .slice C x.f6.length p] 79)
 have x1 : (w6.alloc (.cells #[.string pn, .int .i64 x.f0, .string x.f1.f0, .int .i64 x.f1.f1, .string x.f2.f0, .int .i64 x.f2.f1, .string x.f3.f0, .int .i64 x.f3.f1, .string x.f4.f0, .int .i64 x.f4.f1, .string x.f5, .slice C x.f6.length p] 79)).cell? ⟨xbx, 0, none⟩ = some (.pointer (some ⟨xb, 0, none⟩)) := cH (fbelow HBX6.out hbr) 0
 have x2 : (w6.alloc (.cells #[.string pn, .int .i64 x.f0, .string x.f1.f0, .int .i64 x.f1.f1, .string x.f2.f0, .int .i64 x.f2.f1, .string x.f3.f0, .int .i64 x.f3.f1, .string x.f4.f0, .int .i64 x.f4.f1, .string x.f5, .slice C x.f6.length p] 79)).cell? ⟨xb, 8, none⟩ = some (.slice B acc.length q) := cH (fbelow HIT6.out hbr) 8
 have HN1 := aS (show pbx ≠ xb by have := HNE.out; omega)
 have hn2 : xbx ≠ xb := by have := HNE.out; omega
 have hn4 : xb ≠ xbx := fun e => hn2 e.symm
 have hn5 : xb ≠ bb := DHIT.out
 have hn6 : bb ≠ xb := fun e => hn5 e.symm
 have HR6d := aS (Kd.R_below HR6_6.out (below_drew (bR _ _)))
 clear hbr
 have HRB6 := aS (show k79.R 79 w6 0 (fun k => n0 ≤ k ∧ k ≠ bb) (.slice B acc.length q) acc from HRB6'.out)
 have HNW := aS (show ∀ k, bb < k → some k ≠ (Value.slice B acc.length q).ownBlock from fun k hk e => by have h1 := HRL.out k e.symm; omega)
 refine start_ (n := 11) (S := fun w' => w'.cell? ⟨xbx, 0, none⟩ = some (.pointer (some ⟨xb, 0, none⟩)) ∧ w'.cell? ⟨bb, 0, none⟩ = some (.string pn) ∧ w'.cell? ⟨bb, 1, none⟩ = some (.int .i64 x.f0) ∧ w'.cell? ⟨bb, 2, none⟩ = some (.string x.f1.f0) ∧ w'.cell? ⟨bb, 3, none⟩ = some (.int .i64 x.f1.f1) ∧ w'.cell? ⟨bb, 4, none⟩ = some (.string x.f2.f0) ∧ w'.cell? ⟨bb, 5, none⟩ = some (.int .i64 x.f2.f1) ∧ w'.cell? ⟨bb, 6, none⟩ = some (.string x.f3.f0) ∧ w'.cell? ⟨bb, 7, none⟩ = some (.int .i64 x.f3.f1) ∧ w'.cell? ⟨bb, 8, none⟩ = some (.string x.f4.f0) ∧ w'.cell? ⟨bb, 9, none⟩ = some (.int .i64 x.f4.f1) ∧ w'.cell? ⟨bb, 10, none⟩ = some (.string x.f5) ∧ w'.cell? ⟨bb, 11, none⟩ = some (.slice C x.f6.length p) ∧ w'.cell? ⟨xb, 8, none⟩ = some (.slice B acc.length q)) (ds := [10]) #[false, false, false, false, false, false, false, false, false, false, false] (by kernel_rfl) rfl rfl ⟨cH (heap_drew HBX6.out) 0, cH (heap_drew HBB6.out) 0, cH (heap_drew HBB6.out) 1, cH (heap_drew HBB6.out) 2, cH (heap_drew HBB6.out) 3, cH (heap_drew HBB6.out) 4, cH (heap_drew HBB6.out) 5, cH (heap_drew HBB6.out) 6, cH (heap_drew HBB6.out) 7, cH (heap_drew HBB6.out) 8, cH (heap_drew HBB6.out) 9, cH (heap_drew HBB6.out) 10, cH (heap_drew HBB6.out) 11, cH (heap_drew HIT6.out) 8⟩ (fun hHeld => ?_)
 refine take_ (i := 0) (N := some 11) (v := ?_) (a' := ?_) #[true, false, false, false, false, false, false, false, false, false, false] rfl rfl (by kernel_rfl) (fun _ _ _ h => h) (Or.inl ⟨by rfl, ?_⟩) hHeld ?_ ?_
 rotate_left
 ·rintro w' ⟨s0, s1, s2, s3, s4, s5, s6, s7, s8, s9, s10, s11, s12, s13⟩
  go_simp
  try with_reducible rfl
 rotate_left
 ·simp only [putAll, Act.put, sI, s0', s1']
  rfl
 refine take_ (i := 1) (N := some 12) (v := ?_) (a' := ?_) #[true, true, false, false, false, false, false, false, false, false, false] rfl rfl (by kernel_rfl) (fun _ _ _ h => h) (Or.inl ⟨by rfl, ?_⟩) hHeld ?_ ?_
 rotate_left
 ·rintro w' ⟨s0, s1, s2, s3, s4, s5, s6, s7, s8, s9, s10, s11, s12, s13⟩
  go_simp
  try with_reducible rfl
 rotate_left
 ·simp only [putAll, Act.put, sI, s0', s1']
  rfl
 refine pure_ (i := 2) (N := some 13) (v := ?_) (a' := ?_) #[true, true, true, false, false, false, false, false, false, false, false] rfl rfl (by kernel_rfl) (fun _ _ _ h => h) (Or.inl ⟨by rfl, ?_⟩) ?_ ?_
 rotate_left
 ·intro w'
  go_simp
  try with_reducible rfl
 rotate_left
 ·simp only [putAll, Act.put, sI, s0', s1']
  rfl
 refine pure_ (i := 3) (N := some 14) (v := ?_) (a' := ?_) #[true, true, true, true, false, false, false, false, false, false, false] rfl rfl (by kernel_rfl) (fun _ _ _ h => h) (Or.inl ⟨by rfl, ?_⟩) ?_ ?_
 rotate_left
 ·intro w'
  go_simp
  try with_reducible rfl
 rotate_left
 ·simp only [putAll, Act.put, sI, s0', s1']
  rfl
 refine take_ (i := 4) (N := some 15) (v := ?_) (a' := ?_) #[true, true, true, true, true, false, false, false, false, false, false] rfl rfl (by kernel_rfl) (fun _ _ _ h => h) (Or.inl ⟨by rfl, ?_⟩) hHeld ?_ ?_
 rotate_left
 ·rintro w' ⟨s0, s1, s2, s3, s4, s5, s6, s7, s8, s9, s10, s11, s12, s13⟩
  go_simp
  try with_reducible rfl
 rotate_left
 ·simp only [putAll, Act.put, sI, s0', s1']
  rfl
 refine take_ (i := 5) (N := some 16) (v := ?_) (a' := ?_) #[true, true, true, true, true, true, false, false, false, false, false] rfl rfl (by kernel_rfl) (fun _ _ _ h => h) (Or.inl ⟨by rfl, ?_⟩) hHeld ?_ ?_
 rotate_left
 ·rintro w' ⟨s0, s1, s2, s3, s4, s5, s6, s7, s8, s9, s10, s11, s12, s13⟩
  go_simp
  try with_reducible rfl
 rotate_left
 ·simp only [putAll, Act.put, sI, s0', s1']
  rfl
 have hbr := below_alloc (bR w6.drew.heap.size w6.drew) (.cells #[.string pn, .int .i64 x.f0, .string x.f1.f0, .int .i64 x.f1.f1, .string x.f2.f0, .int .i64 x.f2.f1, .string x.f3.f0, .int .i64 x.f3.f1, .string x.f4.f0, .int .i64 x.f4.f1, .string x.f5, .slice C x.f6.length p] 79)
 refine one_ (i := 6) (N := some 17) #[true, true, true, true, true, true, true, false, false, false, false] rfl rfl (by kernel_rfl) (by decide) (fun K hK => ?_)
 refine value_ (w1 := ?_) (v := ?_) (by rfl) rfl ?_ ?_
 rotate_left 2
 ·go_simp
  constructor
  ·rfl
  ·rfl
 refine hK.out _ _ ⟨cH (fbelow (heap_drew HBX6.out) hbr) 0, cH (fbelow (heap_drew HBB6.out) hbr) 0, cH (fbelow (heap_drew HBB6.out) hbr) 1, cH (fbelow (heap_drew HBB6.out) hbr) 2, cH (fbelow (heap_drew HBB6.out) hbr) 3, cH (fbelow (heap_drew HBB6.out) hbr) 4, cH (fbelow (heap_drew HBB6.out) hbr) 5, cH (fbelow (heap_drew HBB6.out) hbr) 6, cH (fbelow (heap_drew HBB6.out) hbr) 7, cH (fbelow (heap_drew HBB6.out) hbr) 8, cH (fbelow (heap_drew HBB6.out) hbr) 9, cH (fbelow (heap_drew HBB6.out) hbr) 10, cH (fbelow (heap_drew HBB6.out) hbr) 11, cH (fbelow (heap_drew HIT6.out) hbr) 8⟩ (fun hHeld => ?_)
 clear hK K
 refine norm_ (a' := ?_) ?_ ?_
 rotate_left
 ·show Act.put _ (some 17) _ = _
  simp only [putAll, Act.put, sI, s0', s1']
  rfl
 obtain ⟨v7, w7, hrun7, hR3, hg4, A3, q3, hv3⟩ := R_append_run (P := Tryd.prog) k79 53 53 79 (.agg #[.string ⟨#[]⟩, .int .i64 0, .string ⟨#[]⟩, .int .i64 0, .string ⟨#[]⟩, .int .i64 0, .string ⟨#[]⟩, .int .i64 0, .string ⟨#[]⟩, .int .i64 0, .string ⟨#[]⟩, .slice none 0 0]) 160 Tryd.underlying53 infoB rfl (by decide) (by decide) w6.drew (.slice B acc.length q) acc (⟨pn, x⟩ : Bnd) [.string pn, .int .i64 x.f0, .string x.f1.f0, .int .i64 x.f1.f1, .string x.f2.f0, .int .i64 x.f2.f1, .string x.f3.f0, .int .i64 x.f3.f1, .string x.f4.f0, .int .i64 x.f4.f1, .string x.f5, .slice C x.f6.length p] (Lo n0) (fun k => bb < k) (k79_mkM _ _ _ (⟨pn, x⟩ : Bnd) HE_6.out.drew) (fun k hk => ⟨by have h1 : bb < k := hk; have h2 := GEB.out; show n0 ≤ k; omega, HNW.out k hk⟩) (fun k hk => by have h1 : w6.heap.size ≤ k := hk; have h2 := GEB.out; have h3 := (Array.getElem?_eq_some_iff.1 HBB6.out).1; show n0 ≤ k; omega) HR6d.out (by have := HLA.out; omega)
 subst hv3
 have hg3 : w6.grownBy w7 (Value.slice B acc.length q).ownBlock := ⟨hg4.os, hg4.tape, hg4.output, hg4.size, hg4.block⟩
 have nb2 := Kd.R_ne HR6_6.out HBX6.out (by decide)
 have nb1 := Kd.R_ne HR6_6.out HBP6.out (by decide)
 have nb3 := Kd.R_ne HR6_6.out HIT6.out (by decide)
 have nb4 : some bb ≠ (Value.slice B acc.length q).ownBlock := (fun e => (HRB6.out.1 bb e.symm).2 rfl)
 have hlt := fun (g : Nat) (o : Obj) (h : w6.heap[g]? = some o) => (Array.getElem?_eq_some_iff.1 h).1
 have hbp7 := (hg3.block _ (hlt _ _ HBP6.out) nb1).trans HBP6.out
 have hbx7 := (hg3.block _ (hlt _ _ HBX6.out) nb2).trans HBX6.out
 have hit7 := (hg3.block _ (hlt _ _ HIT6.out) nb3).trans HIT6.out
 have hbb7 := (hg3.block _ (hlt _ _ HBB6.out) nb4).trans HBB6.out
 have HA7 := aS (HA6.out.grown HS6.out.lt hg3 (fun k hk => by have h1 : n0 ≤ k := HR6_6.out.1 k hk; have := HNE.out.2.2.2.2.1; exact ⟨by omega, .inl (.inr h1)⟩))
 have HR5_7 := aS (R_other HR5_6.out HR6_6.out (by decide) hg3)
 have HBP7 := aS hbp7
 have HBX7 := aS hbx7
 have HIT7 := aS hit7
 have HR6_7 := aS hR3
 refine one_ (i := 7) (N := some 18) #[true, true, true, true, true, true, true, true, false, false, false] rfl rfl (by kernel_rfl) (by decide) (fun K hK => ?_)
 refine value_ (w1 := w7) (v := .slice A3 (acc.length + 1) q3) (by rfl) rfl ?_ ?_
 ·exact append_exec hrun7 rfl rfl rfl rfl
 refine hK.out _ _ ⟨cH (hbx7) 0, cH (hbb7) 0, cH (hbb7) 1, cH (hbb7) 2, cH (hbb7) 3, cH (hbb7) 4, cH (hbb7) 5, cH (hbb7) 6, cH (hbb7) 7, cH (hbb7) 8, cH (hbb7) 9, cH (hbb7) 10, cH (hbb7) 11, cH (hit7) 8⟩ (fun hHeld => ?_)
 clear hK K
 refine norm_ (a' := ?_) ?_ ?_
 rotate_left
 ·show Act.put _ (some 18) _ = _
  simp only [putAll, Act.put, sI, s0', s1']
  rfl
 refine pure_ (i := 8) (N := some 19) (v := ?_) (a' := ?_) #[true, true, true, true, true, true, true, true, true, false, false] rfl rfl (by kernel_rfl) (fun _ _ _ h => h) (Or.inl ⟨by rfl, ?_⟩) ?_ ?_
 rotate_left
 ·intro w'
  go_simp
  try with_reducible rfl
 rotate_left
 ·simp only [putAll, Act.put, sI, s0', s1']
  rfl
 refine pure_ (i := 9) (N := some 20) (v := ?_) (a' := ?_) #[true, true, true, true, true, true, true, true, true, true, false] rfl rfl (by kernel_rfl) (fun _ _ _ h => h) (Or.inl ⟨by rfl, ?_⟩) ?_ ?_
 rotate_left
 ·intro w'
  go_simp
  try with_reducible rfl
 rotate_left
 ·simp only [putAll, Act.put, sI, s0', s1']
  rfl
 have f3 := blk_frozen hit7 8
 have y3 : w7.cell? ⟨xb, 8, none⟩ = some (.slice B acc.length q) := cH hit7 8
 refine last_ (i := 10) (N := none) #[true, true, true, true, true, true, true, true, true, true, true] rfl rfl (by kernel_rfl) (by decide) (fun K hK => ?_)
 refine skip_ (w1 := w7.setCell ⟨xb, 8, none⟩ (.slice A3 (acc.length + 1) q3)) (by rfl) rfl ?_ ?_
 ·simp [go_sem, y3, f3]
 refine hK.out _ _ ?_
 clear hK K
 refine done_ (by kernel_rfl) ?_
 clear nb1 nb2 nb3 nb4 hlt hbp7 hbx7 hit7 hbb7 hR3 hg3 hg4 hbr
 all_goals
  (try go_wp2)
  have hl : (acc ++ [(⟨pn, x⟩ : Bnd)]).length = acc.length + 1 := by simp
  have hit8 : (w7.setCell ⟨xb, 8, none⟩ (.slice A3 (acc.length + 1) q3)).heap[xb]? = some (.cells (itV (itB f0 nm md as_ (acc ++ [(⟨pn, x⟩ : Bnd)])) (.slice B5 as_.length q5) (.slice A3 (acc.length + 1) q3) NS NS NS) 58 (0, 0)) := set_new HIT7.out (by kernel_rfl)
  have HA8 := HA7.out.own (p := ⟨xb, 8, none⟩) (.inr (.inl rfl)) HNE.out.1 (.slice A3 (acc.length + 1) q3)
  have hno : ∀ k, n0 ≤ k → k ≠ xb := fun k hk => by have := HNE.out; omega
  refine bodyPost_end (results_none rfl _ _ _) rfl (tells_ok HQ4.out rfl HS6.out.room ⟨rfl, ⟨(Below.heap_setCell _ ⟨xb, 8, none⟩ _ _ HN1.out).trans HBP7.out, (Below.heap_setCell _ ⟨xb, 8, none⟩ _ _ hn2).trans HBX7.out⟩, Kd.R_far (p := ⟨xb, 8, none⟩) HR5_7.out hno _, ?_, A3, q3, ?_, ?_⟩ HA8)
  ·intro b hb; rcases List.mem_append.1 hb with hb | hb; exact HOK.out b hb; rw [List.mem_singleton] at hb; subst hb; exact HKE.out
  ·rw [hl]; exact hit8
  ·rw [hl]; exact Kd.R_far (p := ⟨xb, 8, none⟩) HR6_7.out hno _
theorem ArgsI.step {bp xb pbx xbx n0 b : Nat} {f0 : Int} {nm md : ByteArray} {as_ : List Dm} {w w' : World} (h : ArgsI bp xb pbx xbx n0 f0 nm md as_ w) (hat : At bp b no w w') (hne : xb ≠ bp ∧ pbx ≠ bp ∧ xbx ≠ bp ∧ bp < n0) : ArgsI bp xb pbx xbx n0 f0 nm md as_ w' := by
 obtain ⟨⟨h1, h2⟩, B, q, h3, h4⟩ := h
 exact ⟨⟨hat.obj h1 hne.2.1 id, hat.obj h2 hne.2.2.1 id⟩, B, q, hat.obj h3 hne.1 id, R_at h4 hat (fun k hk => ⟨by have h1 : n0 ≤ k := hk; have := hne.2.2.2; omega, id⟩)⟩
theorem BindsI.step {bp xb pbx xbx n0 b : Nat} {f0 : Int} {nm md : ByteArray} {as_ : List Dm} {B5 : Option Addr} {q5 : Nat} {bs : List Bnd} {w w' : World} (h : BindsI bp xb pbx xbx n0 f0 nm md as_ B5 q5 bs w) (hat : At bp b no w w') (hne : xb ≠ bp ∧ pbx ≠ bp ∧ xbx ≠ bp ∧ bp < n0) : BindsI bp xb pbx xbx n0 f0 nm md as_ B5 q5 bs w' := by
 obtain ⟨⟨h1, h2⟩, h5, hok, B, q, h3, h4⟩ := h
 have hr : ∀ k, n0 ≤ k → k ≠ bp ∧ ¬ no k := fun k hk => ⟨by have := hne.2.2.2; omega, id⟩
 exact ⟨⟨hat.obj h1 hne.2.1 id, hat.obj h2 hne.2.2.1 id⟩, R_at h5 hat hr, hok, B, q, hat.obj h3 hne.1 id, R_at h4 hat hr⟩
set_option maxHeartbeats 8000000 in
set_option maxRecDepth 100000 in
theorem inst_tells (G bp : Nat) (s : ByteArray) (A : Option Addr) (c : Nat) (l : List Tok) (begun : Int) (fv : Value) (k a : Nat) (w : World) (h : St G bp s A c l begun fv a w) (xb : Nat) (hxg : G ≤ xb) (hxb : xb ≠ bp) (f0 : Int) (nm : ByteArray) (hit : w.heap[xb]? = some (.cells (itV (it0 f0 nm) NS NS NS NS NS) 58 (0, 0))) (res : PR Itm) (hres : instP k (it0 f0 nm) (l.drop a) = some res) :
  Calls Tryd.prog 63 #[.pointer (some ⟨bp, 0, none⟩), .pointer (some ⟨xb, 0, none⟩)] w (Tells bp l (fun k => k = xb) w (encI (Lo w.heap.size) xb) res) := by
 have hsz : (w.alloc (.cells #[.pointer (some ⟨bp, 0, none⟩)] 65)).heap.size = w.heap.size + 1 := by show (w.heap.push _).size = _; simp
 have hb1 := below_alloc (below_alloc (bR w.heap.size w) (.cells #[.pointer (some ⟨bp, 0, none⟩)] 65)) (.cells #[.pointer (some ⟨xb, 0, none⟩)] 107)
 have HBP1 := aS (show ((w.alloc (.cells #[.pointer (some ⟨bp, 0, none⟩)] 65)).alloc (.cells #[.pointer (some ⟨xb, 0, none⟩)] 107)).heap[w.heap.size]? = some (.cells #[.pointer (some ⟨bp, 0, none⟩)] 65) from fbelow (MapKept.heap_alloc w (.cells #[.pointer (some ⟨bp, 0, none⟩)] 65)).1 (below_alloc (bR _ _) (.cells #[.pointer (some ⟨xb, 0, none⟩)] 107)))
 have HBX1 := aS (show ((w.alloc (.cells #[.pointer (some ⟨bp, 0, none⟩)] 65)).alloc (.cells #[.pointer (some ⟨xb, 0, none⟩)] 107)).heap[w.heap.size + 1]? = some (.cells #[.pointer (some ⟨xb, 0, none⟩)] 107) by have qq := (MapKept.heap_alloc (w.alloc (.cells #[.pointer (some ⟨bp, 0, none⟩)] 65)) (.cells #[.pointer (some ⟨xb, 0, none⟩)] 107)).1; rw [hsz] at qq; exact qq)
 have hlt := h.lt
 have hxl := (Array.getElem?_eq_some_iff.1 hit).1
 have HA1 := aS ((h.same (X := (fun k => k = xb))).below h.lt hb1)
 have HS1 := aS (h.below hb1)
 have HIT1 := aS (fbelow hit hb1)
 have HNE := aS (show xb ≠ bp ∧ w.heap.size ≠ bp ∧ w.heap.size + 1 ≠ bp ∧ xb < w.heap.size ∧ bp < w.heap.size ∧ w.heap.size ≤ w.heap.size ∧ w.heap.size ≤ w.heap.size + 1 ∧ G ≤ xb from ⟨hxb, by omega, by omega, hxl, hlt, Nat.le_refl _, by omega, hxg⟩)
 have HQ1 := aS (show (andThen (some (nameP (l.drop a))) fun md r1 => andThen (argsP r1) fun as_ r2 => andThen (some (needP [40] r2)) fun _ r3 => andThen (bindsP k r3) fun bs r4 => some (.ok ({ (it0 f0 nm) with f4 := md, f5 := as_, f6 := bs } : Itm) r4)) = some res from hres)
 have HNX := aS (show w.heap.size ≠ xb ∧ w.heap.size + 1 ≠ xb from ⟨by omega, by omega⟩)
 clear h hit hb1 hsz hlt hxl hxg hxb hres
 go_enter Tryd.func63, Tryd.ntmps63
 go_upto_region 1 with (fail)
 generalize ((w.alloc (.cells #[.pointer (some ⟨bp, 0, none⟩)] 65)).alloc (.cells #[.pointer (some ⟨xb, 0, none⟩)] 107)) = w1 at *
 have c1 : w1.cell? ⟨w.heap.size, 0, none⟩ = some (.pointer (some ⟨bp, 0, none⟩)) := cH HBP1.out 0
 have c2 : w1.cell? ⟨w.heap.size + 1, 0, none⟩ = some (.pointer (some ⟨xb, 0, none⟩)) := cH HBX1.out 0
 have hb := below_drew (bR w1.heap.size w1)
 have HS1d := aS (HS1.out.below hb)
 have HBP1d := aS (fbelow HBP1.out hb)
 have HBX1d := aS (fbelow HBX1.out hb)
 have HIT1d := aS (fbelow HIT1.out hb)
 clear hb
 go_region_with (go_at_call 35; refine calls_tells (name_tells HS1d.out) ?_ (fun er t b a2 w' hq ht hb ha hat => And.intro rfl (tells_bad (and_bad HQ1.out rfl hq) ht hb ha (HA1.out.drew.then_ hat))); rintro md r b1 vv w2 hq rfl hb rfl hat; have qq := and_ok HQ1.out rfl hq; (try dsimp only at qq); have HQ2 := aS qq; clear qq; have HA2 := aS (HA1.out.drew.then_ hat); have HS2 := aS (HS1d.out.next hat hb); have HBP2 := aS (hat.obj HBP1d.out HNE.out.2.1 id); have HBX2 := aS (hat.obj HBX1d.out HNE.out.2.2.1 id); have HIT2 := aS (hat.obj HIT1d.out HNE.out.1 id); have d1 : w2.cell? ⟨w.heap.size, 0, none⟩ = some (.pointer (some ⟨bp, 0, none⟩)) := cH HBP2.out 0; have d2 : w2.cell? ⟨w.heap.size + 1, 0, none⟩ = some (.pointer (some ⟨xb, 0, none⟩)) := cH HBX2.out 0;  have j6 : w2.cell? ⟨xb, 6, none⟩ = some (.string ⟨#[]⟩) := cH HIT2.out 6; have g6 := blk_frozen HIT2.out 6; have HZ2 := aS (show w.heap.size ≤ w2.heap.size by have h1 := (Array.getElem?_eq_some_iff.1 HBX2.out).1; omega); clear hq hb hat)
 all_goals
  have HA3 := aS (HA2.out.own (p := ⟨xb, 6, none⟩) (.inr rfl) HNE.out.1 (.string md))
  have HS3 := aS (HS2.out.step ((HS2.out.same (X := (fun k => k = xb))).own (p := ⟨xb, 6, none⟩) (.inr rfl) HNE.out.1 (.string md)) (fun k hk => by have h1 : k = xb := hk; have h2 := HNE.out; omega) HS2.out.room)
  have HI3 := aS (show ArgsI bp xb w.heap.size (w.heap.size + 1) w.heap.size f0 nm md [] (w2.setCell ⟨xb, 6, none⟩ (.string md)) from ⟨⟨(Below.heap_setCell _ ⟨xb, 6, none⟩ _ _ (show w.heap.size ≠ xb from HNX.out.1)).trans HBP2.out, (Below.heap_setCell _ ⟨xb, 6, none⟩ _ _ (show w.heap.size + 1 ≠ xb from HNX.out.2)).trans HBX2.out⟩, none, 0, set_new HIT2.out (by kernel_rfl), Kd.R_nil _ _ _ _ _⟩)
  have HZ3 := aS (show w.heap.size ≤ (w2.setCell ⟨xb, 6, none⟩ (.string md)).heap.size by rw [size_set]; exact HZ2.out)
  clear j6 g6 d1 d2 c1 c2
  (try simp only [Exit.then])
  go_upto_region 2 with (fail)
  generalize (w2.setCell ⟨xb, 6, none⟩ (.string md)) = w3 at *
  have e1 : w3.cell? ⟨w.heap.size, 0, none⟩ = some (.pointer (some ⟨bp, 0, none⟩)) := cH HI3.out.1.p 0
  have hmf : ∀ (fn : Fn) (first cap : Array Value) (w : World), (Instr.makeFunc fn first cap).run Tryd.prog w = .ok (.func fn first cap) w := fun _ _ _ _ => rfl
  clear HA2 HS2 HBP2 HBX2 HIT2 HZ2
  go_upto_region 3 with (go_not_at_region 4; go_at_call 36; refine calls_take (take_tells ⟨#[60]⟩ HS3.out) ?_ ?_; rotate_left; (rintro w4 hq hat; have hb := HS3.out.room; have HQ5 := aS (show (andThen (some (needP [40] (l.drop b1))) fun _ r3 => andThen (bindsP k r3) fun bs r4 => some (.ok ({ (it0 f0 nm) with f4 := md, f5 := [], f6 := bs } : Itm) r4)) = some res by have qq := HQ2.out; unfold argsP at qq; rw [hq] at qq; exact qq); have HA4 := aS (HA3.out.then_ hat); have HS4 := aS (HS3.out.next hat hb); have HI4 := aS (HI3.out.step hat ⟨HNE.out.1, HNE.out.2.1, HNE.out.2.2.1, HNE.out.2.2.2.2.1⟩); have HZ4 := aS (Nat.le_trans HZ3.out hat.size); have e2 : w4.cell? ⟨w.heap.size, 0, none⟩ = some (.pointer (some ⟨bp, 0, none⟩)) := cH HI4.out.1.p 0; clear hq hb hat); rotate_left; (rintro w4 hq hb hat; have HQ4 := aS (show (andThen (listP [62] (fun r => some (dimP r)) 4 [] (l.drop (b1 + 1))) fun as_ r2 => andThen (some (needP [40] r2)) fun _ r3 => andThen (bindsP k r3) fun bs r4 => some (.ok ({ (it0 f0 nm) with f4 := md, f5 := as_, f6 := bs } : Itm) r4)) = some res by have qq := HQ2.out; unfold argsP at qq; rw [hq] at qq; exact qq); have HA4 := aS (HA3.out.then_ hat); have HS4 := aS (HS3.out.next hat hb); have HI4 := aS (HI3.out.step hat ⟨HNE.out.1, HNE.out.2.1, HNE.out.2.2.1, HNE.out.2.2.2.2.1⟩); have HZ4 := aS (Nat.le_trans HZ3.out hat.size); have e2 : w4.cell? ⟨w.heap.size, 0, none⟩ = some (.pointer (some ⟨bp, 0, none⟩)) := cH HI4.out.1.p 0; obtain ⟨y4, hy4⟩ := and_get HQ4.out; have HY4 := aS hy4; clear hq hb hat hy4))
  ·go_upto_region 4 with (go_at_call 37; refine calls_tells (list_tells G bp s A c l begun fv 72 #[.pointer (some ⟨w.heap.size + 1, 0, none⟩), .pointer (some ⟨w.heap.size, 0, none⟩)] ⟨#[62]⟩ (fun r => some (dimP r)) (fun as_ w' => ArgsI bp xb w.heap.size (w.heap.size + 1) w.heap.size f0 nm md as_ w') (InX xb w.heap.size) (fun k hk => hk.elim (fun e => by have h2 := HNE.out; omega) (fun e => by have h2 := HNE.out; have h3 := HS3.out.low; omega)) (b1 + 1) w4 4 [] (fun w => by kernel_rfl) (fun acc' b6 w6 res1 hlen hat hst hi hone => arg_calls G bp s A c l begun fv b6 w6 hst xb _ _ _ ⟨HNE.out.1, HNE.out.2.1, HNE.out.2.2.1, HNE.out.2.2.2.1, HNE.out.2.2.2.2.1, HNE.out.2.2.2.2.2.1, HNE.out.2.2.2.2.2.2.1, Nat.le_trans HZ4.out hat.size, HNE.out.2.2.2.2.2.2.2⟩ f0 nm md acc' (by have h1 : acc'.length ≤ 0 + 4 := hlen; omega) hi res1 (Option.some.inj hone)) (fun ac b6 w6 w7 hi hat => hi.step hat ⟨HNE.out.1, HNE.out.2.1, HNE.out.2.2.1, HNE.out.2.2.2.2.1⟩) (by omega) HS4.out HI4.out y4 HY4.out) ?_ (fun er t b a2 w' hq ht hb ha hat => And.intro rfl (tells_bad (and_bad HQ4.out HY4.out hq) ht hb ha (HA4.out.new hat (fun i hi => hi)))); rintro as_ r b5 vv w5 hq rfl hb ⟨rfl, hi⟩ hat; have HLA := aS (show as_.length ≤ 4 by have h1 := list_len [62] _ 4 [] _ _ _ (HY4.out.trans (congrArg some hq)); have h2 : as_.length ≤ 0 + 4 := h1; omega); have qq := and_ok HQ4.out HY4.out hq; have HQ5 := aS qq; clear qq; have HA5 := aS (HA4.out.new hat (fun i hi => hi)); have HS5 := aS (HS4.out.step hat (fun k hk => hk.elim (fun e => by have h2 := HNE.out; omega) (fun e => by have h2 := HNE.out; have h3 := HS3.out.low; omega)) hb); have HI5 := aS hi; have HZ5 := aS (Nat.le_trans HZ4.out hat.size); have e5 : w5.cell? ⟨w.heap.size, 0, none⟩ = some (.pointer (some ⟨bp, 0, none⟩)) := cH hi.1.p 0; clear hq hb hi hat)
   go_upto_region 5 with (go_at_call 39; refine calls_tells (need_tells ⟨#[40]⟩ HS5.out) ?_ (fun er t b a2 w' hq ht hb ha hat => And.intro rfl (tells_bad (and_bad HQ5.out rfl hq) ht hb ha (HA5.out.then_ hat))); rintro u r b6 vv w6 hq rfl hb rfl hat; have qq := and_ok HQ5.out rfl hq; (try dsimp only at qq); have HQ6 := aS qq; clear qq; have HA6 := aS (HA5.out.then_ hat); have HS6 := aS (HS5.out.next hat hb); have HI6 := aS (HI5.out.step hat ⟨HNE.out.1, HNE.out.2.1, HNE.out.2.2.1, HNE.out.2.2.2.2.1⟩); have HZ6 := aS (Nat.le_trans HZ5.out hat.size); have k6 : w6.cell? ⟨w.heap.size, 0, none⟩ = some (.pointer (some ⟨bp, 0, none⟩)) := cH HI6.out.1.p 0; clear hq hb hat)
   obtain ⟨⟨hbp, hbx⟩, B5, q5, hit, hr5⟩ := HI6.out
   have HJ6 := aS (show BindsI bp xb w.heap.size (w.heap.size + 1) w.heap.size f0 nm md as_ B5 q5 [] w6 from ⟨⟨hbp, hbx⟩, hr5, (fun b hb => by cases hb), none, 0, hit, Kd.R_nil _ _ _ _ _⟩)
   clear hbp hbx hit hr5
   go_upto_region 6 with (go_at_call 36; refine calls_take (take_tells ⟨#[41]⟩ HS6.out) ?_ ?_; rotate_left; (rintro w7 hq hat; have hb := HS6.out.room; have HQ7 := aS (show (andThen (listP [41] (bindP k) 16 [] (l.drop b6)) fun bs r4 => some (.ok (itB f0 nm md as_ bs) r4)) = some res by have qq := HQ6.out; unfold bindsP at qq; rw [hq] at qq; exact qq); have HA7 := aS (HA6.out.then_ hat); have HS7 := aS (HS6.out.next hat hb); have HJ7 := aS (HJ6.out.step hat ⟨HNE.out.1, HNE.out.2.1, HNE.out.2.2.1, HNE.out.2.2.2.2.1⟩); have HZ7 := aS (Nat.le_trans HZ6.out hat.size); have m7 : w7.cell? ⟨w.heap.size, 0, none⟩ = some (.pointer (some ⟨bp, 0, none⟩)) := cH HJ7.out.1.p 0;  obtain ⟨y7, hy7⟩ := and_get HQ7.out; have HY7 := aS hy7; clear hq hb hat hy7); rotate_left; (rintro w7 hq hb hat; have HR := aS (show some (PR.ok (itB f0 nm md as_ []) (l.drop (b6 + 1))) = some res by have qq := HQ6.out; unfold bindsP at qq; rw [hq] at qq; exact qq); have HA7 := aS (HA6.out.then_ hat); have HS7 := aS (HS6.out.next hat hb); have HJ7 := aS (HJ6.out.step hat ⟨HNE.out.1, HNE.out.2.1, HNE.out.2.2.1, HNE.out.2.2.2.2.1⟩); have HZ7 := aS (Nat.le_trans HZ6.out hat.size); have m7 : w7.cell? ⟨w.heap.size, 0, none⟩ = some (.pointer (some ⟨bp, 0, none⟩)) := cH HJ7.out.1.p 0;  clear hq hb hat))
   ·obtain ⟨_, hr5, hok, B, q, hit, hr6⟩ := HJ7.out
    (try simp only [Exit.noGoto_ret])
    refine bodyPost_ret (results_none rfl _ _ _) rfl ?_
    exact tells_ok (v := itB f0 nm md as_ []) HR.out rfl HS7.out.room ⟨rfl, _, _, NS, NS, NS, hit, ⟨hr5, hr6, exR_nil _ _, exR_nil _ _, exR_nil _ _⟩, HLA.out, Nat.zero_le _, hok, ok_zEx, ok_zEx, ok_zEx⟩ HA7.out
   ·go_wp2_with (go_at_call 37; refine calls_tells (list_tells G bp s A c l begun fv 73 #[.pointer (some ⟨w.heap.size, 0, none⟩), .pointer (some ⟨w.heap.size + 1, 0, none⟩)] ⟨#[41]⟩ (bindP k) (fun bs w' => BindsI bp xb w.heap.size (w.heap.size + 1) w.heap.size f0 nm md as_ B5 q5 bs w') (InX xb w.heap.size) (fun k hk => hk.elim (fun e => by have h2 := HNE.out; omega) (fun e => by have h2 := HNE.out; have h3 := HS3.out.low; omega)) (b6) w7 16 [] (fun w => by kernel_rfl) (fun acc' b8 w8 res1 hlen hat hst hi hone => bind_calls G bp s A c l begun fv k b8 w8 hst xb _ _ _ ⟨HNE.out.1, HNE.out.2.1, HNE.out.2.2.1, HNE.out.2.2.2.1, HNE.out.2.2.2.2.1, HNE.out.2.2.2.2.2.1, HNE.out.2.2.2.2.2.2.1, Nat.le_trans HZ7.out hat.size, HNE.out.2.2.2.2.2.2.2⟩ f0 nm md as_ B5 q5 acc' (by have h1 : acc'.length ≤ 0 + 16 := hlen; omega) hi res1 hone) (fun ac b6 w6 w7 hi hat => hi.step hat ⟨HNE.out.1, HNE.out.2.1, HNE.out.2.2.1, HNE.out.2.2.2.2.1⟩) (by omega) HS7.out HJ7.out y7 HY7.out) ?_ (fun er t b a2 w' hq ht hb ha hat => And.intro rfl (tells_bad (and_bad HQ7.out HY7.out hq) ht hb ha (HA7.out.new hat (fun i hi => hi)))); rintro bs r b7 vv w8 hq rfl hb ⟨rfl, hi⟩ hat; have HLB := aS (show bs.length ≤ 16 by have h1 := list_len [41] _ 16 [] _ _ _ (HY7.out.trans (congrArg some hq)); have h2 : bs.length ≤ 0 + 16 := h1; omega); have qq := and_ok HQ7.out HY7.out hq; have HR := aS qq; clear qq; have HA8 := aS (HA7.out.new hat (fun i hi => hi)); have HJ8 := aS hi; have HB8 := aS hb; clear hq hb hi hat)
    obtain ⟨_, hr5, hok, B, q, hit, hr6⟩ := HJ8.out
    refine bodyPost_end (results_none rfl _ _ _) rfl ?_
    exact tells_ok (v := itB f0 nm md as_ bs) HR.out rfl HB8.out ⟨rfl, _, _, NS, NS, NS, hit, ⟨hr5, hr6, exR_nil _ _, exR_nil _ _, exR_nil _ _⟩, HLA.out, HLB.out, hok, ok_zEx, ok_zEx, ok_zEx⟩ HA8.out
  ·go_upto_region 5 with (go_at_call 39; refine calls_tells (need_tells ⟨#[40]⟩ HS4.out) ?_ (fun er t b a2 w' hq ht hb ha hat => And.intro rfl (tells_bad (and_bad HQ5.out rfl hq) ht hb ha (HA4.out.then_ hat))); rintro u r b6 vv w5 hq rfl hb rfl hat; have qq := and_ok HQ5.out rfl hq; (try dsimp only at qq); have HQ6 := aS qq; clear qq; have HA5 := aS (HA4.out.then_ hat); have HS5 := aS (HS4.out.next hat hb); have HI5 := aS (HI4.out.step hat ⟨HNE.out.1, HNE.out.2.1, HNE.out.2.2.1, HNE.out.2.2.2.2.1⟩); have HZ5 := aS (Nat.le_trans HZ4.out hat.size); have k5 : w5.cell? ⟨w.heap.size, 0, none⟩ = some (.pointer (some ⟨bp, 0, none⟩)) := cH HI5.out.1.p 0; clear hq hb hat)
   obtain ⟨⟨hbp, hbx⟩, B5, q5, hit, hr5⟩ := HI5.out
   have HJ5 := aS (show BindsI bp xb w.heap.size (w.heap.size + 1) w.heap.size f0 nm md [] B5 q5 [] w5 from ⟨⟨hbp, hbx⟩, hr5, (fun b hb => by cases hb), none, 0, hit, Kd.R_nil _ _ _ _ _⟩)
   clear hbp hbx hit hr5
   go_upto_region 6 with (go_at_call 36; refine calls_take (take_tells ⟨#[41]⟩ HS5.out) ?_ ?_; rotate_left; (rintro w6 hq hat; have hb := HS5.out.room; have HQ7 := aS (show (andThen (listP [41] (bindP k) 16 [] (l.drop b6)) fun bs r4 => some (.ok (itB f0 nm md [] bs) r4)) = some res by have qq := HQ6.out; unfold bindsP at qq; rw [hq] at qq; exact qq); have HA6 := aS (HA5.out.then_ hat); have HS6 := aS (HS5.out.next hat hb); have HJ6 := aS (HJ5.out.step hat ⟨HNE.out.1, HNE.out.2.1, HNE.out.2.2.1, HNE.out.2.2.2.2.1⟩); have HZ6 := aS (Nat.le_trans HZ5.out hat.size); have m6 : w6.cell? ⟨w.heap.size, 0, none⟩ = some (.pointer (some ⟨bp, 0, none⟩)) := cH HJ6.out.1.p 0;  obtain ⟨y7, hy7⟩ := and_get HQ7.out; have HY7 := aS hy7; clear hq hb hat hy7); rotate_left; (rintro w6 hq hb hat; have HR := aS (show some (PR.ok (itB f0 nm md [] []) (l.drop (b6 + 1))) = some res by have qq := HQ6.out; unfold bindsP at qq; rw [hq] at qq; exact qq); have HA6 := aS (HA5.out.then_ hat); have HS6 := aS (HS5.out.next hat hb); have HJ6 := aS (HJ5.out.step hat ⟨HNE.out.1, HNE.out.2.1, HNE.out.2.2.1, HNE.out.2.2.2.2.1⟩); have HZ6 := aS (Nat.le_trans HZ5.out hat.size); have m6 : w6.cell? ⟨w.heap.size, 0, none⟩ = some (.pointer (some ⟨bp, 0, none⟩)) := cH HJ6.out.1.p 0;  clear hq hb hat))
   ·obtain ⟨_, hr5, hok, B, q, hit, hr6⟩ := HJ6.out
    (try simp only [Exit.noGoto_ret])
    refine bodyPost_ret (results_none rfl _ _ _) rfl ?_
    exact tells_ok (v := itB f0 nm md [] []) HR.out rfl HS6.out.room ⟨rfl, _, _, NS, NS, NS, hit, ⟨hr5, hr6, exR_nil _ _, exR_nil _ _, exR_nil _ _⟩, Nat.zero_le _, Nat.zero_le _, hok, ok_zEx, ok_zEx, ok_zEx⟩ HA6.out
   ·go_wp2_with (go_at_call 37; refine calls_tells (list_tells G bp s A c l begun fv 73 #[.pointer (some ⟨w.heap.size, 0, none⟩), .pointer (some ⟨w.heap.size + 1, 0, none⟩)] ⟨#[41]⟩ (bindP k) (fun bs w' => BindsI bp xb w.heap.size (w.heap.size + 1) w.heap.size f0 nm md [] B5 q5 bs w') (InX xb w.heap.size) (fun k hk => hk.elim (fun e => by have h2 := HNE.out; omega) (fun e => by have h2 := HNE.out; have h3 := HS3.out.low; omega)) (b6) w6 16 [] (fun w => by kernel_rfl) (fun acc' b8 w8 res1 hlen hat hst hi hone => bind_calls G bp s A c l begun fv k b8 w8 hst xb _ _ _ ⟨HNE.out.1, HNE.out.2.1, HNE.out.2.2.1, HNE.out.2.2.2.1, HNE.out.2.2.2.2.1, HNE.out.2.2.2.2.2.1, HNE.out.2.2.2.2.2.2.1, Nat.le_trans HZ6.out hat.size, HNE.out.2.2.2.2.2.2.2⟩ f0 nm md [] B5 q5 acc' (by have h1 : acc'.length ≤ 0 + 16 := hlen; omega) hi res1 hone) (fun ac b6 w6 w7 hi hat => hi.step hat ⟨HNE.out.1, HNE.out.2.1, HNE.out.2.2.1, HNE.out.2.2.2.2.1⟩) (by omega) HS6.out HJ6.out y7 HY7.out) ?_ (fun er t b a2 w' hq ht hb ha hat => And.intro rfl (tells_bad (and_bad HQ7.out HY7.out hq) ht hb ha (HA6.out.new hat (fun i hi => hi)))); rintro bs r b7 vv w7 hq rfl hb ⟨rfl, hi⟩ hat; have HLB := aS (show bs.length ≤ 16 by have h1 := list_len [41] _ 16 [] _ _ _ (HY7.out.trans (congrArg some hq)); have h2 : bs.length ≤ 0 + 16 := h1; omega); have qq := and_ok HQ7.out HY7.out hq; have HR := aS qq; clear qq; have HA7 := aS (HA6.out.new hat (fun i hi => hi)); have HJ7 := aS hi; have HB7 := aS hb; clear hq hb hi hat)
    obtain ⟨_, hr5, hok, B, q, hit, hr6⟩ := HJ7.out
    refine bodyPost_end (results_none rfl _ _ _) rfl ?_
    exact tells_ok (v := itB f0 nm md [] bs) HR.out rfl HB7.out ⟨rfl, _, _, NS, NS, NS, hit, ⟨hr5, hr6, exR_nil _ _, exR_nil _ _, exR_nil _ _⟩, Nat.zero_le _, HLB.out, hok, ok_zEx, ok_zEx, ok_zEx⟩ HA7.out
end Go.Proofs.YtenogedclignmaaDoor.Q
namespace Go.Proofs.YtenogedclignmaaDoor.Q
open Go.RowKit Go.Maps Go.WideMaps Go.ChangeMaps Go.Proofs.YtenogedclignmaaDoorW.PrintWords Go.Proofs.YtenogedclignmaaDoorW.PrintLast Go.Proofs.YtenogedclignmaaDoorW.PrintMore
def mets (bp : Nat) : List (Int × FuncId) → Nat → List MapEntry
 | [], _ => []
 | (k, f) :: r, i => { key := .int .i64 k, val := .func (.func f) #[.pointer (some ⟨bp, 0, none⟩)] #[], born := i } :: mets bp r (i + 1)
def metL : List (Int × FuncId) := [(1, 60), (2, 61), (5, 62), (7, 63), (6, 64), (3, 65), (4, 65), (8, 66), (9, 66), (10, 66)]
theorem intKey : Tryd.prog.underlying 3 = some (.int .i64) := Tryd.underlying3
theorem ins_run {w : World} {r clock : Nat} {es : Array MapEntry} {k : Int} (v : Value) (hb : w.heap[r]? = some (.map es clock)) (hf : Instr.findNow (.int .i64) (.int .i64 k) es.toList 0 = some none) :
  (Instr.mapUpdate 106 (.map (some r)) (.int .i64 k) v).run Tryd.prog w = .ok () (setBlock w r (.map (es.push { key := .int .i64 k, val := v, born := clock }) (clock + 1))) := by
 have hc : (Instr.checkKey false 10000 3 (.int .i64 k)).run Tryd.prog w = .ok () w := MapKept.run_checkKey (k := .int .i64 k) intKey (by simp [MapKept.IsKey]) false 9999
 simp [Instr.mapUpdate, run_underlying (show Tryd.prog.underlying 106 = _ from Tryd.underlying106), MapKept.run_getObj_map hb, hc, MapKept.run_findKey intKey hf, MapKept.run_setObj_map _ hb, Result.andThen, setBlock]
theorem setBlock_heap {w : World} {r : Nat} {o o2 : Obj} (hb : w.heap[r]? = some o) : (setBlock w r o2).heap[r]? = some o2 := by
 have hlt := (Array.getElem?_eq_some_iff.1 hb).1
 simp [setBlock, hlt]
theorem setBlock_other {w : World} {r j : Nat} {o : Obj} (hne : j ≠ r) : (setBlock w r o).heap[j]? = w.heap[j]? := by
 simp [setBlock, Array.getElem?_setIfInBounds_ne (Ne.symm hne)]
theorem setBlock_at {bp b : Nat} {X : Nat → Prop} {w w1 : World} {r : Nat} {o : Obj} (h : At bp b X w w1) (hr : w.heap.size ≤ r) (hn : r ≠ bp) : At bp b X w (setBlock w1 r o) :=
 ⟨h.os, h.tape, h.output, by show w.heap.size ≤ (w1.heap.setIfInBounds r o).size; rw [Array.size_setIfInBounds]; exact h.size, fun cs T fr e => (setBlock_other (Ne.symm hn)).trans (h.blk cs T fr e), fun k h1 h2 h3 => (setBlock_other (by omega)).trans (h.rest k h1 h2 h3)⟩
theorem look_run {w : World} {r clock : Nat} {es : Array MapEntry} {k : Int} {i : Nat} {v : Value} (hb : w.heap[r]? = some (.map es clock)) (hf : Instr.findNow (.int .i64) (.int .i64 k) es.toList 0 = some (some (i, v))) :
  (Instr.lookup 106 (.map (some r)) (.int .i64 k) false).run Tryd.prog w = .ok v w := by
 have hc : (Instr.checkKey es.isEmpty 10000 3 (.int .i64 k)).run Tryd.prog w = .ok () w := MapKept.run_checkKey (k := .int .i64 k) intKey (by simp [MapKept.IsKey]) _ 9999
 simp [Instr.lookup, run_underlying (show Tryd.prog.underlying 106 = _ from Tryd.underlying106), MapKept.run_getObj_map hb, hc, MapKept.run_findKey intKey hf, Result.andThen]
def metF (k : Int) : FuncId := if k = 1 then 60 else if k = 2 then 61 else if k = 5 then 62 else if k = 7 then 63 else if k = 6 then 64 else if k = 3 then 65 else if k = 4 then 65 else 66
theorem kept_range {x : List UInt8} (h : keptV x ≠ 0) : keptV x = 1 ∨ keptV x = 2 ∨ keptV x = 3 ∨ keptV x = 4 ∨ keptV x = 5 ∨ keptV x = 6 ∨ keptV x = 7 ∨ keptV x = 8 ∨ keptV x = 9 ∨ keptV x = 10 := by
 have go : ∀ L : List (List UInt8 × Int), (∀ p ∈ L, p.2 = 0 ∨ p.2 = 1 ∨ p.2 = 2 ∨ p.2 = 3 ∨ p.2 = 4 ∨ p.2 = 5 ∨ p.2 = 6 ∨ p.2 = 7 ∨ p.2 = 8 ∨ p.2 = 9 ∨ p.2 = 10) → (L.lookup x).getD 0 = 0 ∨ (L.lookup x).getD 0 = 1 ∨ (L.lookup x).getD 0 = 2 ∨ (L.lookup x).getD 0 = 3 ∨ (L.lookup x).getD 0 = 4 ∨ (L.lookup x).getD 0 = 5 ∨ (L.lookup x).getD 0 = 6 ∨ (L.lookup x).getD 0 = 7 ∨ (L.lookup x).getD 0 = 8 ∨ (L.lookup x).getD 0 = 9 ∨ (L.lookup x).getD 0 = 10 := by
  intro L
  induction L with
  | nil => intro _; left; rfl
  | cons p L ih =>
   intro hp
   rw [List.lookup_cons]
   cases hq : x == p.1 with
   | true => simpa using hp p (by simp)
   | false => exact ih (fun q hq => hp q (List.mem_cons_of_mem _ hq))
 have h2 := go keptL (by decide)
 unfold keptV at h ⊢
 omega
theorem met_find (bp : Nat) {k : Int} (h : k = 1 ∨ k = 2 ∨ k = 3 ∨ k = 4 ∨ k = 5 ∨ k = 6 ∨ k = 7 ∨ k = 8 ∨ k = 9 ∨ k = 10) : ∃ i, Instr.findNow (.int .i64) (.int .i64 k) (mets bp metL 0) 0 = some (some (i, .func (.func (metF k)) #[.pointer (some ⟨bp, 0, none⟩)] #[])) := by
 rcases h with rfl | rfl | rfl | rfl | rfl | rfl | rfl | rfl | rfl | rfl
 ·exact ⟨0, rfl⟩
 ·exact ⟨1, rfl⟩
 ·exact ⟨5, rfl⟩
 ·exact ⟨6, rfl⟩
 ·exact ⟨2, rfl⟩
 ·exact ⟨4, rfl⟩
 ·exact ⟨3, rfl⟩
 ·exact ⟨7, rfl⟩
 ·exact ⟨8, rfl⟩
 ·exact ⟨9, rfl⟩
theorem met_enter {k : Int} (h : k = 1 ∨ k = 2 ∨ k = 3 ∨ k = 4 ∨ k = 5 ∨ k = 6 ∨ k = 7 ∨ k = 8 ∨ k = 9 ∨ k = 10) (args : Array Value) (w : World) : (callFunc (metF k) args).run Tryd.prog w = .ok (.enter (metF k) args) w := by
 rcases h with rfl | rfl | rfl | rfl | rfl | rfl | rfl | rfl | rfl | rfl
 ·rw [show metF 1 = 60 from rfl]; kernel_rfl
 ·rw [show metF 2 = 61 from rfl]; kernel_rfl
 ·rw [show metF 3 = 65 from rfl]; kernel_rfl
 ·rw [show metF 4 = 65 from rfl]; kernel_rfl
 ·rw [show metF 5 = 62 from rfl]; kernel_rfl
 ·rw [show metF 6 = 64 from rfl]; kernel_rfl
 ·rw [show metF 7 = 63 from rfl]; kernel_rfl
 ·rw [show metF 8 = 66 from rfl]; kernel_rfl
 ·rw [show metF 9 = 66 from rfl]; kernel_rfl
 ·rw [show metF 10 = 66 from rfl]; kernel_rfl
theorem parts_tells (G bp : Nat) (s : ByteArray) (A : Option Addr) (c : Nat) (l : List Tok) (begun : Int) (fv : Value) (k a : Nat) (w : World) (h : St G bp s A c l begun fv a w) (xb : Nat) (hxg : G ≤ xb) (hxb : xb ≠ bp) (f0 : Int) (nm : ByteArray) (hf0 : f0 = 1 ∨ f0 = 2 ∨ f0 = 3 ∨ f0 = 4 ∨ f0 = 5 ∨ f0 = 6 ∨ f0 = 7 ∨ f0 = 8 ∨ f0 = 9 ∨ f0 = 10) (hit : w.heap[xb]? = some (.cells (itV (it0 f0 nm) NS NS NS NS NS) 58 (0, 0))) (res : PR Itm) (hres : partsP k (it0 f0 nm) (l.drop a) = some res) :
  Calls Tryd.prog (metF f0) #[.pointer (some ⟨bp, 0, none⟩), .pointer (some ⟨xb, 0, none⟩)] w (Tells bp l (fun k => k = xb) w (encI (Lo w.heap.size) xb) res) := by
 rcases hf0 with rfl | rfl | rfl | rfl | rfl | rfl | rfl | rfl | rfl | rfl
 ·exact wire_tells G bp s A c l begun fv k a w h xb hxg hxb _ nm hit res hres
 ·exact reg_tells G bp s A c l begun fv k a w h xb hxg hxb _ nm hit res hres
 ·exact gets_tells G bp s A c l begun fv k a w h xb hxg hxb _ nm hit res hres
 ·exact gets_tells G bp s A c l begun fv k a w h xb hxg hxb _ nm hit res hres
 ·exact mem_tells G bp s A c l begun fv k a w h xb hxg hxb _ nm hit res hres
 ·exact put_tells G bp s A c l begun fv k a w h xb hxg hxb _ nm hit res hres
 ·exact inst_tells G bp s A c l begun fv k a w h xb hxg hxb _ nm hit res hres
 ·exact says_tells G bp s A c l begun fv k a w h xb hxg hxb _ nm hit res hres
 ·exact says_tells G bp s A c l begun fv k a w h xb hxg hxb _ nm hit res hres
 ·exact says_tells G bp s A c l begun fv k a w h xb hxg hxb _ nm hit res hres
end Go.Proofs.YtenogedclignmaaDoor.Q
