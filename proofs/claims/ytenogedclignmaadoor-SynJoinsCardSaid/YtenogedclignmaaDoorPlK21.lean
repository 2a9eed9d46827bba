/-
  HELPER.
-/
import Derived.Test.YtenogedclignmaaDoorPlKA
import Derived.Test.YtenogedclignmaaDoorPlK20
set_option linter.unusedVariables false
set_option linter.unusedSimpArgs false
namespace Go.Proofs.YtenogedclignmaaDoor.Q
open Go.RowKit Go.Maps Go.WideMaps Go.Proofs.YtenogedclignmaaDoorW.PrintWords Go.Proofs.YtenogedclignmaaDoorW.PrintLast Go.Proofs.YtenogedclignmaaDoorW.PrintMore
def syn_Parse.f (a0 : ByteArray) : Option ((List (S47)) × (List (S35))) :=
 match lex_Lex.f a0 with
 | none => none
 | some (l, e, p) => if e = 0 then (modulesP (12 * l.length + 3) 0 [] [] l).map (fun y => (y.1, y.2.map (fltW a0))) else some ([], [⟨e, p, 0, 0⟩])
abbrev MdR (O : Nat → Prop) (w : World) (v : Value) (xs : List Mdl) : Prop := k47.R 47 w 0 O v xs
theorem infoM : (Tryd.prog.info? 47).map (fun i => (i.zero, i.size, i.bytes)) = some (some (.agg #[.string ⟨#[]⟩, NS, NS, NS]), 4, 88) := by kernel_rfl
structure Dsg (G bp : Nat) (s : ByteArray) (A : Option Addr) (c : Nat) (l : List Tok) (w : World) (rb pb db : Nat) (n : Nat) (F O : Nat → Prop) (fs : List Wr) (Bd : Option Addr) (qd : Nat) (ms : List Mdl) (a : Nat) (w1 : World) : Prop where
 par : Par G bp s A c l n F fs a w1
 mds : MdR O w1 (.slice Bd ms.length qd) ms
 hF : ∀ k, F k → w.heap.size ≤ k ∧ k ≠ pb ∧ k ≠ db ∧ k ≠ rb ∧ k ≠ bp ∧ k < w1.heap.size ∧ ¬ O k
 hO : ∀ k, O k → w.heap.size ≤ k ∧ G ≤ k ∧ k ≠ pb ∧ k ≠ db ∧ k ≠ rb ∧ k ≠ bp ∧ k < w1.heap.size
 rbx : w1.heap[rb]? = some (.cells #[NS] 26 (0, 0))
 pbx : w1.heap[pb]? = some (.cells #[.pointer (some ⟨bp, 0, none⟩)] 65 (0, 0))
 dbx : w1.heap[db]? = some (.cells #[.slice Bd ms.length qd] 26 (0, 0))
 bel : Mv (fun _ => False) w w1
 few : ms.length ≤ n ∧ n ≤ 16
 fss : fs.length ≤ 20
section
variable {G bp : Nat} {s : ByteArray} {A : Option Addr} {c : Nat} {l : List Tok} {w : World} {rb pb db n n2 : Nat} {F O F2 : Nat → Prop} {fs fs2 : List Wr} {Bd : Option Addr} {qd : Nat} {ms : List Mdl} {a b : Nat} {w1 w2 w3 w4 : World}
theorem Dsg.turn (h : Dsg G bp s A c l w rb pb db n F O fs Bd qd ms a w1) {Y : Nat → Prop} (hm : Mv Y w1 w2) (hY : ∀ k, Y k → w.heap.size ≤ k ∧ k ≠ pb ∧ k ≠ db ∧ k ≠ rb ∧ ¬ O k) (hp : Par G bp s A c l n2 F2 fs2 b w2) (hF2 : ∀ k, F2 k → F k ∨ w1.heap.size ≤ k) (hn : n ≤ n2 ∧ n2 ≤ 16) (hf : fs2.length ≤ 20) (hbw : w.heap.size ≤ bp) : Dsg G bp s A c l w rb pb db n2 F2 O fs2 Bd qd ms b w2 := by
 have hlp := (Array.getElem?_eq_some_iff.1 h.pbx).1
 have hld := (Array.getElem?_eq_some_iff.1 h.dbx).1
 have hlr := (Array.getElem?_eq_some_iff.1 h.rbx).1
 have hs := h.bel.size
 refine ⟨hp, Mv.row h.mds hm (fun k hk q => (hY k q).2.2.2.2 hk), fun k hk => ?_, fun k hk => ?_, hm.obj h.rbx (fun q => (hY _ q).2.2.2.1 rfl), hm.obj h.pbx (fun q => (hY _ q).2.1 rfl), hm.obj h.dbx (fun q => (hY _ q).2.2.1 rfl), h.bel.then_ hm (fun k hk => .inr (hY k hk).1), ⟨Nat.le_trans h.few.1 hn.1, hn.2⟩, hf⟩
 ·have h3 := hp.far k hk
  rcases hF2 k hk with h1 | h1
  ·have := h.hF k h1; exact ⟨this.1, this.2.1, this.2.2.1, this.2.2.2.1, this.2.2.2.2.1, h3.2.2, this.2.2.2.2.2.2⟩
  ·exact ⟨by omega, by omega, by omega, by omega, h3.1, h3.2.2, fun q => by have := (h.hO k q).2.2.2.2.2.2; omega⟩
 ·have := h.hO k hk; have h2 := hm.size; exact ⟨this.1, this.2.1, this.2.2.1, this.2.2.2.1, this.2.2.2.2.1, this.2.2.2.2.2.1, by omega⟩
theorem Dsg.below (h : Dsg G bp s A c l w rb pb db n F O fs Bd qd ms a w1) (hb : Below w1.heap.size w1 w2) (hbw : w.heap.size ≤ bp) : Dsg G bp s A c l w rb pb db n F O fs Bd qd ms a w2 :=
 h.turn (mv_below (X := fun _ => False) hb) (fun _ q => q.elim) (h.par.mono_ hb) (fun k hk => .inl hk) ⟨Nat.le_refl _, h.few.2⟩ h.fss hbw
theorem Dsg.append (h : Dsg G bp s A c l w rb pb db n F O fs Bd qd ms a w1) {n0 : Nat} {m : Mdl} {B1 : Option Addr} {q1 : Nat} {B2 : Option Addr} {q2 : Nat} {B3 : Option Addr} {q3 : Nat} (Om : Nat → Prop) (h1 : StrR Om w1 (.slice B1 m.f1.length q1) m.f1) (h2 : PrtR Om w1 (.slice B2 m.f2.length q2) m.f2) (h3 : ItmR Om w1 (.slice B3 m.f3.length q3) m.f3) (hOm : ∀ k, Om k → n0 ≤ k ∧ k < w1.heap.size ∧ ¬ F k) (hOn : ∀ k, O k → k < n0)
  (hwn : w.heap.size ≤ n0 ∧ G ≤ n0 ∧ pb < n0 ∧ db < n0 ∧ rb < n0 ∧ bp < n0 ∧ w.heap.size ≤ db) (hlen : ms.length + 1 ≤ n) (hbw : w.heap.size ≤ bp) (hrb : db ≠ rb ∧ db ≠ pb ∧ db ≠ bp) (hGd : G ≤ db) :
  ∃ v1 w2 B' q', (Builtin.append_ #[24, 24] 24 #[.slice Bd ms.length qd, .slice (some ⟨w1.heap.size, 0, none⟩) 1 1]).run Tryd.prog (w1.alloc (.cells (mdV m B1 q1 B2 q2 B3 q3) 47)) = .ok v1 w2 ∧ w2.heap[db]? = some (.cells #[.slice Bd ms.length qd] 26 (0, 0)) ∧ v1 = .slice B' (ms.length + 1) q' ∧ Dsg G bp s A c l w rb pb db n F (fun k => (O k ∨ Om k ∨ w1.heap.size ≤ k) ∧ k < w2.heap.size) fs B' q' (ms ++ [m]) a (w2.setCell ⟨db, 0, none⟩ v1) := by
 have hs := h.bel.size
 have hM := k47_mkM w1 0 Om m h1 h2 h3
 obtain ⟨v1, w2, hrun, hR, hg, B', q', hv⟩ := R_append_run (P := Tryd.prog) k47 24 24 47 (.agg #[.string ⟨#[]⟩, NS, NS, NS]) 88 Tryd.underlying24 infoM rfl (by decide) (by decide) w1 (.slice Bd ms.length qd) ms m _ (fun k => O k ∨ Om k ∨ w1.heap.size ≤ k) Om hM (fun k hk => ⟨.inr (.inl hk), fun e => by have h4 := hOn k (h.mds.1 k e.symm); have h5 := hOm k hk; omega⟩) (fun k hk => .inr (.inr hk)) (Kd.R_mono h.mds (fun k hk => .inl hk)) (by have := h.few; omega)
 have hm : Mv O w1 w2 := mv_grown (Mv.refl O w1) hg (fun k hk => .inl (h.mds.1 k hk))
 have hdb2 := hm.obj h.dbx (fun q => (h.hO _ q).2.2.2.1 rfl)
 refine ⟨v1, w2, B', q', hrun, hdb2, hv, ?_⟩
 have hl : (ms ++ [m]).length = ms.length + 1 := by simp
 have hm3 : Mv (fun k => O k ∨ k = db) w1 (w2.setCell ⟨db, 0, none⟩ v1) := (hm.mono (fun k q => .inl q)).set ⟨db, 0, none⟩ (.inl (.inr rfl)) _
 have hz : (w2.setCell ⟨db, 0, none⟩ v1).heap.size = w2.heap.size := size_set _ _ _
 have hld := (Array.getElem?_eq_some_iff.1 h.dbx).1
 have hms : MdR (fun k => (O k ∨ Om k ∨ w1.heap.size ≤ k) ∧ k < w2.heap.size) w2 v1 (ms ++ [m]) := Kd.R_mono (Kd.R_bound hR) (fun k hk => ⟨hk.1, hk.2.2.1⟩)
 have hOk : ∀ k, ((O k ∨ Om k ∨ w1.heap.size ≤ k) ∧ k < w2.heap.size) → w.heap.size ≤ k ∧ G ≤ k ∧ k ≠ pb ∧ k ≠ db ∧ k ≠ rb ∧ k ≠ bp := fun k hk => by
  rcases hk.1 with h4 | h4 | h4
  ·have := h.hO k h4; exact ⟨this.1, this.2.1, this.2.2.1, this.2.2.2.1, this.2.2.2.2.1, this.2.2.2.2.2.1⟩
  ·have := hOm k h4; exact ⟨by omega, by omega, by omega, by omega, by omega, by omega⟩
  ·have h5 := (Array.getElem?_eq_some_iff.1 h.pbx).1
   have h6 := (Array.getElem?_eq_some_iff.1 h.rbx).1
   obtain ⟨⟨Bx, qx, hst, _⟩, _⟩ := h.par
   have h7 := hst.lt
   have h8 := hst.tab.size
   exact ⟨by omega, by omega, by omega, by omega, by omega, by omega⟩
 have hst := h.par.st
 refine ⟨h.par.turn2 hm3 (fun k q => ?_) (fun k hk q => ?_), ?_, fun k hk => ?_, fun k hk => ?_, ?_, ?_, ?_, h.bel.then_ hm3 (fun k q => .inr (q.elim (fun q => (h.hO k q).1) (fun q => by omega))), ⟨by rw [hl]; exact hlen, h.few.2⟩, h.fss⟩
 ·rcases q with q | q
  ·exact ⟨(h.hO k q).2.2.2.2.2.1, (h.hO k q).2.1⟩
  ·rw [q]; exact ⟨hrb.2.2, hGd⟩
 ·rcases q with q | q
  ·exact (h.hF k hk).2.2.2.2.2.2 q
  ·exact (h.hF k hk).2.2.1 q
 ·rw [hl, ← hv]; exact Kd.R_far (p := ⟨db, 0, none⟩) hms (fun k hk => (hOk k hk).2.2.2.1) _
 ·have h4 := h.hF k hk
  have h5 := hm.size
  exact ⟨h4.1, h4.2.1, h4.2.2.1, h4.2.2.2.1, h4.2.2.2.2.1, by rw [hz]; omega, fun q => by
   rcases q.1 with q | q | q
   ·exact h4.2.2.2.2.2.2 q
   ·exact (hOm k q).2.2 hk
   ·omega⟩
 ·have h4 := hOk k hk; exact ⟨h4.1, h4.2.1, h4.2.2.1, h4.2.2.2.1, h4.2.2.2.2.1, h4.2.2.2.2.2, by rw [hz]; exact hk.2⟩
 ·exact hm3.obj h.rbx (fun q => q.elim (fun q => (h.hO _ q).2.2.2.2.1 rfl) (fun q => hrb.1 q.symm))
 ·exact hm3.obj h.pbx (fun q => q.elim (fun q => (h.hO _ q).2.2.1 rfl) (fun q => hrb.2.1 q.symm))
 ·rw [hl, ← hv]; exact set_new hdb2 (by kernel_rfl)
end
theorem modules_over {k n : Nat} {ms : List Mdl} {fs : List Wr} {r r2 : List Tok} {y : List Mdl × List Wr} (ho : overP fs = true) (h : modulesP k n ms fs r = some y) : modulesP k n ms fs r2 = some y := by
 cases k with
 | zero => unfold modulesP at h; cases h
 | succ k => rw [modulesP, if_pos (.inr ho)] at h ⊢; exact h
theorem module_begun {k n : Nat} {fs fs2 : List Wr} {r r2 : List Tok} {m : Mdl} (h : moduleP k n fs r = some (.done m r2 fs2)) : begunM n r = n + 1 ∧ n < 16 := by
 unfold moduleP at h
 by_cases h0 : txt (looks r) ≠ kModule
 ·rw [if_pos h0] at h; cases r <;> cases h
 rw [if_neg h0] at h
 by_cases h1 : 16 ≤ n
 ·rw [if_pos h1] at h; cases h
 exact ⟨by unfold begunM; rw [if_neg (fun q => q.elim h0 h1)], by omega⟩
theorem begunM_le (n : Nat) (r : List Tok) (hn : n ≤ 16) : n ≤ begunM n r ∧ begunM n r ≤ 16 := by
 unfold begunM
 by_cases h : txt (looks r) ≠ kModule ∨ 16 ≤ n
 ·rw [if_pos h]; exact ⟨Nat.le_refl _, hn⟩
 ·rw [if_neg h]; have : ¬ 16 ≤ n := fun q => h (.inr q); exact ⟨by omega, by omega⟩
theorem flt_one (W : World) (f : Flt) : FltR (fun k => k = W.heap.size) (W.alloc (.cells #[.int .i64 f.f0, .int .i64 f.f1, .int .i64 f.f2, .int .i64 f.f3] 35)) (.slice (some ⟨W.heap.size, 0, none⟩) 1 1) [f] := by
 refine ⟨fun k hk => ?_, [.int .i64 f.f0, .int .i64 f.f1, .int .i64 f.f2, .int .i64 f.f3], ?_, ?_⟩
 ·have : W.heap.size = k := by simpa [Value.ownBlock] using hk
  exact this.symm
 ·have h2 := World.ownsRow_lit (base := 0) (e := 35) (size := 4) W #[.int .i64 f.f0, .int .i64 f.f1, .int .i64 f.f2, .int .i64 f.f3] 1 (Nat.zero_le _) (by decide) (by rfl)
  exact h2
 ·have h3 := Reps.snoc (R := k35.M (W.alloc (.cells #[.int .i64 f.f0, .int .i64 f.f1, .int .i64 f.f2, .int .i64 f.f3] 35)) 0 (fun k => k = W.heap.size ∧ some k ≠ (Value.slice (some ⟨W.heap.size, 0, none⟩) 1 1).ownBlock)) (size := 4) (ps := []) (cs := []) (p := f) (Reps.none _ _) (k35_mkM _ _ _ f) (by rfl)
  exact h3
set_option maxHeartbeats 8000000 in
set_option maxRecDepth 100000 in
theorem syn_Parse.calls (a0 : ByteArray) (r1 : List (S47)) (r2 : List (S35)) (w : World) (hG : Tab w) (h : syn_Parse.f a0 = some (r1, r2)) :
  Calls Tryd.prog 11 #[.string a0] w fun e w' => ∃ v0_ v1_ : Value, e = .returned (.tuple #[.agg #[v0_], v1_]) ∧ Kd.R k47 47 w' w.heap.size (fun _ => True) v0_ r1 ∧ Kd.R k35 35 w' w.heap.size (fun _ => True) v1_ r2 ∧ Below w.heap.size w w' := by
 obtain ⟨⟨l, e, p⟩, hlex⟩ : ∃ y, lex_Lex.f a0 = some y := by
  cases hq : lex_Lex.f a0 with
  | none => unfold syn_Parse.f at h; rw [hq] at h; cases h
  | some y => exact ⟨y, rfl⟩
 have hfit := lex_fits hlex
 have HFIT := aS hfit
 have hF : (if e = 0 then (modulesP (12 * l.length + 3) 0 [] [] l).map (fun y => (y.1, y.2.map (fltW a0))) else some ([], [⟨e, p, 0, 0⟩])) = some (r1, r2) := by unfold syn_Parse.f at h; rw [hlex] at h; exact h
 have HF := aS hF
 have HLEX := aS hlex
 have hb1 := below_alloc (bR w.heap.size w) (.cells #[.slice none 0 0] 26)
 have HB1 := aS hb1
 have HT1 := aS (tab_below hG hb1)
 have HRB1 := aS (MapKept.heap_alloc w (.cells #[.slice none 0 0] 26)).1
 have HZ1 := aS (show (w.alloc (.cells #[.slice none 0 0] 26)).heap.size = w.heap.size + 1 by show (w.heap.push _).size = _; simp)
 clear h hlex hfit hF hb1 hG
 go_enter Tryd.func11, Tryd.ntmps11
 go_upto_region 1 with (fail)
 generalize w.alloc (.cells #[.slice none 0 0] 26) = w1 at *
 go_upto_region 2 with (go_at_call 12; refine (lex_Lex.calls a0 l e p w1 HT1.out HLEX.out).mono ?_; rintro en w2 ⟨v0, rfl, hR, hB⟩; have HB2 := aS hB; have HTOK := aS (Kd.R_lower (Kd.R_mono (Kd.R_bound hR) (fun k hk => hk.2.2.1)) (Nat.zero_le _)); obtain ⟨A, c, hv0, _⟩ := Kd.R_reads hR; subst hv0; clear hR hB)
 have HRB2 := aS (fbelow HRB1.out HB2.out)
 have HK2 := aS (tab_below HT1.out HB2.out).2
 have HBW2 := aS (HB1.out.trans (HB2.out.mono HB1.out.size))
 have HZ2 := aS (show w.heap.size < w2.heap.size from by have h1 := HB2.out.size; have h2 := HZ1.out; omega)
 clear HB1 HT1 HRB1 HZ1 HB2
 generalize hrb : w.heap.size = rb at *
 have HRBW := aS hrb
 clear hrb
 by_cases he : e = 0
 rotate_left
 ·have e1 : (e != 0) = true := by simp [bne, he]
  have e2 : (e == 0) = false := beq_eq_false_iff_ne.2 he
  have hF := HF.out
  rw [if_neg he] at hF
  simp only [Option.some.injEq, Prod.mk.injEq] at hF
  obtain ⟨rfl, rfl⟩ := hF
  clear he
  have c0 := cH HRB2.out 0
  have g0 := blk_frozen HRB2.out 0
  have hb3 := below_alloc (bR w2.heap.size w2) (.cells #[.int .i64 e, .int .i64 p, .int .i64 0, .int .i64 0] 35)
  have hr3 := fbelow HRB2.out hb3
  have c1 := cH hr3 0
  have g1 := blk_frozen hr3 0
  have HB3 := aS hb3
  have HR3 := aS hr3
  have HN3 := aS (MapKept.heap_alloc w2 (.cells #[.int .i64 e, .int .i64 p, .int .i64 0, .int .i64 0] 35)).1
  clear hb3 hr3
  go_wp2
  have hrr : ((w2.alloc (.cells #[.int .i64 e, .int .i64 p, .int .i64 0, .int .i64 0] 35)).setCell ⟨rb, 0, none⟩ (.slice none 0 0)).heap[rb]? = some (.cells #[.slice none 0 0] 26 (0, 0)) := set_new HR3.out (by kernel_rfl)
  have hno : ∀ k, k = w2.heap.size → k ≠ rb := fun k hk => by have h1 := HZ2.out; have h2 := HRBW.out; omega
  have hfl : FltR (fun k => k = w2.heap.size) ((w2.alloc (.cells #[.int .i64 e, .int .i64 p, .int .i64 0, .int .i64 0] 35)).setCell ⟨rb, 0, none⟩ (.slice none 0 0)) (.slice (some ⟨w2.heap.size, 0, none⟩) 1 1) [⟨e, p, 0, 0⟩] := Kd.R_far (p := ⟨rb, 0, none⟩) (flt_one w2 ⟨e, p, 0, 0⟩) hno _
  have hbel : Below rb w ((w2.alloc (.cells #[.int .i64 e, .int .i64 p, .int .i64 0, .int .i64 0] 35)).setCell ⟨rb, 0, none⟩ (.slice none 0 0)) := (HBW2.out.trans (HB3.out.mono (by have h1 := HZ2.out; have h2 := HRBW.out; omega))).setCell (p := ⟨rb, 0, none⟩) (Nat.le_refl _) _
  have hrw := HRBW.out
  have hz2 := HZ2.out
  have c2 := cH hrr 0
  clear c0 g0 c1 g1 hrr hno
  generalize (w2.alloc (.cells #[.int .i64 e, .int .i64 p, .int .i64 0, .int .i64 0] 35)).setCell ⟨rb, 0, none⟩ (.slice none 0 0) = w4 at *
  refine bodyPost_ret (v := .tuple #[.agg #[.slice none 0 0], .slice (some ⟨w2.heap.size, 0, none⟩) 1 1]) ?_ rfl ⟨_, _, rfl, Kd.R_nil _ _ _ _ _, ?_, by rw [hrw]; exact hbel⟩
  ·clear hbel hfl; simp [results, Tryd.results11, go_sem, c2]
  ·exact Kd.R_mono (R_raise rs_fault hfl (fun k hk => by omega)) (fun _ _ => trivial)
 ·have e1 : (e != 0) = false := by rw [he]; rfl
  have e2 : (e == 0) = true := by rw [he]; rfl
  obtain ⟨res, hres⟩ : ∃ res, modulesP (12 * l.length + 3) 0 [] [] l = some res := by
   cases hq : modulesP (12 * l.length + 3) 0 [] [] l with
   | none => exact absurd hq (tot_modules _ _ _ _ _ (.inl (Nat.le_refl _)))
   | some y => exact ⟨y, rfl⟩
  have hF := HF.out
  rw [if_pos he, hres] at hF
  have HFR := aS (show r1 = res.1 ∧ r2 = res.2.map (fltW a0) from by simp only [Option.map_some, Option.some.injEq, Prod.mk.injEq] at hF; exact ⟨hF.1.symm, hF.2.symm⟩)
  have HQ := aS hres
  clear hF hres he HF
  have hbp3 := (MapKept.heap_alloc w2 (.cells #[.string a0, .slice A l.length c, .int .i64 0, .int .i64 0, .slice none 0 0] 67)).1
  have hb3 := below_alloc (bR w2.heap.size w2) (.cells #[.string a0, .slice A l.length c, .int .i64 0, .int .i64 0, .slice none 0 0] 67)
  have hz3 : (w2.alloc (.cells #[.string a0, .slice A l.length c, .int .i64 0, .int .i64 0, .slice none 0 0] 67)).heap.size = w2.heap.size + 1 := by show (w2.heap.push _).size = _; simp
  generalize hw3 : w2.alloc (.cells #[.string a0, .slice A l.length c, .int .i64 0, .int .i64 0, .slice none 0 0] 67) = w3 at hbp3 hb3 hz3
  have hpb4 := (MapKept.heap_alloc w3 (.cells #[.pointer (some ⟨w2.heap.size, 0, none⟩)] 65)).1
  have hb4 := below_alloc (bR w3.heap.size w3) (.cells #[.pointer (some ⟨w2.heap.size, 0, none⟩)] 65)
  have hz4 : (w3.alloc (.cells #[.pointer (some ⟨w2.heap.size, 0, none⟩)] 65)).heap.size = w3.heap.size + 1 := by show (w3.heap.push _).size = _; simp
  rw [hz3] at hpb4 hz4
  go_upto_region 5 with (fail)
  try rw [hw3]
  clear hw3
  generalize w3.alloc (.cells #[.pointer (some ⟨w2.heap.size, 0, none⟩)] 65) = w4 at *
  have hdb5 := (MapKept.heap_alloc w4 (.cells #[.slice none 0 0] 26)).1
  have hb5 := below_alloc (bR w4.heap.size w4) (.cells #[.slice none 0 0] 26)
  have hz5 : (w4.alloc (.cells #[.slice none 0 0] 26)).heap.size = w4.heap.size + 1 := by show (w4.heap.push _).size = _; simp
  rw [hz4] at hdb5 hz5
  have hst3 : St w2.heap.size w2.heap.size a0 A c l 0 (.slice none 0 0) 0 w3 := ⟨hbp3, Kd.R_below HTOK.out hb3, Nat.zero_le _, by have := HFIT.out.1; omega, HFIT.out.2, (Tabs.of HK2.out).same (fun k hk => hb3.block k hk), Nat.le_refl _⟩
  have hst5 := (hst3.below hb4).below hb5
  have hbb5 : Below w2.heap.size w2 (w4.alloc (.cells #[.slice none 0 0] 26)) := hb3.trans ((hb4.mono (by omega)).trans (hb5.mono (by omega)))
  generalize hbp : w2.heap.size = bp at *
  generalize hpb : bp + 1 = pb at *
  generalize hdb : pb + 1 = db at *
  have HGE := aS (show bp + 1 = pb ∧ pb + 1 = db ∧ rb < bp ∧ w.heap.size = rb from by have h1 := HZ2.out; have h2 := HRBW.out; exact ⟨hpb, hdb, by omega, h2⟩)
  have HD5 := aS (show Dsg bp bp a0 A c l w rb pb db 0 (fun _ => False) (fun _ => False) [] none 0 [] 0 (w4.alloc (.cells #[.slice none 0 0] 26)) from ⟨⟨⟨none, 0, hst5, Kd.R_nil _ _ _ _ _⟩, fun k hk => hk.elim⟩, Kd.R_nil _ _ _ _ _, fun k hk => hk.elim, fun k hk => hk.elim, fbelow HRB2.out (by rw [hbp]; exact hbb5), fbelow hpb4 hb5, hdb5, mv_below (by have h1 := HRBW.out; rw [h1]; exact HBW2.out.trans (hbb5.mono (by have h2 := HGE.out; omega))), ⟨Nat.le_refl _, by decide⟩, by simp⟩)
  go_upto_region 6 with (fail)
  clear hbp3 hb3 hz3 hpb4 hb4 hz4 hdb5 hb5 hz5 hst3 hst5 hbb5 hbp hpb hdb
  generalize w4.alloc (.cells #[.slice none 0 0] 26) = w5 at *
  clear HTOK HK2 HRB2 HBW2 HZ2
  have HGW := aS (show w.heap.size ≤ bp from by have h1 := HGE.out; omega)
  go_loopg [] (12 * l.length + 3) (fun kq w' => ∃ (n a' : Nat) (fs : List Wr) (ms : List Mdl) (Bd : Option Addr) (qd : Nat) (F O : Nat → Prop), Aside0 (modulesP kq n ms fs (l.drop a') = some res) ∧ Aside0 (Dsg bp bp a0 A c l w rb pb db n F O fs Bd qd ms a' w') ∧ Aside0 (overP fs = false → Fs l fs (l.drop a')))
  case atStart => exact ⟨0, 0, [], [], none, 0, _, _, HQ, HD5, ⟨fun _ => fs_nil _ _⟩⟩
  case round =>
   clear HQ HD5
   obtain ⟨n, a', fs, ms, Bd, qd, F, O, HQ, HD, HFS⟩ := hrel
   generalize wr = w6 at *
   obtain ⟨j, rfl⟩ : ∃ j, gk = j + 1 := by
    cases gk with
    | zero => have q := HQ.out; unfold modulesP at q; cases q
    | succ j => exact ⟨j, rfl⟩
   obtain ⟨B, q, hst, hfl⟩ := HD.out.par.st
   have HST := aS hst
   have HFL := aS hfl
   clear hst hfl
   have p0 := cH HD.out.pbx 0
   have c2 := blk_cell HST.out.blk 2
   have hsm := HST.out.small
   by_cases hlt : a' < l.length
   ·have d1 : decide ((a' : Int) < (l.length : Int)) = true := decide_eq_true (by omega)
    have d2 : decide (a' < l.length) = true := decide_eq_true hlt
    by_cases ho : overP fs = true
    ·have HO := aS ho
     have HRES := aS (show res = (ms, fs) from by have qq := HQ.out; rw [modulesP, if_pos (.inr HO.out)] at qq; exact (Option.some.inj qq).symm)
     clear ho
     go_upto_region 14 with (go_at_call 21; refine (over_calls bp bp a0 A c l n B q a' w6 F _ HST.out HFL.out (by rw [List.length_map]; have := HD.out.fss; omega)).mono ?_; rintro en w7 ⟨he, hw7⟩; rw [hw7]; rw [overF_is, HO.out] at he; subst he)
     clear d1 d2 p0 c2 hsm
     refine start_ (n := 7) (S := fun w' => w'.cell? ⟨pb, 0, none⟩ = some (.pointer (some ⟨bp, 0, none⟩)) ∧ w'.cell? ⟨bp, 4, none⟩ = some (.slice B (fs.map (fltW a0)).length q) ∧ w'.cell? ⟨db, 0, none⟩ = some (.slice Bd ms.length qd)) (ds := []) #[false, false, false, false, false, false, false] (by kernel_rfl) rfl rfl ⟨cH HD.out.pbx 0, cH HST.out.blk 4, cH HD.out.dbx 0⟩ (fun hHeld => ?_)
     refine take_ (i := 0) (N := some 70) (v := ?_) (a' := ?_) #[true, false, false, false, false, false, false] rfl rfl (by kernel_rfl) (fun _ _ _ h => h) (Or.inl ⟨by rfl, ?_⟩) hHeld ?_ ?_
     rotate_left
     ·rintro w' ⟨s0, s1, s2⟩
      go_simp
      try with_reducible rfl
     rotate_left
     ·simp only [putAll, Act.put, sI, s0', s1']
      rfl
     refine take_ (i := 1) (N := some 71) (v := ?_) (a' := ?_) #[true, true, false, false, false, false, false] rfl rfl (by kernel_rfl) (fun _ _ _ h => h) (Or.inl ⟨by rfl, ?_⟩) hHeld ?_ ?_
     rotate_left
     ·rintro w' ⟨s0, s1, s2⟩
      go_simp
      try with_reducible rfl
     rotate_left
     ·simp only [putAll, Act.put, sI, s0', s1']
      rfl
     refine pure_ (i := 2) (N := some 72) (v := ?_) (a' := ?_) #[true, true, true, false, false, false, false] rfl rfl (by kernel_rfl) (fun _ _ _ h => h) (Or.inl ⟨by rfl, ?_⟩) ?_ ?_
     rotate_left
     ·intro w'
      go_simp
      try with_reducible rfl
     rotate_left
     ·simp only [putAll, Act.put, sI, s0', s1']
      rfl
     refine pure_ (i := 3) (N := some 73) (v := ?_) (a' := ?_) #[true, true, true, true, false, false, false] rfl rfl (by kernel_rfl) (fun _ _ _ h => h) (Or.inl ⟨by rfl, ?_⟩) ?_ ?_
     rotate_left
     ·intro w'
      go_simp
      try with_reducible rfl
     rotate_left
     ·simp only [putAll, Act.put, sI, s0', s1']
      rfl
     refine take_ (i := 4) (N := some 74) (v := ?_) (a' := ?_) #[true, true, true, true, true, false, false] rfl rfl (by kernel_rfl) (fun _ _ _ h => h) (Or.inl ⟨by rfl, ?_⟩) hHeld ?_ ?_
     rotate_left
     ·rintro w' ⟨s0, s1, s2⟩
      go_simp
      try with_reducible rfl
     rotate_left
     ·simp only [putAll, Act.put, sI, s0', s1']
      rfl
     have y4 := cH HD.out.rbx 0
     have f4 := blk_frozen HD.out.rbx 0
     have y4d : w6.drew.cell? ⟨rb, 0, none⟩ = some NS := y4
     have f4d : w6.drew.frozen? ⟨rb, 0, none⟩ = false := f4
     refine one_ (i := 5) (N := none) #[true, true, true, true, true, true, false] rfl rfl (by kernel_rfl) (by decide) (fun K hK => ?_)
     refine skip_ (w1 := w6.drew.setCell ⟨rb, 0, none⟩ (.slice Bd ms.length qd)) (by rfl) rfl ?_ ?_
     ·simp [go_sem, y4d, f4d]
     have hprb : pb ≠ rb ∧ db ≠ rb ∧ bp ≠ rb := by have h1 := HGE.out; exact ⟨by omega, by omega, by omega⟩
     refine hK.out _ _ ⟨cH ((Below.heap_setCell _ ⟨rb, 0, none⟩ _ _ hprb.1).trans (heap_drew HD.out.pbx)) 0, cH ((Below.heap_setCell _ ⟨rb, 0, none⟩ _ _ hprb.2.2).trans (heap_drew HST.out.blk)) 4, cH ((Below.heap_setCell _ ⟨rb, 0, none⟩ _ _ hprb.2.1).trans (heap_drew HD.out.dbx)) 0⟩ (fun hHeld => ?_)
     clear hK K
     refine pure_ (i := 6) (N := some 3) (v := ?_) (a' := ?_) #[true, true, true, true, true, true, true] rfl rfl (by kernel_rfl) (fun _ _ _ h => h) (Or.inl ⟨by rfl, ?_⟩) ?_ ?_
     rotate_left
     ·intro w'
      go_simp
      try with_reducible rfl
     rotate_left
     ·simp only [putAll, Act.put, sI, s0', s1']
      rfl
     refine done_ (by kernel_rfl) ?_
     have hne : ∀ k, (F k ∨ O k) → k ≠ rb := fun k hk => by rcases hk with hk | hk; exact (HD.out.hF k hk).2.2.2.1; exact (HD.out.hO k hk).2.2.2.2.1
     have hrr : (w6.drew.setCell ⟨rb, 0, none⟩ (.slice Bd ms.length qd)).heap[rb]? = some (.cells #[.slice Bd ms.length qd] 26 (0, 0)) := set_new (heap_drew HD.out.rbx) (by kernel_rfl)
     have hms : MdR O (w6.drew.setCell ⟨rb, 0, none⟩ (.slice Bd ms.length qd)) (.slice Bd ms.length qd) ms := Kd.R_far (p := ⟨rb, 0, none⟩) (Kd.R_below HD.out.mds (below_drew (bR _ _))) (fun k hk => hne k (.inr hk)) _
     have hfl : FltR F (w6.drew.setCell ⟨rb, 0, none⟩ (.slice Bd ms.length qd)) (.slice B (fs.map (fltW a0)).length q) (fs.map (fltW a0)) := Kd.R_far (p := ⟨rb, 0, none⟩) (Kd.R_below HFL.out (below_drew (bR _ _))) (fun k hk => hne k (.inl hk)) _
     have hmv : Mv (fun _ => False) w (w6.drew.setCell ⟨rb, 0, none⟩ (.slice Bd ms.length qd)) := (HD.out.bel.then_ (mv_below (X := fun _ => False) (below_drew (bR w6.heap.size w6))) (fun _ q => q.elim)).set ⟨rb, 0, none⟩ (.inr (by have h1 := HGE.out; show w.heap.size ≤ rb; omega)) _
     have hbel : Below w.heap.size w (w6.drew.setCell ⟨rb, 0, none⟩ (.slice Bd ms.length qd)) := ⟨hmv.os, hmv.tape, hmv.output, hmv.size, fun k hk => hmv.rest k hk id⟩
     have c2 := cH hrr 0
     clear hrr hne hmv y4 f4 y4d f4d hHeld
     generalize w6.drew.setCell ⟨rb, 0, none⟩ (.slice Bd ms.length qd) = wf at *
     simp only [Exit.then, Exit.inBlock, Act.put]
     go_wp2
     refine bodyPost_ret (v := .tuple #[.agg #[.slice Bd ms.length qd], .slice B (fs.map (fltW a0)).length q]) ?_ rfl ⟨_, _, rfl, ?_, ?_, hbel⟩
     ·clear hbel hms hfl; simp [results, Tryd.results11, go_sem, c2]
     ·rw [HFR.out.1, HRES.out]; exact Kd.R_mono (R_raise rs_module hms (fun k hk => (HD.out.hO k hk).1)) (fun _ _ => trivial)
     ·rw [HFR.out.2, HRES.out]; exact Kd.R_mono (R_raise rs_fault hfl (fun k hk => (HD.out.hF k hk).1)) (fun _ _ => trivial)
    ·have ho2 : overP fs = false := by simpa using ho
     have HO := aS ho2
     have HLT := aS hlt
     clear ho ho2
     obtain ⟨y, hy⟩ : ∃ y, moduleP j n fs (l.drop a') = some y := by
      cases hq : moduleP j n fs (l.drop a') with
      | none =>
       have qq := HQ.out
       rw [modulesP, if_neg (fun z => z.elim (fun z => by have := congrArg List.length z; simp at this; omega) (fun z => by rw [HO.out] at z; cases z)), hq] at qq
       cases qq
      | some y => exact ⟨y, rfl⟩
     have HNE0 := aS (show ¬ (l.drop a' = [] ∨ overP fs = true) from fun z => z.elim (fun z => by have := congrArg List.length z; simp at this; omega) (fun z => by rw [HO.out] at z; cases z))
     have HY := aS hy
     clear hy hlt
     go_upto_region 7 with (go_at_call 21; refine (over_calls bp bp a0 A c l n B q a' w6 F _ HST.out HFL.out (by rw [List.length_map]; have := HD.out.fss; omega)).mono ?_; rintro en w7 ⟨he, hw7⟩; rw [hw7]; rw [overF_is, HO.out] at he; subst he)
     clear d1 d2 p0 c2 hsm
     have hb7 := below_alloc (bR w6.heap.size w6) (.cells #[.string ⟨#[]⟩, .slice none 0 0, .slice none 0 0, .slice none 0 0] 47)
     have hm7 := (MapKept.heap_alloc w6 (.cells #[.string ⟨#[]⟩, .slice none 0 0, .slice none 0 0, .slice none 0 0] 47)).1
     have hz7 : (w6.alloc (.cells #[.string ⟨#[]⟩, .slice none 0 0, .slice none 0 0, .slice none 0 0] 47)).heap.size = w6.heap.size + 1 := by show (w6.heap.push _).size = _; simp
     go_upto_region 8 with (fail)
     generalize w6.alloc (.cells #[.string ⟨#[]⟩, .slice none 0 0, .slice none 0 0, .slice none 0 0] 47) = w7 at *
     have hb8 := below_alloc (bR w7.heap.size w7) (.cells #[.bool false] 4)
     have ht8 := (MapKept.heap_alloc w7 (.cells #[.bool false] 4)).1
     have hz8 : (w7.alloc (.cells #[.bool false] 4)).heap.size = w7.heap.size + 1 := by show (w7.heap.push _).size = _; simp
     rw [hz7] at ht8 hz8
     go_upto_region 9 with (fail)
     generalize w7.alloc (.cells #[.bool false] 4) = w8 at *
     have HB8 := aS (show Below w6.heap.size w6 w8 from hb7.trans (hb8.mono (by omega)))
     have HM8 := aS (fbelow hm7 hb8)
     have HT8 := aS ht8
     have HZ8 := aS hz8
     clear hb7 hm7 hz7 hb8 ht8 hz8
     have HD8 := aS (HD.out.below HB8.out HGW.out)
     have HLT6 := aS (show pb < w6.heap.size ∧ db < w6.heap.size ∧ rb < w6.heap.size ∧ bp < w6.heap.size from ⟨(Array.getElem?_eq_some_iff.1 HD.out.pbx).1, (Array.getElem?_eq_some_iff.1 HD.out.dbx).1, (Array.getElem?_eq_some_iff.1 HD.out.rbx).1, HST.out.lt⟩)
     have HFO6 := aS (show (∀ k, F k → k < w6.heap.size) ∧ (∀ k, O k → k < w6.heap.size) from ⟨fun k hk => (HD.out.hF k hk).2.2.2.2.2.1, fun k hk => (HD.out.hO k hk).2.2.2.2.2.2⟩)
     generalize hmb : w6.heap.size = mb at *
     generalize htb : mb + 1 = tb at *
     have HNE := aS (show mb ≠ bp ∧ tb ≠ bp ∧ mb ≠ tb ∧ bp ≤ mb ∧ bp ≤ tb ∧ ¬ F mb ∧ ¬ F tb ∧ mb < w8.heap.size ∧ tb < w8.heap.size ∧ w8.heap.size = mb + 2 ∧ mb + 1 = tb from by have h1 := HLT6.out; have h2 := HZ8.out; exact ⟨by omega, by omega, by omega, by omega, by omega, fun z => by have := HFO6.out.1 _ z; omega, fun z => by have := HFO6.out.1 _ z; omega, by omega, by omega, by omega, by omega⟩)
     clear hmb htb
     obtain ⟨B8, q8, hst8, hfl8⟩ := HD8.out.par.st
     have HST8 := aS hst8
     clear hst8 hfl8
     have p0 := cH HD8.out.pbx 0
     have hmf : ∀ (fn : Fn) (first cap : Array Value) (w : World), (Instr.makeFunc fn first cap).run Tryd.prog w = .ok (.func fn first cap) w := fun _ _ _ _ => rfl
     go_upto_region 10 with (go_at_call 22; refine (guarded_calls bp bp a0 A c l n _ a' w8 F HST8.out HD8.out.par.far (PX bp mb tb F) (fun k hk => by have h1 := HNE.out; have h2 := HST8.out.lt; rcases hk with hk | hk | hk | hk; omega; have h3 := HD8.out.par.far k hk; omega; omega; omega) 23 _ (fun w => enters_ Tryd.func23 (by kernel_rfl) rfl _ w) (PsOk bp bp a0 A c l n F fs j a' mb tb) (PsBad a0 l n fs j a') (fun w1 hb hz => parse1_calls bp bp a0 A c l n F j a' fs w1 (HD8.out.par.mono_ hb) HD.out.few.2 HO.out (HFS.out HO.out) HLT.out pb mb tb ⟨HNE.out.1, HNE.out.2.1, HNE.out.2.2.1, HNE.out.2.2.2.1, HNE.out.2.2.2.2.1, HNE.out.2.2.2.2.2.1, HNE.out.2.2.2.2.2.2.1⟩ (fbelow HD8.out.pbx hb) (fbelow HM8.out hb) (fbelow HT8.out hb) y HY.out)).mono ?_; rintro en w9 (⟨rfl, w10, w11, hb10, hz10, hok, hmX, hm9⟩ | ⟨er, b, a2, begun2, fl2, F2, B3, q3, w10, w11, rfl, hbb, hb10, hz10, hmX, hbad, hst9, hfl9, hf29, hm9⟩))
     ·have hbw := below_alloc (bR w9.heap.size w9) (.cells #[.int .i64 0, .int .i64 0] 69)
      have hm89 : Mv (PX bp mb tb F) w8 w9 := ((mv_below (X := PX bp mb tb F) hb10).then_ hmX (fun i hi => .inl hi)).then_ hm9 (fun i hi => .inr hi.1)
      have hm812 : Mv (PX bp mb tb F) w8 (w9.alloc (.cells #[.int .i64 0, .int .i64 0] 69)) := hm89.then_ (mv_below (X := fun _ => False) hbw) (fun _ z => z.elim)
      have hs10 := hb10.size
      have hs11 := hmX.size
      have hs9 := hm9.size
      have hs12 := hbw.size
      have hYok : ∀ k, PX bp mb tb F k → w.heap.size ≤ k ∧ k ≠ pb ∧ k ≠ db ∧ k ≠ rb ∧ ¬ O k := fun k hk => by
       have h1 := HLT6.out; have h2 := HNE.out; have h3 := HGE.out; have h4 := HGW.out
       rcases hk with hk | hk | hk | hk
       ·rw [hk]; exact ⟨by omega, by omega, by omega, by omega, fun z => (HD.out.hO _ z).2.2.2.2.2.1 rfl⟩
       ·have h5 := HD.out.hF k hk; exact ⟨h5.1, h5.2.1, h5.2.2.1, h5.2.2.2.1, h5.2.2.2.2.2.2⟩
       ·exact ⟨by omega, by omega, by omega, by omega, fun z => by have := HFO6.out.2 k z; omega⟩
       ·exact ⟨by omega, by omega, by omega, by omega, fun z => by have := HFO6.out.2 k z; omega⟩
      have hnb := begunM_le n (l.drop a') HD.out.few.2
      have hbp8 := HST8.out.lt
      have hne0 : l.drop a' ≠ [] := fun z => HNE0.out (.inl z)
      have hmf0 := module_fs l j n fs (l.drop a') y hne0 (List.drop_suffix a' l) (HFS.out HO.out) HO.out HY.out
      have hFm : ∀ k, F k → k < mb := HFO6.out.1
      have hmw := HNE.out.2.2.2.2.2.2.2
      rcases hok with ⟨m, fs2, b, B1, q1, B2, q2, B4, q4, F2, O2, hmod, hbl, hmb11, htb11, hpar, hF2, hr1, hr2, hr3, hO2⟩ | ⟨fs2, t, b, F2, hmod, hbl, htb11, hpar, hF2⟩
      ·have hyd : y = .done m (l.drop b) fs2 := Option.some.inj (HY.out.symm.trans hmod)
       subst hyd
       have hnn := module_begun hmod
       have hp9 := hpar.turn2 hm9 (fun k hk => ⟨by omega, by omega⟩) (fun k hk z => by rcases hF2 k hk with h1 | h1; have := hFm k h1; omega; omega)
       have hmb9 := hm9.obj hmb11 (fun z => by omega)
       have htb9 := hm9.obj htb11 (fun z => by omega)
       have hno : ∀ k, O2 k → ¬ (w8.heap.size ≤ k ∧ k < w10.heap.size) := fun k hk z => by have := (hO2 k hk).1; omega
       have hr1' : StrR O2 (w9.alloc (.cells #[.int .i64 0, .int .i64 0] 69)) (.slice B1 m.f1.length q1) m.f1 := Kd.R_below (Mv.row hr1 hm9 hno) hbw
       have hr2' : PrtR O2 (w9.alloc (.cells #[.int .i64 0, .int .i64 0] 69)) (.slice B2 m.f2.length q2) m.f2 := Kd.R_below (Mv.row hr2 hm9 hno) hbw
       have hr3' : ItmR O2 (w9.alloc (.cells #[.int .i64 0, .int .i64 0] 69)) (.slice B4 m.f3.length q4) m.f3 := Kd.R_below (Mv.row hr3 hm9 hno) hbw
       have hd12 := HD8.out.turn hm812 hYok (hp9.mono_ hbw) (fun k hk => (hF2 k hk).imp id (fun z => by omega)) hnb hmf0.1.few HGW.out
       have hdl := HLT6.out
       have hge := HGE.out
       have hgw := HGW.out
       obtain ⟨v1, w13, B', q', hrun, hdb13, hv1, hd13⟩ := hd12.append (n0 := w10.heap.size) O2 hr1' hr2' hr3' (fun k hk => by have h1 := hO2 k hk; exact ⟨h1.1, by omega, h1.2.2⟩) (fun k hk => by have := HFO6.out.2 k hk; omega) ⟨by omega, by omega, by omega, by omega, by omega, by omega, by omega⟩ (by rw [hnn.1]; have := HD.out.few.1; omega) HGW.out ⟨by omega, by omega, by omega⟩ (by omega)
       subst hv1
       have HD13 := aS hd13
       have HFS2 := aS (show overP fs2 = false → Fs l fs2 (l.drop b) from fun _ => hmf0.1)
       have HQ2 := aS (show modulesP j (begunM n (l.drop a')) (ms ++ [m]) fs2 (l.drop b) = some res from by have qq := HQ.out; rw [modulesP, if_neg HNE0.out, HY.out] at qq; exact qq)
       have hmb12 := fbelow hmb9 hbw
       have htb12 := fbelow htb9 hbw
       have t0 := cH htb12 0
       have d0 := cH hd12.dbx 0
       have m0 := cH hmb12 0
       have m1 := cH hmb12 1
       have m2 := cH hmb12 2
       have m3 := cH hmb12 3
       have y13 := cH hdb13 0
       have f13 := blk_frozen hdb13 0
       have HRUN := aS hrun
       clear hd13 hd12 hmb12 htb12 hdb13 hr1' hr2' hr3' hno hp9 hmb9 htb9 hnn hmod hbl hmb11 htb11 hpar hF2 hr1 hr2 hr3 hO2 hbw hm89 hm812 hs10 hs11 hs9 hs12 hYok hnb hbp8 hne0 hmf0 hFm hmw hb10 hz10 hmX hm9 hdl hge hgw hmf p0 hrun
       go_upto_region 11 with (fail)
       generalize w9.alloc (.cells #[.int .i64 0, .int .i64 0] 69) = w12 at *
       have hrun := HRUN.out
       go_upto_region 99 with (refine wpList_value rfl (append_exec hrun rfl rfl rfl rfl) ?_)
       go_roundg j
       case measure => omega
       case rel => exact ⟨begunM n (l.drop a'), b, fs2, ms ++ [m], B', q', F2, _, HQ2, HD13, HFS2⟩
      ·have hyd : y = .stop fs2 t := Option.some.inj (HY.out.symm.trans hmod)
       subst hyd
       have hp9 := hpar.turn2 hm9 (fun k hk => ⟨by omega, by omega⟩) (fun k hk z => by rcases hF2 k hk with h1 | h1; have := hFm k h1; omega; omega)
       have htb9 := hm9.obj htb11 (fun z => by omega)
       have hov := module_stop _ _ _ _ _ _ hmod
       have hd12 := HD8.out.turn hm812 hYok (hp9.mono_ hbw) (fun k hk => (hF2 k hk).imp id (fun z => by omega)) hnb hmf0.1.few HGW.out
       have HD13 := aS hd12
       have HFS2 := aS (show overP fs2 = false → Fs l fs2 (l.drop b) from fun z => by rw [hov] at z; cases z)
       have HQ2 := aS (show modulesP j (begunM n (l.drop a')) ms fs2 (l.drop b) = some res from modules_over hov (show modulesP j (begunM n (l.drop a')) ms fs2 t = some res from by have qq := HQ.out; rw [modulesP, if_neg HNE0.out, HY.out] at qq; exact qq))
       have htb12 := fbelow htb9 hbw
       have t0 := cH htb12 0
       clear hd12 htb12 hp9 htb9 hmod hbl htb11 hpar hF2 hbw hm89 hm812 hs10 hs11 hs9 hs12 hYok hnb hbp8 hne0 hmf0 hFm hmw hb10 hz10 hmX hm9 hmf p0 hov
       go_upto_region 12 with (fail)
       generalize w9.alloc (.cells #[.int .i64 0, .int .i64 0] 69) = w12 at *
       go_upto_region 99 with (fail)
       go_roundg j
       case measure => omega
       case rel => exact ⟨begunM n (l.drop a'), b, fs2, ms, Bd, qd, F2, O, HQ2, HD13, HFS2⟩
     ·obtain ⟨fs2, hmod, rfl, rfl⟩ := hbad
      have hyd : y = .bad er (l.drop b) fs2 := Option.some.inj (HY.out.symm.trans hmod)
      subst hyd
      have hbw := below_alloc (bR w9.heap.size w9) (.cells #[.int .i64 er, .int .i64 (b : Int)] 69)
      have hzw := (MapKept.heap_alloc w9 (.cells #[.int .i64 er, .int .i64 (b : Int)] 69)).1
      have hs10 := hb10.size
      have hs11 := hmX.size
      have hs9 := hm9.size
      have hs12 := hbw.size
      have hm89 : Mv (PX bp mb tb F) w8 w9 := ((mv_below (X := PX bp mb tb F) hb10).then_ hmX (fun i hi => .inl hi)).then_ hm9 (fun i hi => by rcases hi with hi | hi | hi; exact .inl (.inl hi); exact (hf29 i hi).elim (fun z => .inl (.inr (.inl z))) (fun z => .inr (by omega)); exact .inr hi.1)
      have hm812 : Mv (PX bp mb tb F) w8 (w9.alloc (.cells #[.int .i64 er, .int .i64 (b : Int)] 69)) := hm89.then_ (mv_below (X := fun _ => False) hbw) (fun _ z => z.elim)
      have hYok : ∀ k, PX bp mb tb F k → w.heap.size ≤ k ∧ k ≠ pb ∧ k ≠ db ∧ k ≠ rb ∧ ¬ O k := fun k hk => by
       have h1 := HLT6.out; have h2 := HNE.out; have h3 := HGE.out; have h4 := HGW.out
       rcases hk with hk | hk | hk | hk
       ·rw [hk]; exact ⟨by omega, by omega, by omega, by omega, fun z => (HD.out.hO _ z).2.2.2.2.2.1 rfl⟩
       ·have h5 := HD.out.hF k hk; exact ⟨h5.1, h5.2.1, h5.2.2.1, h5.2.2.2.1, h5.2.2.2.2.2.2⟩
       ·exact ⟨by omega, by omega, by omega, by omega, fun z => by have := HFO6.out.2 k z; omega⟩
       ·exact ⟨by omega, by omega, by omega, by omega, fun z => by have := HFO6.out.2 k z; omega⟩
      have hnb := begunM_le n (l.drop a') HD.out.few.2
      have hbp8 := HST8.out.lt
      have hne0 : l.drop a' ≠ [] := fun z => HNE0.out (.inl z)
      have hmf0 := module_fs l j n fs (l.drop a') _ hne0 (List.drop_suffix a' l) (HFS.out HO.out) HO.out HY.out
      have hFm : ∀ k, F k → k < mb := HFO6.out.1
      have hmw := HNE.out.2.2.2.2.2.2.2
      have hfleq : fs2.map (fltW a0) ++ [fltT a0 l er b] = (fs2 ++ [(er, l.drop b)]).map (fltW a0) := by rw [List.map_append, ← fltW_at a0 l er b]; rfl
      have hadd := hmf0.1.add (List.drop_suffix b l) hmf0.2.1 (List.suffix_refl _) hmf0.2.2.2
      have hp9 : Par bp bp a0 A c l ((begunM n (l.drop a') : Nat) : Int) (fun k => (F2 k ∨ w11.heap.size ≤ k) ∧ k < w9.heap.size) (fs2 ++ [(er, l.drop b)]) a2 w9 := by
       refine ⟨⟨B3, q3, ?_, ?_⟩, fun k hk => ?_⟩
       ·rw [← hfleq, List.length_append, List.length_singleton]; exact hst9
       ·rw [← hfleq, List.length_append, List.length_singleton]; exact Kd.R_mono (Kd.R_bound hfl9) (fun k hk => ⟨hk.1, hk.2.2.1⟩)
       ·rcases hk.1 with h1 | h1
        ·rcases hf29 k h1 with h2 | h2
         ·have := HD8.out.par.far k h2; exact ⟨this.1, this.2.1, hk.2⟩
         ·exact ⟨by omega, by omega, hk.2⟩
        ·exact ⟨by omega, by omega, hk.2⟩
      have hd12 := HD8.out.turn hm812 hYok (hp9.mono_ hbw) (fun k hk => by rcases hk.1 with h1 | h1; exact (hf29 k h1).imp id (fun z => by omega); exact .inr (by omega)) hnb hadd.few HGW.out
      have HADD := aS hadd
      have HD12 := aS hd12
      have HSRT := aS hmf0.2.2.2
      have HBB := aS hbb
      have HZW := aS hzw
      have HNB := aS hnb
      have HQ2 := aS (show (if overP (fs2 ++ [(er, l.drop b)]) = true then modulesP j (begunM n (l.drop a')) ms (fs2 ++ [(er, l.drop b)]) (l.drop b) else modulesP j (begunM n (l.drop a')) ms (fs2 ++ [(er, l.drop b)]) (nextP er (l.drop b))) = some res from by have qq := HQ.out; rw [modulesP, if_neg HNE0.out, HY.out] at qq; exact qq)
      clear hd12 hadd hp9 hfleq hmod hbw hzw hm89 hm812 hs10 hs11 hs9 hs12 hYok hnb hbp8 hne0 hmf0 hFm hmw hb10 hz10 hmX hm9 hmf p0 hbb hst9 hfl9 hf29
      go_upto_region 12 with (fail)
      generalize w9.alloc (.cells #[.int .i64 er, .int .i64 (b : Int)] 69) = w12 at *
      generalize w9.heap.size = wv at *
      obtain ⟨B5, q5, hst, hfl⟩ := HD12.out.par.st
      have HST5 := aS hst
      have HFL5 := aS hfl
      clear hst hfl
      have p0 := cH HD12.out.pbx 0
      by_cases hov : overP (fs2 ++ [(er, l.drop b)]) = true
      ·have HOV := aS hov
       have HQ3 := aS (show modulesP j (begunM n (l.drop a')) ms (fs2 ++ [(er, l.drop b)]) (l.drop a2) = some res from modules_over hov (by have qq := HQ2.out; rw [if_pos hov] at qq; exact qq))
       clear hov
       go_upto_region 99 with (go_at_call 21; refine (over_calls bp bp a0 A c l _ B5 q5 a2 w12 _ _ HST5.out HFL5.out (by rw [List.length_map]; have := HADD.out.few; omega)).mono ?_; rintro en w7' ⟨he, hw7⟩; rw [hw7]; rw [overF_is, HOV.out] at he; subst he)
       go_roundg j
       case measure => omega
       case rel => exact ⟨begunM n (l.drop a'), a2, _, ms, Bd, qd, _, O, HQ3, HD12, ⟨fun z => by rw [HOV.out] at z; cases z⟩⟩
      ·have hov2 : overP (fs2 ++ [(er, l.drop b)]) = false := by simpa using hov
       have HOV := aS hov2
       have HQ3 := aS (show modulesP j (begunM n (l.drop a')) ms (fs2 ++ [(er, l.drop b)]) (nextP er (l.drop b)) = some res from by have qq := HQ2.out; rw [if_neg hov] at qq; exact qq)
       clear hov hov2
       have z0 := cH HZW.out 0
       have z1 := cH HZW.out 1
       go_upto_region 13 with (go_at_call 21; refine (over_calls bp bp a0 A c l _ B5 q5 a2 w12 _ _ HST5.out HFL5.out (by rw [List.length_map]; have := HADD.out.few; omega)).mono ?_; rintro en w7' ⟨he, hw7⟩; rw [hw7]; rw [overF_is, HOV.out] at he; subst he)
       have hlt2 : er = 2 → b < l.length := fun z => by rcases HSRT.out with h1 | h1; exact absurd (z.symm.trans h1.2) (by decide); rcases Nat.lt_or_ge b l.length with h2 | h2; exact h2; exact absurd (List.drop_eq_nil_of_le h2) h1.1
       have HLT2 := aS hlt2
       clear hlt2
       go_upto_region 99 with (go_at_call 25; refine (next_calls bp bp a0 A c l _ _ a2 b w12 HST5.out HBB.out er HLT2.out).mono ?_; rintro en w13 ⟨rfl, b', hb', hnx, hat⟩; have HNX := aS hnx; have HAT := aS hat; have HB' := aS hb'; clear hnx hat hb')
       have HD13 := aS (HD12.out.turn (b := b') HAT.out.mv (fun k hk => by have hk2 : k = bp := hk.elim id False.elim; rw [hk2]; have h3 := HGE.out; have h4 := HGW.out; exact ⟨by omega, by omega, by omega, by omega, fun z => (HD12.out.hO _ z).2.2.2.2.2.1 rfl⟩) (HD12.out.par.at_ HAT.out (fun k hk => hk.elim) HB'.out) (fun k hk => .inl hk) ⟨Nat.le_refl _, HNB.out.2⟩ HADD.out.few HGW.out)
       go_roundg j
       case measure => omega
       case rel => exact ⟨begunM n (l.drop a'), b', _, ms, Bd, qd, _, O, ⟨by rw [← HNX.out]; exact HQ3.out⟩, HD13, ⟨fun _ => by rw [← HNX.out]; exact HADD.out.less (next_suf er _)⟩⟩
   ·have d1 : decide ((a' : Int) < (l.length : Int)) = false := decide_eq_false (by omega)
    have d2 : decide (a' < l.length) = false := decide_eq_false hlt
    have HRES := aS (show res = (ms, fs) from by have qq := HQ.out; rw [modulesP, if_pos (.inl (List.drop_eq_nil_of_le (by omega)))] at qq; exact (Option.some.inj qq).symm)
    clear hlt
    go_upto_region 14 with (fail)
    clear d1 d2 p0 c2 hsm
    refine start_ (n := 7) (S := fun w' => w'.cell? ⟨pb, 0, none⟩ = some (.pointer (some ⟨bp, 0, none⟩)) ∧ w'.cell? ⟨bp, 4, none⟩ = some (.slice B (fs.map (fltW a0)).length q) ∧ w'.cell? ⟨db, 0, none⟩ = some (.slice Bd ms.length qd)) (ds := []) #[false, false, false, false, false, false, false] (by kernel_rfl) rfl rfl ⟨cH HD.out.pbx 0, cH HST.out.blk 4, cH HD.out.dbx 0⟩ (fun hHeld => ?_)
    refine take_ (i := 0) (N := some 70) (v := ?_) (a' := ?_) #[true, false, false, false, false, false, false] rfl rfl (by kernel_rfl) (fun _ _ _ h => h) (Or.inl ⟨by rfl, ?_⟩) hHeld ?_ ?_
    rotate_left
    ·rintro w' ⟨s0, s1, s2⟩
     go_simp
     try with_reducible rfl
    rotate_left
    ·simp only [putAll, Act.put, sI, s0', s1']
     rfl
    refine take_ (i := 1) (N := some 71) (v := ?_) (a' := ?_) #[true, true, false, false, false, false, false] rfl rfl (by kernel_rfl) (fun _ _ _ h => h) (Or.inl ⟨by rfl, ?_⟩) hHeld ?_ ?_
    rotate_left
    ·rintro w' ⟨s0, s1, s2⟩
     go_simp
     try with_reducible rfl
    rotate_left
    ·simp only [putAll, Act.put, sI, s0', s1']
     rfl
    refine pure_ (i := 2) (N := some 72) (v := ?_) (a' := ?_) #[true, true, true, false, false, false, false] rfl rfl (by kernel_rfl) (fun _ _ _ h => h) (Or.inl ⟨by rfl, ?_⟩) ?_ ?_
    rotate_left
    ·intro w'
     go_simp
     try with_reducible rfl
    rotate_left
    ·simp only [putAll, Act.put, sI, s0', s1']
     rfl
    refine pure_ (i := 3) (N := some 73) (v := ?_) (a' := ?_) #[true, true, true, true, false, false, false] rfl rfl (by kernel_rfl) (fun _ _ _ h => h) (Or.inl ⟨by rfl, ?_⟩) ?_ ?_
    rotate_left
    ·intro w'
     go_simp
     try with_reducible rfl
    rotate_left
    ·simp only [putAll, Act.put, sI, s0', s1']
     rfl
    refine take_ (i := 4) (N := some 74) (v := ?_) (a' := ?_) #[true, true, true, true, true, false, false] rfl rfl (by kernel_rfl) (fun _ _ _ h => h) (Or.inl ⟨by rfl, ?_⟩) hHeld ?_ ?_
    rotate_left
    ·rintro w' ⟨s0, s1, s2⟩
     go_simp
     try with_reducible rfl
    rotate_left
    ·simp only [putAll, Act.put, sI, s0', s1']
     rfl
    have y4 := cH HD.out.rbx 0
    have f4 := blk_frozen HD.out.rbx 0
    have y4d : w6.drew.cell? ⟨rb, 0, none⟩ = some NS := y4
    have f4d : w6.drew.frozen? ⟨rb, 0, none⟩ = false := f4
    refine one_ (i := 5) (N := none) #[true, true, true, true, true, true, false] rfl rfl (by kernel_rfl) (by decide) (fun K hK => ?_)
    refine skip_ (w1 := w6.drew.setCell ⟨rb, 0, none⟩ (.slice Bd ms.length qd)) (by rfl) rfl ?_ ?_
    ·simp [go_sem, y4d, f4d]
    have hprb : pb ≠ rb ∧ db ≠ rb ∧ bp ≠ rb := by have h1 := HGE.out; exact ⟨by omega, by omega, by omega⟩
    refine hK.out _ _ ⟨cH ((Below.heap_setCell _ ⟨rb, 0, none⟩ _ _ hprb.1).trans (heap_drew HD.out.pbx)) 0, cH ((Below.heap_setCell _ ⟨rb, 0, none⟩ _ _ hprb.2.2).trans (heap_drew HST.out.blk)) 4, cH ((Below.heap_setCell _ ⟨rb, 0, none⟩ _ _ hprb.2.1).trans (heap_drew HD.out.dbx)) 0⟩ (fun hHeld => ?_)
    clear hK K
    refine pure_ (i := 6) (N := some 3) (v := ?_) (a' := ?_) #[true, true, true, true, true, true, true] rfl rfl (by kernel_rfl) (fun _ _ _ h => h) (Or.inl ⟨by rfl, ?_⟩) ?_ ?_
    rotate_left
    ·intro w'
     go_simp
     try with_reducible rfl
    rotate_left
    ·simp only [putAll, Act.put, sI, s0', s1']
     rfl
    refine done_ (by kernel_rfl) ?_
    have hne : ∀ k, (F k ∨ O k) → k ≠ rb := fun k hk => by rcases hk with hk | hk; exact (HD.out.hF k hk).2.2.2.1; exact (HD.out.hO k hk).2.2.2.2.1
    have hrr : (w6.drew.setCell ⟨rb, 0, none⟩ (.slice Bd ms.length qd)).heap[rb]? = some (.cells #[.slice Bd ms.length qd] 26 (0, 0)) := set_new (heap_drew HD.out.rbx) (by kernel_rfl)
    have hms : MdR O (w6.drew.setCell ⟨rb, 0, none⟩ (.slice Bd ms.length qd)) (.slice Bd ms.length qd) ms := Kd.R_far (p := ⟨rb, 0, none⟩) (Kd.R_below HD.out.mds (below_drew (bR _ _))) (fun k hk => hne k (.inr hk)) _
    have hfl : FltR F (w6.drew.setCell ⟨rb, 0, none⟩ (.slice Bd ms.length qd)) (.slice B (fs.map (fltW a0)).length q) (fs.map (fltW a0)) := Kd.R_far (p := ⟨rb, 0, none⟩) (Kd.R_below HFL.out (below_drew (bR _ _))) (fun k hk => hne k (.inl hk)) _
    have hmv : Mv (fun _ => False) w (w6.drew.setCell ⟨rb, 0, none⟩ (.slice Bd ms.length qd)) := (HD.out.bel.then_ (mv_below (X := fun _ => False) (below_drew (bR w6.heap.size w6))) (fun _ q => q.elim)).set ⟨rb, 0, none⟩ (.inr (by have h1 := HGE.out; show w.heap.size ≤ rb; omega)) _
    have hbel : Below w.heap.size w (w6.drew.setCell ⟨rb, 0, none⟩ (.slice Bd ms.length qd)) := ⟨hmv.os, hmv.tape, hmv.output, hmv.size, fun k hk => hmv.rest k hk id⟩
    have c2 := cH hrr 0
    clear hrr hne hmv y4 f4 y4d f4d hHeld
    generalize w6.drew.setCell ⟨rb, 0, none⟩ (.slice Bd ms.length qd) = wf at *
    simp only [Exit.then, Exit.inBlock, Act.put]
    go_wp2
    refine bodyPost_ret (v := .tuple #[.agg #[.slice Bd ms.length qd], .slice B (fs.map (fltW a0)).length q]) ?_ rfl ⟨_, _, rfl, ?_, ?_, hbel⟩
    ·clear hbel hms hfl; simp [results, Tryd.results11, go_sem, c2]
    ·rw [HFR.out.1, HRES.out]; exact Kd.R_mono (R_raise rs_module hms (fun k hk => (HD.out.hO k hk).1)) (fun _ _ => trivial)
    ·rw [HFR.out.2, HRES.out]; exact Kd.R_mono (R_raise rs_fault hfl (fun k hk => (HD.out.hF k hk).1)) (fun _ _ => trivial)
end Go.Proofs.YtenogedclignmaaDoor.Q
namespace Go.Proofs.YtenogedclignmaaDoor.Q
open Go.NumPure Go.RowKit Go.Proofs.YtenogedclignmaaDoorW.PrintWords Go.Proofs.YtenogedclignmaaDoorW.PrintLast Go.Proofs.YtenogedclignmaaDoorW.PrintMore
def syn_Word.f (a0 : ByteArray) : Option (Bool) := if a0.size ≤ 140737488355328 then some (wordP a0.data.toList) else none
theorem syn_Word.calls (a0 : ByteArray) (r : Bool) (w : World) (hG : Tab w) (h : syn_Word.f a0 = some r) :
  Calls Tryd.prog 18 #[.string a0] w fun e w' => e = .returned (.bool r) ∧ Below w.heap.size w w' := by
 unfold syn_Word.f at h
 by_cases hs : a0.size ≤ 140737488355328
 ·rw [if_pos hs] at h
  cases h
  refine (word_calls a0 w hG.2 hs).mono ?_
  rintro e w' ⟨h1, h2⟩
  exact ⟨h1, by first | exact h2 | (rw [h2]; exact bR _ _) | (subst h2; exact bR _ _)⟩
 ·rw [if_neg hs] at h; cases h
end Go.Proofs.YtenogedclignmaaDoor.Q
