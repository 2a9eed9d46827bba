/-
  HELPER.
-/
import Derived.Test.YtenogedclignmaaDoorPlKA
import Derived.Test.YtenogedclignmaaDoorPlK18
set_option linter.unusedVariables false
set_option linter.unusedSimpArgs false
namespace Go.Proofs.YtenogedclignmaaDoor.Q
open Go.RowKit Go.Maps Go.WideMaps Go.Proofs.YtenogedclignmaaDoorW.PrintWords Go.Proofs.YtenogedclignmaaDoorW.PrintLast Go.Proofs.YtenogedclignmaaDoorW.PrintMore
def ModuleT (G bp : Nat) (s : ByteArray) (A : Option Addr) (c : Nat) (l : List Tok) (begun2 : Int) (F0 : Nat → Prop) (w : World) (res : MR Mdl) (e : Ending) (w' : World) : Prop :=
 Mv (fun k => k = bp ∨ F0 k) w w' ∧ ∃ F, (∀ k, F k → F0 k ∨ w.heap.size ≤ k) ∧ match res with
 | .done m r fs => ∃ (b : Nat) (B1 : Option Addr) (q1 : Nat) (B2 : Option Addr) (q2 : Nat) (B3 : Option Addr) (q3 : Nat) (O : Nat → Prop), r = l.drop b ∧ b ≤ l.length ∧ e = .returned (.tuple #[.agg #[.string m.f0, .slice B1 m.f1.length q1, .slice B2 m.f2.length q2, .slice B3 m.f3.length q3], .bool true]) ∧ Par G bp s A c l begun2 F fs b w' ∧ StrR O w' (.slice B1 m.f1.length q1) m.f1 ∧ PrtR O w' (.slice B2 m.f2.length q2) m.f2 ∧ ItmR O w' (.slice B3 m.f3.length q3) m.f3 ∧ (∀ k, O k → w.heap.size ≤ k ∧ k < w'.heap.size ∧ ¬ F k)
 | .stop fs t => ∃ (b : Nat) (nm : ByteArray) (B1 : Option Addr) (n1 q1 : Nat) (B2 : Option Addr) (n2 q2 : Nat), b ≤ l.length ∧ e = .returned (.tuple #[.agg #[.string nm, .slice B1 n1 q1, .slice B2 n2 q2, NS], .bool false]) ∧ Par G bp s A c l begun2 F fs b w'
 | .bad er t fs => ∃ b a2 : Nat, t = l.drop b ∧ b ≤ l.length ∧ e = gaveUp er b ∧ Par G bp s A c l begun2 F fs a2 w'
section
variable {G bp : Nat} {s : ByteArray} {A : Option Addr} {c : Nat} {l : List Tok} {F0 : Nat → Prop} {w w1 w4 w' : World} {begun begun2 : Int} {fs : List Wr} {a b a2 k n : Nat} {res : MR Mdl}
theorem Par.mono_ (h : Par G bp s A c l begun F0 fs a w1) (hb : Below w1.heap.size w1 w') : Par G bp s A c l begun F0 fs a w' := by
 obtain ⟨⟨B, q, h1, h2⟩, h3⟩ := h
 exact ⟨⟨B, q, h1.below hb, Kd.R_below h2 hb⟩, fun k hk => by have := h3 k hk; have h4 := hb.size; exact ⟨this.1, this.2.1, by omega⟩⟩
theorem Par.at_ {X : Nat → Prop} (h : Par G bp s A c l begun F0 fs a w1) (hat : At bp b X w1 w') (hX : ∀ k, X k → G ≤ k ∧ ¬ F0 k) (hb : b ≤ l.length) : Par G bp s A c l begun F0 fs b w' := by
 obtain ⟨⟨B, q, h1, h2⟩, h3⟩ := h
 exact ⟨⟨B, q, h1.step hat (fun k hk => (hX k hk).1) hb, R_at h2 hat (fun k hk => ⟨(h3 k hk).1, fun q => (hX k q).2 hk⟩)⟩, fun k hk => by have := h3 k hk; have h4 := hat.size; exact ⟨this.1, this.2.1, by omega⟩⟩
theorem Par.turn {g : Nat} (h : Par G bp s A c l begun F0 fs a w1) (hm : Mv (fun k => k = g) w1 w') (hg : g ≠ bp) (hG : G ≤ g) (hF : ∀ k, F0 k → k ≠ g) : Par G bp s A c l begun F0 fs a w' := by
 obtain ⟨⟨B, q, h1, h2⟩, h3⟩ := h
 exact ⟨⟨B, q, h1.move hm (fun k hk => by rw [hk]; exact hG) h1.room (hm.obj h1.blk (fun q => hg q.symm)), Mv.row h2 hm hF⟩, fun k hk => by have := h3 k hk; have h4 := hm.size; exact ⟨this.1, this.2.1, by omega⟩⟩
theorem modT_bad {er : Int} {t : List Tok} (hpar : Par G bp s A c l begun2 F0 fs a2 w') (hm : Mv (fun k => k = bp ∨ F0 k) w w') (ht : t = l.drop b) (hb : b ≤ l.length) (hr : res = .bad er t fs) : ModuleT G bp s A c l begun2 F0 w res (gaveUp er b) w' := by
 subst hr
 exact ⟨hm, F0, fun k hk => .inl hk, b, a2, ht, hb, rfl, hpar⟩
theorem front_bad {y : PR (ByteArray × List ByteArray × List Prt)} {er : Int} {t : List Tok} (hQ : moduleP k n fs (l.drop a) = some res) (hk : txt (looks (l.drop a)) = kModule) (hn : ¬ 16 ≤ n) (hy : frontP (l.drop (a + 1)) = some y) (hf : some (PR.bad er t) = some y) : res = .bad er t fs := by
 cases hf
 unfold moduleP at hQ
 rw [if_neg (fun q => q hk), if_neg hn, tail_drop, hy] at hQ
 exact (Option.some.inj hQ).symm
theorem front_items {nm : ByteArray} {ps : List ByteArray} {qs : List Prt} {r1 : List Tok} (hQ : moduleP k n fs (l.drop a) = some res) (hk : txt (looks (l.drop a)) = kModule) (hn : ¬ 16 ≤ n) (hy : frontP (l.drop (a + 1)) = some (.ok (nm, ps, qs) r1)) : ∃ z, itemsP k 0 [] fs r1 = some z ∧ res = (match z with | .done xs r2 fs2 => .done ⟨nm, ps, qs, xs⟩ r2 fs2 | .stop fs2 r2 => .stop fs2 r2 | .bad e t fs2 => .bad e t fs2) := by
 unfold moduleP at hQ
 rw [if_neg (fun q => q hk), if_neg hn, tail_drop, hy] at hQ
 dsimp only at hQ
 cases hz : itemsP k 0 [] fs r1 with
 | none => rw [hz] at hQ; cases hQ
 | some z =>
  rw [hz] at hQ
  refine ⟨z, rfl, ?_⟩
  cases z with
  | done xs r2 fs2 => exact (Option.some.inj hQ).symm
  | stop fs2 r2 => exact (Option.some.inj hQ).symm
  | bad e t fs2 => exact (Option.some.inj hQ).symm
end
set_option maxHeartbeats 8000000 in
set_option maxRecDepth 100000 in
theorem module_tells (G bp : Nat) (s : ByteArray) (A : Option Addr) (c : Nat) (l : List Tok) (n : Nat) (F0 : Nat → Prop) (k a : Nat) (fs : List Wr) (w : World) (hpar : Par G bp s A c l n F0 fs a w) (hn : n ≤ 16) (hov : overP fs = false) (res : MR Mdl) (hres : moduleP k n fs (l.drop a) = some res) :
  Calls Tryd.prog 24 #[.pointer (some ⟨bp, 0, none⟩)] w (ModuleT G bp s A c l ((begunM n (l.drop a) : Nat) : Int) F0 w res) := by
 have hb1 : Below w.heap.size w ((w.alloc (.cells #[.pointer (some ⟨bp, 0, none⟩)] 65)).alloc (.cells #[.string ⟨#[]⟩, .slice none 0 0, .slice none 0 0, .slice none 0 0] 47)) := below_alloc (below_alloc (bR w.heap.size w) (.cells #[.pointer (some ⟨bp, 0, none⟩)] 65)) (.cells #[.string ⟨#[]⟩, .slice none 0 0, .slice none 0 0, .slice none 0 0] 47)
 have hz1 : (w.alloc (.cells #[.pointer (some ⟨bp, 0, none⟩)] 65)).heap.size = w.heap.size + 1 := by show (w.heap.push _).size = _; simp
 have hz2 : ((w.alloc (.cells #[.pointer (some ⟨bp, 0, none⟩)] 65)).alloc (.cells #[.string ⟨#[]⟩, .slice none 0 0, .slice none 0 0, .slice none 0 0] 47)).heap.size = w.heap.size + 2 := by show ((w.heap.push _).push _).size = _; simp
 have hp1 := fbelow (MapKept.heap_alloc w (.cells #[.pointer (some ⟨bp, 0, none⟩)] 65)).1 (below_alloc (bR _ (w.alloc (.cells #[.pointer (some ⟨bp, 0, none⟩)] 65))) (.cells #[.string ⟨#[]⟩, .slice none 0 0, .slice none 0 0, .slice none 0 0] 47))
 have hm1 := (MapKept.heap_alloc (w.alloc (.cells #[.pointer (some ⟨bp, 0, none⟩)] 65)) (.cells #[.string ⟨#[]⟩, .slice none 0 0, .slice none 0 0, .slice none 0 0] 47)).1
 rw [hz1] at hm1
 have hst := hpar.st
 have hfar := hpar.far
 have HLW := aS (show bp < w.heap.size ∧ G ≤ w.heap.size from by obtain ⟨B, q, h1, _⟩ := hst; exact ⟨h1.lt, h1.tab.size⟩)
 have HP1 := aS (hpar.mono_ hb1)
 have HB1 := aS (mv_below (X := fun k => k = bp ∨ F0 k) hb1)
 have HZ1 := aS hz2
 have HM1 := aS (show ModAt bp (w.heap.size + 1) w.heap.size (w.heap.size + 2) ⟨#[]⟩ [] [] ((w.alloc (.cells #[.pointer (some ⟨bp, 0, none⟩)] 65)).alloc (.cells #[.string ⟨#[]⟩, .slice none 0 0, .slice none 0 0, .slice none 0 0] 47)) from ⟨hp1, none, 0, none, 0, hm1, Kd.R_nil _ _ _ _ _, Kd.R_nil _ _ _ _ _⟩)
 have HFAR := aS hfar
 have HQ := aS hres
 have HOV := aS hov
 have HN := aS hn
 clear hb1 hz1 hz2 hp1 hm1 hpar hst hfar hres hov hn
 obtain ⟨tk, htk⟩ : ∃ tk, looks (l.drop a) = tk := ⟨_, rfl⟩
 have HTK := aS htk
 clear htk
 have hfld := tok_text
 go_enter Tryd.func24, Tryd.ntmps24
 go_upto_region 1 with (fail)
 generalize (w.alloc (.cells #[.pointer (some ⟨bp, 0, none⟩)] 65)).alloc (.cells #[.string ⟨#[]⟩, .slice none 0 0, .slice none 0 0, .slice none 0 0] 47) = w1 at *
 generalize hpb : w.heap.size = pb at *
 generalize hmb : pb + 1 = mb at *
 have HGE := aS (And.intro hpb hmb)
 clear hpb hmb
 obtain ⟨⟨B, q, hS1, hR1⟩, hfar1⟩ := HP1.out
 have HS1 := aS hS1
 have HR1 := aS hR1
 clear hS1 hR1 hfar1
 have HNE := aS (show mb ≠ bp ∧ pb ≠ bp ∧ mb ≠ pb ∧ mb < pb + 2 ∧ bp < pb + 2 ∧ pb < pb + 2 ∧ pb + 2 ≤ w1.heap.size ∧ G ≤ mb ∧ G ≤ pb ∧ w.heap.size = pb ∧ pb + 1 = mb ∧ bp < pb from by have h1 := HGE.out; have h2 := HLW.out; have h3 := HZ1.out; exact ⟨by omega, by omega, by omega, by omega, by omega, by omega, by omega, by omega, by omega, by omega, by omega, by omega⟩)
 have HXF := aS (show ∀ k, InX mb (pb + 2) k → G ≤ k ∧ ¬ F0 k from fun k hk => by have h1 := HNE.out; exact ⟨by rcases hk with hk | hk; omega; omega, fun q => by have h2 := HFAR.out k q; rcases hk with hk | hk; omega; omega⟩)
 have p0 := cH HM1.out.p 0
 by_cases ht : txt tk = kModule
 ·have q0 : tk.f1.toList = [109, 111, 100, 117, 108, 101] := by rw [ByteArray.toList_eq]; exact ht
  have q1 : (tk.f1.toList == ([109, 111, 100, 117, 108, 101] : List UInt8)) = true := by rw [q0]; rfl
  have q2 : (tk.f1.toList == (⟨#[109, 111, 100, 117, 108, 101]⟩ : ByteArray).toList) = true := by rw [q0, ByteArray.toList_eq]; rfl
  have q3 : (tk.f1.toList != ([109, 111, 100, 117, 108, 101] : List UInt8)) = false := by simp [bne, q1]
  have q4 : (tk.f1.toList != (⟨#[109, 111, 100, 117, 108, 101]⟩ : ByteArray).toList) = false := by simp only [bne, q2]; rfl
  clear q0
  have HYT := aS (show txt (looks (l.drop a)) = kModule from by rw [HTK.out]; exact ht)
  have HLT := aS (show a < l.length from by rcases Nat.lt_or_ge a l.length with h | h; exact h; exfalso; have h1 := HYT.out; rw [List.drop_eq_nil_of_le h] at h1; exact absurd h1 (by decide))
  clear ht
  go_upto_region 3 with (go_at_call 33; refine (look_at bp s A c l n _ a tk HTK.out _ HS1.out.ps).mono ?_; rintro e w2 ⟨rfl, hb⟩; have HB2 := aS hb; clear hb)
  clear q1 q2 q3 q4 p0 hfld
  have HS2 := aS (HS1.out.below HB2.out)
  have HP2 := aS (HP1.out.mono_ HB2.out)
  have HM2 := aS (HM1.out.below HB2.out)
  have HR2 := aS (Kd.R_below HR1.out HB2.out)
  have p0 := cH HM2.out.p 0
  have y3 := blk_cell HS2.out.blk 3
  by_cases h16 : 16 ≤ n
  ·have HRES := aS (show res = .bad (failE l 2 a) (l.drop a) fs from by have qq := HQ.out; unfold moduleP at qq; rw [if_neg (fun q => q HYT.out), if_pos h16] at qq; rw [show failE l 2 a = 2 from by unfold failE; rw [if_pos HLT.out]]; exact (Option.some.inj qq).symm)
   have HBG := aS (show begunM n (l.drop a) = n from by unfold begunM; rw [if_pos (.inr h16)])
   have d1 : decide ((16 : Int) ≤ (n : Int)) = true := decide_eq_true (by omega)
   clear h16
   go_upto_region 4 with (fail)
   clear y3 p0 d1
   have hdd : Below w2.heap.size w2 w2.drew := below_drew (bR _ _)
   refine start_ (n := 6) (S := fun w' => w'.cell? ⟨pb, 0, none⟩ = some (.pointer (some ⟨bp, 0, none⟩)) ∧ w'.cell? ⟨bp, 2, none⟩ = some (.int .i64 (a : Int))) (ds := []) #[false, false, false, false, false, false] (by kernel_rfl) rfl rfl ⟨cH HM2.out.p 0, cH HS2.out.blk 2⟩ (fun hHeld => ?_)
   refine take_ (i := 0) (N := some 19) (v := ?_) (a' := ?_) #[true, false, false, false, false, false] rfl rfl (by kernel_rfl) (fun _ _ _ h => h) (Or.inl ⟨by rfl, ?_⟩) hHeld ?_ ?_
   rotate_left
   ·rintro w' ⟨s0, s1⟩
    go_simp
    try with_reducible rfl
   rotate_left
   ·simp only [putAll, Act.put, sI, s0', s1']
    rfl
   refine take_ (i := 1) (N := some 20) (v := ?_) (a' := ?_) #[true, true, false, false, false, false] rfl rfl (by kernel_rfl) (fun _ _ _ h => h) (Or.inl ⟨by rfl, ?_⟩) hHeld ?_ ?_
   rotate_left
   ·rintro w' ⟨s0, s1⟩
    go_simp
    try with_reducible rfl
   rotate_left
   ·simp only [putAll, Act.put, sI, s0', s1']
    rfl
   refine pure_ (i := 2) (N := some 21) (v := ?_) (a' := ?_) #[true, true, true, false, false, false] rfl rfl (by kernel_rfl) (fun _ _ _ h => h) (Or.inl ⟨by rfl, ?_⟩) ?_ ?_
   rotate_left
   ·intro w'
    go_simp
    try with_reducible rfl
   rotate_left
   ·simp only [putAll, Act.put, sI, s0', s1']
    rfl
   refine pure_ (i := 3) (N := some 22) (v := ?_) (a' := ?_) #[true, true, true, true, false, false] rfl rfl (by kernel_rfl) (fun _ _ _ h => h) (Or.inl ⟨by rfl, ?_⟩) ?_ ?_
   rotate_left
   ·intro w'
    go_simp
    try with_reducible rfl
   rotate_left
   ·simp only [putAll, Act.put, sI, s0', s1']
    rfl
   refine take_ (i := 4) (N := some 23) (v := ?_) (a' := ?_) #[true, true, true, true, true, false] rfl rfl (by kernel_rfl) (fun _ _ _ h => h) (Or.inl ⟨by rfl, ?_⟩) hHeld ?_ ?_
   rotate_left
   ·rintro w' ⟨s0, s1⟩
    go_simp
    try with_reducible rfl
   rotate_left
   ·simp only [putAll, Act.put, sI, s0', s1']
    rfl
   refine one_ (i := 5) (N := some 24) #[true, true, true, true, true, true] rfl rfl (by kernel_rfl) (by decide) (fun K hK => ?_)
   refine step_goes Tryd.func34 (by kernel_rfl) rfl #[.pointer (some ⟨bp, 0, none⟩), .int .i64 2, .int .i64 (a : Int)] (by rfl) rfl rfl (by (try simp only [List.map_toArray, List.map_cons, List.map_nil]); rfl) ?_
   refine (fail_calls bp s A c l n _ a _ (HS2.out.ps.below hdd) 2 a HS2.out.room).mono ?_
   rintro e w6 ⟨rfl, hw6⟩
   rw [hw6]
   exact And.intro rfl (by rw [HBG.out]; exact modT_bad (HP2.out.mono_ hdd) ((HB1.out.then_ (mv_below (X := fun _ => False) HB2.out) (fun _ q => q.elim)).then_ (mv_below (X := fun _ => False) hdd) (fun _ q => q.elim)) rfl HS2.out.room HRES.out)
  ·have HN16 := aS h16
   have HBG := aS (show ((begunM n (l.drop a) : Nat) : Int) = (n : Int) + 1 from by unfold begunM; rw [if_neg (fun q => q.elim (fun q => q HYT.out) h16)]; omega)
   have d1 : decide ((16 : Int) ≤ (n : Int)) = false := decide_eq_false (by omega)
   have hsn : (n : Int) + 1 ≤ 17 := by have := HN.out; omega
   clear h16
   obtain ⟨y, hy⟩ : ∃ y, frontP (l.drop (a + 1)) = some y := by
    cases hq : frontP (l.drop (a + 1)) with
    | none => exact absurd hq (tot_front _)
    | some y => exact ⟨y, rfl⟩
   have HY := aS hy
   clear hy
   have g3 := blk_frozen HS2.out.blk 3
   go_upto_region 6 with (fail)
   have hm3 : Mv (fun k => k = bp) w2 (w2.setCell ⟨bp, 3, none⟩ (.int .i64 ((n : Int) + 1))) := (Mv.refl (fun k => k = bp) w2).set ⟨bp, 3, none⟩ (.inl rfl) _
   have HS3 := aS (HS2.out.move (begun2 := (n : Int) + 1) (fv2 := .slice B (fs.map (fltW s)).length q) (b := a) hm3 (fun k hk => by rw [hk]; exact HS2.out.low) HS2.out.room (show (w2.setCell ⟨bp, 3, none⟩ (.int .i64 ((n : Int) + 1))).heap[bp]? = _ from set_new HS2.out.blk (by kernel_rfl)))
   have HR3 := aS (show FltR F0 (w2.setCell ⟨bp, 3, none⟩ (.int .i64 ((n : Int) + 1))) (.slice B (fs.map (fltW s)).length q) (fs.map (fltW s)) from Mv.row HR2.out hm3 (fun k hk q => (HFAR.out k hk).1 q))
   have hno3 : ∀ k, Lo (pb + 2) k → k ≠ bp := fun k hk => by have h1 : pb + 2 ≤ k := hk; have := HNE.out; omega
   have HM3 := aS (show ModAt bp mb pb (pb + 2) ⟨#[]⟩ [] [] (w2.setCell ⟨bp, 3, none⟩ (.int .i64 ((n : Int) + 1))) from by obtain ⟨hp, B1, q1, B2, q2, hm, h1, h2⟩ := HM2.out; exact ⟨hm3.obj hp HNE.out.2.1, B1, q1, B2, q2, hm3.obj hm HNE.out.1, Mv.row h1 hm3 hno3, Mv.row h2 hm3 hno3⟩)
   have HMV3 := aS (show Mv (fun k => k = bp ∨ F0 k) w (w2.setCell ⟨bp, 3, none⟩ (.int .i64 ((n : Int) + 1))) from (HB1.out.then_ (mv_below (X := fun _ => False) HB2.out) (fun _ q => q.elim)).then_ hm3 (fun i hi => .inl (.inl hi)))
   have HZ3 := aS (show pb + 2 ≤ (w2.setCell ⟨bp, 3, none⟩ (.int .i64 ((n : Int) + 1))).heap.size from by rw [size_set]; have h1 := HB2.out.size; have h2 := HNE.out; omega)
   clear hm3 hno3 y3 g3 p0 d1 HS2 HR2 HM2 HP2 HS1 HR1 HM1 HP1 HB1 HB2 HZ1 hsn
   generalize w2.setCell ⟨bp, 3, none⟩ (.int .i64 ((n : Int) + 1)) = w3 at *
   have p0 := cH HM3.out.p 0
   have y4 := blk_cell HS3.out.blk 2
   have f4 := blk_frozen HS3.out.blk 2
   have hlt := HLT.out
   have hsm := HS3.out.small
   go_upto_region 7 with (fail)
   have hat5 : At bp (a + 1) no w3 (w3.setCell ⟨bp, 2, none⟩ (.int .i64 ((a : Int) + 1))) := at_set (bR _ _)
   have HS5 := aS (HS3.out.next hat5 hlt)
   have HM5 := aS (HM3.out.step hat5 ⟨HNE.out.1, HNE.out.2.1, HNE.out.2.2.2.2.1⟩)
   have HP5 := aS (show Par G bp s A c l ((n : Int) + 1) F0 fs (a + 1) (w3.setCell ⟨bp, 2, none⟩ (.int .i64 ((a : Int) + 1))) from ⟨⟨B, q, HS5.out, R_at HR3.out hat5 (fun k hk => ⟨(HFAR.out k hk).1, id⟩)⟩, fun k hk => by have h1 := HFAR.out k hk; have h2 := HZ3.out; have h3 := hat5.size; have h4 := HNE.out; exact ⟨h1.1, h1.2.1, by omega⟩⟩)
   have HMV5 := aS (HMV3.out.then_ hat5.mv (fun i hi => .inl (.inl (hi.elim id False.elim))))
   have HZ5 := aS (Nat.le_trans HZ3.out hat5.size)
   clear hat5 y4 f4 hlt hsm HS3 HM3 HR3 HMV3 HZ3 p0
   generalize w3.setCell ⟨bp, 2, none⟩ (.int .i64 ((a : Int) + 1)) = w5 at *
   have HA5 := aS (HS5.out.same (X := InX mb (pb + 2)))
   have p0 := cH HM5.out.p 0
   obtain ⟨_, D1, t1, D2, t2, hmm, hr1, hr2⟩ := HM5.out
   have HF5 := aS (show (andThen (some (nameP (l.drop (a + 1)))) fun nm r1 => andThen (paramsP r1) fun ps r2 => andThen (some (needP [40] r2)) fun _ r3 => andThen (portsP r3) fun qs r4 => andThen (some (needP [123] r4)) fun _ r5 => some (.ok (nm, ps, qs) r5)) = some y from HY.out)
   go_upto_region 8 with (go_at_call 35; refine calls_tells (name_tells HS5.out) ?_ (fun er t b a2 w' hq ht hb ha hat => And.intro rfl (by rw [HBG.out]; exact modT_bad (HP5.out.at_ (HA5.out.new hat (fun i hi => hi.elim)) HXF.out ha) (HMV5.out.then_ (HA5.out.new hat (fun i hi => hi.elim)).mv (fun i hi => hi.elim (fun q => .inl (.inl q)) (fun q => .inr (by have h2 := HNE.out; rcases q with q | q; omega; omega)))) ht hb (front_bad HQ.out HYT.out HN16.out HY.out (and_bad HF5.out rfl hq)))); rintro nm r b6 vv w6 hq rfl hb rfl hat; have qq := and_ok HF5.out rfl hq; have HF6 := aS qq; clear qq; have HA6 := aS (HA5.out.then_ hat); have HS6 := aS (HS5.out.next hat hb); have HM6 := aS (HM5.out.step hat ⟨HNE.out.1, HNE.out.2.1, HNE.out.2.2.2.2.1⟩); have HZ6 := aS (Nat.le_trans HZ5.out hat.size); obtain ⟨hpp6, D1, t1, D2, t2, hmm6, hr16, hr26⟩ := HM6.out; have x0 := cH hmm6 0; have x0f := blk_frozen hmm6 0; have HPP6 := aS hpp6; have HMM6 := aS hmm6; have HR16 := aS hr16; have HR26 := aS hr26; clear hpp6 hmm6 hr16 hr26 hq hb hat)
   have hlo7 : ∀ k, Lo (pb + 2) k → k ≠ mb := fun k hk => by have h1 : pb + 2 ≤ k := hk; have := HNE.out; omega
   have HM7 := aS (show ModAt bp mb pb (pb + 2) nm [] [] (w6.setCell ⟨mb, 0, none⟩ (.string nm)) from ⟨(Below.heap_setCell _ ⟨mb, 0, none⟩ _ _ (fun q => HNE.out.2.2.1 q.symm)).trans HPP6.out, D1, t1, D2, t2, set_new HMM6.out (by kernel_rfl), Kd.R_far (p := ⟨mb, 0, none⟩) HR16.out hlo7 _, Kd.R_far (p := ⟨mb, 0, none⟩) HR26.out hlo7 _⟩)
   have HA7 := aS (HA6.out.own (p := ⟨mb, 0, none⟩) (.inr (.inl rfl)) HNE.out.1 (.string nm))
   have HS7 := aS (HS6.out.step ((HS6.out.same (X := fun k => k = mb)).own (p := ⟨mb, 0, none⟩) (.inr rfl) HNE.out.1 (.string nm)) (fun k hk => by have h1 : k = mb := hk; rw [h1]; exact HNE.out.2.2.2.2.2.2.2.1) HS6.out.room)
   have HZ7 := aS (show pb + 2 ≤ (w6.setCell ⟨mb, 0, none⟩ (.string nm)).heap.size from by rw [size_set]; exact HZ6.out)
   clear hlo7 x0 x0f hmm hr1 hr2 p0 HA6 HS6 HM6 HPP6 HMM6 HR16 HR26 HZ6 HF5 HM5
   generalize w6.setCell ⟨mb, 0, none⟩ (.string nm) = w7 at *
   have p0 := cH HM7.out.p 0
   go_upto_if 43 with (go_at_call 36; refine calls_take (take_tells ⟨#[60]⟩ HS7.out) ?_ ?_; rotate_left; rintro w8 hq hat; have HTN := aS hq; have hb := HS7.out.room; have HA8 := aS (HA7.out.then_ hat); have HS8 := aS (HS7.out.next hat hb); have HM8 := aS (HM7.out.step hat ⟨HNE.out.1, HNE.out.2.1, HNE.out.2.2.2.2.1⟩); have HZ8 := aS (Nat.le_trans HZ7.out hat.size);  clear hq hb hat; rotate_left; rintro w8 hq hb hat; have HTY := aS hq; have HA8 := aS (HA7.out.then_ hat); have HS8 := aS (HS7.out.next hat hb); have HM8 := aS (HM7.out.step hat ⟨HNE.out.1, HNE.out.2.1, HNE.out.2.2.2.2.1⟩); have HZ8 := aS (Nat.le_trans HZ7.out hat.size);  clear hq hb hat)
   ·have HF8 := HF6
    obtain ⟨y8, hy8⟩ := and_get HF8.out
    have HY8 := aS (show listP [62] (fun r => some (nameP r)) 4 [] (l.drop (b6 + 1)) = some y8 from by have qq := hy8; unfold paramsP at qq; rw [HTY.out] at qq; exact qq)
    have HYP := aS hy8
    clear hy8
    clear p0
    have p0 := cH HM8.out.p 0
    have hmf : ∀ (fn : Fn) (first cap : Array Value) (w : World), (Instr.makeFunc fn first cap).run Tryd.prog w = .ok (.func fn first cap) w := fun _ _ _ _ => rfl
    go_upto_region 10 with (go_at_call 37; refine calls_tells (list_tells G bp s A c l ((n : Int) + 1) _ 38 #[.pointer (some ⟨mb, 0, none⟩), .pointer (some ⟨pb, 0, none⟩)] ⟨#[62]⟩ (fun r => some (nameP r)) (fun ps w' => ModAt bp mb pb (pb + 2) nm ps [] w') (InX mb (pb + 2)) (fun k hk => (HXF.out k hk).1) _ w8 4 [] (fun w => enters_ Tryd.func38 (by kernel_rfl) rfl _ w) (fun acc' b9 w9 res1 hlen hat hst hi hone => param_calls G bp s A c l ((n : Int) + 1) _ b9 w9 hst mb pb (pb + 2) ⟨HNE.out.1, HNE.out.2.1, HNE.out.2.2.1, HNE.out.2.2.2.1, HNE.out.2.2.2.2.1, HNE.out.2.2.2.2.2.1, Nat.le_trans HZ8.out hat.size, HNE.out.2.2.2.2.2.2.2.1⟩ nm acc' [] (by have h1 : acc'.length ≤ 0 + 4 := hlen; omega) hi res1 (Option.some.inj hone)) (fun ac b9 w9 w10 hi hat => hi.step hat ⟨HNE.out.1, HNE.out.2.1, HNE.out.2.2.2.2.1⟩) (by omega) HS8.out HM8.out y8 HY8.out) ?_ (fun er t b a2 w' hq ht hb ha hat => And.intro rfl (by rw [HBG.out]; exact modT_bad (HP5.out.at_ (HA8.out.new hat (fun i hi => .inl hi)) HXF.out ha) (HMV5.out.then_ (HA8.out.new hat (fun i hi => .inl hi)).mv (fun i hi => hi.elim (fun q => .inl (.inl q)) (fun q => .inr (by have h2 := HNE.out; rcases q with q | q; omega; omega)))) ht hb (front_bad HQ.out HYT.out HN16.out HY.out (and_bad HF8.out HYP.out hq)))); rintro ps r b9 vv w9 hq rfl hb ⟨rfl, hi⟩ hat; have qq := and_ok HF8.out HYP.out hq; have HF9 := aS qq; clear qq; have HA9 := aS (HA8.out.new hat (fun i hi => .inl hi)); have HS9 := aS (HS8.out.step hat (fun k hk => (HXF.out k hk).1) hb); have HZ9 := aS (Nat.le_trans HZ8.out hat.size);  have HM9 := aS hi; clear hq hb hi hat)
    clear hmf
    clear p0
    have p0 := cH HM9.out.p 0
    go_upto_region 11 with (go_at_call 39; refine calls_tells (need_tells ⟨#[40]⟩ HS9.out) ?_ (fun er t b a2 w' hq ht hb ha hat => And.intro rfl (by rw [HBG.out]; exact modT_bad (HP5.out.at_ (HA9.out.new hat (fun i hi => hi.elim)) HXF.out ha) (HMV5.out.then_ (HA9.out.new hat (fun i hi => hi.elim)).mv (fun i hi => hi.elim (fun q => .inl (.inl q)) (fun q => .inr (by have h2 := HNE.out; rcases q with q | q; omega; omega)))) ht hb (front_bad HQ.out HYT.out HN16.out HY.out (and_bad HF9.out rfl hq)))); rintro u r b10 vv w10 hq rfl hb rfl hat; have qq := and_ok HF9.out rfl hq; have HF10 := aS qq; clear qq; have HA10 := aS (HA9.out.then_ hat); have HS10 := aS (HS9.out.next hat hb); have HM10 := aS (HM9.out.step hat ⟨HNE.out.1, HNE.out.2.1, HNE.out.2.2.2.2.1⟩); have HZ10 := aS (Nat.le_trans HZ9.out hat.size); clear hq hb hat)
    clear p0 HA9 HS9 HM9 HZ9 HF9
    have p0 := cH HM10.out.p 0
    go_upto_if 51 with (go_at_call 36; refine calls_take (take_tells ⟨#[41]⟩ HS10.out) ?_ ?_; rotate_left; rintro w11 hq hat; have HTN2 := aS hq; have hb := HS10.out.room; have HA11 := aS (HA10.out.then_ hat); have HS11 := aS (HS10.out.next hat hb); have HM11 := aS (HM10.out.step hat ⟨HNE.out.1, HNE.out.2.1, HNE.out.2.2.2.2.1⟩); have HZ11 := aS (Nat.le_trans HZ10.out hat.size);  clear hq hb hat; rotate_left; rintro w11 hq hb hat; have HTY2 := aS hq; have HA11 := aS (HA10.out.then_ hat); have HS11 := aS (HS10.out.next hat hb); have HM11 := aS (HM10.out.step hat ⟨HNE.out.1, HNE.out.2.1, HNE.out.2.2.2.2.1⟩); have HZ11 := aS (Nat.le_trans HZ10.out hat.size);  clear hq hb hat)
    ·have HF12 := aS (show (andThen (some (needP [123] (l.drop (b10 + 1)))) fun _ r5 => some (.ok (nm, ps, ([] : List Prt)) r5)) = some y from by have qq := HF10.out; unfold portsP at qq; rw [HTY2.out] at qq; exact qq)
     have HA12 := HA11
     have HS12 := HS11
     have HM12 := HM11
     have HZ12 := HZ11
     go_upto_region 13 with (fail)
     clear p0
     have p0 := cH HM12.out.p 0
     go_upto_region 14 with (go_at_call 39; refine calls_tells (need_tells ⟨#[123]⟩ HS12.out) ?_ (fun er t b a2 w' hq ht hb ha hat => And.intro rfl (by rw [HBG.out]; exact modT_bad (HP5.out.at_ (HA12.out.new hat (fun i hi => hi.elim)) HXF.out ha) (HMV5.out.then_ (HA12.out.new hat (fun i hi => hi.elim)).mv (fun i hi => hi.elim (fun q => .inl (.inl q)) (fun q => .inr (by have h2 := HNE.out; rcases q with q | q; omega; omega)))) ht hb (front_bad HQ.out HYT.out HN16.out HY.out (and_bad HF12.out rfl hq)))); rintro u r b13 vv w13 hq rfl hb rfl hat; have qq := and_ok HF12.out rfl hq; have HF13 := aS qq; clear qq; have HA13 := aS (HA12.out.then_ hat); have HS13 := aS (HS12.out.next hat hb); have HM13 := aS (HM12.out.step hat ⟨HNE.out.1, HNE.out.2.1, HNE.out.2.2.2.2.1⟩); have HZ13 := aS (Nat.le_trans HZ12.out hat.size); clear hq hb hat)
     clear p0
     have p0 := cH HM13.out.p 0
     obtain ⟨z, hz, hres⟩ := front_items HQ.out HYT.out HN16.out (HY.out.trans HF13.out.symm)
     have HZI := aS hz
     have HRES := aS hres
     clear hz hres
     have HP13 := aS (HP5.out.at_ HA13.out HXF.out HS13.out.room)
     have HMV13 := aS (HMV5.out.then_ HA13.out.mv (fun i hi => hi.elim (fun q => .inl (.inl q)) (fun q => .inr (by have h2 := HNE.out; rcases q with q | q; omega; omega))))
     obtain ⟨hpp, C1, u1, C2, u2, hmm13, hr113, hr213⟩ := HM13.out
     have HF0M := aS (show ¬ (mb = bp ∨ F0 mb) from fun q => q.elim HNE.out.1 (fun q => by have h1 := HFAR.out mb q; have h2 := HNE.out; omega))
     have HLOB := aS (show ∀ k, Lo (pb + 2) k → ¬ (k = bp ∨ F0 k) from fun k hk q => by have h1 : pb + 2 ≤ k := hk; have h2 := HNE.out; rcases q with q | q; omega; have h3 := HFAR.out k q; omega)
     have HMM13 := aS hmm13
     have HR113 := aS (Kd.R_mono (Kd.R_bound hr113) (fun k hk => (⟨hk.1, hk.2.2.1⟩ : pb + 2 ≤ k ∧ k < w13.heap.size)))
     have HR213 := aS (Kd.R_mono (Kd.R_bound hr213) (fun k hk => (⟨hk.1, hk.2.2.1⟩ : pb + 2 ≤ k ∧ k < w13.heap.size)))
     clear hpp hmm13 hr113 hr213
     cases z with
     | bad er t fs2 =>
      go_upto_region 15 with (go_at_call 42; refine (items_tells G bp s A c l ((n : Int) + 1) F0 k b13 fs w13 HP13.out HOV.out _ HZI.out).mono ?_; rintro e w14 ⟨hm14, F, hF, b14, a14, rfl, hb14, rfl, hp14⟩)
      exact And.intro rfl (by rw [HBG.out, HRES.out]; exact ⟨HMV13.out.then_ hm14 (fun i hi => .inl hi), F, fun k hk => (hF k hk).imp id (fun q => by have h1 := HZ13.out; have h2 := HNE.out; omega), b14, a14, rfl, hb14, rfl, hp14⟩)
     | stop fs2 t =>
      go_upto_region 15 with (go_at_call 42; refine (items_tells G bp s A c l ((n : Int) + 1) F0 k b13 fs w13 HP13.out HOV.out _ HZI.out).mono ?_; rintro e w14 ⟨hm14, F, hF, b14, hb14, rfl, hp14⟩; have hmm14 := hm14.obj HMM13.out HF0M.out; have HM14 := aS hm14; have HF14 := aS hF; have HP14 := aS hp14; have HB14 := aS hb14; have HMM14 := aS hmm14; have m3 := cH hmm14 3; have g3 := blk_frozen hmm14 3; clear hm14 hF hb14 hp14 hmm14)
      have hmm15 : (w14.setCell ⟨mb, 3, none⟩ (NS)).heap[mb]? = some (.cells #[.string nm, .slice C1 ps.length u1, .slice C2 0 u2, NS] 47 (0, 0)) := set_new HMM14.out (by kernel_rfl)
      have HM15 := aS (show Mv (fun k => k = mb) w14 (w14.setCell ⟨mb, 3, none⟩ (NS)) from (Mv.refl (fun k => k = mb) w14).set ⟨mb, 3, none⟩ (.inl rfl) _)
      have HMM15 := aS hmm15
      clear hmm15 m3 g3 p0
      generalize w14.setCell ⟨mb, 3, none⟩ (NS) = w15 at *
      have m0 := cH HMM15.out 0
      have m1 := cH HMM15.out 1
      have m2 := cH HMM15.out 2
      have m3 := cH HMM15.out 3
      have g0 := blk_frozen HMM15.out 0
      have g1 := blk_frozen HMM15.out 1
      have g2 := blk_frozen HMM15.out 2
      have g3 := blk_frozen HMM15.out 3
      go_wp2
      clear m0 m1 m2 m3 g0 g1 g2 g3
      have hmm16 : ((((w15.setCell ⟨mb, 0, none⟩ (.string nm)).setCell ⟨mb, 1, none⟩ (.slice C1 ps.length u1)).setCell ⟨mb, 2, none⟩ (.slice C2 0 u2)).setCell ⟨mb, 3, none⟩ (NS)).heap[mb]? = some (.cells #[.string nm, .slice C1 ps.length u1, .slice C2 0 u2, NS] 47 (0, 0)) := fill4 HMM15.out
      have hm16 : Mv (fun k => k = mb) w14 ((((w15.setCell ⟨mb, 0, none⟩ (.string nm)).setCell ⟨mb, 1, none⟩ (.slice C1 ps.length u1)).setCell ⟨mb, 2, none⟩ (.slice C2 0 u2)).setCell ⟨mb, 3, none⟩ (NS)) := (((HM15.out.set ⟨mb, 0, none⟩ (.inl rfl) _).set ⟨mb, 1, none⟩ (.inl rfl) _).set ⟨mb, 2, none⟩ (.inl rfl) _).set ⟨mb, 3, none⟩ (.inl rfl) _
      generalize (((w15.setCell ⟨mb, 0, none⟩ (.string nm)).setCell ⟨mb, 1, none⟩ (.slice C1 ps.length u1)).setCell ⟨mb, 2, none⟩ (.slice C2 0 u2)).setCell ⟨mb, 3, none⟩ (NS) = w16 at *
      have m0 := cH hmm16 0
      have m1 := cH hmm16 1
      have m2 := cH hmm16 2
      have m3 := cH hmm16 3
      have hfm : ∀ k, F k → k ≠ mb := fun k hk q => by have h4 := HNE.out; have h5 := HZ13.out; rcases HF14.out k hk with h6 | h6; exact HF0M.out (.inr (q ▸ h6)); omega
      have hmv16 : Mv (fun k => k = bp ∨ F0 k) w w16 := (HMV13.out.then_ HM14.out (fun i hi => .inl hi)).then_ hm16 (fun i hi => .inr (by have h2 := HNE.out; omega))
      have hp16 := HP14.out.turn hm16 HNE.out.1 HNE.out.2.2.2.2.2.2.2.1 hfm
      refine bodyPost_ret (v := .tuple #[.agg #[.string nm, .slice C1 ps.length u1, .slice C2 0 u2, NS], .bool false]) ?_ rfl (by rw [HBG.out, HRES.out]; exact ⟨hmv16, F, fun k hk => (HF14.out k hk).imp id (fun q => by have h1 := HZ13.out; have h2 := HNE.out; omega), b14, nm, C1, _, u1, C2, _, u2, HB14.out, rfl, hp16⟩)
      clear hp16 hmv16 hfm hm16 hmm16
      simp [results, Tryd.results24, go_sem, m0, m1, m2, m3]
     | done xs r2 fs2 =>
      go_upto_region 15 with (go_at_call 42; refine (items_tells G bp s A c l ((n : Int) + 1) F0 k b13 fs w13 HP13.out HOV.out _ HZI.out).mono ?_; rintro e w14 ⟨hm14, F, hF, b14, v14, O, rfl, hb14, rfl, hp14, hi14, hO14, hl14⟩; obtain ⟨C3, u3, e3, _⟩ := Kd.R_reads hi14; subst e3; have hmm14 := hm14.obj HMM13.out HF0M.out; have HM14 := aS hm14; have HF14 := aS hF; have HP14 := aS hp14; have HB14 := aS hb14; have HI14 := aS hi14; have HO14 := aS hO14; have HMM14 := aS hmm14; have m3 := cH hmm14 3; have g3 := blk_frozen hmm14 3; clear hm14 hF hb14 hp14 hi14 hO14 hl14 hmm14)
      have hmm15 : (w14.setCell ⟨mb, 3, none⟩ (.slice C3 xs.length u3)).heap[mb]? = some (.cells #[.string nm, .slice C1 ps.length u1, .slice C2 0 u2, .slice C3 xs.length u3] 47 (0, 0)) := set_new HMM14.out (by kernel_rfl)
      have HM15 := aS (show Mv (fun k => k = mb) w14 (w14.setCell ⟨mb, 3, none⟩ (.slice C3 xs.length u3)) from (Mv.refl (fun k => k = mb) w14).set ⟨mb, 3, none⟩ (.inl rfl) _)
      have HMM15 := aS hmm15
      clear hmm15 m3 g3 p0
      generalize w14.setCell ⟨mb, 3, none⟩ (.slice C3 xs.length u3) = w15 at *
      have m0 := cH HMM15.out 0
      have m1 := cH HMM15.out 1
      have m2 := cH HMM15.out 2
      have m3 := cH HMM15.out 3
      have g0 := blk_frozen HMM15.out 0
      have g1 := blk_frozen HMM15.out 1
      have g2 := blk_frozen HMM15.out 2
      have g3 := blk_frozen HMM15.out 3
      go_wp2
      clear m0 m1 m2 m3 g0 g1 g2 g3
      have hmm16 : ((((w15.setCell ⟨mb, 0, none⟩ (.string nm)).setCell ⟨mb, 1, none⟩ (.slice C1 ps.length u1)).setCell ⟨mb, 2, none⟩ (.slice C2 0 u2)).setCell ⟨mb, 3, none⟩ (.slice C3 xs.length u3)).heap[mb]? = some (.cells #[.string nm, .slice C1 ps.length u1, .slice C2 0 u2, .slice C3 xs.length u3] 47 (0, 0)) := fill4 HMM15.out
      have hm16 : Mv (fun k => k = mb) w14 ((((w15.setCell ⟨mb, 0, none⟩ (.string nm)).setCell ⟨mb, 1, none⟩ (.slice C1 ps.length u1)).setCell ⟨mb, 2, none⟩ (.slice C2 0 u2)).setCell ⟨mb, 3, none⟩ (.slice C3 xs.length u3)) := (((HM15.out.set ⟨mb, 0, none⟩ (.inl rfl) _).set ⟨mb, 1, none⟩ (.inl rfl) _).set ⟨mb, 2, none⟩ (.inl rfl) _).set ⟨mb, 3, none⟩ (.inl rfl) _
      generalize (((w15.setCell ⟨mb, 0, none⟩ (.string nm)).setCell ⟨mb, 1, none⟩ (.slice C1 ps.length u1)).setCell ⟨mb, 2, none⟩ (.slice C2 0 u2)).setCell ⟨mb, 3, none⟩ (.slice C3 xs.length u3) = w16 at *
      have m0 := cH hmm16 0
      have m1 := cH hmm16 1
      have m2 := cH hmm16 2
      have m3 := cH hmm16 3
      have hfm : ∀ k, F k → k ≠ mb := fun k hk q => by have h4 := HNE.out; have h5 := HZ13.out; rcases HF14.out k hk with h6 | h6; exact HF0M.out (.inr (q ▸ h6)); omega
      have hmv16 : Mv (fun k => k = bp ∨ F0 k) w w16 := (HMV13.out.then_ HM14.out (fun i hi => .inl hi)).then_ hm16 (fun i hi => .inr (by have h2 := HNE.out; omega))
      have hp16 := HP14.out.turn hm16 HNE.out.1 HNE.out.2.2.2.2.2.2.2.1 hfm
      have hrows : ∀ k, ((pb + 2 ≤ k ∧ k < w13.heap.size) ∨ O k) → w.heap.size ≤ k ∧ k < w16.heap.size ∧ ¬ F k := fun k hk => by
       have h1 := HNE.out; have h2 := HM14.out.size; have h3 := hm16.size; have h4 := HZ13.out
       rcases hk with hk | hk
       ·exact ⟨by omega, by omega, fun q => by rcases HF14.out k q with h5 | h5; have h6 := HFAR.out k h5; omega; omega⟩
       ·have h5 := HO14.out k hk; exact ⟨by omega, by omega, h5.2.2⟩
      have hno1 : ∀ k, (pb + 2 ≤ k ∧ k < w13.heap.size) → ¬ (k = mb) := fun k hk q => by have h1 := HNE.out; omega
      have hno2 : ∀ k, O k → ¬ (k = mb) := fun k hk q => by have h1 := HNE.out; have h2 := (HO14.out k hk).1; have h3 := HZ13.out; omega
      have hq1 : StrR (fun k => (pb + 2 ≤ k ∧ k < w13.heap.size) ∨ O k) w16 (.slice C1 (ps : List ByteArray).length u1) ps := Kd.R_mono (Mv.row (Mv.row HR113.out HM14.out (fun k hk => HLOB.out k hk.1)) hm16 hno1) (fun k hk => .inl hk)
      have hq2 : PrtR (fun k => (pb + 2 ≤ k ∧ k < w13.heap.size) ∨ O k) w16 (.slice C2 ([] : List Prt).length u2) [] := Kd.R_mono (Mv.row (Mv.row HR213.out HM14.out (fun k hk => HLOB.out k hk.1)) hm16 hno1) (fun k hk => .inl hk)
      have hq3 : ItmR (fun k => (pb + 2 ≤ k ∧ k < w13.heap.size) ∨ O k) w16 (.slice C3 xs.length u3) xs := Kd.R_mono (Mv.row HI14.out hm16 hno2) (fun k hk => .inr hk)
      refine bodyPost_ret (v := .tuple #[.agg #[.string nm, .slice C1 ps.length u1, .slice C2 0 u2, .slice C3 xs.length u3], .bool true]) ?_ rfl (by rw [HBG.out, HRES.out]; exact ⟨hmv16, F, fun k hk => (HF14.out k hk).imp id (fun q => by have h1 := HZ13.out; have h2 := HNE.out; omega), b14, C1, u1, C2, u2, C3, u3, _, rfl, HB14.out, rfl, hp16, hq1, hq2, hq3, hrows⟩)
      clear hp16 hmv16 hfm hm16 hmm16
      simp [results, Tryd.results24, go_sem, m0, m1, m2, m3]
    ·obtain ⟨y11, hy11⟩ := and_get HF10.out
     have HY11 := aS (show listP [41] portP 16 [] (l.drop b10) = some y11 from by have qq := hy11; unfold portsP at qq; rw [HTN2.out] at qq; exact qq)
     have HYP2 := aS hy11
     clear hy11 p0
     have p0 := cH HM11.out.p 0
     have hmf : ∀ (fn : Fn) (first cap : Array Value) (w : World), (Instr.makeFunc fn first cap).run Tryd.prog w = .ok (.func fn first cap) w := fun _ _ _ _ => rfl
     go_upto_region 13 with (go_at_call 37; refine calls_tells (list_tells G bp s A c l ((n : Int) + 1) _ 40 #[.pointer (some ⟨pb, 0, none⟩), .pointer (some ⟨mb, 0, none⟩)] ⟨#[41]⟩ portP (fun qs w' => ModAt bp mb pb (pb + 2) nm ps qs w') (InX mb (pb + 2)) (fun k hk => (HXF.out k hk).1) _ w11 16 [] (fun w => enters_ Tryd.func40 (by kernel_rfl) rfl _ w) (fun acc' b9 w9 res1 hlen hat hst hi hone => port_calls G bp s A c l ((n : Int) + 1) _ b9 w9 hst mb pb (pb + 2) ⟨HNE.out.1, HNE.out.2.1, HNE.out.2.2.1, HNE.out.2.2.2.1, HNE.out.2.2.2.2.1, HNE.out.2.2.2.2.2.1, Nat.le_trans HZ11.out hat.size, HNE.out.2.2.2.2.2.2.2.1⟩ nm ps acc' (by have h1 : acc'.length ≤ 0 + 16 := hlen; omega) hi res1 hone) (fun ac b9 w9 w10 hi hat => hi.step hat ⟨HNE.out.1, HNE.out.2.1, HNE.out.2.2.2.2.1⟩) (by omega) HS11.out HM11.out y11 HY11.out) ?_ (fun er t b a2 w' hq ht hb ha hat => And.intro rfl (by rw [HBG.out]; exact modT_bad (HP5.out.at_ (HA11.out.new hat (fun i hi => .inl hi)) HXF.out ha) (HMV5.out.then_ (HA11.out.new hat (fun i hi => .inl hi)).mv (fun i hi => hi.elim (fun q => .inl (.inl q)) (fun q => .inr (by have h2 := HNE.out; rcases q with q | q; omega; omega)))) ht hb (front_bad HQ.out HYT.out HN16.out HY.out (and_bad HF10.out HYP2.out hq)))); rintro qs r b12 vv w12 hq rfl hb ⟨rfl, hi⟩ hat; have qq := and_ok HF10.out HYP2.out hq; have HF12 := aS qq; clear qq; have HA12 := aS (HA11.out.new hat (fun i hi => .inl hi)); have HS12 := aS (HS11.out.step hat (fun k hk => (HXF.out k hk).1) hb); have HZ12 := aS (Nat.le_trans HZ11.out hat.size);  have HM12 := aS hi; clear hq hb hi hat)
     clear hmf
     clear p0
     have p0 := cH HM12.out.p 0
     go_upto_region 14 with (go_at_call 39; refine calls_tells (need_tells ⟨#[123]⟩ HS12.out) ?_ (fun er t b a2 w' hq ht hb ha hat => And.intro rfl (by rw [HBG.out]; exact modT_bad (HP5.out.at_ (HA12.out.new hat (fun i hi => hi.elim)) HXF.out ha) (HMV5.out.then_ (HA12.out.new hat (fun i hi => hi.elim)).mv (fun i hi => hi.elim (fun q => .inl (.inl q)) (fun q => .inr (by have h2 := HNE.out; rcases q with q | q; omega; omega)))) ht hb (front_bad HQ.out HYT.out HN16.out HY.out (and_bad HF12.out rfl hq)))); rintro u r b13 vv w13 hq rfl hb rfl hat; have qq := and_ok HF12.out rfl hq; have HF13 := aS qq; clear qq; have HA13 := aS (HA12.out.then_ hat); have HS13 := aS (HS12.out.next hat hb); have HM13 := aS (HM12.out.step hat ⟨HNE.out.1, HNE.out.2.1, HNE.out.2.2.2.2.1⟩); have HZ13 := aS (Nat.le_trans HZ12.out hat.size); clear hq hb hat)
     clear p0
     have p0 := cH HM13.out.p 0
     obtain ⟨z, hz, hres⟩ := front_items HQ.out HYT.out HN16.out (HY.out.trans HF13.out.symm)
     have HZI := aS hz
     have HRES := aS hres
     clear hz hres
     have HP13 := aS (HP5.out.at_ HA13.out HXF.out HS13.out.room)
     have HMV13 := aS (HMV5.out.then_ HA13.out.mv (fun i hi => hi.elim (fun q => .inl (.inl q)) (fun q => .inr (by have h2 := HNE.out; rcases q with q | q; omega; omega))))
     obtain ⟨hpp, C1, u1, C2, u2, hmm13, hr113, hr213⟩ := HM13.out
     have HF0M := aS (show ¬ (mb = bp ∨ F0 mb) from fun q => q.elim HNE.out.1 (fun q => by have h1 := HFAR.out mb q; have h2 := HNE.out; omega))
     have HLOB := aS (show ∀ k, Lo (pb + 2) k → ¬ (k = bp ∨ F0 k) from fun k hk q => by have h1 : pb + 2 ≤ k := hk; have h2 := HNE.out; rcases q with q | q; omega; have h3 := HFAR.out k q; omega)
     have HMM13 := aS hmm13
     have HR113 := aS (Kd.R_mono (Kd.R_bound hr113) (fun k hk => (⟨hk.1, hk.2.2.1⟩ : pb + 2 ≤ k ∧ k < w13.heap.size)))
     have HR213 := aS (Kd.R_mono (Kd.R_bound hr213) (fun k hk => (⟨hk.1, hk.2.2.1⟩ : pb + 2 ≤ k ∧ k < w13.heap.size)))
     clear hpp hmm13 hr113 hr213
     cases z with
     | bad er t fs2 =>
      go_upto_region 15 with (go_at_call 42; refine (items_tells G bp s A c l ((n : Int) + 1) F0 k b13 fs w13 HP13.out HOV.out _ HZI.out).mono ?_; rintro e w14 ⟨hm14, F, hF, b14, a14, rfl, hb14, rfl, hp14⟩)
      exact And.intro rfl (by rw [HBG.out, HRES.out]; exact ⟨HMV13.out.then_ hm14 (fun i hi => .inl hi), F, fun k hk => (hF k hk).imp id (fun q => by have h1 := HZ13.out; have h2 := HNE.out; omega), b14, a14, rfl, hb14, rfl, hp14⟩)
     | stop fs2 t =>
      go_upto_region 15 with (go_at_call 42; refine (items_tells G bp s A c l ((n : Int) + 1) F0 k b13 fs w13 HP13.out HOV.out _ HZI.out).mono ?_; rintro e w14 ⟨hm14, F, hF, b14, hb14, rfl, hp14⟩; have hmm14 := hm14.obj HMM13.out HF0M.out; have HM14 := aS hm14; have HF14 := aS hF; have HP14 := aS hp14; have HB14 := aS hb14; have HMM14 := aS hmm14; have m3 := cH hmm14 3; have g3 := blk_frozen hmm14 3; clear hm14 hF hb14 hp14 hmm14)
      have hmm15 : (w14.setCell ⟨mb, 3, none⟩ (NS)).heap[mb]? = some (.cells #[.string nm, .slice C1 ps.length u1, .slice C2 qs.length u2, NS] 47 (0, 0)) := set_new HMM14.out (by kernel_rfl)
      have HM15 := aS (show Mv (fun k => k = mb) w14 (w14.setCell ⟨mb, 3, none⟩ (NS)) from (Mv.refl (fun k => k = mb) w14).set ⟨mb, 3, none⟩ (.inl rfl) _)
      have HMM15 := aS hmm15
      clear hmm15 m3 g3 p0
      generalize w14.setCell ⟨mb, 3, none⟩ (NS) = w15 at *
      have m0 := cH HMM15.out 0
      have m1 := cH HMM15.out 1
      have m2 := cH HMM15.out 2
      have m3 := cH HMM15.out 3
      have g0 := blk_frozen HMM15.out 0
      have g1 := blk_frozen HMM15.out 1
      have g2 := blk_frozen HMM15.out 2
      have g3 := blk_frozen HMM15.out 3
      go_wp2
      clear m0 m1 m2 m3 g0 g1 g2 g3
      have hmm16 : ((((w15.setCell ⟨mb, 0, none⟩ (.string nm)).setCell ⟨mb, 1, none⟩ (.slice C1 ps.length u1)).setCell ⟨mb, 2, none⟩ (.slice C2 qs.length u2)).setCell ⟨mb, 3, none⟩ (NS)).heap[mb]? = some (.cells #[.string nm, .slice C1 ps.length u1, .slice C2 qs.length u2, NS] 47 (0, 0)) := fill4 HMM15.out
      have hm16 : Mv (fun k => k = mb) w14 ((((w15.setCell ⟨mb, 0, none⟩ (.string nm)).setCell ⟨mb, 1, none⟩ (.slice C1 ps.length u1)).setCell ⟨mb, 2, none⟩ (.slice C2 qs.length u2)).setCell ⟨mb, 3, none⟩ (NS)) := (((HM15.out.set ⟨mb, 0, none⟩ (.inl rfl) _).set ⟨mb, 1, none⟩ (.inl rfl) _).set ⟨mb, 2, none⟩ (.inl rfl) _).set ⟨mb, 3, none⟩ (.inl rfl) _
      generalize (((w15.setCell ⟨mb, 0, none⟩ (.string nm)).setCell ⟨mb, 1, none⟩ (.slice C1 ps.length u1)).setCell ⟨mb, 2, none⟩ (.slice C2 qs.length u2)).setCell ⟨mb, 3, none⟩ (NS) = w16 at *
      have m0 := cH hmm16 0
      have m1 := cH hmm16 1
      have m2 := cH hmm16 2
      have m3 := cH hmm16 3
      have hfm : ∀ k, F k → k ≠ mb := fun k hk q => by have h4 := HNE.out; have h5 := HZ13.out; rcases HF14.out k hk with h6 | h6; exact HF0M.out (.inr (q ▸ h6)); omega
      have hmv16 : Mv (fun k => k = bp ∨ F0 k) w w16 := (HMV13.out.then_ HM14.out (fun i hi => .inl hi)).then_ hm16 (fun i hi => .inr (by have h2 := HNE.out; omega))
      have hp16 := HP14.out.turn hm16 HNE.out.1 HNE.out.2.2.2.2.2.2.2.1 hfm
      refine bodyPost_ret (v := .tuple #[.agg #[.string nm, .slice C1 ps.length u1, .slice C2 qs.length u2, NS], .bool false]) ?_ rfl (by rw [HBG.out, HRES.out]; exact ⟨hmv16, F, fun k hk => (HF14.out k hk).imp id (fun q => by have h1 := HZ13.out; have h2 := HNE.out; omega), b14, nm, C1, _, u1, C2, _, u2, HB14.out, rfl, hp16⟩)
      clear hp16 hmv16 hfm hm16 hmm16
      simp [results, Tryd.results24, go_sem, m0, m1, m2, m3]
     | done xs r2 fs2 =>
      go_upto_region 15 with (go_at_call 42; refine (items_tells G bp s A c l ((n : Int) + 1) F0 k b13 fs w13 HP13.out HOV.out _ HZI.out).mono ?_; rintro e w14 ⟨hm14, F, hF, b14, v14, O, rfl, hb14, rfl, hp14, hi14, hO14, hl14⟩; obtain ⟨C3, u3, e3, _⟩ := Kd.R_reads hi14; subst e3; have hmm14 := hm14.obj HMM13.out HF0M.out; have HM14 := aS hm14; have HF14 := aS hF; have HP14 := aS hp14; have HB14 := aS hb14; have HI14 := aS hi14; have HO14 := aS hO14; have HMM14 := aS hmm14; have m3 := cH hmm14 3; have g3 := blk_frozen hmm14 3; clear hm14 hF hb14 hp14 hi14 hO14 hl14 hmm14)
      have hmm15 : (w14.setCell ⟨mb, 3, none⟩ (.slice C3 xs.length u3)).heap[mb]? = some (.cells #[.string nm, .slice C1 ps.length u1, .slice C2 qs.length u2, .slice C3 xs.length u3] 47 (0, 0)) := set_new HMM14.out (by kernel_rfl)
      have HM15 := aS (show Mv (fun k => k = mb) w14 (w14.setCell ⟨mb, 3, none⟩ (.slice C3 xs.length u3)) from (Mv.refl (fun k => k = mb) w14).set ⟨mb, 3, none⟩ (.inl rfl) _)
      have HMM15 := aS hmm15
      clear hmm15 m3 g3 p0
      generalize w14.setCell ⟨mb, 3, none⟩ (.slice C3 xs.length u3) = w15 at *
      have m0 := cH HMM15.out 0
      have m1 := cH HMM15.out 1
      have m2 := cH HMM15.out 2
      have m3 := cH HMM15.out 3
      have g0 := blk_frozen HMM15.out 0
      have g1 := blk_frozen HMM15.out 1
      have g2 := blk_frozen HMM15.out 2
      have g3 := blk_frozen HMM15.out 3
      go_wp2
      clear m0 m1 m2 m3 g0 g1 g2 g3
      have hmm16 : ((((w15.setCell ⟨mb, 0, none⟩ (.string nm)).setCell ⟨mb, 1, none⟩ (.slice C1 ps.length u1)).setCell ⟨mb, 2, none⟩ (.slice C2 qs.length u2)).setCell ⟨mb, 3, none⟩ (.slice C3 xs.length u3)).heap[mb]? = some (.cells #[.string nm, .slice C1 ps.length u1, .slice C2 qs.length u2, .slice C3 xs.length u3] 47 (0, 0)) := fill4 HMM15.out
      have hm16 : Mv (fun k => k = mb) w14 ((((w15.setCell ⟨mb, 0, none⟩ (.string nm)).setCell ⟨mb, 1, none⟩ (.slice C1 ps.length u1)).setCell ⟨mb, 2, none⟩ (.slice C2 qs.length u2)).setCell ⟨mb, 3, none⟩ (.slice C3 xs.length u3)) := (((HM15.out.set ⟨mb, 0, none⟩ (.inl rfl) _).set ⟨mb, 1, none⟩ (.inl rfl) _).set ⟨mb, 2, none⟩ (.inl rfl) _).set ⟨mb, 3, none⟩ (.inl rfl) _
      generalize (((w15.setCell ⟨mb, 0, none⟩ (.string nm)).setCell ⟨mb, 1, none⟩ (.slice C1 ps.length u1)).setCell ⟨mb, 2, none⟩ (.slice C2 qs.length u2)).setCell ⟨mb, 3, none⟩ (.slice C3 xs.length u3) = w16 at *
      have m0 := cH hmm16 0
      have m1 := cH hmm16 1
      have m2 := cH hmm16 2
      have m3 := cH hmm16 3
      have hfm : ∀ k, F k → k ≠ mb := fun k hk q => by have h4 := HNE.out; have h5 := HZ13.out; rcases HF14.out k hk with h6 | h6; exact HF0M.out (.inr (q ▸ h6)); omega
      have hmv16 : Mv (fun k => k = bp ∨ F0 k) w w16 := (HMV13.out.then_ HM14.out (fun i hi => .inl hi)).then_ hm16 (fun i hi => .inr (by have h2 := HNE.out; omega))
      have hp16 := HP14.out.turn hm16 HNE.out.1 HNE.out.2.2.2.2.2.2.2.1 hfm
      have hrows : ∀ k, ((pb + 2 ≤ k ∧ k < w13.heap.size) ∨ O k) → w.heap.size ≤ k ∧ k < w16.heap.size ∧ ¬ F k := fun k hk => by
       have h1 := HNE.out; have h2 := HM14.out.size; have h3 := hm16.size; have h4 := HZ13.out
       rcases hk with hk | hk
       ·exact ⟨by omega, by omega, fun q => by rcases HF14.out k q with h5 | h5; have h6 := HFAR.out k h5; omega; omega⟩
       ·have h5 := HO14.out k hk; exact ⟨by omega, by omega, h5.2.2⟩
      have hno1 : ∀ k, (pb + 2 ≤ k ∧ k < w13.heap.size) → ¬ (k = mb) := fun k hk q => by have h1 := HNE.out; omega
      have hno2 : ∀ k, O k → ¬ (k = mb) := fun k hk q => by have h1 := HNE.out; have h2 := (HO14.out k hk).1; have h3 := HZ13.out; omega
      have hq1 : StrR (fun k => (pb + 2 ≤ k ∧ k < w13.heap.size) ∨ O k) w16 (.slice C1 (ps : List ByteArray).length u1) ps := Kd.R_mono (Mv.row (Mv.row HR113.out HM14.out (fun k hk => HLOB.out k hk.1)) hm16 hno1) (fun k hk => .inl hk)
      have hq2 : PrtR (fun k => (pb + 2 ≤ k ∧ k < w13.heap.size) ∨ O k) w16 (.slice C2 (qs : List Prt).length u2) qs := Kd.R_mono (Mv.row (Mv.row HR213.out HM14.out (fun k hk => HLOB.out k hk.1)) hm16 hno1) (fun k hk => .inl hk)
      have hq3 : ItmR (fun k => (pb + 2 ≤ k ∧ k < w13.heap.size) ∨ O k) w16 (.slice C3 xs.length u3) xs := Kd.R_mono (Mv.row HI14.out hm16 hno2) (fun k hk => .inr hk)
      refine bodyPost_ret (v := .tuple #[.agg #[.string nm, .slice C1 ps.length u1, .slice C2 qs.length u2, .slice C3 xs.length u3], .bool true]) ?_ rfl (by rw [HBG.out, HRES.out]; exact ⟨hmv16, F, fun k hk => (HF14.out k hk).imp id (fun q => by have h1 := HZ13.out; have h2 := HNE.out; omega), b14, C1, u1, C2, u2, C3, u3, _, rfl, HB14.out, rfl, hp16, hq1, hq2, hq3, hrows⟩)
      clear hp16 hmv16 hfm hm16 hmm16
      simp [results, Tryd.results24, go_sem, m0, m1, m2, m3]
   ·have HF8 := HF6
    have HF9 := aS (show (andThen (some (needP [40] (l.drop b6))) fun _ r3 => andThen (portsP r3) fun qs r4 => andThen (some (needP [123] r4)) fun _ r5 => some (.ok (nm, [], qs) r5)) = some y from by have qq := HF8.out; unfold paramsP at qq; rw [HTN.out] at qq; exact qq)
    have HA9 := HA8
    have HS9 := HS8
    have HM9 := HM8
    have HZ9 := HZ8
    obtain ⟨ps, hps⟩ : ∃ ps : List ByteArray, ps = [] := ⟨[], rfl⟩
    go_upto_region 10 with (fail)
    clear p0
    have p0 := cH HM9.out.p 0
    go_upto_region 11 with (go_at_call 39; refine calls_tells (need_tells ⟨#[40]⟩ HS9.out) ?_ (fun er t b a2 w' hq ht hb ha hat => And.intro rfl (by rw [HBG.out]; exact modT_bad (HP5.out.at_ (HA9.out.new hat (fun i hi => hi.elim)) HXF.out ha) (HMV5.out.then_ (HA9.out.new hat (fun i hi => hi.elim)).mv (fun i hi => hi.elim (fun q => .inl (.inl q)) (fun q => .inr (by have h2 := HNE.out; rcases q with q | q; omega; omega)))) ht hb (front_bad HQ.out HYT.out HN16.out HY.out (and_bad HF9.out rfl hq)))); rintro u r b10 vv w10 hq rfl hb rfl hat; have qq := and_ok HF9.out rfl hq; have HF10 := aS qq; clear qq; have HA10 := aS (HA9.out.then_ hat); have HS10 := aS (HS9.out.next hat hb); have HM10 := aS (HM9.out.step hat ⟨HNE.out.1, HNE.out.2.1, HNE.out.2.2.2.2.1⟩); have HZ10 := aS (Nat.le_trans HZ9.out hat.size); clear hq hb hat)
    clear p0 HA9 HS9 HM9 HZ9 HF9
    have p0 := cH HM10.out.p 0
    go_upto_if 51 with (go_at_call 36; refine calls_take (take_tells ⟨#[41]⟩ HS10.out) ?_ ?_; rotate_left; rintro w11 hq hat; have HTN2 := aS hq; have hb := HS10.out.room; have HA11 := aS (HA10.out.then_ hat); have HS11 := aS (HS10.out.next hat hb); have HM11 := aS (HM10.out.step hat ⟨HNE.out.1, HNE.out.2.1, HNE.out.2.2.2.2.1⟩); have HZ11 := aS (Nat.le_trans HZ10.out hat.size);  clear hq hb hat; rotate_left; rintro w11 hq hb hat; have HTY2 := aS hq; have HA11 := aS (HA10.out.then_ hat); have HS11 := aS (HS10.out.next hat hb); have HM11 := aS (HM10.out.step hat ⟨HNE.out.1, HNE.out.2.1, HNE.out.2.2.2.2.1⟩); have HZ11 := aS (Nat.le_trans HZ10.out hat.size);  clear hq hb hat)
    ·have HF12 := aS (show (andThen (some (needP [123] (l.drop (b10 + 1)))) fun _ r5 => some (.ok (nm, [], ([] : List Prt)) r5)) = some y from by have qq := HF10.out; unfold portsP at qq; rw [HTY2.out] at qq; exact qq)
     have HA12 := HA11
     have HS12 := HS11
     have HM12 := HM11
     have HZ12 := HZ11
     go_upto_region 13 with (fail)
     clear p0
     have p0 := cH HM12.out.p 0
     go_upto_region 14 with (go_at_call 39; refine calls_tells (need_tells ⟨#[123]⟩ HS12.out) ?_ (fun er t b a2 w' hq ht hb ha hat => And.intro rfl (by rw [HBG.out]; exact modT_bad (HP5.out.at_ (HA12.out.new hat (fun i hi => hi.elim)) HXF.out ha) (HMV5.out.then_ (HA12.out.new hat (fun i hi => hi.elim)).mv (fun i hi => hi.elim (fun q => .inl (.inl q)) (fun q => .inr (by have h2 := HNE.out; rcases q with q | q; omega; omega)))) ht hb (front_bad HQ.out HYT.out HN16.out HY.out (and_bad HF12.out rfl hq)))); rintro u r b13 vv w13 hq rfl hb rfl hat; have qq := and_ok HF12.out rfl hq; have HF13 := aS qq; clear qq; have HA13 := aS (HA12.out.then_ hat); have HS13 := aS (HS12.out.next hat hb); have HM13 := aS (HM12.out.step hat ⟨HNE.out.1, HNE.out.2.1, HNE.out.2.2.2.2.1⟩); have HZ13 := aS (Nat.le_trans HZ12.out hat.size); clear hq hb hat)
     clear p0
     have p0 := cH HM13.out.p 0
     obtain ⟨z, hz, hres⟩ := front_items HQ.out HYT.out HN16.out (HY.out.trans HF13.out.symm)
     have HZI := aS hz
     have HRES := aS hres
     clear hz hres
     have HP13 := aS (HP5.out.at_ HA13.out HXF.out HS13.out.room)
     have HMV13 := aS (HMV5.out.then_ HA13.out.mv (fun i hi => hi.elim (fun q => .inl (.inl q)) (fun q => .inr (by have h2 := HNE.out; rcases q with q | q; omega; omega))))
     obtain ⟨hpp, C1, u1, C2, u2, hmm13, hr113, hr213⟩ := HM13.out
     have HF0M := aS (show ¬ (mb = bp ∨ F0 mb) from fun q => q.elim HNE.out.1 (fun q => by have h1 := HFAR.out mb q; have h2 := HNE.out; omega))
     have HLOB := aS (show ∀ k, Lo (pb + 2) k → ¬ (k = bp ∨ F0 k) from fun k hk q => by have h1 : pb + 2 ≤ k := hk; have h2 := HNE.out; rcases q with q | q; omega; have h3 := HFAR.out k q; omega)
     have HMM13 := aS hmm13
     have HR113 := aS (Kd.R_mono (Kd.R_bound hr113) (fun k hk => (⟨hk.1, hk.2.2.1⟩ : pb + 2 ≤ k ∧ k < w13.heap.size)))
     have HR213 := aS (Kd.R_mono (Kd.R_bound hr213) (fun k hk => (⟨hk.1, hk.2.2.1⟩ : pb + 2 ≤ k ∧ k < w13.heap.size)))
     clear hpp hmm13 hr113 hr213
     cases z with
     | bad er t fs2 =>
      go_upto_region 15 with (go_at_call 42; refine (items_tells G bp s A c l ((n : Int) + 1) F0 k b13 fs w13 HP13.out HOV.out _ HZI.out).mono ?_; rintro e w14 ⟨hm14, F, hF, b14, a14, rfl, hb14, rfl, hp14⟩)
      exact And.intro rfl (by rw [HBG.out, HRES.out]; exact ⟨HMV13.out.then_ hm14 (fun i hi => .inl hi), F, fun k hk => (hF k hk).imp id (fun q => by have h1 := HZ13.out; have h2 := HNE.out; omega), b14, a14, rfl, hb14, rfl, hp14⟩)
     | stop fs2 t =>
      go_upto_region 15 with (go_at_call 42; refine (items_tells G bp s A c l ((n : Int) + 1) F0 k b13 fs w13 HP13.out HOV.out _ HZI.out).mono ?_; rintro e w14 ⟨hm14, F, hF, b14, hb14, rfl, hp14⟩; have hmm14 := hm14.obj HMM13.out HF0M.out; have HM14 := aS hm14; have HF14 := aS hF; have HP14 := aS hp14; have HB14 := aS hb14; have HMM14 := aS hmm14; have m3 := cH hmm14 3; have g3 := blk_frozen hmm14 3; clear hm14 hF hb14 hp14 hmm14)
      have hmm15 : (w14.setCell ⟨mb, 3, none⟩ (NS)).heap[mb]? = some (.cells #[.string nm, .slice C1 0 u1, .slice C2 0 u2, NS] 47 (0, 0)) := set_new HMM14.out (by kernel_rfl)
      have HM15 := aS (show Mv (fun k => k = mb) w14 (w14.setCell ⟨mb, 3, none⟩ (NS)) from (Mv.refl (fun k => k = mb) w14).set ⟨mb, 3, none⟩ (.inl rfl) _)
      have HMM15 := aS hmm15
      clear hmm15 m3 g3 p0
      generalize w14.setCell ⟨mb, 3, none⟩ (NS) = w15 at *
      have m0 := cH HMM15.out 0
      have m1 := cH HMM15.out 1
      have m2 := cH HMM15.out 2
      have m3 := cH HMM15.out 3
      have g0 := blk_frozen HMM15.out 0
      have g1 := blk_frozen HMM15.out 1
      have g2 := blk_frozen HMM15.out 2
      have g3 := blk_frozen HMM15.out 3
      go_wp2
      clear m0 m1 m2 m3 g0 g1 g2 g3
      have hmm16 : ((((w15.setCell ⟨mb, 0, none⟩ (.string nm)).setCell ⟨mb, 1, none⟩ (.slice C1 0 u1)).setCell ⟨mb, 2, none⟩ (.slice C2 0 u2)).setCell ⟨mb, 3, none⟩ (NS)).heap[mb]? = some (.cells #[.string nm, .slice C1 0 u1, .slice C2 0 u2, NS] 47 (0, 0)) := fill4 HMM15.out
      have hm16 : Mv (fun k => k = mb) w14 ((((w15.setCell ⟨mb, 0, none⟩ (.string nm)).setCell ⟨mb, 1, none⟩ (.slice C1 0 u1)).setCell ⟨mb, 2, none⟩ (.slice C2 0 u2)).setCell ⟨mb, 3, none⟩ (NS)) := (((HM15.out.set ⟨mb, 0, none⟩ (.inl rfl) _).set ⟨mb, 1, none⟩ (.inl rfl) _).set ⟨mb, 2, none⟩ (.inl rfl) _).set ⟨mb, 3, none⟩ (.inl rfl) _
      generalize (((w15.setCell ⟨mb, 0, none⟩ (.string nm)).setCell ⟨mb, 1, none⟩ (.slice C1 0 u1)).setCell ⟨mb, 2, none⟩ (.slice C2 0 u2)).setCell ⟨mb, 3, none⟩ (NS) = w16 at *
      have m0 := cH hmm16 0
      have m1 := cH hmm16 1
      have m2 := cH hmm16 2
      have m3 := cH hmm16 3
      have hfm : ∀ k, F k → k ≠ mb := fun k hk q => by have h4 := HNE.out; have h5 := HZ13.out; rcases HF14.out k hk with h6 | h6; exact HF0M.out (.inr (q ▸ h6)); omega
      have hmv16 : Mv (fun k => k = bp ∨ F0 k) w w16 := (HMV13.out.then_ HM14.out (fun i hi => .inl hi)).then_ hm16 (fun i hi => .inr (by have h2 := HNE.out; omega))
      have hp16 := HP14.out.turn hm16 HNE.out.1 HNE.out.2.2.2.2.2.2.2.1 hfm
      refine bodyPost_ret (v := .tuple #[.agg #[.string nm, .slice C1 0 u1, .slice C2 0 u2, NS], .bool false]) ?_ rfl (by rw [HBG.out, HRES.out]; exact ⟨hmv16, F, fun k hk => (HF14.out k hk).imp id (fun q => by have h1 := HZ13.out; have h2 := HNE.out; omega), b14, nm, C1, _, u1, C2, _, u2, HB14.out, rfl, hp16⟩)
      clear hp16 hmv16 hfm hm16 hmm16
      simp [results, Tryd.results24, go_sem, m0, m1, m2, m3]
     | done xs r2 fs2 =>
      go_upto_region 15 with (go_at_call 42; refine (items_tells G bp s A c l ((n : Int) + 1) F0 k b13 fs w13 HP13.out HOV.out _ HZI.out).mono ?_; rintro e w14 ⟨hm14, F, hF, b14, v14, O, rfl, hb14, rfl, hp14, hi14, hO14, hl14⟩; obtain ⟨C3, u3, e3, _⟩ := Kd.R_reads hi14; subst e3; have hmm14 := hm14.obj HMM13.out HF0M.out; have HM14 := aS hm14; have HF14 := aS hF; have HP14 := aS hp14; have HB14 := aS hb14; have HI14 := aS hi14; have HO14 := aS hO14; have HMM14 := aS hmm14; have m3 := cH hmm14 3; have g3 := blk_frozen hmm14 3; clear hm14 hF hb14 hp14 hi14 hO14 hl14 hmm14)
      have hmm15 : (w14.setCell ⟨mb, 3, none⟩ (.slice C3 xs.length u3)).heap[mb]? = some (.cells #[.string nm, .slice C1 0 u1, .slice C2 0 u2, .slice C3 xs.length u3] 47 (0, 0)) := set_new HMM14.out (by kernel_rfl)
      have HM15 := aS (show Mv (fun k => k = mb) w14 (w14.setCell ⟨mb, 3, none⟩ (.slice C3 xs.length u3)) from (Mv.refl (fun k => k = mb) w14).set ⟨mb, 3, none⟩ (.inl rfl) _)
      have HMM15 := aS hmm15
      clear hmm15 m3 g3 p0
      generalize w14.setCell ⟨mb, 3, none⟩ (.slice C3 xs.length u3) = w15 at *
      have m0 := cH HMM15.out 0
      have m1 := cH HMM15.out 1
      have m2 := cH HMM15.out 2
      have m3 := cH HMM15.out 3
      have g0 := blk_frozen HMM15.out 0
      have g1 := blk_frozen HMM15.out 1
      have g2 := blk_frozen HMM15.out 2
      have g3 := blk_frozen HMM15.out 3
      go_wp2
      clear m0 m1 m2 m3 g0 g1 g2 g3
      have hmm16 : ((((w15.setCell ⟨mb, 0, none⟩ (.string nm)).setCell ⟨mb, 1, none⟩ (.slice C1 0 u1)).setCell ⟨mb, 2, none⟩ (.slice C2 0 u2)).setCell ⟨mb, 3, none⟩ (.slice C3 xs.length u3)).heap[mb]? = some (.cells #[.string nm, .slice C1 0 u1, .slice C2 0 u2, .slice C3 xs.length u3] 47 (0, 0)) := fill4 HMM15.out
      have hm16 : Mv (fun k => k = mb) w14 ((((w15.setCell ⟨mb, 0, none⟩ (.string nm)).setCell ⟨mb, 1, none⟩ (.slice C1 0 u1)).setCell ⟨mb, 2, none⟩ (.slice C2 0 u2)).setCell ⟨mb, 3, none⟩ (.slice C3 xs.length u3)) := (((HM15.out.set ⟨mb, 0, none⟩ (.inl rfl) _).set ⟨mb, 1, none⟩ (.inl rfl) _).set ⟨mb, 2, none⟩ (.inl rfl) _).set ⟨mb, 3, none⟩ (.inl rfl) _
      generalize (((w15.setCell ⟨mb, 0, none⟩ (.string nm)).setCell ⟨mb, 1, none⟩ (.slice C1 0 u1)).setCell ⟨mb, 2, none⟩ (.slice C2 0 u2)).setCell ⟨mb, 3, none⟩ (.slice C3 xs.length u3) = w16 at *
      have m0 := cH hmm16 0
      have m1 := cH hmm16 1
      have m2 := cH hmm16 2
      have m3 := cH hmm16 3
      have hfm : ∀ k, F k → k ≠ mb := fun k hk q => by have h4 := HNE.out; have h5 := HZ13.out; rcases HF14.out k hk with h6 | h6; exact HF0M.out (.inr (q ▸ h6)); omega
      have hmv16 : Mv (fun k => k = bp ∨ F0 k) w w16 := (HMV13.out.then_ HM14.out (fun i hi => .inl hi)).then_ hm16 (fun i hi => .inr (by have h2 := HNE.out; omega))
      have hp16 := HP14.out.turn hm16 HNE.out.1 HNE.out.2.2.2.2.2.2.2.1 hfm
      have hrows : ∀ k, ((pb + 2 ≤ k ∧ k < w13.heap.size) ∨ O k) → w.heap.size ≤ k ∧ k < w16.heap.size ∧ ¬ F k := fun k hk => by
       have h1 := HNE.out; have h2 := HM14.out.size; have h3 := hm16.size; have h4 := HZ13.out
       rcases hk with hk | hk
       ·exact ⟨by omega, by omega, fun q => by rcases HF14.out k q with h5 | h5; have h6 := HFAR.out k h5; omega; omega⟩
       ·have h5 := HO14.out k hk; exact ⟨by omega, by omega, h5.2.2⟩
      have hno1 : ∀ k, (pb + 2 ≤ k ∧ k < w13.heap.size) → ¬ (k = mb) := fun k hk q => by have h1 := HNE.out; omega
      have hno2 : ∀ k, O k → ¬ (k = mb) := fun k hk q => by have h1 := HNE.out; have h2 := (HO14.out k hk).1; have h3 := HZ13.out; omega
      have hq1 : StrR (fun k => (pb + 2 ≤ k ∧ k < w13.heap.size) ∨ O k) w16 (.slice C1 ([] : List ByteArray).length u1) [] := Kd.R_mono (Mv.row (Mv.row HR113.out HM14.out (fun k hk => HLOB.out k hk.1)) hm16 hno1) (fun k hk => .inl hk)
      have hq2 : PrtR (fun k => (pb + 2 ≤ k ∧ k < w13.heap.size) ∨ O k) w16 (.slice C2 ([] : List Prt).length u2) [] := Kd.R_mono (Mv.row (Mv.row HR213.out HM14.out (fun k hk => HLOB.out k hk.1)) hm16 hno1) (fun k hk => .inl hk)
      have hq3 : ItmR (fun k => (pb + 2 ≤ k ∧ k < w13.heap.size) ∨ O k) w16 (.slice C3 xs.length u3) xs := Kd.R_mono (Mv.row HI14.out hm16 hno2) (fun k hk => .inr hk)
      refine bodyPost_ret (v := .tuple #[.agg #[.string nm, .slice C1 0 u1, .slice C2 0 u2, .slice C3 xs.length u3], .bool true]) ?_ rfl (by rw [HBG.out, HRES.out]; exact ⟨hmv16, F, fun k hk => (HF14.out k hk).imp id (fun q => by have h1 := HZ13.out; have h2 := HNE.out; omega), b14, C1, u1, C2, u2, C3, u3, _, rfl, HB14.out, rfl, hp16, hq1, hq2, hq3, hrows⟩)
      clear hp16 hmv16 hfm hm16 hmm16
      simp [results, Tryd.results24, go_sem, m0, m1, m2, m3]
    ·obtain ⟨y11, hy11⟩ := and_get HF10.out
     have HY11 := aS (show listP [41] portP 16 [] (l.drop b10) = some y11 from by have qq := hy11; unfold portsP at qq; rw [HTN2.out] at qq; exact qq)
     have HYP2 := aS hy11
     clear hy11 p0
     have p0 := cH HM11.out.p 0
     have hmf : ∀ (fn : Fn) (first cap : Array Value) (w : World), (Instr.makeFunc fn first cap).run Tryd.prog w = .ok (.func fn first cap) w := fun _ _ _ _ => rfl
     go_upto_region 13 with (go_at_call 37; refine calls_tells (list_tells G bp s A c l ((n : Int) + 1) _ 40 #[.pointer (some ⟨pb, 0, none⟩), .pointer (some ⟨mb, 0, none⟩)] ⟨#[41]⟩ portP (fun qs w' => ModAt bp mb pb (pb + 2) nm [] qs w') (InX mb (pb + 2)) (fun k hk => (HXF.out k hk).1) _ w11 16 [] (fun w => enters_ Tryd.func40 (by kernel_rfl) rfl _ w) (fun acc' b9 w9 res1 hlen hat hst hi hone => port_calls G bp s A c l ((n : Int) + 1) _ b9 w9 hst mb pb (pb + 2) ⟨HNE.out.1, HNE.out.2.1, HNE.out.2.2.1, HNE.out.2.2.2.1, HNE.out.2.2.2.2.1, HNE.out.2.2.2.2.2.1, Nat.le_trans HZ11.out hat.size, HNE.out.2.2.2.2.2.2.2.1⟩ nm [] acc' (by have h1 : acc'.length ≤ 0 + 16 := hlen; omega) hi res1 hone) (fun ac b9 w9 w10 hi hat => hi.step hat ⟨HNE.out.1, HNE.out.2.1, HNE.out.2.2.2.2.1⟩) (by omega) HS11.out HM11.out y11 HY11.out) ?_ (fun er t b a2 w' hq ht hb ha hat => And.intro rfl (by rw [HBG.out]; exact modT_bad (HP5.out.at_ (HA11.out.new hat (fun i hi => .inl hi)) HXF.out ha) (HMV5.out.then_ (HA11.out.new hat (fun i hi => .inl hi)).mv (fun i hi => hi.elim (fun q => .inl (.inl q)) (fun q => .inr (by have h2 := HNE.out; rcases q with q | q; omega; omega)))) ht hb (front_bad HQ.out HYT.out HN16.out HY.out (and_bad HF10.out HYP2.out hq)))); rintro qs r b12 vv w12 hq rfl hb ⟨rfl, hi⟩ hat; have qq := and_ok HF10.out HYP2.out hq; have HF12 := aS qq; clear qq; have HA12 := aS (HA11.out.new hat (fun i hi => .inl hi)); have HS12 := aS (HS11.out.step hat (fun k hk => (HXF.out k hk).1) hb); have HZ12 := aS (Nat.le_trans HZ11.out hat.size);  have HM12 := aS hi; clear hq hb hi hat)
     clear hmf
     clear p0
     have p0 := cH HM12.out.p 0
     go_upto_region 14 with (go_at_call 39; refine calls_tells (need_tells ⟨#[123]⟩ HS12.out) ?_ (fun er t b a2 w' hq ht hb ha hat => And.intro rfl (by rw [HBG.out]; exact modT_bad (HP5.out.at_ (HA12.out.new hat (fun i hi => hi.elim)) HXF.out ha) (HMV5.out.then_ (HA12.out.new hat (fun i hi => hi.elim)).mv (fun i hi => hi.elim (fun q => .inl (.inl q)) (fun q => .inr (by have h2 := HNE.out; rcases q with q | q; omega; omega)))) ht hb (front_bad HQ.out HYT.out HN16.out HY.out (and_bad HF12.out rfl hq)))); rintro u r b13 vv w13 hq rfl hb rfl hat; have qq := and_ok HF12.out rfl hq; have HF13 := aS qq; clear qq; have HA13 := aS (HA12.out.then_ hat); have HS13 := aS (HS12.out.next hat hb); have HM13 := aS (HM12.out.step hat ⟨HNE.out.1, HNE.out.2.1, HNE.out.2.2.2.2.1⟩); have HZ13 := aS (Nat.le_trans HZ12.out hat.size); clear hq hb hat)
     clear p0
     have p0 := cH HM13.out.p 0
     obtain ⟨z, hz, hres⟩ := front_items HQ.out HYT.out HN16.out (HY.out.trans HF13.out.symm)
     have HZI := aS hz
     have HRES := aS hres
     clear hz hres
     have HP13 := aS (HP5.out.at_ HA13.out HXF.out HS13.out.room)
     have HMV13 := aS (HMV5.out.then_ HA13.out.mv (fun i hi => hi.elim (fun q => .inl (.inl q)) (fun q => .inr (by have h2 := HNE.out; rcases q with q | q; omega; omega))))
     obtain ⟨hpp, C1, u1, C2, u2, hmm13, hr113, hr213⟩ := HM13.out
     have HF0M := aS (show ¬ (mb = bp ∨ F0 mb) from fun q => q.elim HNE.out.1 (fun q => by have h1 := HFAR.out mb q; have h2 := HNE.out; omega))
     have HLOB := aS (show ∀ k, Lo (pb + 2) k → ¬ (k = bp ∨ F0 k) from fun k hk q => by have h1 : pb + 2 ≤ k := hk; have h2 := HNE.out; rcases q with q | q; omega; have h3 := HFAR.out k q; omega)
     have HMM13 := aS hmm13
     have HR113 := aS (Kd.R_mono (Kd.R_bound hr113) (fun k hk => (⟨hk.1, hk.2.2.1⟩ : pb + 2 ≤ k ∧ k < w13.heap.size)))
     have HR213 := aS (Kd.R_mono (Kd.R_bound hr213) (fun k hk => (⟨hk.1, hk.2.2.1⟩ : pb + 2 ≤ k ∧ k < w13.heap.size)))
     clear hpp hmm13 hr113 hr213
     cases z with
     | bad er t fs2 =>
      go_upto_region 15 with (go_at_call 42; refine (items_tells G bp s A c l ((n : Int) + 1) F0 k b13 fs w13 HP13.out HOV.out _ HZI.out).mono ?_; rintro e w14 ⟨hm14, F, hF, b14, a14, rfl, hb14, rfl, hp14⟩)
      exact And.intro rfl (by rw [HBG.out, HRES.out]; exact ⟨HMV13.out.then_ hm14 (fun i hi => .inl hi), F, fun k hk => (hF k hk).imp id (fun q => by have h1 := HZ13.out; have h2 := HNE.out; omega), b14, a14, rfl, hb14, rfl, hp14⟩)
     | stop fs2 t =>
      go_upto_region 15 with (go_at_call 42; refine (items_tells G bp s A c l ((n : Int) + 1) F0 k b13 fs w13 HP13.out HOV.out _ HZI.out).mono ?_; rintro e w14 ⟨hm14, F, hF, b14, hb14, rfl, hp14⟩; have hmm14 := hm14.obj HMM13.out HF0M.out; have HM14 := aS hm14; have HF14 := aS hF; have HP14 := aS hp14; have HB14 := aS hb14; have HMM14 := aS hmm14; have m3 := cH hmm14 3; have g3 := blk_frozen hmm14 3; clear hm14 hF hb14 hp14 hmm14)
      have hmm15 : (w14.setCell ⟨mb, 3, none⟩ (NS)).heap[mb]? = some (.cells #[.string nm, .slice C1 0 u1, .slice C2 qs.length u2, NS] 47 (0, 0)) := set_new HMM14.out (by kernel_rfl)
      have HM15 := aS (show Mv (fun k => k = mb) w14 (w14.setCell ⟨mb, 3, none⟩ (NS)) from (Mv.refl (fun k => k = mb) w14).set ⟨mb, 3, none⟩ (.inl rfl) _)
      have HMM15 := aS hmm15
      clear hmm15 m3 g3 p0
      generalize w14.setCell ⟨mb, 3, none⟩ (NS) = w15 at *
      have m0 := cH HMM15.out 0
      have m1 := cH HMM15.out 1
      have m2 := cH HMM15.out 2
      have m3 := cH HMM15.out 3
      have g0 := blk_frozen HMM15.out 0
      have g1 := blk_frozen HMM15.out 1
      have g2 := blk_frozen HMM15.out 2
      have g3 := blk_frozen HMM15.out 3
      go_wp2
      clear m0 m1 m2 m3 g0 g1 g2 g3
      have hmm16 : ((((w15.setCell ⟨mb, 0, none⟩ (.string nm)).setCell ⟨mb, 1, none⟩ (.slice C1 0 u1)).setCell ⟨mb, 2, none⟩ (.slice C2 qs.length u2)).setCell ⟨mb, 3, none⟩ (NS)).heap[mb]? = some (.cells #[.string nm, .slice C1 0 u1, .slice C2 qs.length u2, NS] 47 (0, 0)) := fill4 HMM15.out
      have hm16 : Mv (fun k => k = mb) w14 ((((w15.setCell ⟨mb, 0, none⟩ (.string nm)).setCell ⟨mb, 1, none⟩ (.slice C1 0 u1)).setCell ⟨mb, 2, none⟩ (.slice C2 qs.length u2)).setCell ⟨mb, 3, none⟩ (NS)) := (((HM15.out.set ⟨mb, 0, none⟩ (.inl rfl) _).set ⟨mb, 1, none⟩ (.inl rfl) _).set ⟨mb, 2, none⟩ (.inl rfl) _).set ⟨mb, 3, none⟩ (.inl rfl) _
      generalize (((w15.setCell ⟨mb, 0, none⟩ (.string nm)).setCell ⟨mb, 1, none⟩ (.slice C1 0 u1)).setCell ⟨mb, 2, none⟩ (.slice C2 qs.length u2)).setCell ⟨mb, 3, none⟩ (NS) = w16 at *
      have m0 := cH hmm16 0
      have m1 := cH hmm16 1
      have m2 := cH hmm16 2
      have m3 := cH hmm16 3
      have hfm : ∀ k, F k → k ≠ mb := fun k hk q => by have h4 := HNE.out; have h5 := HZ13.out; rcases HF14.out k hk with h6 | h6; exact HF0M.out (.inr (q ▸ h6)); omega
      have hmv16 : Mv (fun k => k = bp ∨ F0 k) w w16 := (HMV13.out.then_ HM14.out (fun i hi => .inl hi)).then_ hm16 (fun i hi => .inr (by have h2 := HNE.out; omega))
      have hp16 := HP14.out.turn hm16 HNE.out.1 HNE.out.2.2.2.2.2.2.2.1 hfm
      refine bodyPost_ret (v := .tuple #[.agg #[.string nm, .slice C1 0 u1, .slice C2 qs.length u2, NS], .bool false]) ?_ rfl (by rw [HBG.out, HRES.out]; exact ⟨hmv16, F, fun k hk => (HF14.out k hk).imp id (fun q => by have h1 := HZ13.out; have h2 := HNE.out; omega), b14, nm, C1, _, u1, C2, _, u2, HB14.out, rfl, hp16⟩)
      clear hp16 hmv16 hfm hm16 hmm16
      simp [results, Tryd.results24, go_sem, m0, m1, m2, m3]
     | done xs r2 fs2 =>
      go_upto_region 15 with (go_at_call 42; refine (items_tells G bp s A c l ((n : Int) + 1) F0 k b13 fs w13 HP13.out HOV.out _ HZI.out).mono ?_; rintro e w14 ⟨hm14, F, hF, b14, v14, O, rfl, hb14, rfl, hp14, hi14, hO14, hl14⟩; obtain ⟨C3, u3, e3, _⟩ := Kd.R_reads hi14; subst e3; have hmm14 := hm14.obj HMM13.out HF0M.out; have HM14 := aS hm14; have HF14 := aS hF; have HP14 := aS hp14; have HB14 := aS hb14; have HI14 := aS hi14; have HO14 := aS hO14; have HMM14 := aS hmm14; have m3 := cH hmm14 3; have g3 := blk_frozen hmm14 3; clear hm14 hF hb14 hp14 hi14 hO14 hl14 hmm14)
      have hmm15 : (w14.setCell ⟨mb, 3, none⟩ (.slice C3 xs.length u3)).heap[mb]? = some (.cells #[.string nm, .slice C1 0 u1, .slice C2 qs.length u2, .slice C3 xs.length u3] 47 (0, 0)) := set_new HMM14.out (by kernel_rfl)
      have HM15 := aS (show Mv (fun k => k = mb) w14 (w14.setCell ⟨mb, 3, none⟩ (.slice C3 xs.length u3)) from (Mv.refl (fun k => k = mb) w14).set ⟨mb, 3, none⟩ (.inl rfl) _)
      have HMM15 := aS hmm15
      clear hmm15 m3 g3 p0
      generalize w14.setCell ⟨mb, 3, none⟩ (.slice C3 xs.length u3) = w15 at *
      have m0 := cH HMM15.out 0
      have m1 := cH HMM15.out 1
      have m2 := cH HMM15.out 2
      have m3 := cH HMM15.out 3
      have g0 := blk_frozen HMM15.out 0
      have g1 := blk_frozen HMM15.out 1
      have g2 := blk_frozen HMM15.out 2
      have g3 := blk_frozen HMM15.out 3
      go_wp2
      clear m0 m1 m2 m3 g0 g1 g2 g3
      have hmm16 : ((((w15.setCell ⟨mb, 0, none⟩ (.string nm)).setCell ⟨mb, 1, none⟩ (.slice C1 0 u1)).setCell ⟨mb, 2, none⟩ (.slice C2 qs.length u2)).setCell ⟨mb, 3, none⟩ (.slice C3 xs.length u3)).heap[mb]? = some (.cells #[.string nm, .slice C1 0 u1, .slice C2 qs.length u2, .slice C3 xs.length u3] 47 (0, 0)) := fill4 HMM15.out
      have hm16 : Mv (fun k => k = mb) w14 ((((w15.setCell ⟨mb, 0, none⟩ (.string nm)).setCell ⟨mb, 1, none⟩ (.slice C1 0 u1)).setCell ⟨mb, 2, none⟩ (.slice C2 qs.length u2)).setCell ⟨mb, 3, none⟩ (.slice C3 xs.length u3)) := (((HM15.out.set ⟨mb, 0, none⟩ (.inl rfl) _).set ⟨mb, 1, none⟩ (.inl rfl) _).set ⟨mb, 2, none⟩ (.inl rfl) _).set ⟨mb, 3, none⟩ (.inl rfl) _
      generalize (((w15.setCell ⟨mb, 0, none⟩ (.string nm)).setCell ⟨mb, 1, none⟩ (.slice C1 0 u1)).setCell ⟨mb, 2, none⟩ (.slice C2 qs.length u2)).setCell ⟨mb, 3, none⟩ (.slice C3 xs.length u3) = w16 at *
      have m0 := cH hmm16 0
      have m1 := cH hmm16 1
      have m2 := cH hmm16 2
      have m3 := cH hmm16 3
      have hfm : ∀ k, F k → k ≠ mb := fun k hk q => by have h4 := HNE.out; have h5 := HZ13.out; rcases HF14.out k hk with h6 | h6; exact HF0M.out (.inr (q ▸ h6)); omega
      have hmv16 : Mv (fun k => k = bp ∨ F0 k) w w16 := (HMV13.out.then_ HM14.out (fun i hi => .inl hi)).then_ hm16 (fun i hi => .inr (by have h2 := HNE.out; omega))
      have hp16 := HP14.out.turn hm16 HNE.out.1 HNE.out.2.2.2.2.2.2.2.1 hfm
      have hrows : ∀ k, ((pb + 2 ≤ k ∧ k < w13.heap.size) ∨ O k) → w.heap.size ≤ k ∧ k < w16.heap.size ∧ ¬ F k := fun k hk => by
       have h1 := HNE.out; have h2 := HM14.out.size; have h3 := hm16.size; have h4 := HZ13.out
       rcases hk with hk | hk
       ·exact ⟨by omega, by omega, fun q => by rcases HF14.out k q with h5 | h5; have h6 := HFAR.out k h5; omega; omega⟩
       ·have h5 := HO14.out k hk; exact ⟨by omega, by omega, h5.2.2⟩
      have hno1 : ∀ k, (pb + 2 ≤ k ∧ k < w13.heap.size) → ¬ (k = mb) := fun k hk q => by have h1 := HNE.out; omega
      have hno2 : ∀ k, O k → ¬ (k = mb) := fun k hk q => by have h1 := HNE.out; have h2 := (HO14.out k hk).1; have h3 := HZ13.out; omega
      have hq1 : StrR (fun k => (pb + 2 ≤ k ∧ k < w13.heap.size) ∨ O k) w16 (.slice C1 ([] : List ByteArray).length u1) [] := Kd.R_mono (Mv.row (Mv.row HR113.out HM14.out (fun k hk => HLOB.out k hk.1)) hm16 hno1) (fun k hk => .inl hk)
      have hq2 : PrtR (fun k => (pb + 2 ≤ k ∧ k < w13.heap.size) ∨ O k) w16 (.slice C2 (qs : List Prt).length u2) qs := Kd.R_mono (Mv.row (Mv.row HR213.out HM14.out (fun k hk => HLOB.out k hk.1)) hm16 hno1) (fun k hk => .inl hk)
      have hq3 : ItmR (fun k => (pb + 2 ≤ k ∧ k < w13.heap.size) ∨ O k) w16 (.slice C3 xs.length u3) xs := Kd.R_mono (Mv.row HI14.out hm16 hno2) (fun k hk => .inr hk)
      refine bodyPost_ret (v := .tuple #[.agg #[.string nm, .slice C1 0 u1, .slice C2 qs.length u2, .slice C3 xs.length u3], .bool true]) ?_ rfl (by rw [HBG.out, HRES.out]; exact ⟨hmv16, F, fun k hk => (HF14.out k hk).imp id (fun q => by have h1 := HZ13.out; have h2 := HNE.out; omega), b14, C1, u1, C2, u2, C3, u3, _, rfl, HB14.out, rfl, hp16, hq1, hq2, hq3, hrows⟩)
      clear hp16 hmv16 hfm hm16 hmm16
      simp [results, Tryd.results24, go_sem, m0, m1, m2, m3]
 ·have q0 : tk.f1.toList ≠ [109, 111, 100, 117, 108, 101] := by rw [ByteArray.toList_eq]; exact ht
  have q1 : (tk.f1.toList == ([109, 111, 100, 117, 108, 101] : List UInt8)) = false := beq_eq_false_iff_ne.2 q0
  have q2 : (tk.f1.toList == (⟨#[109, 111, 100, 117, 108, 101]⟩ : ByteArray).toList) = false := by rw [ByteArray.toList_eq ⟨#[109, 111, 100, 117, 108, 101]⟩]; exact q1
  have q3 : (tk.f1.toList != ([109, 111, 100, 117, 108, 101] : List UInt8)) = true := by simp [bne, q1]
  have q4 : (tk.f1.toList != (⟨#[109, 111, 100, 117, 108, 101]⟩ : ByteArray).toList) = true := by simp only [bne, q2]; rfl
  clear q0
  have HNT := aS (show txt (looks (l.drop a)) ≠ kModule from by rw [HTK.out]; exact ht)
  clear ht
  go_upto_region 2 with (go_at_call 33; refine (look_at bp s A c l n _ a tk HTK.out _ HS1.out.ps).mono ?_; rintro e w2 ⟨rfl, hb⟩; have HB2 := aS hb; clear hb)
  clear q1 q2 q3 q4 p0 hfld
  have HS2 := aS (HS1.out.below HB2.out)
  have HP2 := aS (HP1.out.mono_ HB2.out)
  have HM2 := aS (HM1.out.below HB2.out)
  have HR2 := aS (Kd.R_below HR1.out HB2.out)
  have HBG := aS (show begunM n (l.drop a) = n from by unfold begunM; rw [if_pos (.inl HNT.out)])
  have HRES := aS (show res = .bad (failE l 20 a) (l.drop a) fs from by have qq := HQ.out; unfold moduleP at qq; rw [if_pos HNT.out, fail_at] at qq; exact (Option.some.inj qq).symm)
  have hdd : Below w2.heap.size w2 w2.drew := below_drew (bR _ _)
  refine start_ (n := 6) (S := fun w' => w'.cell? ⟨pb, 0, none⟩ = some (.pointer (some ⟨bp, 0, none⟩)) ∧ w'.cell? ⟨bp, 2, none⟩ = some (.int .i64 (a : Int))) (ds := []) #[false, false, false, false, false, false] (by kernel_rfl) rfl rfl ⟨cH HM2.out.p 0, cH HS2.out.blk 2⟩ (fun hHeld => ?_)
  refine take_ (i := 0) (N := some 8) (v := ?_) (a' := ?_) #[true, false, false, false, false, false] rfl rfl (by kernel_rfl) (fun _ _ _ h => h) (Or.inl ⟨by rfl, ?_⟩) hHeld ?_ ?_
  rotate_left
  ·rintro w' ⟨s0, s1⟩
   go_simp
   try with_reducible rfl
  rotate_left
  ·simp only [putAll, Act.put, sI, s0', s1']
   rfl
  refine take_ (i := 1) (N := some 9) (v := ?_) (a' := ?_) #[true, true, false, false, false, false] rfl rfl (by kernel_rfl) (fun _ _ _ h => h) (Or.inl ⟨by rfl, ?_⟩) hHeld ?_ ?_
  rotate_left
  ·rintro w' ⟨s0, s1⟩
   go_simp
   try with_reducible rfl
  rotate_left
  ·simp only [putAll, Act.put, sI, s0', s1']
   rfl
  refine pure_ (i := 2) (N := some 10) (v := ?_) (a' := ?_) #[true, true, true, false, false, false] rfl rfl (by kernel_rfl) (fun _ _ _ h => h) (Or.inl ⟨by rfl, ?_⟩) ?_ ?_
  rotate_left
  ·intro w'
   go_simp
   try with_reducible rfl
  rotate_left
  ·simp only [putAll, Act.put, sI, s0', s1']
   rfl
  refine pure_ (i := 3) (N := some 11) (v := ?_) (a' := ?_) #[true, true, true, true, false, false] rfl rfl (by kernel_rfl) (fun _ _ _ h => h) (Or.inl ⟨by rfl, ?_⟩) ?_ ?_
  rotate_left
  ·intro w'
   go_simp
   try with_reducible rfl
  rotate_left
  ·simp only [putAll, Act.put, sI, s0', s1']
   rfl
  refine take_ (i := 4) (N := some 12) (v := ?_) (a' := ?_) #[true, true, true, true, true, false] rfl rfl (by kernel_rfl) (fun _ _ _ h => h) (Or.inl ⟨by rfl, ?_⟩) hHeld ?_ ?_
  rotate_left
  ·rintro w' ⟨s0, s1⟩
   go_simp
   try with_reducible rfl
  rotate_left
  ·simp only [putAll, Act.put, sI, s0', s1']
   rfl
  refine one_ (i := 5) (N := some 13) #[true, true, true, true, true, true] rfl rfl (by kernel_rfl) (by decide) (fun K hK => ?_)
  refine step_goes Tryd.func34 (by kernel_rfl) rfl #[.pointer (some ⟨bp, 0, none⟩), .int .i64 20, .int .i64 (a : Int)] (by rfl) rfl rfl (by (try simp only [List.map_toArray, List.map_cons, List.map_nil]); rfl) ?_
  refine (fail_calls bp s A c l n _ a _ (HS2.out.ps.below hdd) 20 a HS2.out.room).mono ?_
  rintro e w6 ⟨rfl, hw6⟩
  rw [hw6]
  exact And.intro rfl (by rw [HBG.out]; exact modT_bad (HP2.out.mono_ hdd) ((HB1.out.then_ (mv_below (X := fun _ => False) HB2.out) (fun _ q => q.elim)).then_ (mv_below (X := fun _ => False) hdd) (fun _ q => q.elim)) rfl HS2.out.room HRES.out)
end Go.Proofs.YtenogedclignmaaDoor.Q
