/-
  HELPER.
-/
import Derived.Test.YtenogedclignmaaDoorPlKA
import Derived.Test.YtenogedclignmaaDoorPlK2
import Derived.Test.YtenogedclignmaaDoorPlK19
set_option linter.unusedVariables false
set_option linter.unusedSimpArgs false
namespace Go.Proofs.YtenogedclignmaaDoor.Q
open Go.RowKit Go.Maps Go.WideMaps Go.Proofs.YtenogedclignmaaDoorW.PrintWords Go.Proofs.YtenogedclignmaaDoorW.PrintLast Go.Proofs.YtenogedclignmaaDoorW.PrintMore
abbrev toMod (r : List Tok) : List Tok := r.dropWhile fun x => decide (txt x ≠ kModule)
theorem mod_len0 {l : List Tok} {a : Nat} (h : ¬ a < l.length) : toMod (l.drop a) = l.drop a := by
 rw [List.drop_eq_nil_of_le (by omega)]; rfl
theorem mod_word {l : List Tok} {a : Nat} (h : txt (looks (l.drop a)) = kModule) : toMod (l.drop a) = l.drop a := by
 cases hq : l.drop a with
 | nil => rfl
 | cons t r => rw [hq] at h; unfold toMod; rw [List.dropWhile_cons, if_neg (by simpa using (show txt t = kModule from h))]
theorem mod_other {l : List Tok} {a : Nat} (hlt : a < l.length) (h1 : txt (looks (l.drop a)) ≠ kModule) : toMod (l.drop a) = toMod (l.drop (a + 1)) := by
 rw [← tail_drop]
 cases hq : l.drop a with
 | nil => have := congrArg List.length hq; simp at this; omega
 | cons t r => rw [hq] at h1; unfold toMod; rw [List.dropWhile_cons, if_pos (by simpa using (show txt t ≠ kModule from h1))]; rfl
set_option maxHeartbeats 8000000 in
set_option maxRecDepth 100000 in
theorem next_calls (G bp : Nat) (s : ByteArray) (A : Option Addr) (c : Nat) (l : List Tok) (begun : Int) (fv : Value) (a t : Nat) (w : World) (h : St G bp s A c l begun fv a w) (ht : t ≤ l.length) (e : Int) (he : e = 2 → t < l.length) :
  Calls Tryd.prog 25 #[.pointer (some ⟨bp, 0, none⟩), .agg #[.int .i64 e, .int .i64 t]] w fun en w' => en = .returned (.tuple #[]) ∧ ∃ b, b ≤ l.length ∧ nextP e (l.drop t) = l.drop b ∧ At bp b no w w' := by
 have hb1 := below_alloc (bR w.heap.size w) (.cells #[.int .i64 e, .int .i64 (t : Int)] 69)
 have HA0 := aS ((h.same (X := no)).below h.lt hb1)
 have HS0 := aS (h.below hb1)
 have hz := (MapKept.heap_alloc w (.cells #[.int .i64 e, .int .i64 (t : Int)] 69)).1
 have HN := aS (show w.heap.size ≠ bp by have := h.lt; omega)
 have HZ0 := aS hz
 have HT := aS ht
 have HE := aS he
 have hfld := tok_text
 clear h ht hb1 hz he
 go_enter Tryd.func25, Tryd.ntmps25
 go_upto_region 1 with (fail)
 generalize w.alloc (.cells #[.int .i64 e, .int .i64 (t : Int)] 69) = w0 at *
 generalize hwb : w.heap.size = wb at *
 clear hwb
 have z0 := cH HZ0.out 0
 have z1 := cH HZ0.out 1
 have y := blk_cell HS0.out.blk 2
 have f := blk_frozen HS0.out.blk 2
 have hn := HN.out
 go_upto_region 2 with (fail)
 have hat0 : At bp t no w0 (w0.setCell ⟨bp, 2, none⟩ (.int .i64 (t : Int))) := at_set (b := t) (bR _ _)
 have HA1 := aS (HA0.out.then_ hat0)
 have HS1 := aS (HS0.out.next hat0 HT.out)
 have HZ1 := aS (hat0.obj HZ0.out hn id)
 clear y f z0 z1 HS0 HA0 HZ0 hat0
 generalize w0.setCell ⟨bp, 2, none⟩ (.int .i64 (t : Int)) = w1 at *
 have z0 := cH HZ1.out 0
 have HLOOP : ∀ (t1 : Nat) (w1 : World), t1 ≤ l.length → nextP e (l.drop t) = toMod (l.drop t1) → At bp t1 no w w1 → St G bp s A c l begun fv t1 w1 → True := fun _ _ _ _ _ _ => trivial
 clear HLOOP
 by_cases h2 : e = 2
 ·have e2 : (e == 2) = true := by rw [h2]; rfl
  have HLT0 := aS (HE.out h2)
  have HQ1 := aS (show nextP e (l.drop t) = toMod (l.drop (t + 1)) by unfold nextP; rw [if_pos h2, tail_drop])
  clear h2
  have y := blk_cell HS1.out.blk 2
  have f := blk_frozen HS1.out.blk 2
  have hlt0 := HLT0.out
  have hsm := HS1.out.small
  go_wp2
  have hat1 : At bp (t + 1) no w1 (w1.setCell ⟨bp, 2, none⟩ (.int .i64 ((t : Int) + 1))) := at_set (b := t + 1) (bR _ _)
  have HA2 := aS (HA1.out.then_ hat1)
  have HS2 := aS (HS1.out.next hat1 hlt0)
  clear y f z0 HS1 HA1 HZ1 hat1 hlt0 hsm
  generalize w1.setCell ⟨bp, 2, none⟩ (.int .i64 ((t : Int) + 1)) = w1 at *
  obtain ⟨t1, ht1⟩ : ∃ t1, t + 1 = t1 := ⟨_, rfl⟩
  rw [ht1] at HA2 HS2 HQ1
  clear ht1
  go_loopg [] (l.length - t1) (fun kq w' => ∃ a' : Nat, Aside0 (kq = l.length - a') ∧ Aside0 (nextP e (l.drop t) = toMod (l.drop a')) ∧ Aside0 (At bp a' no w w') ∧ Aside0 (St G bp s A c l begun fv a' w'))
  case atStart => exact ⟨t1, ⟨rfl⟩, HQ1, HA2, HS2⟩
  case round =>
   clear HA2 HS2
   obtain ⟨a', HK, HQ, HA, HS⟩ := hrel
   generalize wr = w2 at *
   have c1 := blk_cell HS.out.blk 1
   have c2 := blk_cell HS.out.blk 2
   have hsm := HS.out.small
   by_cases hlt : a' < l.length
   ·have d1 : decide ((a' : Int) < l.length) = true := decide_eq_true (by omega)
    have d2 : decide (a' < l.length) = true := decide_eq_true hlt
    have HLT := aS hlt
    clear hlt
    obtain ⟨tk, htk⟩ : ∃ tk, looks (l.drop a') = tk := ⟨_, rfl⟩
    have HTK := aS htk
    have HLK := aS (look_at bp s A c l begun fv a' tk htk)
    clear htk
    by_cases hb : txt tk = kModule
    ·have q0 : tk.f1.toList = [109, 111, 100, 117, 108, 101] := by rw [ByteArray.toList_eq]; exact hb
     have q1 : (tk.f1.toList == ([109, 111, 100, 117, 108, 101] : List UInt8)) = true := by rw [q0]; rfl
     have q2 : (tk.f1.toList == (⟨#[109, 111, 100, 117, 108, 101]⟩ : ByteArray).toList) = true := by rw [q0, ByteArray.toList_eq]; rfl
     have q3 : (tk.f1.toList != ([109, 111, 100, 117, 108, 101] : List UInt8)) = false := by simp [bne, q1]
     have q4 : (tk.f1.toList != (⟨#[109, 111, 100, 117, 108, 101]⟩ : ByteArray).toList) = false := by simp only [bne, q2]; rfl
     clear q0
     have HB := aS hb
     clear hb
     go_wp2
     go_region_with (go_at_call 33; refine (HLK.out _ (HS.out.ps.below (by repeat (first | exact bR _ _ | apply below_drew | apply pw_below_drewN)))).mono ?_; rintro e w5 ⟨rfl, hb⟩)
     all_goals
      have hb0 : Below w2.heap.size w2 w5 := by first | exact hb | exact (below_drew (bR _ _)).trans hb | exact (pw_below_drewN (bR _ _) _).trans hb
      have HA5 := aS (HA.out.below HS.out.lt hb0)
      clear c1 c2 hb hb0
      go_wp2
      exact bodyPost_end (results_none rfl _ _ _) rfl ⟨rfl, a', HS.out.room, by rw [HQ.out, mod_word (by rw [HTK.out]; exact HB.out)], HA5.out⟩
    ·have q0 : tk.f1.toList ≠ [109, 111, 100, 117, 108, 101] := by rw [ByteArray.toList_eq]; exact hb
     have q1 : (tk.f1.toList == ([109, 111, 100, 117, 108, 101] : List UInt8)) = false := beq_eq_false_iff_ne.2 q0
     have q2 : (tk.f1.toList == (⟨#[109, 111, 100, 117, 108, 101]⟩ : ByteArray).toList) = false := by rw [ByteArray.toList_eq ⟨#[109, 111, 100, 117, 108, 101]⟩]; exact q1
     have q3 : (tk.f1.toList != ([109, 111, 100, 117, 108, 101] : List UInt8)) = true := by simp [bne, q1]
     have q4 : (tk.f1.toList != (⟨#[109, 111, 100, 117, 108, 101]⟩ : ByteArray).toList) = true := by simp only [bne, q2]; rfl
     clear q0
     have HB := aS hb
     clear hb
     go_wp2
     go_region_with (go_at_call 33; refine (HLK.out _ (HS.out.ps.below (by repeat (first | exact bR _ _ | apply below_drew | apply pw_below_drewN)))).mono ?_; rintro e w5 ⟨rfl, hb⟩)
     all_goals
      have hb0 : Below w2.heap.size w2 w5 := by first | exact hb | exact (below_drew (bR _ _)).trans hb | exact (pw_below_drewN (bR _ _) _).trans hb
      have HA5 := aS (HA.out.below HS.out.lt hb0)
      have HS5 := aS (HS.out.below hb0)
      clear c1 c2 hb hb0
      have y6 := blk_cell HS5.out.blk 2
      have f6 := blk_frozen HS5.out.blk 2
      have hlt := HLT.out
      go_wp2
      have hat : At bp (a' + 1) no w5 (w5.setCell ⟨bp, 2, none⟩ (.int .i64 ((a' : Int) + 1))) := at_set (b := a' + 1) (bR _ _)
      have HA7 := aS (HA5.out.then_ hat)
      have HS7 := aS (HS5.out.next hat hlt)
      clear y6 f6 hat
      generalize w5.setCell ⟨bp, 2, none⟩ (.int .i64 ((a' : Int) + 1)) = w7 at *
      go_roundg (l.length - (a' + 1))
      case measure => have := HK.out; omega
      case rel => exact ⟨a' + 1, ⟨rfl⟩, ⟨by rw [HQ.out, mod_other HLT.out (by rw [HTK.out]; exact HB.out)]⟩, HA7, HS7⟩
   ·have d1 : decide ((a' : Int) < l.length) = false := decide_eq_false (by omega)
    have d2 : decide (a' < l.length) = false := decide_eq_false hlt
    have HLT := aS hlt
    clear hlt
    go_wp2
    go_region
    all_goals
     have HA5 := aS (HA.out.below HS.out.lt (show Below w2.heap.size w2 w2.drew from below_drew (bR _ _)))
     clear c1 c2
     go_wp2
     exact bodyPost_end (results_none rfl _ _ _) rfl ⟨rfl, a', HS.out.room, by rw [HQ.out, mod_len0 HLT.out], HA5.out⟩
 ·have e2 : (e == 2) = false := beq_eq_false_iff_ne.2 h2
  have HQ1 := aS (show nextP e (l.drop t) = toMod (l.drop t) by unfold nextP; rw [if_neg h2])
  clear h2
  go_wp2
  have HA2 := HA1
  have HS2 := HS1
  clear HS1 HA1 z0 HZ1
  go_loopg [] (l.length - t) (fun kq w' => ∃ a' : Nat, Aside0 (kq = l.length - a') ∧ Aside0 (nextP e (l.drop t) = toMod (l.drop a')) ∧ Aside0 (At bp a' no w w') ∧ Aside0 (St G bp s A c l begun fv a' w'))
  case atStart => exact ⟨t, ⟨rfl⟩, HQ1, HA2, HS2⟩
  case round =>
   clear HA2 HS2
   obtain ⟨a', HK, HQ, HA, HS⟩ := hrel
   generalize wr = w2 at *
   have c1 := blk_cell HS.out.blk 1
   have c2 := blk_cell HS.out.blk 2
   have hsm := HS.out.small
   by_cases hlt : a' < l.length
   ·have d1 : decide ((a' : Int) < l.length) = true := decide_eq_true (by omega)
    have d2 : decide (a' < l.length) = true := decide_eq_true hlt
    have HLT := aS hlt
    clear hlt
    obtain ⟨tk, htk⟩ : ∃ tk, looks (l.drop a') = tk := ⟨_, rfl⟩
    have HTK := aS htk
    have HLK := aS (look_at bp s A c l begun fv a' tk htk)
    clear htk
    by_cases hb : txt tk = kModule
    ·have q0 : tk.f1.toList = [109, 111, 100, 117, 108, 101] := by rw [ByteArray.toList_eq]; exact hb
     have q1 : (tk.f1.toList == ([109, 111, 100, 117, 108, 101] : List UInt8)) = true := by rw [q0]; rfl
     have q2 : (tk.f1.toList == (⟨#[109, 111, 100, 117, 108, 101]⟩ : ByteArray).toList) = true := by rw [q0, ByteArray.toList_eq]; rfl
     have q3 : (tk.f1.toList != ([109, 111, 100, 117, 108, 101] : List UInt8)) = false := by simp [bne, q1]
     have q4 : (tk.f1.toList != (⟨#[109, 111, 100, 117, 108, 101]⟩ : ByteArray).toList) = false := by simp only [bne, q2]; rfl
     clear q0
     have HB := aS hb
     clear hb
     go_wp2
     go_region_with (go_at_call 33; refine (HLK.out _ (HS.out.ps.below (by repeat (first | exact bR _ _ | apply below_drew | apply pw_below_drewN)))).mono ?_; rintro e w5 ⟨rfl, hb⟩)
     all_goals
      have hb0 : Below w2.heap.size w2 w5 := by first | exact hb | exact (below_drew (bR _ _)).trans hb | exact (pw_below_drewN (bR _ _) _).trans hb
      have HA5 := aS (HA.out.below HS.out.lt hb0)
      clear c1 c2 hb hb0
      go_wp2
      exact bodyPost_end (results_none rfl _ _ _) rfl ⟨rfl, a', HS.out.room, by rw [HQ.out, mod_word (by rw [HTK.out]; exact HB.out)], HA5.out⟩
    ·have q0 : tk.f1.toList ≠ [109, 111, 100, 117, 108, 101] := by rw [ByteArray.toList_eq]; exact hb
     have q1 : (tk.f1.toList == ([109, 111, 100, 117, 108, 101] : List UInt8)) = false := beq_eq_false_iff_ne.2 q0
     have q2 : (tk.f1.toList == (⟨#[109, 111, 100, 117, 108, 101]⟩ : ByteArray).toList) = false := by rw [ByteArray.toList_eq ⟨#[109, 111, 100, 117, 108, 101]⟩]; exact q1
     have q3 : (tk.f1.toList != ([109, 111, 100, 117, 108, 101] : List UInt8)) = true := by simp [bne, q1]
     have q4 : (tk.f1.toList != (⟨#[109, 111, 100, 117, 108, 101]⟩ : ByteArray).toList) = true := by simp only [bne, q2]; rfl
     clear q0
     have HB := aS hb
     clear hb
     go_wp2
     go_region_with (go_at_call 33; refine (HLK.out _ (HS.out.ps.below (by repeat (first | exact bR _ _ | apply below_drew | apply pw_below_drewN)))).mono ?_; rintro e w5 ⟨rfl, hb⟩)
     all_goals
      have hb0 : Below w2.heap.size w2 w5 := by first | exact hb | exact (below_drew (bR _ _)).trans hb | exact (pw_below_drewN (bR _ _) _).trans hb
      have HA5 := aS (HA.out.below HS.out.lt hb0)
      have HS5 := aS (HS.out.below hb0)
      clear c1 c2 hb hb0
      have y6 := blk_cell HS5.out.blk 2
      have f6 := blk_frozen HS5.out.blk 2
      have hlt := HLT.out
      go_wp2
      have hat : At bp (a' + 1) no w5 (w5.setCell ⟨bp, 2, none⟩ (.int .i64 ((a' : Int) + 1))) := at_set (b := a' + 1) (bR _ _)
      have HA7 := aS (HA5.out.then_ hat)
      have HS7 := aS (HS5.out.next hat hlt)
      clear y6 f6 hat
      generalize w5.setCell ⟨bp, 2, none⟩ (.int .i64 ((a' : Int) + 1)) = w7 at *
      go_roundg (l.length - (a' + 1))
      case measure => have := HK.out; omega
      case rel => exact ⟨a' + 1, ⟨rfl⟩, ⟨by rw [HQ.out, mod_other HLT.out (by rw [HTK.out]; exact HB.out)]⟩, HA7, HS7⟩
   ·have d1 : decide ((a' : Int) < l.length) = false := decide_eq_false (by omega)
    have d2 : decide (a' < l.length) = false := decide_eq_false hlt
    have HLT := aS hlt
    clear hlt
    go_wp2
    go_region
    all_goals
     have HA5 := aS (HA.out.below HS.out.lt (show Below w2.heap.size w2 w2.drew from below_drew (bR _ _)))
     clear c1 c2
     go_wp2
     exact bodyPost_end (results_none rfl _ _ _) rfl ⟨rfl, a', HS.out.room, by rw [HQ.out, mod_len0 HLT.out], HA5.out⟩
def Rs {α : Type} (d : Kd α) : Prop := ∀ (w : World) (b b2 : Nat) (ok : Nat → Prop) (x : α) (cs : List Value), (∀ k, ok k → b2 ≤ k) → d.M w b ok x cs → d.M w b2 ok x cs
theorem R_raise {α : Type} {d : Kd α} (hd : Rs d) {e : Nat} {w : World} {b b2 : Nat} {ok : Nat → Prop} {v : Value} {xs : List α} (h : d.R e w b ok v xs) (hb : ∀ k, ok k → b2 ≤ k) : d.R e w b2 ok v xs := by
 obtain ⟨h1, inner, ⟨h2, h3⟩, h4⟩ := h
 refine ⟨h1, inner, ⟨h2, ?_⟩, h4.imp_ (fun p c hp => hd _ _ _ _ _ _ (fun k hk => hb k hk.1) hp)⟩
 rcases h3 with h3 | ⟨g, cap, cur, rfl, hg, r⟩
 ·exact .inl h3
 ·exact .inr ⟨g, cap, cur, rfl, hb g (h1 g rfl), r⟩
theorem rs_scalar {α : Type} (enc : α → Value) (h1 : ∀ x, (enc x).oneCell' = true) : Rs (Kd.scalar enc h1) := fun _ _ _ _ _ _ _ h => h
theorem rs_slice {α : Type} (e : Nat) {d : Kd α} (hd : Rs d) : Rs (Kd.slice e d) := fun w b b2 ok x cs hb h => by
 obtain ⟨v, rfl, hr⟩ := h; exact ⟨v, rfl, R_raise hd hr hb⟩
theorem rs_pair {α β : Type} {a : Kd α} {b : Kd β} (ha : Rs a) (hb : Rs b) : Rs (Kd.pair a b) := fun w c c2 ok x cs hk h => by
 obtain ⟨c0, c1, rfl, h0, h1⟩ := h; exact ⟨c0, c1, rfl, ha _ _ _ _ _ _ hk h0, hb _ _ _ _ _ _ hk h1⟩
theorem rs_iso {α β : Type} {d : Kd α} (f : β → α) (hd : Rs d) : Rs (Kd.iso d f) := fun w b b2 ok x cs hk h => hd _ _ _ _ _ _ hk h
theorem rs_int (k : IntKind) : Rs (Kd.int k) := rs_scalar _ _
theorem rs_bool : Rs Kd.bool := rs_scalar _ _
theorem rs_string : Rs Kd.string := rs_scalar _ _
theorem rs_dim : Rs k51 := rs_iso _ (rs_pair rs_string (rs_int _))
theorem rs_upto : ∀ n, Rs (Kd.upto F56 11 [56] n)
 | 0 => fun _ _ _ _ _ _ _ h => h
 | n + 1 => rs_iso _ (rs_pair (rs_int _) (rs_pair rs_dim (rs_pair rs_dim (rs_pair rs_dim (rs_pair rs_dim (rs_pair rs_string (rs_slice _ (rs_upto n))))))))
theorem rs_expr : Rs k56 := fun w b b2 ok x cs hk h => by
 obtain ⟨n, hn⟩ := h; exact ⟨n, rs_upto n _ _ _ _ _ _ hk hn⟩
theorem rs_bind : Rs k79 := rs_iso _ (rs_pair rs_string rs_expr)
theorem rs_item : Rs k58 := rs_iso _ (rs_pair (rs_int _) (rs_pair rs_string (rs_pair rs_dim (rs_pair rs_dim (rs_pair rs_string (rs_pair (rs_slice _ rs_dim) (rs_pair (rs_slice _ rs_bind) (rs_pair rs_expr (rs_pair rs_expr rs_expr)))))))))
theorem rs_port : Rs k64 := rs_iso _ (rs_pair rs_bool (rs_pair rs_string rs_dim))
theorem rs_module : Rs k47 := rs_iso _ (rs_pair rs_string (rs_pair (rs_slice _ rs_string) (rs_pair (rs_slice _ rs_port) (rs_slice _ rs_item))))
theorem rs_fault : Rs k35 := rs_iso _ (rs_pair (rs_int _) (rs_pair (rs_int _) (rs_pair (rs_int _) (rs_int _))))
abbrev mdV (m : Mdl) (B1 : Option Addr) (q1 : Nat) (B2 : Option Addr) (q2 : Nat) (B3 : Option Addr) (q3 : Nat) : Array Value := #[.string m.f0, .slice B1 m.f1.length q1, .slice B2 m.f2.length q2, .slice B3 m.f3.length q3]
def PsOk (G bp : Nat) (s : ByteArray) (A : Option Addr) (c : Nat) (l : List Tok) (n : Nat) (F : Nat → Prop) (fs : List Wr) (k a mb tb : Nat) (w1 w2 : World) : Prop :=
 (∃ (m : Mdl) (fs2 : List Wr) (b : Nat) (B1 : Option Addr) (q1 : Nat) (B2 : Option Addr) (q2 : Nat) (B3 : Option Addr) (q3 : Nat) (F2 O : Nat → Prop), moduleP k n fs (l.drop a) = some (.done m (l.drop b) fs2) ∧ b ≤ l.length ∧ w2.heap[mb]? = some (.cells (mdV m B1 q1 B2 q2 B3 q3) 47 (0, 0)) ∧ w2.heap[tb]? = some (.cells #[.bool true] 4 (0, 0)) ∧ Par G bp s A c l ((begunM n (l.drop a) : Nat) : Int) F2 fs2 b w2 ∧ (∀ k, F2 k → F k ∨ w1.heap.size ≤ k) ∧
  StrR O w2 (.slice B1 m.f1.length q1) m.f1 ∧ PrtR O w2 (.slice B2 m.f2.length q2) m.f2 ∧ ItmR O w2 (.slice B3 m.f3.length q3) m.f3 ∧ (∀ k, O k → w1.heap.size ≤ k ∧ k < w2.heap.size ∧ ¬ F2 k)) ∨
 ∃ (fs2 : List Wr) (t : List Tok) (b : Nat) (F2 : Nat → Prop), moduleP k n fs (l.drop a) = some (.stop fs2 t) ∧ b ≤ l.length ∧ w2.heap[tb]? = some (.cells #[.bool false] 4 (0, 0)) ∧ Par G bp s A c l ((begunM n (l.drop a) : Nat) : Int) F2 fs2 b w2 ∧ (∀ k, F2 k → F k ∨ w1.heap.size ≤ k)
def PsBad (s : ByteArray) (l : List Tok) (n : Nat) (fs : List Wr) (k a : Nat) (w1 w2 : World) (er : Int) (b a2 : Nat) (begun2 : Int) (fl2 : List Flt) (F2 : Nat → Prop) : Prop :=
 ∃ fs2, moduleP k n fs (l.drop a) = some (.bad er (l.drop b) fs2) ∧ fl2 = fs2.map (fltW s) ∧ begun2 = ((begunM n (l.drop a) : Nat) : Int)
abbrev PX (bp mb tb : Nat) (F : Nat → Prop) : Nat → Prop := fun k => k = bp ∨ F k ∨ k = mb ∨ k = tb
theorem Par.turn2 {G bp : Nat} {s : ByteArray} {A : Option Addr} {c : Nat} {l : List Tok} {begun : Int} {F : Nat → Prop} {fs : List Wr} {a : Nat} {w w' : World} {Y : Nat → Prop} (h : Par G bp s A c l begun F fs a w) (hm : Mv Y w w') (hY : ∀ k, Y k → k ≠ bp ∧ G ≤ k) (hF : ∀ k, F k → ¬ Y k) : Par G bp s A c l begun F fs a w' := by
 obtain ⟨⟨B, q, h1, h2⟩, h3⟩ := h
 exact ⟨⟨B, q, h1.move hm (fun k hk => (hY k hk).2) h1.room (hm.obj h1.blk (fun q => (hY bp q).1 rfl)), Mv.row h2 hm hF⟩, fun k hk => by have := h3 k hk; have h4 := hm.size; exact ⟨this.1, this.2.1, by omega⟩⟩
def P1T (G bp : Nat) (s : ByteArray) (A : Option Addr) (c : Nat) (l : List Tok) (n : Nat) (F : Nat → Prop) (fs : List Wr) (k a mb tb : Nat) (w : World) (e : Ending) (w2 : World) : Prop :=
 (e = .returned (.tuple #[]) ∧ PsOk G bp s A c l n F fs k a mb tb w w2 ∧ Mv (PX bp mb tb F) w w2) ∨
  ∃ (er : Int) (b a2 : Nat) (begun2 : Int) (B2 : Option Addr) (q2 : Nat) (fl2 : List Flt) (F2 : Nat → Prop), e = gaveUp er b ∧ b ≤ l.length ∧ St G bp s A c l begun2 (.slice B2 fl2.length q2) a2 w2 ∧ FltR F2 w2 (.slice B2 fl2.length q2) fl2 ∧ (∀ k, F2 k → F k ∨ w.heap.size ≤ k) ∧ fl2.length ≤ 1000 ∧ Mv (PX bp mb tb F) w w2 ∧ PsBad s l n fs k a w w2 er b a2 begun2 fl2 F2
set_option maxHeartbeats 8000000 in
set_option maxRecDepth 100000 in
theorem parse1_calls (G bp : Nat) (s : ByteArray) (A : Option Addr) (c : Nat) (l : List Tok) (n : Nat) (F : Nat → Prop) (k a : Nat) (fs : List Wr) (w : World) (hpar : Par G bp s A c l n F fs a w) (hn : n ≤ 16) (hov : overP fs = false) (hFs : Fs l fs (l.drop a)) (ha : a < l.length) (pb mb tb : Nat) (hne : mb ≠ bp ∧ tb ≠ bp ∧ mb ≠ tb ∧ G ≤ mb ∧ G ≤ tb ∧ ¬ F mb ∧ ¬ F tb)
  (hp : w.heap[pb]? = some (.cells #[.pointer (some ⟨bp, 0, none⟩)] 65 (0, 0))) (hm : w.heap[mb]? = some (.cells #[.string ⟨#[]⟩, NS, NS, NS] 47 (0, 0))) (ht : w.heap[tb]? = some (.cells #[.bool false] 4 (0, 0))) (res : MR Mdl) (hres : moduleP k n fs (l.drop a) = some res) :
  Calls Tryd.prog 23 #[.pointer (some ⟨pb, 0, none⟩), .pointer (some ⟨mb, 0, none⟩), .pointer (some ⟨tb, 0, none⟩)] w (P1T G bp s A c l n F fs k a mb tb w) := by
 have hne0 : l.drop a ≠ [] := fun e => by have := congrArg List.length e; simp at this; omega
 have HFM := aS (module_fs l k n fs (l.drop a) res hne0 (List.drop_suffix a l) hFs hov hres)
 have HPAR := aS hpar
 have HNE := aS hne
 have HM := aS hm
 have HT := aS ht
 have HQ := aS hres
 have HN := aS hn
 have HOV := aS hov
 have p0 := cH hp 0
 have hmx : ∀ k, (k = bp ∨ F k) → PX bp mb tb F k := fun k hk => hk.imp id .inl
 have HMX := aS hmx
 have HNM := aS (show ¬ (mb = bp ∨ F mb) from fun q => q.elim hne.1 hne.2.2.2.2.2.1)
 have HNT := aS (show ¬ (tb = bp ∨ F tb) from fun q => q.elim hne.2.1 hne.2.2.2.2.2.2)
 have HLT := aS (show mb < w.heap.size ∧ tb < w.heap.size from ⟨(Array.getElem?_eq_some_iff.1 hm).1, (Array.getElem?_eq_some_iff.1 ht).1⟩)
 clear hne0 hpar hne hm ht hres hn hov hFs ha hp hmx
 go_enter Tryd.func23, Tryd.ntmps23
 cases res with
 | bad er t fs2 =>
  go_wp2_with (go_at_call 24; refine (module_tells G bp s A c l n F k a fs w HPAR.out HN.out HOV.out _ HQ.out).mono ?_; rintro e w2 ⟨hmv, F2, hF2, b, a2, rfl, hb, rfl, hp2⟩)
  obtain ⟨⟨B2, q2, hst, hfl⟩, hfar⟩ := hp2
  exact And.intro rfl (.inr ⟨er, b, a2, _, B2, q2, _, F2, rfl, hb, hst, hfl, hF2, by rw [List.length_map]; have := HFM.out.1.few; omega, hmv.mono HMX.out, fs2, HQ.out, rfl, rfl⟩)
 | stop fs2 t =>
  go_wp2_with (go_at_call 24; refine (module_tells G bp s A c l n F k a fs w HPAR.out HN.out HOV.out _ HQ.out).mono ?_; rintro e w2 ⟨hmv, F2, hF2, b, nm, B1, n1, q1, B2, n2, q2, hb, rfl, hp2⟩; have hm2 := hmv.obj HM.out HNM.out; have ht2 := hmv.obj HT.out HNT.out; have HMV := aS hmv; have HF2 := aS hF2; have HP2 := aS hp2; have HB := aS hb; have HM2 := aS hm2; have HT2 := aS ht2; have m0 := cH hm2 0; have m1 := cH hm2 1; have m2 := cH hm2 2; have m3 := cH hm2 3; have g0 := blk_frozen hm2 0; have g1 := blk_frozen hm2 1; have g2 := blk_frozen hm2 2; have g3 := blk_frozen hm2 3; have t0 := cH ht2 0; have h0 := blk_frozen ht2 0; have hn1 := HNE.out.2.2.1; have hn2 : tb ≠ mb := fun q => hn1 q.symm; clear hmv hF2 hp2 hb hm2 ht2)
  have ht5 : (((((w2.setCell ⟨mb, 0, none⟩ (.string nm)).setCell ⟨mb, 1, none⟩ (.slice B1 n1 q1)).setCell ⟨mb, 2, none⟩ (.slice B2 n2 q2)).setCell ⟨mb, 3, none⟩ (.slice none 0 0)).setCell ⟨tb, 0, none⟩ (.bool false)).heap[tb]? = some (.cells #[.bool false] 4 (0, 0)) := set_new ((Below.heap_setCell _ ⟨mb, 3, none⟩ _ _ hn2).trans ((Below.heap_setCell _ ⟨mb, 2, none⟩ _ _ hn2).trans ((Below.heap_setCell _ ⟨mb, 1, none⟩ _ _ hn2).trans ((Below.heap_setCell _ ⟨mb, 0, none⟩ _ _ hn2).trans HT2.out)))) (by kernel_rfl)
  have hm5 : Mv (fun k => k = mb ∨ k = tb) w2 (((((w2.setCell ⟨mb, 0, none⟩ (.string nm)).setCell ⟨mb, 1, none⟩ (.slice B1 n1 q1)).setCell ⟨mb, 2, none⟩ (.slice B2 n2 q2)).setCell ⟨mb, 3, none⟩ (.slice none 0 0)).setCell ⟨tb, 0, none⟩ (.bool false)) := (((((Mv.refl (fun k => k = mb ∨ k = tb) w2).set ⟨mb, 0, none⟩ (.inl (.inl rfl)) _).set ⟨mb, 1, none⟩ (.inl (.inl rfl)) _).set ⟨mb, 2, none⟩ (.inl (.inl rfl)) _).set ⟨mb, 3, none⟩ (.inl (.inl rfl)) _).set ⟨tb, 0, none⟩ (.inl (.inr rfl)) _
  exact bodyPost_end (results_none rfl _ _ _) rfl (.inl ⟨rfl, .inr ⟨fs2, t, b, F2, HQ.out, HB.out, ht5, HP2.out.turn2 hm5 (fun k q => by rcases q with q | q; rw [q]; exact ⟨HNE.out.1, HNE.out.2.2.2.1⟩; rw [q]; exact ⟨HNE.out.2.1, HNE.out.2.2.2.2.1⟩) (fun k hk q => by rcases HF2.out k hk with h5 | h5; rcases q with q | q; rw [q] at h5; exact HNM.out (.inr h5); rw [q] at h5; exact HNT.out (.inr h5); have := HLT.out; omega), HF2.out⟩, (HMV.out.mono HMX.out).then_ hm5 (fun i hi => .inl (hi.elim (fun q => .inr (.inr (.inl q))) (fun q => .inr (.inr (.inr q)))))⟩)
 | done m r fs2 =>
  go_wp2_with (go_at_call 24; refine (module_tells G bp s A c l n F k a fs w HPAR.out HN.out HOV.out _ HQ.out).mono ?_; rintro e w2 ⟨hmv, F2, hF2, b, B1, q1, B2, q2, B3, q3, O, rfl, hb, rfl, hp2, hr1, hr2, hr3, hO⟩; have hm2 := hmv.obj HM.out HNM.out; have ht2 := hmv.obj HT.out HNT.out; have HMV := aS hmv; have HF2 := aS hF2; have HP2 := aS hp2; have HB := aS hb; have HM2 := aS hm2; have HT2 := aS ht2; have HR1 := aS hr1; have HR2 := aS hr2; have HR3 := aS hr3; have HO := aS hO; have m0 := cH hm2 0; have m1 := cH hm2 1; have m2 := cH hm2 2; have m3 := cH hm2 3; have g0 := blk_frozen hm2 0; have g1 := blk_frozen hm2 1; have g2 := blk_frozen hm2 2; have g3 := blk_frozen hm2 3; have t0 := cH ht2 0; have h0 := blk_frozen ht2 0; have hn1 := HNE.out.2.2.1; have hn2 : tb ≠ mb := fun q => hn1 q.symm; clear hmv hF2 hp2 hb hm2 ht2 hr1 hr2 hr3 hO)
  have ht5 : (((((w2.setCell ⟨mb, 0, none⟩ (.string m.f0)).setCell ⟨mb, 1, none⟩ (.slice B1 m.f1.length q1)).setCell ⟨mb, 2, none⟩ (.slice B2 m.f2.length q2)).setCell ⟨mb, 3, none⟩ (.slice B3 m.f3.length q3)).setCell ⟨tb, 0, none⟩ (.bool true)).heap[tb]? = some (.cells #[.bool true] 4 (0, 0)) := set_new ((Below.heap_setCell _ ⟨mb, 3, none⟩ _ _ hn2).trans ((Below.heap_setCell _ ⟨mb, 2, none⟩ _ _ hn2).trans ((Below.heap_setCell _ ⟨mb, 1, none⟩ _ _ hn2).trans ((Below.heap_setCell _ ⟨mb, 0, none⟩ _ _ hn2).trans HT2.out)))) (by kernel_rfl)
  have hm6 : (((((w2.setCell ⟨mb, 0, none⟩ (.string m.f0)).setCell ⟨mb, 1, none⟩ (.slice B1 m.f1.length q1)).setCell ⟨mb, 2, none⟩ (.slice B2 m.f2.length q2)).setCell ⟨mb, 3, none⟩ (.slice B3 m.f3.length q3)).setCell ⟨tb, 0, none⟩ (.bool true)).heap[mb]? = some (.cells (mdV m B1 q1 B2 q2 B3 q3) 47 (0, 0)) := (Below.heap_setCell _ ⟨tb, 0, none⟩ _ _ hn1).trans (fill4 HM2.out)
  have hm5 : Mv (fun k => k = mb ∨ k = tb) w2 (((((w2.setCell ⟨mb, 0, none⟩ (.string m.f0)).setCell ⟨mb, 1, none⟩ (.slice B1 m.f1.length q1)).setCell ⟨mb, 2, none⟩ (.slice B2 m.f2.length q2)).setCell ⟨mb, 3, none⟩ (.slice B3 m.f3.length q3)).setCell ⟨tb, 0, none⟩ (.bool true)) := (((((Mv.refl (fun k => k = mb ∨ k = tb) w2).set ⟨mb, 0, none⟩ (.inl (.inl rfl)) _).set ⟨mb, 1, none⟩ (.inl (.inl rfl)) _).set ⟨mb, 2, none⟩ (.inl (.inl rfl)) _).set ⟨mb, 3, none⟩ (.inl (.inl rfl)) _).set ⟨tb, 0, none⟩ (.inl (.inr rfl)) _
  have hno : ∀ k, O k → ¬ (k = mb ∨ k = tb) := fun k hk q => by have h1 := (HO.out k hk).1; have h2 := HLT.out; omega
  exact bodyPost_end (results_none rfl _ _ _) rfl (.inl ⟨rfl, .inl ⟨m, fs2, b, B1, q1, B2, q2, B3, q3, F2, O, HQ.out, HB.out, hm6, ht5, HP2.out.turn2 hm5 (fun k q => by rcases q with q | q; rw [q]; exact ⟨HNE.out.1, HNE.out.2.2.2.1⟩; rw [q]; exact ⟨HNE.out.2.1, HNE.out.2.2.2.2.1⟩) (fun k hk q => by rcases HF2.out k hk with h5 | h5; rcases q with q | q; rw [q] at h5; exact HNM.out (.inr h5); rw [q] at h5; exact HNT.out (.inr h5); have := HLT.out; omega), HF2.out, Mv.row HR1.out hm5 hno, Mv.row HR2.out hm5 hno, Mv.row HR3.out hm5 hno, fun k hk => by have h1 := HO.out k hk; have h2 := hm5.size; exact ⟨h1.1, by omega, h1.2.2⟩⟩, (HMV.out.mono HMX.out).then_ hm5 (fun i hi => .inl (hi.elim (fun q => .inr (.inr (.inl q))) (fun q => .inr (.inr (.inr q)))))⟩)
end Go.Proofs.YtenogedclignmaaDoor.Q
namespace Go.Proofs.YtenogedclignmaaDoor.Q
open Go.NumPure Go.RowKit Go.Proofs.YtenogedclignmaaDoorW.PrintWords Go.Proofs.YtenogedclignmaaDoorW.PrintLast Go.Proofs.YtenogedclignmaaDoorW.PrintMore
def Tab (w : World) : Prop := LTab w ∧ KTab w
theorem tab_below {w w1 : World} (h : Tab w) (hb : Below w.heap.size w w1) : Tab w1 := ⟨ltab_below h.1 hb, h.2.below hb⟩
theorem lxA_count : ∀ (n : Nat) (l : List UInt8) (a : Nat), l.length ≤ n → (LexP.lxA l a).1.length ≤ l.length
 | 0, l, a, h => by
  have : l = [] := List.eq_nil_of_length_eq_zero (by omega)
  subst this; simp [LexP.lxA_nil]
 | n + 1, l, a, h => by
  by_cases hl : l = []
  ·subst hl; simp [LexP.lxA_nil]
  ·rw [LexP.lxA_step l a hl]
   cases hst : LexP.step l with
   | err => simp
   | skip m =>
    have h1 := LexP.step_skip hst
    have := lxA_count n (l.drop m) (a + m) (by rw [List.length_drop]; omega)
    rw [List.length_drop] at this
    simp only; omega
   | tok k t v =>
    have h1 := LexP.step_tok hst
    have h2 := h1.1.length_le
    have := lxA_count n (l.drop t.length) (a + t.length) (by rw [List.length_drop]; omega)
    rw [List.length_drop] at this
    simp only [List.length_cons]; omega
theorem lxA_short : ∀ (n : Nat) (l : List UInt8) (a : Nat), l.length ≤ n → ∀ t ∈ (LexP.lxA l a).1, t.text.length ≤ l.length
 | 0, l, a, h => by
  have : l = [] := List.eq_nil_of_length_eq_zero (by omega)
  subst this; simp [LexP.lxA_nil]
 | n + 1, l, a, h => by
  by_cases hl : l = []
  ·subst hl; simp [LexP.lxA_nil]
  ·rw [LexP.lxA_step l a hl]
   cases hst : LexP.step l with
   | err => simp
   | skip m =>
    have h1 := LexP.step_skip hst
    intro t ht
    have := lxA_short n (l.drop m) (a + m) (by rw [List.length_drop]; omega) t ht
    rw [List.length_drop] at this; omega
   | tok k t v =>
    have h1 := LexP.step_tok hst
    have h2 := h1.1.length_le
    intro u hu
    rcases List.mem_cons.1 hu with rfl | hu
    ·exact h2
    ·have := lxA_short n (l.drop t.length) (a + t.length) (by rw [List.length_drop]; omega) u hu
     rw [List.length_drop] at this; omega
theorem lex_fits {s : ByteArray} {l : List Tok} {e p : Int} (h : lex_Lex.f s = some (l, e, p)) : l.length ≤ 20000 ∧ shortL l := by
 unfold lex_Lex.f at h
 by_cases hs : 20000 < s.size
 ·rw [if_pos hs] at h
  simp only [Option.some.injEq, Prod.mk.injEq] at h
  obtain ⟨rfl, _, _⟩ := h
  exact ⟨by simp, fun t ht => by cases ht⟩
 ·rw [if_neg hs] at h
  have h2 := Option.some.inj h
  unfold lexF at h2
  have hz0 : s.data.toList.length = s.size := by simp
  have hz : s.data.toList.length ≤ 20000 := by omega
  cases hq : (LexP.lxA s.data.toList 0).2 with
  | some p => rw [hq] at h2; simp only [Prod.mk.injEq] at h2; obtain ⟨rfl, _, _⟩ := h2; exact ⟨by simp, fun t ht => by cases ht⟩
  | none =>
   rw [hq] at h2
   simp only [List.nil_append, Prod.mk.injEq] at h2
   obtain ⟨rfl, _, _⟩ := h2
   refine ⟨?_, fun t ht => ?_⟩
   ·rw [List.length_map]; exact Nat.le_trans (lxA_count _ _ _ (Nat.le_refl _)) hz
   ·obtain ⟨u, hu, rfl⟩ := List.mem_map.1 ht
    have := lxA_short _ _ _ (Nat.le_refl _) u hu
    show u.text.toArray.size ≤ _
    rw [List.size_toArray]; omega
theorem lex_Lex.calls (a0 : ByteArray) (r1 : List (S37)) (r2 : Int) (r3 : Int) (w : World) (hG : Tab w) (h : lex_Lex.f a0 = some (r1, r2, r3)) :
  Calls Tryd.prog 12 #[.string a0] w fun e w' => ∃ v0_ : Value, e = .returned (.tuple #[v0_, .int .i64 r2, .int .i64 r3]) ∧ Kd.R k37 37 w' w.heap.size (fun _ => True) v0_ r1 ∧ Below w.heap.size w w' := lex_Lex.callsL a0 r1 r2 r3 w hG.1 h
end Go.Proofs.YtenogedclignmaaDoor.Q
