/-
  HELPER.
-/
import Derived.Test.YtenogedclignmaaDoorPlKA
import Derived.Test.YtenogedclignmaaDoorPlK10
set_option linter.unusedVariables false
set_option linter.unusedSimpArgs false
namespace Go.Proofs.YtenogedclignmaaDoor.Q
open Go.RowKit Go.Proofs.YtenogedclignmaaDoorW.PrintWords Go.Proofs.YtenogedclignmaaDoorW.PrintLast Go.Proofs.YtenogedclignmaaDoorW.PrintMore
theorem suf_one {r r1 : List Tok} {t : Tok} {base : List Tok} (h : t :: r1 <:+ base) : r1 <:+ base := (List.suffix_cons t r1).trans h
theorem fine_list {α : Type} (stop : List UInt8) (one : List Tok → Option (PR α)) (h1 : ∀ r, FineO r 1 (one r)) : ∀ (m : Nat) (acc : List α) (r : List Tok), FineO r 1 (listP stop one m acc r) := by
 intro m
 induction m with
 | zero => intro acc r; unfold listP; exact fineO (by have := fine_fail (α := List α) (e := 2) (.inr rfl) (List.suffix_refl r) 1; exact this)
 | succ m ih =>
  intro acc r
  unfold listP
  refine fine_and (h1 r) (fun v r1 _ hs hl => ?_)
  cases ht : takeP [44] r1 with
  | some r2 =>
   obtain ⟨t, rfl, _⟩ := take_some ht
   simp only [List.length_cons] at hl
   exact (ih (acc ++ [v]) r2).up (c := 0) (suf_one (r := r) hs) (by omega) (by omega)
  | none =>
   have h2 := (fine_need stop r1).up (b2 := 1) (c := 1) hs hl (by omega)
   dsimp only
   cases hn : needP stop r1 with
   | ok u r2 => rw [hn] at h2; exact fineO (by exact h2)
   | bad e t => rw [hn] at h2; exact fineO (by exact h2)
theorem tot_list {α : Type} (stop : List UInt8) (one : List Tok → Option (PR α)) (n : Nat) (h0 : ∀ r, FineO r 1 (one r)) (h1 : ∀ r, r.length ≤ n → one r ≠ none) : ∀ (m : Nat) (acc : List α) (r : List Tok), r.length ≤ n → listP stop one m acc r ≠ none := by
 intro m
 induction m with
 | zero => intro acc r _; unfold listP; intro h; cases h
 | succ m ih =>
  intro acc r hr
  unfold listP
  refine and_some (h1 r hr) (fun v r1 hq => ?_)
  have hl := (h0 r _ hq).2
  cases ht : takeP [44] r1 with
  | some r2 =>
   obtain ⟨t, rfl, _⟩ := take_some ht
   simp only [List.length_cons] at hl
   exact ih (acc ++ [v]) r2 (by omega)
  | none =>
   dsimp only
   cases hn : needP stop r1 with
   | ok u r2 => intro h; cases h
   | bad e t => intro h; cases h
theorem step_need {β : Type} (x : List UInt8) {r : List Tok} {f : Unit → List Tok → Option (PR β)} (hf : ∀ u r1, FineO r1 0 (f u r1)) : FineO r 1 (andThen (some (needP x r)) f) :=
 fine_and (fineO (fine_need x r)) (fun v r1 _ h1 h2 => (hf v r1).up h1 h2 (by omega))
theorem step_need0 {β : Type} (x : List UInt8) {r : List Tok} {f : Unit → List Tok → Option (PR β)} (hf : ∀ u r1, FineO r1 0 (f u r1)) : FineO r 0 (andThen (some (needP x r)) f) := (step_need x hf).up (c := 0) (List.suffix_refl r) (Nat.le_refl _) (by omega)
theorem step_dim0 {β : Type} {r : List Tok} {f : Dm → List Tok → Option (PR β)} (hf : ∀ u r1, FineO r1 0 (f u r1)) : FineO r 0 (andThen (some (dimP r)) f) :=
 fine_and (fineO (fine_dim r)) (fun v r1 _ h1 h2 => (hf v r1).up h1 h2 (by omega))
theorem step_expr0 {β : Type} (k : Nat) {r : List Tok} {f : Ex → List Tok → Option (PR β)} (hf : ∀ u r1, FineO r1 0 (f u r1)) : FineO r 0 (andThen (exprP k r) f) :=
 fine_and (fine_expr k r) (fun v r1 _ h1 h2 => (hf v r1).up h1 h2 (by omega))
theorem step_ok0 {β : Type} {r : List Tok} (v : β) : FineO r 0 (some (.ok v r)) := fineO ⟨List.suffix_refl r, Nat.le_refl _⟩
theorem fine_bind (k : Nat) (r : List Tok) : FineO r 1 (bindP k r) := by
 unfold bindP
 exact fine_and (fineO (fine_name r)) (fun v r1 _ h1 h2 => (step_need0 [58] fun u r2 => step_expr0 k fun e r3 => step_ok0 _).up h1 h2 (by omega))
theorem fine_args (r : List Tok) : FineO r 0 (argsP r) := by
 unfold argsP
 cases ht : takeP [60] r with
 | none => exact step_ok0 _
 | some r1 =>
  obtain ⟨t, rfl, _⟩ := take_some ht
  exact (fine_list [62] _ (fun r => fineO (fine_dim r)) 4 [] r1).up (c := 1) (List.suffix_cons t r1) (by simp) (by omega)
theorem fine_binds (k : Nat) (r : List Tok) : FineO r 0 (bindsP k r) := by
 unfold bindsP
 cases ht : takeP [41] r with
 | none => exact (fine_list [41] _ (fine_bind k) 16 [] r).up (c := 0) (List.suffix_refl r) (by omega) (by omega)
 | some r1 =>
  obtain ⟨t, rfl, _⟩ := take_some ht
  exact fineO ⟨List.suffix_cons t r1, by simp⟩
theorem fine_parts (k : Nat) (x : Itm) (r : List Tok) : FineO r 1 (partsP k x r) := by
 unfold partsP
 by_cases h1 : x.f0 = 1
 ·rw [if_pos h1]; exact step_need [58] fun u r1 => step_dim0 fun d r2 => step_need0 [61] fun u r3 => step_expr0 k fun e r4 => step_ok0 _
 ·rw [if_neg h1]
  by_cases h2 : x.f0 = 2
  ·rw [if_pos h2]; exact step_need [58] fun u r1 => step_dim0 fun d r2 => step_need0 [61] fun u r3 => step_dim0 fun e r4 => step_ok0 _
  ·rw [if_neg h2]
   have hg : FineO r 1 (getsP k x r) := step_need [61] fun u r1 => step_expr0 k fun e r2 => step_ok0 _
   by_cases h3 : x.f0 = 3
   ·rw [if_pos h3]; exact hg
   ·rw [if_neg h3]
    by_cases h4 : x.f0 = 4
    ·rw [if_pos h4]; exact hg
    ·rw [if_neg h4]
     by_cases h5 : x.f0 = 5
     ·rw [if_pos h5]; exact step_need [91] fun u r1 => step_dim0 fun v r2 => step_need0 [93] fun u r3 => step_need0 [58] fun u r4 => step_dim0 fun d r5 => step_ok0 _
     ·rw [if_neg h5]
      by_cases h6 : x.f0 = 6
      ·rw [if_pos h6]; exact step_need [91] fun u r1 => step_expr0 k fun a r2 => step_need0 [93] fun u r3 => step_need0 [61] fun u r4 => step_expr0 k fun e r5 => step_need0 kIf fun u r6 => step_expr0 k fun i r7 => step_ok0 _
      ·rw [if_neg h6]
       by_cases h7 : x.f0 = 7
       ·rw [if_pos h7]
        unfold instP
        exact fine_and (fineO (fine_name r)) (fun md r1 _ g1 g2 => (fine_and (fine_args r1) (fun as_ r2 _ g3 g4 => (step_need0 [40] fun u r3 => fine_and (fine_binds k r3) (fun bs r4 _ g5 g6 => (step_ok0 _).up g5 g6 (by omega))).up g3 g4 (by omega))).up (b := 0) g1 g2 (by omega))
       ·rw [if_neg h7]; exact step_need [58] fun u r1 => step_expr0 k fun e r2 => step_ok0 _
theorem kept_ne {r : List Tok} (h : keptV (txt (looks r)) ≠ 0) : ∃ t r1, r = t :: r1 := by
 cases r with
 | nil => exact absurd rfl h
 | cons t r1 => exact ⟨t, r1, rfl⟩
theorem fine_item (k begun : Nat) (r : List Tok) : FineO r 1 (itemP k begun r) := by
 unfold itemP
 by_cases h : keptV (txt (looks r)) = 0
 ·rw [if_pos h]; exact fineO (fine_fail (.inl rfl) (List.suffix_refl r) _)
 ·rw [if_neg h]
  obtain ⟨t, r0, rfl⟩ := kept_ne h
  by_cases h64 : 64 ≤ begun
  ·rw [if_pos h64]; exact fineO (fine_fail (.inr rfl) (List.suffix_refl _) _)
  ·rw [if_neg h64]
   have hq : FineO r0 0 (andThen (some (nameP r0)) fun nm r1 => andThen (partsP k { zItm with f0 := keptV (txt (looks (t :: r0))), f1 := nm } r1) fun x r2 => andThen (some (needP [59] r2)) fun _ r3 => some (.ok x r3)) :=
    fine_and (fineO (fine_name r0)) (fun nm r1 _ g1 g2 => (fine_and (fine_parts k _ r1) (fun x r2 _ g3 g4 => (step_need0 [59] fun u r3 => step_ok0 _).up (b2 := 0) g3 g4 (by omega))).up g1 g2 (by omega))
   exact hq.up (c := 1) (List.suffix_cons t r0) (by simp) (by omega)
theorem tot_bind (k : Nat) (r : List Tok) (h : 12 * r.length ≤ k + 10) : bindP k r ≠ none := by
 unfold bindP
 refine and_some (fun h => by cases h) (fun nm r1 h1 => and_some (fun h => by cases h) (fun u r2 h2 => and_some (tot_expr k r2 ?_) (fun e r3 _ h => by cases h)))
 have := name_len h1
 have := need_len h2
 omega
theorem tot_after {β : Type} (k : Nat) (r : List Tok) (h : 12 * r.length + 10 ≤ k) {f : Ex → List Tok → Option (PR β)} (hf : ∀ v r1, r1.length ≤ r.length → f v r1 ≠ none) : andThen (exprP k r) f ≠ none :=
 and_some (tot_expr k r h) (fun v r1 hq => hf v r1 (by have := (fine_expr k r _ hq).2; omega))
theorem tot_need {β : Type} (x : List UInt8) (r : List Tok) {f : Unit → List Tok → Option (PR β)} (hf : ∀ v r1, r1.length + 1 ≤ r.length → f v r1 ≠ none) : andThen (some (needP x r)) f ≠ none :=
 and_some (fun h => by cases h) (fun v r1 hq => hf v r1 (need_len hq))
theorem tot_dim {β : Type} (r : List Tok) {f : Dm → List Tok → Option (PR β)} (hf : ∀ v r1, r1.length + 1 ≤ r.length → f v r1 ≠ none) : andThen (some (dimP r)) f ≠ none :=
 and_some (fun h => by cases h) (fun v r1 hq => hf v r1 (dim_len hq))
theorem ok_some {β : Type} {x : PR β} : some x ≠ none := fun h => by cases h
theorem tot_parts (k : Nat) (x : Itm) (r : List Tok) (h : 12 * r.length ≤ k + 2) : partsP k x r ≠ none := by
 unfold partsP
 by_cases h1 : x.f0 = 1
 ·rw [if_pos h1]; exact tot_need [58] r fun u r1 g1 => tot_dim r1 fun d r2 g2 => tot_need [61] r2 fun u r3 g3 => tot_after k r3 (by omega) fun e r4 _ => ok_some
 ·rw [if_neg h1]
  by_cases h2 : x.f0 = 2
  ·rw [if_pos h2]; exact tot_need [58] r fun u r1 g1 => tot_dim r1 fun d r2 g2 => tot_need [61] r2 fun u r3 g3 => tot_dim r3 fun e r4 _ => ok_some
  ·rw [if_neg h2]
   have hg : getsP k x r ≠ none := tot_need [61] r fun u r1 g1 => tot_after k r1 (by omega) fun e r2 _ => ok_some
   by_cases h3 : x.f0 = 3
   ·rw [if_pos h3]; exact hg
   ·rw [if_neg h3]
    by_cases h4 : x.f0 = 4
    ·rw [if_pos h4]; exact hg
    ·rw [if_neg h4]
     by_cases h5 : x.f0 = 5
     ·rw [if_pos h5]; exact tot_need [91] r fun u r1 g1 => tot_dim r1 fun v r2 g2 => tot_need [93] r2 fun u r3 g3 => tot_need [58] r3 fun u r4 g4 => tot_dim r4 fun d r5 _ => ok_some
     ·rw [if_neg h5]
      by_cases h6 : x.f0 = 6
      ·rw [if_pos h6]; exact tot_need [91] r fun u r1 g1 => tot_after k r1 (by omega) fun a r2 g2 => tot_need [93] r2 fun u r3 g3 => tot_need [61] r3 fun u r4 g4 => tot_after k r4 (by omega) fun e r5 g5 => tot_need kIf r5 fun u r6 g6 => tot_after k r6 (by omega) fun i r7 _ => ok_some
      ·rw [if_neg h6]
       by_cases h7 : x.f0 = 7
       ·rw [if_pos h7]
        unfold instP
        refine and_some (fun h => by cases h) (fun md r1 g1 => and_some ?_ (fun as_ r2 g2 => tot_need [40] r2 fun u r3 g3 => and_some ?_ (fun bs r4 _ => ok_some)))
        ·unfold argsP
         cases ht : takeP [60] r1 with
         | none => exact ok_some
         | some r2 => exact tot_list [62] _ r2.length (fun r => fineO (fine_dim r)) (fun r _ => ok_some) 4 [] r2 (Nat.le_refl _)
        ·have := name_len g1
         have := (fine_args r1 _ g2).2
         unfold bindsP
         cases ht : takeP [41] r3 with
         | some r4 => exact ok_some
         | none => exact tot_list [41] _ r3.length (fine_bind k) (fun r hr => tot_bind k r (by omega)) 16 [] r3 (Nat.le_refl _)
       ·rw [if_neg h7]; exact tot_need [58] r fun u r1 g1 => tot_after k r1 (by omega) fun e r2 _ => ok_some
theorem tot_item (k begun : Nat) (r : List Tok) (h : 12 * r.length ≤ k + 10) : itemP k begun r ≠ none := by
 unfold itemP
 by_cases h0 : keptV (txt (looks r)) = 0
 ·rw [if_pos h0]; exact ok_some
 ·rw [if_neg h0]
  by_cases h64 : 64 ≤ begun
  ·rw [if_pos h64]; exact ok_some
  ·rw [if_neg h64]
   refine and_some ok_some (fun nm r1 g1 => and_some (tot_parts k _ r1 ?_) (fun x r2 _ => tot_need [59] r2 fun u r3 _ => ok_some))
   have := name_len g1
   rw [List.length_tail] at this
   omega
end Go.Proofs.YtenogedclignmaaDoor.Q
namespace Go.Proofs.YtenogedclignmaaDoor.Q
open Go.RowKit Go.Maps Go.WideMaps Go.Proofs.YtenogedclignmaaDoorW.PrintWords Go.Proofs.YtenogedclignmaaDoorW.PrintLast Go.Proofs.YtenogedclignmaaDoorW.PrintMore
set_option maxHeartbeats 8000000 in
set_option maxRecDepth 100000 in
theorem list_tells (G bp : Nat) (s : ByteArray) (A : Option Addr) (c : Nat) (l : List Tok) (begun : Int) (fv : Value) {α : Type} (F : Nat) (cap : Array Value) (stop : ByteArray) (one : List Tok → Option (PR α)) (I : List α → World → Prop) (X : Nat → Prop) (hX : ∀ k, X k → G ≤ k) (a : Nat) (w : World) (m : Nat) (acc : List α)
  (hF : ∀ w : World, (callFunc F cap).run Tryd.prog w = .ok (.enter F cap) w)
  (hone : ∀ (acc' : List α) (b : Nat) (w1 : World) (res1 : PR α), acc'.length ≤ acc.length + m → At bp b X w w1 → St G bp s A c l begun fv b w1 → I acc' w1 → one (l.drop b) = some res1 → Calls Tryd.prog F cap w1 (Tells bp l X w1 (fun v x w' => x = .tuple #[] ∧ I (acc' ++ [v]) w') res1))
  (hI : ∀ acc b w1 w2, I acc w1 → At bp b no w1 w2 → I acc w2)
  (hm : m ≤ 1000) (h : St G bp s A c l begun fv a w) (hacc : I acc w) (res : PR (List α)) (hres : listP stop.data.toList one m acc (l.drop a) = some res) :
  Calls Tryd.prog 37 #[.pointer (some ⟨bp, 0, none⟩), .string stop, .int .i64 m, .func (.func F) #[] cap] w (Tells bp l X w (fun vs x w' => x = .tuple #[] ∧ I vs w') res) := by
 have HS := aS h
 have HON := aS hone
 have HI := aS hI
 have HAC := aS hacc
 have HQ := aS hres
 have HXX := aS hX
 have HA := aS (h.same (X := X))
 clear h hone hI hacc hres hX
 go_enter Tryd.func37, Tryd.ntmps37
 go_wp2_with (fail)
 go_loopg [8] m (fun kq v8 w' => ∃ (n a' : Nat) (ac : List α), v8 = .int .i64 (n : Int) ∧ n + kq = m ∧ Aside0 (listP stop.data.toList one kq ac (l.drop a') = some res) ∧ Aside0 (At bp a' X w w') ∧ Aside0 (St G bp s A c l begun fv a' w') ∧ Aside0 (I ac w') ∧ Aside0 (ac.length = acc.length + n))
 case atStart => exact ⟨0, a, acc, rfl, by omega, HQ, HA, HS, HAC, ⟨rfl⟩⟩
 case round =>
  clear HQ HA HS HAC
  obtain ⟨n, a', ac, rfl, hk, HQ1, HA1, HS1, HAC, HLN⟩ := hrel
  generalize wr = w1 at *
  have HKM := aS hk
  have hn : n ≤ 1000 := by omega
  cases gk with
  | zero =>
   have e1 : ((n : Int) == (m : Int)) = true := by rw [beq_iff_eq]; omega
   have y2 := blk_cell HS1.out.blk 2
   clear hk
   go_wp2_with (go_at_call 34; refine (fail_calls bp s A c l begun fv a' _ HS1.out.ps 2 a' HS1.out.room).mono ?_; rintro e w6 ⟨rfl, hw6⟩; rw [hw6])
   have qq := HQ1.out
   rw [listP, fail_at] at qq
   exact And.intro rfl (tells_bad qq rfl HS1.out.room HS1.out.room HA1.out)
  | succ j =>
   have e1 : ((n : Int) == (m : Int)) = false := by rw [beq_eq_false_iff_ne]; omega
   clear hk
   have HQ2 := aS (show (andThen (one (l.drop a')) fun v r1 => match takeP [44] r1 with
    | some r2 => listP stop.data.toList one j (ac ++ [v]) r2
    | none => match needP stop.data.toList r1 with
     | .ok _ r2 => some (.ok (ac ++ [v]) r2)
     | .bad e t => some (.bad e t)) = some res from HQ1.out)
   obtain ⟨y1, hy1⟩ := and_get HQ2.out
   have HY1 := aS hy1
   clear hy1
   go_upto_region 5 with (refine calls_tells (HON.out ac a' w1 y1 (by have h1 := HLN.out; have h2 := HKM.out; omega) HA1.out HS1.out HAC.out HY1.out) ?_ (fun er t b a2 w' hq ht hb ha hat => And.intro rfl (tells_bad (and_bad HQ2.out HY1.out hq) ht hb ha (HA1.out.trans hat))); rintro v r b vv w2 hq rfl hb ⟨rfl, hi⟩ hat; have qq := and_ok HQ2.out HY1.out hq; have HQ3 := aS qq; clear qq; have HA2 := aS (HA1.out.trans hat); have HS2 := aS (HS1.out.step hat HXX.out hb); have HAC2 := aS hi; clear hq hb hi hat)
   go_upto_region 6 with (go_at_call 36; refine calls_take (take_tells ⟨#[44]⟩ HS2.out) ?_ ?_; rotate_left; rintro w3 hq hat; have hb := HS2.out.room; have qq := HQ3.out; rw [hq] at qq; dsimp only at qq; have HQ4 := aS qq; clear qq; have HA3 := aS (HA2.out.then_ hat); have HS3 := aS (HS2.out.next hat hb); have HAC3 := aS (HI.out _ _ _ _ HAC2.out hat); clear hq hb hat; rotate_left; rintro w3 hq hb hat; have qq := HQ3.out; rw [hq] at qq; dsimp only at qq; have HQ4 := aS qq; clear qq; have HA3 := aS (HA2.out.then_ hat); have HS3 := aS (HS2.out.next hat hb); have HAC3 := aS (HI.out _ _ _ _ HAC2.out hat); clear hq hb hat)
   ·go_roundg j
    case measure => omega
    case rel => exact ⟨n + 1, b + 1, ac ++ [v], rfl, by have := HKM.out; omega, HQ4, HA3, HS3, HAC3, ⟨by rw [List.length_append]; have := HLN.out; simp only [List.length_singleton]; omega⟩⟩
   ·go_wp2_with (go_at_call 39; refine calls_tells (need_tells stop HS3.out) ?_ (fun er t b a2 w' hq ht hb ha hat => And.intro rfl (tells_bad (show some (PR.bad er t) = some res by have qq := HQ4.out; rw [hq] at qq; exact qq) ht hb ha (HA3.out.then_ hat))); rintro u r b4 vv w4 hq rfl hb rfl hat; have HR := aS (show some (PR.ok (ac ++ [v]) (l.drop b4)) = some res by have qq := HQ4.out; rw [hq] at qq; exact qq); have HA4 := aS (HA3.out.then_ hat); have HB4 := aS hb; have HAC4 := aS (HI.out _ _ _ _ HAC3.out hat); clear hq hb hat)
    exact bodyPost_ret (results_none rfl _ _ _) rfl (tells_ok HR.out rfl HB4.out ⟨rfl, HAC4.out⟩ HA4.out)
theorem list_len {α : Type} (stop : List UInt8) (one : List Tok → Option (PR α)) : ∀ (m : Nat) (acc : List α) (r : List Tok) (vs : List α) (r' : List Tok), listP stop one m acc r = some (.ok vs r') → vs.length ≤ acc.length + m := by
 intro m
 induction m with
 | zero =>
  intro acc r vs r' h
  unfold listP at h
  cases r with
  | nil => cases h
  | cons t r => cases h
 | succ m ih =>
  intro acc r vs r' h
  unfold listP at h
  cases hq : one r with
  | none => rw [hq] at h; cases h
  | some y =>
   rw [hq] at h
   cases y with
   | bad e t => cases h
   | ok v r1 =>
    change (match takeP [44] r1 with
     | some r2 => listP stop one m (acc ++ [v]) r2
     | none => match needP stop r1 with
      | .ok _ r2 => some (.ok (acc ++ [v]) r2)
      | .bad e t => some (.bad e t)) = _ at h
    cases ht : takeP [44] r1 with
    | some r2 =>
     rw [ht] at h
     have := ih (acc ++ [v]) r2 vs r' h
     rw [List.length_append] at this
     simp only [List.length_singleton] at this
     omega
    | none =>
     rw [ht] at h
     dsimp only at h
     cases hn : needP stop r1 with
     | bad e t => rw [hn] at h; cases h
     | ok u r2 => rw [hn] at h; cases h; rw [List.length_append]; simp only [List.length_singleton]; omega
def storeW (w : World) (g : Nat) : Nat → List Value → World
 | _, [] => w
 | i, v :: vs => storeW (w.setCell ⟨g, i, none⟩ v) g (i + 1) vs
def putVs (cs : Array Value) : Nat → List Value → Array Value
 | _, [] => cs
 | i, v :: vs => putVs (cs.setIfInBounds i v) (i + 1) vs
theorem storeW_heap {g : Nat} {T : TypeId} {fr : Nat × Nat} : ∀ (vs : List Value) (w : World) (i : Nat) (cs : Array Value), w.heap[g]? = some (.cells cs T fr) → (storeW w g i vs).heap[g]? = some (.cells (putVs cs i vs) T fr)
 | [], _, _, _, h => h
 | v :: vs, w, i, cs, h => storeW_heap vs _ (i + 1) _ (set_heap h)
theorem storeW_new {g : Nat} {T : TypeId} {fr : Nat × Nat} {vs : List Value} {w : World} {i : Nat} {cs ds : Array Value} (h : w.heap[g]? = some (.cells cs T fr)) (he : putVs cs i vs = ds) : (storeW w g i vs).heap[g]? = some (.cells ds T fr) := he ▸ storeW_heap vs w i cs h
theorem storeW_other {g j : Nat} {o : Obj} (hne : j ≠ g) : ∀ (vs : List Value) (w : World) (i : Nat), w.heap[j]? = some o → (storeW w g i vs).heap[j]? = some o
 | [], _, _, h => h
 | v :: vs, w, i, h => storeW_other hne vs _ (i + 1) ((Below.heap_setCell _ ⟨g, i, none⟩ _ _ hne).trans h)
theorem storeW_at {bp b : Nat} {X : Nat → Prop} {w : World} {g : Nat} (hg : w.heap.size ≤ g ∨ X g) (hn : g ≠ bp) : ∀ (vs : List Value) (w1 : World) (i : Nat), At bp b X w w1 → At bp b X w (storeW w1 g i vs)
 | [], _, _, h => h
 | v :: vs, w1, i, h => storeW_at hg hn vs _ (i + 1) (h.own (p := ⟨g, i, none⟩) hg hn v)
theorem storeW_rows {α : Type} {d : Kd α} {e : Nat} {base : Nat} {ok : Nat → Prop} {u : Value} {xs : List α} {g : Nat} (hg : ∀ k, ok k → k ≠ g) : ∀ (vs : List Value) (w : World) (i : Nat), d.R e w base ok u xs → d.R e (storeW w g i vs) base ok u xs
 | [], _, _, h => h
 | v :: vs, w, i, h => storeW_rows hg vs _ (i + 1) (Kd.R_far (p := ⟨g, i, none⟩) h hg v)
theorem R_at {α : Type} {d : Kd α} {e : Nat} {ok : Nat → Prop} {bp b : Nat} {X : Nat → Prop} {w w' : World} {v : Value} {xs : List α} (h : d.R e w 0 ok v xs) (hat : At bp b X w w') (hX : ∀ k, ok k → k ≠ bp ∧ ¬ X k) : d.R e w' 0 ok v xs :=
 Kd.R_step h (fun k hk hlt => hat.rest k hlt (hX k hk).1 (hX k hk).2)
abbrev itV (x : Itm) (v5 v6 v7 v8 v9 : Value) : Array Value := #[.int .i64 x.f0, .string x.f1, .string x.f2.f0, .int .i64 x.f2.f1, .string x.f3.f0, .int .i64 x.f3.f1, .string x.f4, v5, v6,
 .int .i64 x.f7.f0, .string x.f7.f1.f0, .int .i64 x.f7.f1.f1, .string x.f7.f2.f0, .int .i64 x.f7.f2.f1, .string x.f7.f3.f0, .int .i64 x.f7.f3.f1, .string x.f7.f4.f0, .int .i64 x.f7.f4.f1, .string x.f7.f5, v7,
 .int .i64 x.f8.f0, .string x.f8.f1.f0, .int .i64 x.f8.f1.f1, .string x.f8.f2.f0, .int .i64 x.f8.f2.f1, .string x.f8.f3.f0, .int .i64 x.f8.f3.f1, .string x.f8.f4.f0, .int .i64 x.f8.f4.f1, .string x.f8.f5, v8,
 .int .i64 x.f9.f0, .string x.f9.f1.f0, .int .i64 x.f9.f1.f1, .string x.f9.f2.f0, .int .i64 x.f9.f2.f1, .string x.f9.f3.f0, .int .i64 x.f9.f3.f1, .string x.f9.f4.f0, .int .i64 x.f9.f4.f1, .string x.f9.f5, v9]
def okI (x : Itm) : Prop := x.f5.length ≤ 4 ∧ x.f6.length ≤ 16 ∧ (∀ b ∈ x.f6, okE 8 b.f1) ∧ okE 8 x.f7 ∧ okE 8 x.f8 ∧ okE 8 x.f9
structure ItR (ok : Nat → Prop) (w : World) (x : Itm) (v5 v6 v7 v8 v9 : Value) : Prop where
 r5 : k51.R 51 w 0 ok v5 x.f5
 r6 : k79.R 79 w 0 ok v6 x.f6
 r7 : ExR ok w v7 x.f7.f6
 r8 : ExR ok w v8 x.f8.f6
 r9 : ExR ok w v9 x.f9.f6
theorem ItR.map {ok ok' : Nat → Prop} {w w' : World} {x : Itm} {v5 v6 v7 v8 v9 : Value} (h : ItR ok w x v5 v6 v7 v8 v9) (hm : ∀ {α : Type} {d : Kd α} {e : Nat} {v : Value} {xs : List α}, d.R e w 0 ok v xs → d.R e w' 0 ok' v xs) : ItR ok' w' x v5 v6 v7 v8 v9 := ⟨hm h.r5, hm h.r6, hm h.r7, hm h.r8, hm h.r9⟩
def ItemAt (ok : Nat → Prop) (xb : Nat) (x : Itm) (w : World) : Prop := ∃ v5 v6 v7 v8 v9, w.heap[xb]? = some (.cells (itV x v5 v6 v7 v8 v9) 58 (0, 0)) ∧ ItR ok w x v5 v6 v7 v8 v9 ∧ okI x
abbrev it0 (k : Int) (nm : ByteArray) : Itm := { zItm with f0 := k, f1 := nm }
abbrev NS : Value := .slice none 0 0
theorem ok_zEx : okE 8 zEx := nil_ok _ _ _ _ _ _
def encI (ok : Nat → Prop) (xb : Nat) (x : Itm) (v : Value) (w : World) : Prop := v = .tuple #[] ∧ ItemAt ok xb x w
end Go.Proofs.YtenogedclignmaaDoor.Q
