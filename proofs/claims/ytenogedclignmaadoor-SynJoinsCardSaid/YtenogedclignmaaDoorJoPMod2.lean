/-
  HELPER.
-/
import Derived.Test.YtenogedclignmaaDoorJoPCutP
set_option linter.unusedVariables false
set_option linter.unusedSimpArgs false
namespace Go.Proofs.YtenogedclignmaaDoor.Q
open Go.RowKit Go.Proofs.YtenogedclignmaaDoorW.PrintWords Go.Proofs.YtenogedclignmaaDoorW.PrintLast Go.Proofs.YtenogedclignmaaDoorW.PrintMore
theorem mono_items : ∀ (k n : Nat) (out : List Itm) (fs : List Wr) (r : List Tok), Le (itemsP k n out fs r) (itemsP (k + 1) n out fs r) := by
 intro k
 induction k with
 | zero => intro n out fs r y h; unfold itemsP at h; cases h
 | succ k ih =>
  intro n out fs r
  rw [itemsP, itemsP]
  cases ht : takeP [125] r with
  | some r1 => exact Le.rfl'
  | none =>
   dsimp only
   by_cases hn : r = []
   ·rw [if_pos hn, if_pos hn]; exact Le.rfl'
   ·rw [if_neg hn, if_neg hn]
    have hi := mono_item k n r
    cases hq : itemP k n r with
    | none => intro y h; cases h
    | some x =>
     rw [hi x hq]
     cases x with
     | ok x r1 => exact ih _ _ _ _
     | bad e t =>
      dsimp only
      by_cases ho : overP (fs ++ [(e, t)]) = true
      ·rw [if_pos ho, if_pos ho]; exact Le.rfl'
      ·rw [if_neg ho, if_neg ho]; exact ih _ _ _ _
theorem mono_module (k n : Nat) (fs : List Wr) (r : List Tok) : Le (moduleP k n fs r) (moduleP (k + 1) n fs r) := by
 unfold moduleP
 by_cases h0 : txt (looks r) ≠ kModule
 ·rw [if_pos h0, if_pos h0]; exact Le.rfl'
 rw [if_neg h0, if_neg h0]
 by_cases h1 : 16 ≤ n
 ·rw [if_pos h1, if_pos h1]; exact Le.rfl'
 rw [if_neg h1, if_neg h1]
 cases hq : frontP r.tail with
 | none => exact Le.rfl'
 | some x =>
  cases x with
  | bad e t => exact Le.rfl'
  | ok v r1 =>
   obtain ⟨nm, ps, qs⟩ := v
   dsimp only
   have hi := mono_items k 0 [] fs r1
   cases hz : itemsP k 0 [] fs r1 with
   | none => intro y h; cases h
   | some z => rw [hi z hz]; exact Le.rfl'
theorem mono_modules : ∀ (k n : Nat) (ms : List Mdl) (fs : List Wr) (r : List Tok), Le (modulesP k n ms fs r) (modulesP (k + 1) n ms fs r) := by
 intro k
 induction k with
 | zero => intro n ms fs r y h; unfold modulesP at h; cases h
 | succ k ih =>
  intro n ms fs r
  rw [modulesP, modulesP]
  by_cases h0 : r = [] ∨ overP fs = true
  ·rw [if_pos h0, if_pos h0]; exact Le.rfl'
  ·rw [if_neg h0, if_neg h0]
   have hi := mono_module k n fs r
   cases hz : moduleP k n fs r with
   | none => intro y h; cases h
   | some z =>
    rw [hi z hz]
    cases z with
    | done m r1 fs1 => exact ih _ _ _ _
    | stop fs1 r1 => exact ih _ _ _ _
    | bad e t fs1 =>
     dsimp only
     by_cases ho : overP (fs1 ++ [(e, t)]) = true
     ·rw [if_pos ho, if_pos ho]; exact ih _ _ _ _
     ·rw [if_neg ho, if_neg ho]; exact ih _ _ _ _
theorem mono_modules' {k k2 : Nat} (h : k ≤ k2) (n : Nat) (ms : List Mdl) (fs : List Wr) (r : List Tok) : Le (modulesP k n ms fs r) (modulesP k2 n ms fs r) := by
 obtain ⟨d, rfl⟩ : ∃ d, k2 = k + d := ⟨k2 - k, by omega⟩
 clear h
 induction d with
 | zero => exact Le.rfl'
 | succ d ih => exact fun y hy => mono_modules (k + d) n ms fs r y (ih y hy)
inductive FR : List Wr → List Wr → Prop where
 | nil : FR [] []
 | cons {f g : Wr} {fs gs : List Wr} (h : f.1 = g.1 ∧ J 0 0 f.2 g.2) (hs : FR fs gs) : FR (f :: fs) (g :: gs)
theorem fr_add {fs gs : List Wr} (h : FR fs gs) {e : Int} {t t2 : List Tok} (hj : J 0 0 t t2) : FR (fs ++ [(e, t)]) (gs ++ [(e, t2)]) := by
 induction h with
 | nil => exact .cons ⟨rfl, hj⟩ .nil
 | cons h1 _ ih => exact .cons h1 ih
theorem fr_len {fs gs : List Wr} (h : FR fs gs) : fs.length = gs.length := by
 induction h with
 | nil => rfl
 | cons _ _ ih => simp [ih]
theorem fr_last {fs gs : List Wr} (h : FR fs gs) : fs.getLast?.map Prod.fst = gs.getLast?.map Prod.fst := by
 induction h with
 | nil => rfl
 | @cons f g fs gs h1 h2 ih =>
  cases h2 with
  | nil => simp [h1.1]
  | cons h3 h4 => simpa [List.getLast?_cons_cons] using ih
theorem fr_over {fs gs : List Wr} (h : FR fs gs) : overP fs = overP gs := by
 unfold overP
 have h2 := fr_last h
 rw [fr_len h]
 cases hf : fs.getLast? with
 | none =>
  rw [hf] at h2
  cases hg : gs.getLast? with
  | none => rfl
  | some g => rw [hg] at h2; simp at h2
 | some f =>
  rw [hf] at h2
  cases hg : gs.getLast? with
  | none => rw [hg] at h2; simp at h2
  | some g => rw [hg] at h2; simp at h2; simp only [h2]
def SM {α : Type} (x z : Option (MR α)) : Prop := ∀ y, x = some y → match y with
 | .done v r fs => ∃ r2 gs, z = some (.done v r2 gs) ∧ J 0 0 r r2 ∧ FR fs gs
 | .stop fs r => ∃ gs r2, z = some (.stop gs r2) ∧ J 0 0 r r2 ∧ FR fs gs
 | .bad e r fs => ∃ r2 gs, z = some (.bad e r2 gs) ∧ J 0 0 r r2 ∧ FR fs gs
theorem j_skip : ∀ {a b : List Tok}, J 0 0 a b → J 0 0 (skipP a) (skipP b) := by
 intro a
 induction a with
 | nil =>
  intro b h
  rcases j_cases h (Nat.zero_le _) with ⟨_, rfl⟩ | ⟨t, a1, t2, b1, h1, _, _, _⟩
  ·exact h
  ·cases h1
 | cons t a1 ih =>
  intro b h
  rcases j_cases h (Nat.zero_le _) with ⟨h1, _⟩ | ⟨t', a1', t2, b1, h1, rfl, hs, hj⟩
  ·cases h1
  ·cases h1
   have ht : txt t = txt t2 := j_txt h (Nat.zero_le _)
   unfold skipP
   rw [← ht]
   by_cases c : txt t = [125]
   ·rw [if_pos c, if_pos c]; exact h
   rw [if_neg c, if_neg c]
   by_cases c2 : txt t = [59]
   ·rw [if_pos c2, if_pos c2]; exact hj
   rw [if_neg c2, if_neg c2]; exact ih hj
theorem j_while : ∀ {a b : List Tok}, J 0 0 a b → J 0 0 (a.dropWhile fun x => decide (txt x ≠ kModule)) (b.dropWhile fun x => decide (txt x ≠ kModule)) := by
 intro a
 induction a with
 | nil =>
  intro b h
  rcases j_cases h (Nat.zero_le _) with ⟨_, rfl⟩ | ⟨t, a1, t2, b1, h1, _, _, _⟩
  ·exact h
  ·cases h1
 | cons t a1 ih =>
  intro b h
  rcases j_cases h (Nat.zero_le _) with ⟨h1, _⟩ | ⟨t', a1', t2, b1, h1, rfl, hs, hj⟩
  ·cases h1
  ·cases h1
   have ht : txt t = txt t2 := j_txt h (Nat.zero_le _)
   rw [List.dropWhile_cons, List.dropWhile_cons, ← ht]
   by_cases c : decide (txt t ≠ kModule) = true
   ·rw [if_pos c, if_pos c]; exact ih hj
   ·rw [if_neg c, if_neg c]; exact h
theorem j_next {e : Int} {a b : List Tok} (h : J 0 0 a b) : J 0 0 (nextP e a) (nextP e b) := by
 unfold nextP
 by_cases c : e = 2
 ·rw [if_pos c, if_pos c]; exact j_while (j_tail h (Nat.zero_le _))
 ·rw [if_neg c, if_neg c]; exact j_while h
theorem j_begunP {n : Nat} {a b : List Tok} (h : J 0 0 a b) : begunP n a = begunP n b := by unfold begunP; rw [j_txt h (Nat.zero_le _)]
theorem j_begunM {n : Nat} {a b : List Tok} (h : J 0 0 a b) : begunM n a = begunM n b := by unfold begunM; rw [j_txt h (Nat.zero_le _)]
theorem j_nil {a b : List Tok} (h : J 0 0 a b) : a = [] ↔ b = [] := by
 rcases j_cases h (Nat.zero_le _) with ⟨rfl, rfl⟩ | ⟨t, a1, t2, b1, rfl, rfl, _, _⟩
 ·exact Iff.rfl
 ·exact ⟨fun h => (List.cons_ne_nil _ _ h).elim, fun h => (List.cons_ne_nil _ _ h).elim⟩
theorem sp_items : ∀ (k n : Nat) (out : List Itm) (fs gs : List Wr) (a b : List Tok), J 0 0 a b → FR fs gs → SM (itemsP k n out fs a) (itemsP k n out gs b) := by
 intro k
 induction k with
 | zero => intro n out fs gs a b _ _ y h; unfold itemsP at h; cases h
 | succ k ih =>
  intro n out fs gs a b h hf
  rw [itemsP, itemsP]
  rcases j_take h (Nat.zero_le _) [125] with ⟨h1, h2⟩ | ⟨a1, b1, h1, h2, h3, _⟩
  ·rw [h1, h2]
   dsimp only
   by_cases hn : a = []
   ·rw [if_pos hn, if_pos ((j_nil h).1 hn)]
    subst hn
    intro y hy; cases hy
    exact ⟨[], gs, rfl, by rw [(j_nil h).1 rfl] at h; exact h, hf⟩
   ·rw [if_neg hn, if_neg (fun q => hn ((j_nil h).2 q))]
    have hi := s_item k n h
    cases hq : itemP k n a with
    | none => intro y hy; cases hy
    | some x =>
     have hx := hi x hq
     cases x with
     | ok x r1 =>
      obtain ⟨r2, e2, hj⟩ := hx.2 (Nat.zero_le _)
      rw [e2, ← j_begunP h]
      exact ih _ _ _ _ _ _ hj hf
     | bad e t =>
      obtain ⟨t2, e2, hj⟩ := hx rfl
      rw [e2]
      have ha := fr_add hf (e := e) hj
      dsimp only
      rw [← fr_over ha, ← j_begunP h]
      by_cases ho : overP (fs ++ [(e, t)]) = true
      ·rw [if_pos ho, if_pos ho]; intro y hy; cases hy; exact ⟨_, _, rfl, hj, ha⟩
      ·rw [if_neg ho, if_neg ho]; exact ih _ _ _ _ _ _ (j_skip hj) ha
  ·rw [h1, h2]; intro y hy; cases hy; exact ⟨b1, gs, rfl, h3, hf⟩
theorem sp_module (k n : Nat) (fs gs : List Wr) (a b : List Tok) (h : J 0 0 a b) (hf : FR fs gs) : SM (moduleP k n fs a) (moduleP k n gs b) := by
 unfold moduleP
 rw [← j_txt h (Nat.zero_le _)]
 by_cases h0 : txt (looks a) ≠ kModule
 ·rw [if_pos h0, if_pos h0]
  rcases j_cases h (Nat.zero_le _) with ⟨rfl, rfl⟩ | ⟨t, a1, t2, b1, rfl, rfl, _, _⟩
  ·intro y hy; cases hy; exact ⟨_, _, rfl, h, hf⟩
  ·intro y hy; cases hy; exact ⟨_, _, rfl, h, hf⟩
 rw [if_neg h0, if_neg h0]
 by_cases h1 : 16 ≤ n
 ·rw [if_pos h1, if_pos h1]; intro y hy; cases hy; exact ⟨_, _, rfl, h, hf⟩
 rw [if_neg h1, if_neg h1]
 have hi := s_front (j_tail h (Nat.zero_le _))
 cases hq : frontP a.tail with
 | none => intro y hy; cases hy
 | some x =>
  have hx := hi x hq
  cases x with
  | bad e t =>
   obtain ⟨t2, e2, hj⟩ := hx rfl
   rw [e2]
   intro y hy; cases hy; exact ⟨_, _, rfl, hj, hf⟩
  | ok v r1 =>
   obtain ⟨r2, e2, hj⟩ := hx.2 (Nat.zero_le _)
   rw [e2]
   obtain ⟨nm, ps, qs⟩ := v
   dsimp only
   have hz := sp_items k 0 [] fs gs r1 r2 hj hf
   cases hi : itemsP k 0 [] fs r1 with
   | none => intro y hy; cases hy
   | some z =>
    have hz := hz z hi
    cases z with
    | done xs r3 fs2 => obtain ⟨r4, gs2, e4, h5, h6⟩ := hz; rw [e4]; intro y hy; cases hy; exact ⟨_, _, rfl, h5, h6⟩
    | stop fs2 r3 => obtain ⟨gs2, r4, e4, h5, h6⟩ := hz; rw [e4]; intro y hy; cases hy; exact ⟨_, _, rfl, h5, h6⟩
    | bad e t fs2 => obtain ⟨r4, gs2, e4, h5, h6⟩ := hz; rw [e4]; intro y hy; cases hy; exact ⟨_, _, rfl, h5, h6⟩
theorem sp_modules : ∀ (k n : Nat) (ms : List Mdl) (fs gs : List Wr) (a b : List Tok), J 0 0 a b → FR fs gs → ∀ y, modulesP k n ms fs a = some y → ∃ gs2, modulesP k n ms gs b = some (y.1, gs2) ∧ FR y.2 gs2 := by
 intro k
 induction k with
 | zero => intro n ms fs gs a b _ _ y h; unfold modulesP at h; cases h
 | succ k ih =>
  intro n ms fs gs a b h hf y hy
  rw [modulesP] at hy ⊢
  rw [← fr_over hf, ← j_begunM h]
  by_cases h0 : a = [] ∨ overP fs = true
  ·rw [if_pos h0] at hy
   cases hy
   rw [if_pos (h0.imp (j_nil h).1 id)]
   exact ⟨gs, rfl, hf⟩
  ·rw [if_neg h0] at hy
   rw [if_neg (fun q => h0 (q.imp (j_nil h).2 id))]
   have hm := sp_module k n fs gs a b h hf
   cases hz : moduleP k n fs a with
   | none => rw [hz] at hy; cases hy
   | some z =>
    have hm := hm z hz
    rw [hz] at hy
    cases z with
    | done m r1 fs1 => obtain ⟨r2, gs2, e2, h5, h6⟩ := hm; rw [e2]; exact ih _ _ _ _ _ _ h5 h6 y hy
    | stop fs1 r1 => obtain ⟨gs2, r2, e2, h5, h6⟩ := hm; rw [e2]; exact ih _ _ _ _ _ _ h5 h6 y hy
    | bad e t fs1 =>
     obtain ⟨r2, gs2, e2, h5, h6⟩ := hm
     rw [e2]
     have ha := fr_add h6 (e := e) h5
     dsimp only at hy ⊢
     rw [← fr_over ha]
     by_cases ho : overP (fs1 ++ [(e, t)]) = true
     ·rw [if_pos ho] at hy ⊢; exact ih _ _ _ _ _ _ h5 ha y hy
     ·rw [if_neg ho] at hy ⊢; exact ih _ _ _ _ _ _ (j_next h5) ha y hy
theorem suf_eq {a b L : List Tok} (h1 : a <:+ L) (h2 : b <:+ L) (hl : a.length = b.length) : a = b := (List.suffix_of_suffix_length_le h1 h2 (by omega)).eq_of_length hl
theorem j_mid (w : List Tok) (s : Tok) (r q : List Tok) : J (r.length + 1) ((q.length : Int) - r.length) (w ++ s :: r) (w ++ s :: q) := by
 intro _
 refine ⟨by simp only [List.length_append, List.length_cons]; omega, fun i hi => ?_⟩
 simp only [List.length_append, List.length_cons] at hi
 have e1 : (w ++ s :: r) = (w ++ [s]) ++ r := by simp
 have e2 : (w ++ s :: q) = (w ++ [s]) ++ q := by simp
 have hl : i < (w ++ [s]).length := by simp only [List.length_append, List.length_singleton]; omega
 rw [e1, e2, List.getElem?_append_left (l₂ := r) hl, List.getElem?_append_left (l₂ := q) hl]
theorem any_of {α : Type} {x : List UInt8} {f : List Tok → Option (PR α)} (hs : ∀ (m : Nat) (d : Int) (a b : List Tok), J m d a b → S m d a (f a) (f b)) (hf : ∀ r, FineO r 0 (f r)) {u r1 : List Tok} {v : α}
  (h : (andThen (f (u ++ r1)) fun v r2 => andThen (some (needP x r2)) fun _ r3 => some (.ok v r3)) = some (.ok v r1)) (q : List Tok) : (andThen (f (u ++ q)) fun v r2 => andThen (some (needP x r2)) fun _ r3 => some (.ok v r3)) = some (.ok v q) := by
 obtain ⟨v2, r2, h1, h2⟩ := and_ok' h
 obtain ⟨u2, r3, h3, h4⟩ := and_ok' h2
 cases h4
 have hl := (hf _ _ h1).1
 unfold needP at h3
 cases ht : takeP x r2 with
 | none => rw [ht] at h3; cases r2 <;> cases h3
 | some r4 =>
  rw [ht] at h3
  cases h3
  obtain ⟨s, rfl, hx⟩ := take_some ht
  obtain ⟨w, hw⟩ := hl
  have hu : u = w ++ [s] := by
   have : w ++ [s] ++ r1 = u ++ r1 := by rw [← hw]; simp
   exact (List.append_cancel_right this).symm
  subst hu
  have e1 : w ++ [s] ++ r1 = w ++ s :: r1 := by simp
  have e2 : w ++ [s] ++ q = w ++ s :: q := by simp
  rw [e1] at h1
  rw [e2]
  obtain ⟨r5, h5, h6⟩ := (hs _ _ _ _ (j_mid w s r1 q) _ h1).2 (by simp)
  have h7 := (hf _ _ h5).1
  have h8 := (h6 (by simp)).1
  have h9 : r5 = s :: q := suf_eq h7 (List.suffix_append w (s :: q)) (by simp only [List.length_cons] at h8 ⊢; omega)
  subst h9
  rw [h5]
  show andThen (some (needP x (s :: q))) _ = _
  have : needP x (s :: q) = .ok () q := by unfold needP; show (match (if txt s = x then some q else none) with | some r' => _ | none => _) = _; rw [if_pos hx]
  rw [this]; rfl
theorem item_any {k n : Nat} {u r1 : List Tok} {v : Itm} (h : itemP k n (u ++ r1) = some (.ok v r1)) (q : List Tok) : itemP k n (u ++ q) = some (.ok v q) := by
 have hl := (fine_item k n (u ++ r1) _ h).2
 cases u with
 | nil => exfalso; simp only [List.nil_append] at hl; omega
 | cons t u1 =>
  unfold itemP at h ⊢
  rw [show looks (t :: u1 ++ q) = looks (t :: u1 ++ r1) from rfl]
  by_cases c : keptV (txt (looks (t :: u1 ++ r1))) = 0
  ·rw [if_pos c] at h; cases h
  rw [if_neg c] at h ⊢
  by_cases c2 : 64 ≤ n
  ·rw [if_pos c2] at h; cases h
  rw [if_neg c2] at h ⊢
  generalize keptV (txt (looks (t :: u1 ++ r1))) = kv at h ⊢
  have e : ∀ r : List Tok, (andThen (some (nameP r)) fun nm r1 => andThen (partsP k { zItm with f0 := kv, f1 := nm } r1) fun x r2 => andThen (some (needP [59] r2)) fun _ r3 => some (.ok x r3)) = (andThen (andThen (some (nameP r)) fun nm r1 => partsP k { zItm with f0 := kv, f1 := nm } r1) fun x r2 => andThen (some (needP [59] r2)) fun _ r3 => some (.ok x r3)) := fun r => by cases nameP r <;> rfl
  rw [e] at h ⊢
  refine any_of (x := [59]) (f := fun r => andThen (some (nameP r)) fun nm r1 => partsP k { zItm with f0 := kv, f1 := nm } r1) (fun m d a b hj => s_and (s_name hj) (fun v a1 b1 h1 => s_parts k _ h1)) (fun r => ?_) h q
  exact fine_and (fineO (fine_name r)) (fun v r1 _ h1 h2 => (fine_parts k _ r1).up h1 h2 (by omega))
theorem front_any {u r1 : List Tok} {v : ByteArray × List ByteArray × List Prt} (h : frontP (u ++ r1) = some (.ok v r1)) (q : List Tok) : frontP (u ++ q) = some (.ok v q) := by
 have e : ∀ r : List Tok, frontP r = (andThen (andThen (some (nameP r)) fun nm r1 => andThen (paramsP r1) fun ps r2 => andThen (some (needP [40] r2)) fun _ r3 => andThen (portsP r3) fun qs r4 => some (.ok (nm, ps, qs) r4)) fun x r2 => andThen (some (needP [123] r2)) fun _ r3 => some (.ok x r3)) := fun r => by
  unfold frontP
  cases nameP r with
  | bad e t => rfl
  | ok nm r1 =>
   show (andThen (paramsP r1) _) = andThen (andThen (paramsP r1) _) _
   cases paramsP r1 with
   | none => rfl
   | some y =>
    cases y with
    | bad e t => rfl
    | ok ps r2 =>
     show (andThen (some (needP [40] r2)) _) = andThen (andThen (some (needP [40] r2)) _) _
     cases needP [40] r2 with
     | bad e t => rfl
     | ok u r3 =>
      show (andThen (portsP r3) _) = andThen (andThen (portsP r3) _) _
      cases portsP r3 with
      | none => rfl
      | some y =>
       cases y with
       | bad e t => rfl
       | ok qs r4 => rfl
 rw [e] at h ⊢
 have hp : ∀ (m : Nat) (d : Int) (a b : List Tok), J m d a b → S m d a (paramsP a) (paramsP b) := fun m d a b h => by
  unfold paramsP
  exact s_take [60] h (s_ok h _) (fun a1 b1 h1 => s_list [62] _ (fun a b h => s_name h) 4 [] a1 b1 h1)
 have hq : ∀ (m : Nat) (d : Int) (a b : List Tok), J m d a b → S m d a (portsP a) (portsP b) := fun m d a b h => by
  unfold portsP
  exact s_takeD [41] h (s_list [41] _ (fun a b h => s_port h) 16 [] a b h) (fun a1 b1 h1 => s_ok h1 _)
 refine any_of (x := [123]) (f := fun r => andThen (some (nameP r)) fun nm r1 => andThen (paramsP r1) fun ps r2 => andThen (some (needP [40] r2)) fun _ r3 => andThen (portsP r3) fun qs r4 => some (.ok (nm, ps, qs) r4)) (fun m d a b hj => s_and (s_name hj) (fun nm a1 b1 h1 => s_and (hp _ _ _ _ h1) (fun ps a2 b2 h2 => s_and (s_need [40] h2) (fun u a3 b3 h3 => s_and (hq _ _ _ _ h3) (fun qs a4 b4 h4 => s_ok h4 _))))) (fun r => ?_) h q
 exact step_name0 fun nm r1 => fine_and (fine_params r1) (fun ps r2 _ g3 g4 => (step_need0 [40] fun u r3 => fine_and (fine_ports r3) (fun qs r4 _ g5 g6 => (step_ok0 (r := r4) _).up (b2 := 0) g5 g6 (by omega))).up g3 g4 (by omega))
theorem items_grow : ∀ (k n : Nat) (out : List Itm) (fs : List Wr) (r : List Tok) (y : MR (List Itm)), itemsP k n out fs r = some y → (match y with | .done _ _ gs => fs.length ≤ gs.length | .stop gs _ => fs.length ≤ gs.length | .bad _ _ gs => fs.length ≤ gs.length) := by
 intro k
 induction k with
 | zero => intro n out fs r y h; unfold itemsP at h; cases h
 | succ k ih =>
  intro n out fs r y h
  unfold itemsP at h
  cases ht : takeP [125] r with
  | some r1 => rw [ht] at h; cases h; exact Nat.le_refl _
  | none =>
   rw [ht] at h
   dsimp only at h
   by_cases hn : r = []
   ·rw [if_pos hn] at h; cases h; exact Nat.le_refl _
   ·rw [if_neg hn] at h
    cases hq : itemP k n r with
    | none => rw [hq] at h; cases h
    | some x =>
     rw [hq] at h
     cases x with
     | ok x r1 => exact ih _ _ _ _ _ h
     | bad e t =>
      dsimp only at h
      by_cases ho : overP (fs ++ [(e, t)]) = true
      ·rw [if_pos ho] at h; cases h; simp
      ·rw [if_neg ho] at h
       have := ih _ _ _ _ _ h
       cases y <;> simp only [List.length_append, List.length_singleton] at this ⊢ <;> omega
theorem items_step {k n : Nat} {out xs : List Itm} {r r' : List Tok} (h : itemsP (k + 1) n out [] r = some (.done xs r' [])) :
  (∃ s, r = s :: r' ∧ txt s = [125] ∧ xs = out) ∨ (takeP [125] r = none ∧ r ≠ [] ∧ ∃ x r1, itemP k n r = some (.ok x r1) ∧ itemsP k (begunP n r) (out ++ [x]) [] r1 = some (.done xs r' [])) := by
 unfold itemsP at h
 cases ht : takeP [125] r with
 | some r1 => rw [ht] at h; cases h; obtain ⟨s, rfl, hs⟩ := take_some ht; exact .inl ⟨s, rfl, hs, rfl⟩
 | none =>
  rw [ht] at h
  dsimp only at h
  by_cases hn : r = []
  ·rw [if_pos hn] at h; cases h
  ·rw [if_neg hn] at h
   cases hq : itemP k n r with
   | none => rw [hq] at h; cases h
   | some x =>
    rw [hq] at h
    cases x with
    | ok x r1 => exact .inr ⟨rfl, hn, x, r1, rfl, h⟩
    | bad e t =>
     dsimp only at h
     by_cases ho : overP ([] ++ [(e, t)]) = true
     ·rw [if_pos ho] at h; cases h
     ·rw [if_neg ho] at h; have := items_grow _ _ _ _ _ _ h; simp at this
theorem items_suf (k n : Nat) (out xs : List Itm) (r r' : List Tok) (h : itemsP k n out [] r = some (.done xs r' [])) : r' <:+ r := (items_fs r k n out [] r _ (List.suffix_refl r) (fs_nil r r) rfl h).2.2.1
theorem items_take {k n : Nat} {out : List Itm} {fs : List Wr} {s : Tok} {r : List Tok} (hs : txt s = [125]) : itemsP (k + 1) n out fs (s :: r) = some (.done out r fs) := by
 rw [itemsP]
 have : takeP [125] (s :: r) = some r := if_pos hs
 rw [this]
theorem items_next {k n : Nat} {out : List Itm} {fs : List Wr} {r r1 : List Tok} {x : Itm} (ht : takeP [125] r = none) (hn : r ≠ []) (hi : itemP k n r = some (.ok x r1)) : itemsP (k + 1) n out fs r = itemsP k (begunP n r) (out ++ [x]) fs r1 := by
 rw [itemsP, ht]; dsimp only; rw [if_neg hn, hi]
theorem looks_cons_app (u : List Tok) (hu : u ≠ []) (a b : List Tok) : looks (u ++ a) = looks (u ++ b) := by
 cases u with
 | nil => exact absurd rfl hu
 | cons t u1 => rfl
theorem take_app {x : List UInt8} {u : List Tok} (hu : u ≠ []) (a b : List Tok) (h : takeP x (u ++ a) = none) : takeP x (u ++ b) = none := by
 cases u with
 | nil => exact absurd rfl hu
 | cons t u1 =>
  change (if txt t = x then some (u1 ++ a) else none) = none at h
  show (if txt t = x then some (u1 ++ b) else none) = none
  by_cases c : txt t = x
  ·rw [if_pos c] at h; cases h
  ·rw [if_neg c]
theorem items_any : ∀ (k n : Nat) (out xs : List Itm) (u r' : List Tok), itemsP k n out [] (u ++ r') = some (.done xs r' []) → ∀ q, itemsP k n out [] (u ++ q) = some (.done xs q []) := by
 intro k
 induction k with
 | zero => intro n out xs u r' h; unfold itemsP at h; cases h
 | succ k ih =>
  intro n out xs u r' h q
  rcases items_step h with ⟨s, h1, hs, rfl⟩ | ⟨ht, hn, x, r1, hi, hz⟩
  ·have hu : u = [s] := List.append_cancel_right (bs := r') (by rw [h1]; rfl)
   subst hu
   exact items_take hs
  ·have hf := fine_item k n _ _ hi
   obtain ⟨u1, hu1⟩ := hf.1
   have hlen := items_len _ _ _ _ _ _ hz
   obtain ⟨u2, rfl⟩ : ∃ u2, r1 = u2 ++ r' := by
    have := (items_suf _ _ _ _ _ _ hz : r' <:+ r1)
    obtain ⟨u2, h2⟩ := this; exact ⟨u2, h2.symm⟩
   have hu : u = u1 ++ u2 := List.append_cancel_right (bs := r') (by rw [← hu1]; simp)
   subst hu
   have hne : u1 ≠ [] := fun e => by
    subst e
    have := hf.2
    rw [← hu1] at this
    simp only [List.nil_append] at this
    omega
   rw [List.append_assoc] at hi ht hz hn ⊢
   have hi2 := item_any hi (u2 ++ q)
   rw [items_next (take_app hne _ _ ht) (by cases u1 with | nil => exact absurd rfl hne | cons t u1 => exact List.cons_ne_nil _ _) hi2]
   have hb : begunP n (u1 ++ (u2 ++ q)) = begunP n (u1 ++ (u2 ++ r')) := by unfold begunP; rw [looks_cons_app u1 hne (u2 ++ q) (u2 ++ r')]
   rw [hb]
   exact ih _ _ _ _ _ hz q
end Go.Proofs.YtenogedclignmaaDoor.Q
