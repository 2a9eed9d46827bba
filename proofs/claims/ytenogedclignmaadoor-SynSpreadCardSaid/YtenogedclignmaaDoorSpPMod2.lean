/-
  HELPER.
-/
import Derived.Test.YtenogedclignmaaDoorSpPCutP
set_option linter.unusedVariables false
set_option linter.unusedSimpArgs false
namespace Go.Proofs.YtenogedclignmaaDoor.Q
open Go.RowKit Go.Proofs.YtenogedclignmaaDoorW.PrintWords Go.Proofs.YtenogedclignmaaDoorW.PrintLast Go.Proofs.YtenogedclignmaaDoorW.PrintMore
theorem mono_items : ∀ (k n : Nat) (out : List Itm) (fs : List Wr) (r : List Tok), Le (itemsP k n out fs r) (itemsP (k + 1) n out fs r) := by
  intro k
  induction k with
  | zero => intro n out fs r y h; unfold itemsP at h; cases h
  | succ k ih =>
    intro n out fs r
    rw [itemsP, itemsP]
    cases ht : takeP [125] r with
    | some r1 => exact Le.rfl'
    | none =>
      dsimp only
      by_cases hn : r = []
      · rw [if_pos hn, if_pos hn]; exact Le.rfl'
      · rw [if_neg hn, if_neg hn]
        have hi := mono_item k n r
        cases hq : itemP k n r with
        | none => intro y h; cases h
        | some x =>
          rw [hi x hq]
          cases x with
          | ok x r1 => exact ih _ _ _ _
          | bad e t =>
            dsimp only
            by_cases ho : overP (fs ++ [(e, t)]) = true
            · rw [if_pos ho, if_pos ho]; exact Le.rfl'
            · rw [if_neg ho, if_neg ho]; exact ih _ _ _ _
theorem mono_module (k n : Nat) (fs : List Wr) (r : List Tok) : Le (moduleP k n fs r) (moduleP (k + 1) n fs r) := by
  unfold moduleP
  by_cases h0 : txt (looks r) ≠ kModule
  · rw [if_pos h0, if_pos h0]; exact Le.rfl'
  rw [if_neg h0, if_neg h0]
  by_cases h1 : 16 ≤ n
  · rw [if_pos h1, if_pos h1]; exact Le.rfl'
  rw [if_neg h1, if_neg h1]
  cases hq : frontP r.tail with
  | none => exact Le.rfl'
  | some x =>
    cases x with
    | bad e t => exact Le.rfl'
    | ok v r1 =>
      obtain ⟨nm, ps, qs⟩ := v
      dsimp only
      have hi := mono_items k 0 [] fs r1
      cases hz : itemsP k 0 [] fs r1 with
      | none => intro y h; cases h
      | some z => rw [hi z hz]; exact Le.rfl'
theorem mono_modules : ∀ (k n : Nat) (ms : List Mdl) (fs : List Wr) (r : List Tok), Le (modulesP k n ms fs r) (modulesP (k + 1) n ms fs r) := by
  intro k
  induction k with
  | zero => intro n ms fs r y h; unfold modulesP at h; cases h
  | succ k ih =>
    intro n ms fs r
    rw [modulesP, modulesP]
    by_cases h0 : r = [] ∨ overP fs = true
    · rw [if_pos h0, if_pos h0]; exact Le.rfl'
    · rw [if_neg h0, if_neg h0]
      have hi := mono_module k n fs r
      cases hz : moduleP k n fs r with
      | none => intro y h; cases h
      | some z =>
        rw [hi z hz]
        cases z with
        | done m r1 fs1 => exact ih _ _ _ _
        | stop fs1 r1 => exact ih _ _ _ _
        | bad e t fs1 =>
          dsimp only
          by_cases ho : overP (fs1 ++ [(e, t)]) = true
          · rw [if_pos ho, if_pos ho]; exact ih _ _ _ _
          · rw [if_neg ho, if_neg ho]; exact ih _ _ _ _
theorem mono_modules' {k k2 : Nat} (h : k ≤ k2) (n : Nat) (ms : List Mdl) (fs : List Wr) (r : List Tok) : Le (modulesP k n ms fs r) (modulesP k2 n ms fs r) := by
  obtain ⟨d, rfl⟩ : ∃ d, k2 = k + d := ⟨k2 - k, by omega⟩
  clear h
  induction d with
  | zero => exact Le.rfl'
  | succ d ih => exact fun y hy => mono_modules (k + d) n ms fs r y (ih y hy)
inductive FR : List Wr → List Wr → Prop where
  | nil : FR [] []
  | cons {f g : Wr} {fs gs : List Wr} (h : f.1 = g.1 ∧ J 0 0 f.2 g.2) (hs : FR fs gs) : FR (f :: fs) (g :: gs)
theorem fr_add {fs gs : List Wr} (h : FR fs gs) {e : Int} {t t2 : List Tok} (hj : J 0 0 t t2) : FR (fs ++ [(e, t)]) (gs ++ [(e, t2)]) := by
  induction h with
  | nil => exact .cons ⟨rfl, hj⟩ .nil
  | cons h1 _ ih => exact .cons h1 ih
theorem fr_len {fs gs : List Wr} (h : FR fs gs) : fs.length = gs.length := by
  induction h with
  | nil => rfl
  | cons _ _ ih => simp [ih]
theorem fr_last {fs gs : List Wr} (h : FR fs gs) : fs.getLast?.map Prod.fst = gs.getLast?.map Prod.fst := by
  induction h with
  | nil => rfl
  | @cons f g fs gs h1 h2 ih =>
    cases h2 with
    | nil => simp [h1.1]
    | cons h3 h4 => simpa [List.getLast?_cons_cons] using ih
theorem fr_over {fs gs : List Wr} (h : FR fs gs) : overP fs = overP gs := by
  unfold overP
  have h2 := fr_last h
  rw [fr_len h]
  cases hf : fs.getLast? with
  | none =>
    rw [hf] at h2
    cases hg : gs.getLast? with
    | none => rfl
    | some g => rw [hg] at h2; simp at h2
  | some f =>
    rw [hf] at h2
    cases hg : gs.getLast? with
    | none => rw [hg] at h2; simp at h2
    | some g => rw [hg] at h2; simp at h2; simp only [h2]
def SM {α : Type} (x z : Option (MR α)) : Prop := ∀ y, x = some y → match y with
  | .done v r fs => ∃ r2 gs, z = some (.done v r2 gs) ∧ J 0 0 r r2 ∧ FR fs gs
  | .stop fs r => ∃ gs r2, z = some (.stop gs r2) ∧ J 0 0 r r2 ∧ FR fs gs
  | .bad e r fs => ∃ r2 gs, z = some (.bad e r2 gs) ∧ J 0 0 r r2 ∧ FR fs gs
theorem j_skip : ∀ {a b : List Tok}, J 0 0 a b → J 0 0 (skipP a) (skipP b) := by
  intro a
  induction a with
  | nil =>
    intro b h
    rcases j_cases h (Nat.zero_le _) with ⟨_, rfl⟩ | ⟨t, a1, t2, b1, h1, _, _, _⟩
    · exact h
    · cases h1
  | cons t a1 ih =>
    intro b h
    rcases j_cases h (Nat.zero_le _) with ⟨h1, _⟩ | ⟨t', a1', t2, b1, h1, rfl, hs, hj⟩
    · cases h1
    · cases h1
      have ht : txt t = txt t2 := j_txt h (Nat.zero_le _)
      unfold skipP
      rw [← ht]
      by_cases c : txt t = [125]
      · rw [if_pos c, if_pos c]; exact h
      rw [if_neg c, if_neg c]
      by_cases c2 : txt t = [59]
      · rw [if_pos c2, if_pos c2]; exact hj
      rw [if_neg c2, if_neg c2]; exact ih hj
theorem j_while : ∀ {a b : List Tok}, J 0 0 a b → J 0 0 (a.dropWhile fun x => decide (txt x ≠ kModule)) (b.dropWhile fun x => decide (txt x ≠ kModule)) := by
  intro a
  induction a with
  | nil =>
    intro b h
    rcases j_cases h (Nat.zero_le _) with ⟨_, rfl⟩ | ⟨t, a1, t2, b1, h1, _, _, _⟩
    · exact h
    · cases h1
  | cons t a1 ih =>
    intro b h
    rcases j_cases h (Nat.zero_le _) with ⟨h1, _⟩ | ⟨t', a1', t2, b1, h1, rfl, hs, hj⟩
    · cases h1
    · cases h1
      have ht : txt t = txt t2 := j_txt h (Nat.zero_le _)
      rw [List.dropWhile_cons, List.dropWhile_cons, ← ht]
      by_cases c : decide (txt t ≠ kModule) = true
      · rw [if_pos c, if_pos c]; exact ih hj
      · rw [if_neg c, if_neg c]; exact h
theorem j_next {e : Int} {a b : List Tok} (h : J 0 0 a b) : J 0 0 (nextP e a) (nextP e b) := by
  unfold nextP
  by_cases c : e = 2
  · rw [if_pos c, if_pos c]; exact j_while (j_tail h (Nat.zero_le _))
  · rw [if_neg c, if_neg c]; exact j_while h
theorem j_begunP {n : Nat} {a b : List Tok} (h : J 0 0 a b) : begunP n a = begunP n b := by unfold begunP; rw [j_txt h (Nat.zero_le _)]
theorem j_begunM {n : Nat} {a b : List Tok} (h : J 0 0 a b) : begunM n a = begunM n b := by unfold begunM; rw [j_txt h (Nat.zero_le _)]
theorem j_nil {a b : List Tok} (h : J 0 0 a b) : a = [] ↔ b = [] := by
  rcases j_cases h (Nat.zero_le _) with ⟨rfl, rfl⟩ | ⟨t, a1, t2, b1, rfl, rfl, _, _⟩
  · exact Iff.rfl
  · exact ⟨fun h => (List.cons_ne_nil _ _ h).elim, fun h => (List.cons_ne_nil _ _ h).elim⟩
theorem sp_items : ∀ (k n : Nat) (out : List Itm) (fs gs : List Wr) (a b : List Tok), J 0 0 a b → FR fs gs → SM (itemsP k n out fs a) (itemsP k n out gs b) := by
  intro k
  induction k with
  | zero => intro n out fs gs a b _ _ y h; unfold itemsP at h; cases h
  | succ k ih =>
    intro n out fs gs a b h hf
    rw [itemsP, itemsP]
    rcases j_take h (Nat.zero_le _) [125] with ⟨h1, h2⟩ | ⟨a1, b1, h1, h2, h3, _⟩
    · rw [h1, h2]
      dsimp only
      by_cases hn : a = []
      · rw [if_pos hn, if_pos ((j_nil h).1 hn)]
        subst hn
        intro y hy; cases hy
        exact ⟨[], gs, rfl, by rw [(j_nil h).1 rfl] at h; exact h, hf⟩
      · rw [if_neg hn, if_neg (fun q => hn ((j_nil h).2 q))]
        have hi := s_item k n h
        cases hq : itemP k n a with
        | none => intro y hy; cases hy
        | some x =>
          have hx := hi x hq
          cases x with
          | ok x r1 =>
            obtain ⟨r2, e2, hj⟩ := hx.2 (Nat.zero_le _)
            rw [e2, ← j_begunP h]
            exact ih _ _ _ _ _ _ hj hf
          | bad e t =>
            obtain ⟨t2, e2, hj⟩ := hx rfl
            rw [e2]
            have ha := fr_add hf (e := e) hj
            dsimp only
            rw [← fr_over ha, ← j_begunP h]
            by_cases ho : overP (fs ++ [(e, t)]) = true
            · rw [if_pos ho, if_pos ho]; intro y hy; cases hy; exact ⟨_, _, rfl, hj, ha⟩
            · rw [if_neg ho, if_neg ho]; exact ih _ _ _ _ _ _ (j_skip hj) ha
    · rw [h1, h2]; intro y hy; cases hy; exact ⟨b1, gs, rfl, h3, hf⟩
theorem sp_module (k n : Nat) (fs gs : List Wr) (a b : List Tok) (h : J 0 0 a b) (hf : FR fs gs) : SM (moduleP k n fs a) (moduleP k n gs b) := by
  unfold moduleP
  rw [← j_txt h (Nat.zero_le _)]
  by_cases h0 : txt (looks a) ≠ kModule
  · rw [if_pos h0, if_pos h0]
    rcases j_cases h (Nat.zero_le _) with ⟨rfl, rfl⟩ | ⟨t, a1, t2, b1, rfl, rfl, _, _⟩
    · intro y hy; cases hy; exact ⟨_, _, rfl, h, hf⟩
    · intro y hy; cases hy; exact ⟨_, _, rfl, h, hf⟩
  rw [if_neg h0, if_neg h0]
  by_cases h1 : 16 ≤ n
  · rw [if_pos h1, if_pos h1]; intro y hy; cases hy; exact ⟨_, _, rfl, h, hf⟩
  rw [if_neg h1, if_neg h1]
  have hi := s_front (j_tail h (Nat.zero_le _))
  cases hq : frontP a.tail with
  | none => intro y hy; cases hy
  | some x =>
    have hx := hi x hq
    cases x with
    | bad e t =>
      obtain ⟨t2, e2, hj⟩ := hx rfl
      rw [e2]
      intro y hy; cases hy; exact ⟨_, _, rfl, hj, hf⟩
    | ok v r1 =>
      obtain ⟨r2, e2, hj⟩ := hx.2 (Nat.zero_le _)
      rw [e2]
      obtain ⟨nm, ps, qs⟩ := v
      dsimp only
      have hz := sp_items k 0 [] fs gs r1 r2 hj hf
      cases hi : itemsP k 0 [] fs r1 with
      | none => intro y hy; cases hy
      | some z =>
        have hz := hz z hi
        cases z with
        | done xs r3 fs2 => obtain ⟨r4, gs2, e4, h5, h6⟩ := hz; rw [e4]; intro y hy; cases hy; exact ⟨_, _, rfl, h5, h6⟩
        | stop fs2 r3 => obtain ⟨gs2, r4, e4, h5, h6⟩ := hz; rw [e4]; intro y hy; cases hy; exact ⟨_, _, rfl, h5, h6⟩
        | bad e t fs2 => obtain ⟨r4, gs2, e4, h5, h6⟩ := hz; rw [e4]; intro y hy; cases hy; exact ⟨_, _, rfl, h5, h6⟩
theorem sp_modules : ∀ (k n : Nat) (ms : List Mdl) (fs gs : List Wr) (a b : List Tok), J 0 0 a b → FR fs gs → ∀ y, modulesP k n ms fs a = some y → ∃ gs2, modulesP k n ms gs b = some (y.1, gs2) ∧ FR y.2 gs2 := by
  intro k
  induction k with
  | zero => intro n ms fs gs a b _ _ y h; unfold modulesP at h; cases h
  | succ k ih =>
    intro n ms fs gs a b h hf y hy
    rw [modulesP] at hy ⊢
    rw [← fr_over hf, ← j_begunM h]
    by_cases h0 : a = [] ∨ overP fs = true
    · rw [if_pos h0] at hy
      cases hy
      rw [if_pos (h0.imp (j_nil h).1 id)]
      exact ⟨gs, rfl, hf⟩
    · rw [if_neg h0] at hy
      rw [if_neg (fun q => h0 (q.imp (j_nil h).2 id))]
      have hm := sp_module k n fs gs a b h hf
      cases hz : moduleP k n fs a with
      | none => rw [hz] at hy; cases hy
      | some z =>
        have hm := hm z hz
        rw [hz] at hy
        cases z with
        | done m r1 fs1 => obtain ⟨r2, gs2, e2, h5, h6⟩ := hm; rw [e2]; exact ih _ _ _ _ _ _ h5 h6 y hy
        | stop fs1 r1 => obtain ⟨gs2, r2, e2, h5, h6⟩ := hm; rw [e2]; exact ih _ _ _ _ _ _ h5 h6 y hy
        | bad e t fs1 =>
          obtain ⟨r2, gs2, e2, h5, h6⟩ := hm
          rw [e2]
          have ha := fr_add h6 (e := e) h5
          dsimp only at hy ⊢
          rw [← fr_over ha]
          by_cases ho : overP (fs1 ++ [(e, t)]) = true
          · rw [if_pos ho] at hy ⊢; exact ih _ _ _ _ _ _ h5 ha y hy
          · rw [if_neg ho] at hy ⊢; exact ih _ _ _ _ _ _ (j_next h5) ha y hy
end Go.Proofs.YtenogedclignmaaDoor.Q
