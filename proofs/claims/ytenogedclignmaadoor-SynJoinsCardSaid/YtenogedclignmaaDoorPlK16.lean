/-
  HELPER.
-/
import Derived.Test.YtenogedclignmaaDoorPlKA
import Derived.Test.YtenogedclignmaaDoorPlK15
set_option linter.unusedVariables false
set_option linter.unusedSimpArgs false
namespace Go.Proofs.YtenogedclignmaaDoor.Q
open Go.RowKit Go.Proofs.YtenogedclignmaaDoorW.PrintWords Go.Proofs.YtenogedclignmaaDoorW.PrintLast Go.Proofs.YtenogedclignmaaDoorW.PrintMore
theorem fine_port (r : List Tok) : FineO r 1 (portP r) := by
 have h0 : ∀ (q : Bool) (r : List Tok), FineO r 0 (andThen (some (nameP r)) fun nm r2 => andThen (some (needP [58] r2)) fun _ r3 => andThen (some (dimP r3)) fun d r4 => some (.ok (⟨q, nm, d⟩ : Prt) r4)) := fun q r =>
  fine_and (fineO (fine_name r)) (fun nm r1 _ h1 h2 => (step_need0 [58] fun u r2 => step_dim0 fun e r3 => step_ok0 _).up h1 h2 (by omega))
 unfold portP
 cases ht : takeP kIn r with
 | some r1 =>
  obtain ⟨t, rfl, _⟩ := take_some ht
  exact (h0 true r1).up (c := 1) (List.suffix_cons t r1) (by simp) (by omega)
 | none => exact step_need kOut fun u r1 => h0 false r1
theorem fine_params (r : List Tok) : FineO r 0 (paramsP r) := by
 unfold paramsP
 cases ht : takeP [60] r with
 | none => exact step_ok0 _
 | some r1 =>
  obtain ⟨t, rfl, _⟩ := take_some ht
  exact (fine_list [62] _ (fun r => fineO (fine_name r)) 4 [] r1).up (c := 1) (List.suffix_cons t r1) (by simp) (by omega)
theorem fine_ports (r : List Tok) : FineO r 0 (portsP r) := by
 unfold portsP
 cases ht : takeP [41] r with
 | none => exact (fine_list [41] _ fine_port 16 [] r).up (c := 0) (List.suffix_refl r) (by omega) (by omega)
 | some r1 =>
  obtain ⟨t, rfl, _⟩ := take_some ht
  exact fineO ⟨List.suffix_cons t r1, by simp⟩
theorem fine_front (r : List Tok) : FineO r 0 (frontP r) := by
 unfold frontP
 refine fine_and (fineO (fine_name r)) (fun nm r1 _ g1 g2 => (fine_and (fine_params r1) (fun ps r2 _ g3 g4 => ?_)).up (b := 0) g1 g2 (by omega))
 exact (step_need0 [40] fun u r3 => fine_and (fine_ports r3) (fun qs r4 _ g5 g6 => (step_need0 [123] fun u r5 => step_ok0 _).up g5 g6 (by omega))).up g3 g4 (by omega)
theorem tot_port (r : List Tok) : portP r ≠ none := by
 unfold portP
 cases ht : takeP kIn r with
 | some r1 => exact and_some ok_some fun nm r2 _ => and_some ok_some fun u r3 _ => and_some ok_some fun d r4 _ => ok_some
 | none => exact and_some ok_some fun u r1 _ => and_some ok_some fun nm r2 _ => and_some ok_some fun u r3 _ => and_some ok_some fun d r4 _ => ok_some
theorem tot_front (r : List Tok) : frontP r ≠ none := by
 unfold frontP
 refine and_some ok_some (fun nm r1 _ => and_some ?_ (fun ps r2 _ => and_some ok_some (fun u r3 _ => and_some ?_ (fun qs r4 _ => and_some ok_some (fun u r5 _ => ok_some)))))
 ·unfold paramsP
  cases ht : takeP [60] r1 with
  | none => exact ok_some
  | some r2 => exact tot_list [62] _ r2.length (fun r => fineO (fine_name r)) (fun r _ => ok_some) 4 [] r2 (Nat.le_refl _)
 ·unfold portsP
  cases ht : takeP [41] r3 with
  | some r4 => exact ok_some
  | none => exact tot_list [41] _ r3.length fine_port (fun r _ => tot_port r) 16 [] r3 (Nat.le_refl _)
abbrev Sort3 (f : Wr) : Prop := f.2 = [] ∧ f.1 = 21 ∨ f.2 ≠ [] ∧ (f.1 = 20 ∨ f.1 = 2)
structure Fs (l : List Tok) (fs : List Wr) (r : List Tok) : Prop where
 few : fs.length ≤ 20
 each : ∀ f ∈ fs, f.2 <:+ l ∧ Sort3 f
 order : fs.Pairwise fun f g => g.2 <:+ f.2
 rest : ∀ f ∈ fs, r <:+ f.2
 last : ∀ f ∈ fs.dropLast, f.1 ≠ 21
theorem Fs.less {l r r2 : List Tok} {fs : List Wr} (h : Fs l fs r) (h2 : r2 <:+ r) : Fs l fs r2 := ⟨h.few, h.each, h.order, fun f hf => h2.trans (h.rest f hf), h.last⟩
theorem fs_nil (l r : List Tok) : Fs l [] r := ⟨by simp, by simp, List.Pairwise.nil, by simp, by simp⟩
theorem over_not {l r : List Tok} {fs : List Wr} (h : Fs l fs r) (ho : overP fs = false) : fs.length < 20 ∧ ∀ f ∈ fs, f.1 ≠ 21 := by
 unfold overP at ho
 rw [Bool.or_eq_false_iff] at ho
 refine ⟨by have := of_decide_eq_false ho.1; omega, fun f hf => ?_⟩
 rcases List.eq_nil_or_concat fs with rfl | ⟨L, b, hfs⟩
 ·cases hf
 ·rw [List.concat_eq_append] at hfs
  subst hfs
  have h2 := ho.2
  rw [List.getLast?_concat] at h2
  rcases List.mem_append.1 hf with hf | hf
  ·exact h.last f (by rw [List.dropLast_concat]; exact hf)
  ·rw [List.mem_singleton] at hf; subst hf; exact of_decide_eq_false h2
theorem Fs.add {l r t : List Tok} {fs : List Wr} {e : Int} (h : Fs l fs r) (hr : r <:+ l) (ho : overP fs = false) (ht : t <:+ r) (h3 : Sort3 (e, t)) : Fs l (fs ++ [(e, t)]) t := by
 obtain ⟨h20, h21⟩ := over_not h ho
 refine ⟨by rw [List.length_append]; simp only [List.length_singleton]; omega, fun f hf => ?_, ?_, fun f hf => ?_, ?_⟩
 ·rcases List.mem_append.1 hf with hf | hf
  ·exact h.each f hf
  ·rw [List.mem_singleton] at hf; subst hf; exact ⟨ht.trans hr, h3⟩
 ·rw [List.pairwise_append]
  refine ⟨h.order, List.pairwise_singleton _ _, fun a ha b hb => ?_⟩
  rw [List.mem_singleton] at hb; subst hb
  exact ht.trans (h.rest a ha)
 ·rcases List.mem_append.1 hf with hf | hf
  ·exact ht.trans (h.rest f hf)
  ·rw [List.mem_singleton] at hf; subst hf; exact List.suffix_refl _
 ·rw [List.dropLast_concat]; exact h21
theorem skip_suf : ∀ t : List Tok, skipP t <:+ t
 | [] => List.suffix_refl _
 | t :: r => by
  unfold skipP
  by_cases h1 : txt t = [125]
  ·rw [if_pos h1]; exact List.suffix_refl _
  ·rw [if_neg h1]
   by_cases h2 : txt t = [59]
   ·rw [if_pos h2]; exact List.suffix_cons t r
   ·rw [if_neg h2]; exact (skip_suf r).trans (List.suffix_cons t r)
theorem suf_len {t r : List Tok} (h : t <:+ r) : t.length ≤ r.length := h.length_le
theorem skip_len {t r : List Tok} (h : t <:+ r) (hr : r ≠ []) (h0 : takeP [125] r = none) : (skipP t).length + 1 ≤ r.length := by
 by_cases hl : t.length < r.length
 ·have := suf_len (skip_suf t); omega
 ·have e : t = r := h.eq_of_length (by have := suf_len h; omega)
  subst e
  cases t with
  | nil => exact absurd rfl hr
  | cons t0 t1 =>
   have h1 : txt t0 ≠ [125] := fun q => by change (if txt t0 = [125] then some t1 else none) = none at h0; rw [if_pos q] at h0; cases h0
   unfold skipP
   rw [if_neg h1]
   by_cases h2 : txt t0 = [59]
   ·rw [if_pos h2]; simp
   ·rw [if_neg h2]; have := suf_len (skip_suf t1); simp only [List.length_cons]; omega
theorem next_suf (e : Int) (t : List Tok) : nextP e t <:+ t := by
 unfold nextP
 refine (List.dropWhile_suffix _).trans ?_
 by_cases h : e = 2
 ·rw [if_pos h]; exact List.tail_suffix t
 ·rw [if_neg h]; exact List.suffix_refl t
def FsM {α : Type} (l r0 : List Tok) : MR α → Prop
 | .done _ r' fs' => Fs l fs' r' ∧ overP fs' = false ∧ r' <:+ r0 ∧ r'.length + 1 ≤ r0.length
 | .stop fs' t => Fs l fs' t ∧ overP fs' = true ∧ t <:+ r0
 | .bad e t fs' => Fs l fs' t ∧ overP fs' = false ∧ t <:+ r0 ∧ Sort3 (e, t)
theorem FsM.up {α : Type} {l r r0 : List Tok} {y : MR α} (h : FsM l r y) (hs : r <:+ r0) : FsM l r0 y := by
 have hl := suf_len hs
 cases y with
 | done v r' fs' => exact ⟨h.1, h.2.1, h.2.2.1.trans hs, by have := h.2.2.2; omega⟩
 | stop fs' t => exact ⟨h.1, h.2.1, h.2.2.trans hs⟩
 | bad e t fs' => exact ⟨h.1, h.2.1, h.2.2.1.trans hs, h.2.2.2⟩
theorem items_fs (l : List Tok) : ∀ (k begun : Nat) (out : List Itm) (fs : List Wr) (r : List Tok) (y : MR (List Itm)), r <:+ l → Fs l fs r → overP fs = false → itemsP k begun out fs r = some y → FsM l r y := by
 intro k
 induction k with
 | zero => intro begun out fs r y _ _ _ h; unfold itemsP at h; cases h
 | succ k ih =>
  intro begun out fs r y hr hf ho h
  unfold itemsP at h
  cases ht : takeP [125] r with
  | some r1 =>
   obtain ⟨t, rfl, _⟩ := take_some ht
   rw [ht] at h
   cases h
   exact ⟨hf.less (List.suffix_cons t r1), ho, List.suffix_cons t r1, by simp⟩
  | none =>
   rw [ht] at h
   dsimp only at h
   by_cases hn : r = []
   ·rw [if_pos hn] at h
    cases h
    subst hn
    exact ⟨hf, ho, List.suffix_refl _, .inl ⟨rfl, rfl⟩⟩
   ·rw [if_neg hn] at h
    have hi := fine_item k begun r
    cases hq : itemP k begun r with
    | none => rw [hq] at h; cases h
    | some x =>
     rw [hq] at h
     have hx := hi _ hq
     cases x with
     | ok x r1 => exact (ih _ _ _ r1 y (hx.1.trans hr) (hf.less hx.1) ho h).up hx.1
     | bad e t =>
      dsimp only at h
      have ha := hf.add hr ho hx.1 hx.2
      by_cases hov : overP (fs ++ [(e, t)]) = true
      ·rw [if_pos hov] at h
       cases h
       exact ⟨ha, hov, hx.1⟩
      ·rw [if_neg hov] at h
       have hs := skip_suf t
       exact (ih _ _ _ _ y (hs.trans (hx.1.trans hr)) (ha.less hs) (by simpa using hov) h).up (hs.trans hx.1)
theorem module_fs (l : List Tok) (k begun : Nat) (fs : List Wr) (r : List Tok) (y : MR Mdl) (hne : r ≠ []) (hr : r <:+ l) (hf : Fs l fs r) (ho : overP fs = false) (h : moduleP k begun fs r = some y) : FsM l r y := by
 unfold moduleP at h
 by_cases h0 : txt (looks r) ≠ kModule
 ·rw [if_pos h0] at h
  cases r with
  | nil => exact absurd rfl hne
  | cons t r1 => cases h; exact ⟨hf, ho, List.suffix_refl _, .inr ⟨List.cons_ne_nil _ _, .inl rfl⟩⟩
 ·rw [if_neg h0] at h
  by_cases h16 : 16 ≤ begun
  ·rw [if_pos h16] at h
   cases h
   exact ⟨hf, ho, List.suffix_refl _, .inr ⟨hne, .inr rfl⟩⟩
  ·rw [if_neg h16] at h
   have hts := List.tail_suffix r
   have hq0 := fine_front r.tail
   cases hq : frontP r.tail with
   | none => rw [hq] at h; cases h
   | some x =>
    rw [hq] at h
    have hx := hq0 _ hq
    cases x with
    | bad e t => cases h; exact ⟨hf.less (hx.1.trans hts), ho, hx.1.trans hts, hx.2⟩
    | ok v r1 =>
     obtain ⟨nm, ps, qs⟩ := v
     dsimp only at h
     have hs1 := hx.1.trans hts
     cases hi : itemsP k 0 [] fs r1 with
     | none => rw [hi] at h; cases h
     | some z =>
      rw [hi] at h
      have hz := (items_fs l k 0 [] fs r1 z (hs1.trans hr) (hf.less hs1) ho hi).up hs1
      cases z with
      | done xs r2 fs2 => cases h; exact hz
      | stop fs2 r2 => cases h; exact hz
      | bad e t fs2 => cases h; exact hz
theorem modules_fs (l : List Tok) : ∀ (k begun : Nat) (ms : List Mdl) (fs : List Wr) (r : List Tok) (y : List Mdl × List Wr), r <:+ l → Fs l fs r → modulesP k begun ms fs r = some y → ∃ r', Fs l y.2 r' := by
 intro k
 induction k with
 | zero => intro begun ms fs r y _ _ h; unfold modulesP at h; cases h
 | succ k ih =>
  intro begun ms fs r y hr hf h
  unfold modulesP at h
  by_cases h0 : r = [] ∨ overP fs = true
  ·rw [if_pos h0] at h; cases h; exact ⟨r, hf⟩
  ·rw [if_neg h0] at h
   have hne : r ≠ [] := fun e => h0 (.inl e)
   have ho : overP fs = false := by cases hq : overP fs with | true => exact absurd (.inr hq) h0 | false => rfl
   cases hm : moduleP k begun fs r with
   | none => rw [hm] at h; cases h
   | some z =>
    rw [hm] at h
    have hz := module_fs l k begun fs r z hne hr hf ho hm
    cases z with
    | done m r1 fs1 => exact ih _ _ _ _ y (hz.2.2.1.trans hr) hz.1 h
    | stop fs1 r1 => exact ih _ _ _ _ y (hz.2.2.trans hr) hz.1 h
    | bad e t fs1 =>
     dsimp only at h
     have ht := hz.2.2.1.trans hr
     have ha := (hz.1).add ht hz.2.1 (List.suffix_refl t) hz.2.2.2
     by_cases hov : overP (fs1 ++ [(e, t)]) = true
     ·rw [if_pos hov] at h; exact ih _ _ _ _ y ht ha h
     ·rw [if_neg hov] at h; exact ih _ _ _ _ y ((next_suf e t).trans ht) (ha.less (next_suf e t)) h
theorem tot_items : ∀ (k begun : Nat) (out : List Itm) (fs : List Wr) (r : List Tok), 12 * r.length + 1 ≤ k → itemsP k begun out fs r ≠ none := by
 intro k
 induction k with
 | zero => intro begun out fs r h; omega
 | succ k ih =>
  intro begun out fs r h
  unfold itemsP
  cases ht : takeP [125] r with
  | some r1 => exact fun h => by cases h
  | none =>
   dsimp only
   by_cases hn : r = []
   ·rw [if_pos hn]; exact fun h => by cases h
   ·rw [if_neg hn]
    have hi := fine_item k begun r
    cases hq : itemP k begun r with
    | none => exact absurd hq (tot_item k begun r (by omega))
    | some x =>
     have hx := hi _ hq
     cases x with
     | ok x r1 => exact ih _ _ _ r1 (by have := hx.2; omega)
     | bad e t =>
      dsimp only
      by_cases hov : overP (fs ++ [(e, t)]) = true
      ·rw [if_pos hov]; exact fun h => by cases h
      ·rw [if_neg hov]; exact ih _ _ _ _ (by have := skip_len hx.1 hn ht; omega)
theorem tot_module (k begun : Nat) (fs : List Wr) (r : List Tok) (h : 12 * r.length + 1 ≤ k) : moduleP k begun fs r ≠ none := by
 unfold moduleP
 by_cases h0 : txt (looks r) ≠ kModule
 ·rw [if_pos h0]
  cases r with
  | nil => exact fun h => by cases h
  | cons t r1 => exact fun h => by cases h
 ·rw [if_neg h0]
  by_cases h16 : 16 ≤ begun
  ·rw [if_pos h16]; exact fun h => by cases h
  ·rw [if_neg h16]
   have hq0 := fine_front r.tail
   have hl : r.tail.length ≤ r.length := by rw [List.length_tail]; omega
   cases hq : frontP r.tail with
   | none => exact absurd hq (tot_front _)
   | some x =>
    have hx := hq0 _ hq
    cases x with
    | bad e t => exact fun h => by cases h
    | ok v r1 =>
     obtain ⟨nm, ps, qs⟩ := v
     dsimp only
     have := hx.2
     cases hi : itemsP k 0 [] fs r1 with
     | none => exact absurd hi (tot_items k 0 [] fs r1 (by omega))
     | some z =>
      cases z with
      | done xs r2 fs2 => exact fun h => by cases h
      | stop fs2 r2 => exact fun h => by cases h
      | bad e t fs2 => exact fun h => by cases h
theorem items_stop : ∀ (k begun : Nat) (out : List Itm) (fs : List Wr) (r : List Tok) (fs2 : List Wr) (t2 : List Tok), itemsP k begun out fs r = some (.stop fs2 t2) → overP fs2 = true := by
 intro k
 induction k with
 | zero => intro begun out fs r fs2 t2 h; unfold itemsP at h; cases h
 | succ k ih =>
  intro begun out fs r fs2 t2 h
  unfold itemsP at h
  cases ht : takeP [125] r with
  | some r1 => rw [ht] at h; cases h
  | none =>
   rw [ht] at h
   dsimp only at h
   by_cases hn : r = []
   ·rw [if_pos hn] at h; cases h
   ·rw [if_neg hn] at h
    cases hq : itemP k begun r with
    | none => rw [hq] at h; cases h
    | some x =>
     rw [hq] at h
     cases x with
     | ok x r1 => exact ih _ _ _ r1 _ _ h
     | bad e t =>
      dsimp only at h
      by_cases hov : overP (fs ++ [(e, t)]) = true
      ·rw [if_pos hov] at h; cases h; exact hov
      ·rw [if_neg hov] at h; exact ih _ _ _ _ _ _ h
theorem module_stop (k begun : Nat) (fs : List Wr) (r : List Tok) (fs2 : List Wr) (t2 : List Tok) (h : moduleP k begun fs r = some (.stop fs2 t2)) : overP fs2 = true := by
 unfold moduleP at h
 by_cases h0 : txt (looks r) ≠ kModule
 ·rw [if_pos h0] at h
  cases r with
  | nil => cases h
  | cons t r1 => cases h
 ·rw [if_neg h0] at h
  by_cases h16 : 16 ≤ begun
  ·rw [if_pos h16] at h; cases h
  ·rw [if_neg h16] at h
   cases hq : frontP r.tail with
   | none => rw [hq] at h; cases h
   | some x =>
    rw [hq] at h
    cases x with
    | bad e t => cases h
    | ok v r1 =>
     obtain ⟨nm, ps, qs⟩ := v
     dsimp only at h
     cases hi : itemsP k 0 [] fs r1 with
     | none => rw [hi] at h; cases h
     | some z =>
      rw [hi] at h
      cases z with
      | done xs r2 fs2 => cases h
      | stop fs2 r2 => cases h; exact items_stop _ _ _ _ _ _ _ hi
      | bad e t fs2 => cases h
def LenM {α : Type} (r : List Tok) : MR α → Prop
 | .done _ r' _ => r'.length + 1 ≤ r.length
 | .stop _ t => t.length ≤ r.length
 | .bad e t _ => (nextP e t).length + 1 ≤ r.length ∧ t.length ≤ r.length
theorem items_len : ∀ (k begun : Nat) (out : List Itm) (fs : List Wr) (r : List Tok) (y : MR (List Itm)), itemsP k begun out fs r = some y → (match y with | .done _ r' _ => r'.length ≤ r.length | .stop _ t => t.length ≤ r.length | .bad _ t _ => t.length ≤ r.length) := by
 intro k
 induction k with
 | zero => intro begun out fs r y h; unfold itemsP at h; cases h
 | succ k ih =>
  intro begun out fs r y h
  unfold itemsP at h
  cases ht : takeP [125] r with
  | some r1 =>
   obtain ⟨t, rfl, _⟩ := take_some ht
   rw [ht] at h
   cases h
   simp
  | none =>
   rw [ht] at h
   dsimp only at h
   by_cases hn : r = []
   ·rw [if_pos hn] at h
    cases h
    simp
   ·rw [if_neg hn] at h
    have hi := fine_item k begun r
    cases hq : itemP k begun r with
    | none => rw [hq] at h; cases h
    | some x =>
     rw [hq] at h
     have hx := hi _ hq
     cases x with
     | ok x r1 =>
      have h1 := ih _ _ _ r1 y h
      have h2 := hx.2
      cases y <;> simp only at h1 ⊢ <;> omega
     | bad e t =>
      dsimp only at h
      have h2 := suf_len hx.1
      by_cases hov : overP (fs ++ [(e, t)]) = true
      ·rw [if_pos hov] at h
       cases h
       exact h2
      ·rw [if_neg hov] at h
       have h1 := ih _ _ _ _ y h
       have h3 := suf_len (skip_suf t)
       cases y <;> simp only at h1 ⊢ <;> omega
theorem module_len (k begun : Nat) (fs : List Wr) (r : List Tok) (y : MR Mdl) (hne : r ≠ []) (h : moduleP k begun fs r = some y) : LenM r y := by
 unfold moduleP at h
 obtain ⟨t0, r0, rfl⟩ : ∃ t r1, r = t :: r1 := by cases r with | nil => exact absurd rfl hne | cons t r1 => exact ⟨t, r1, rfl⟩
 by_cases h0 : txt (looks (t0 :: r0)) ≠ kModule
 ·rw [if_pos h0] at h
  cases h
  refine ⟨?_, Nat.le_refl _⟩
  unfold nextP
  rw [if_neg (by decide), List.dropWhile_cons, if_pos (by exact decide_eq_true h0)]
  have := suf_len (List.dropWhile_suffix (l := r0) fun x => decide (txt x ≠ kModule))
  simp only [List.length_cons]; omega
 ·rw [if_neg h0] at h
  by_cases h16 : 16 ≤ begun
  ·rw [if_pos h16] at h
   cases h
   refine ⟨?_, Nat.le_refl _⟩
   unfold nextP
   rw [if_pos rfl]
   have := suf_len (List.dropWhile_suffix (l := (t0 :: r0).tail) fun x => decide (txt x ≠ kModule))
   simp only [List.length_cons, List.tail_cons] at this ⊢; omega
  ·rw [if_neg h16] at h
   rw [List.tail_cons] at h
   have hq0 := fine_front r0
   cases hq : frontP r0 with
   | none => rw [hq] at h; cases h
   | some x =>
    rw [hq] at h
    have hx := hq0 _ hq
    have hb : ∀ e t, t.length ≤ r0.length → (nextP e t).length + 1 ≤ (t0 :: r0).length ∧ t.length ≤ (t0 :: r0).length := fun e t ht => by
     have := suf_len (next_suf e t)
     simp only [List.length_cons]; omega
    cases x with
    | bad e t => cases h; exact hb e t (suf_len hx.1)
    | ok v r1 =>
     obtain ⟨nm, ps, qs⟩ := v
     dsimp only at h
     have h1 := suf_len hx.1
     cases hi : itemsP k 0 [] fs r1 with
     | none => rw [hi] at h; cases h
     | some z =>
      rw [hi] at h
      have hz := items_len k 0 [] fs r1 z hi
      cases z with
      | done xs r2 fs2 => cases h; simp only [LenM, List.length_cons] at hz ⊢; omega
      | stop fs2 r2 => cases h; simp only [LenM, List.length_cons] at hz ⊢; omega
      | bad e t fs2 => cases h; exact hb e t (by simp only at hz; omega)
theorem tot_modules : ∀ (k begun : Nat) (ms : List Mdl) (fs : List Wr) (r : List Tok), 12 * r.length + 3 ≤ k ∨ (overP fs = true ∧ 1 ≤ k) → modulesP k begun ms fs r ≠ none := by
 intro k
 induction k with
 | zero => intro begun ms fs r h; omega
 | succ k ih =>
  intro begun ms fs r h
  unfold modulesP
  by_cases h0 : r = [] ∨ overP fs = true
  ·rw [if_pos h0]; exact fun h => by cases h
  ·rw [if_neg h0]
   have hne : r ≠ [] := fun e => h0 (.inl e)
   have hk : 12 * r.length + 3 ≤ k + 1 := h.resolve_right (fun q => h0 (.inr q.1))
   cases hm : moduleP k begun fs r with
   | none => exact absurd hm (tot_module k begun fs r (by omega))
   | some z =>
    have hz := module_len k begun fs r z hne hm
    cases z with
    | done m r1 fs1 => exact ih _ _ _ _ (.inl (by simp only [LenM] at hz; omega))
    | stop fs1 r1 => exact ih _ _ _ _ (.inr ⟨module_stop k begun fs r fs1 r1 hm, by omega⟩)
    | bad e t fs1 =>
     dsimp only
     by_cases hov : overP (fs1 ++ [(e, t)]) = true
     ·rw [if_pos hov]; exact ih _ _ _ _ (.inr ⟨hov, by omega⟩)
     ·rw [if_neg hov]; exact ih _ _ _ _ (.inl (by have := hz.1; omega))
end Go.Proofs.YtenogedclignmaaDoor.Q
namespace Go.Proofs.YtenogedclignmaaDoor.Q
open Go.RowKit Go.Maps Go.WideMaps Go.Proofs.YtenogedclignmaaDoorW.PrintWords Go.Proofs.YtenogedclignmaaDoorW.PrintLast Go.Proofs.YtenogedclignmaaDoorW.PrintMore
def fltW (s : ByteArray) (f : Wr) : Flt := ⟨f.1, (match f.2 with | [] => (s.size : Int) | t :: _ => t.f3), 0, 0⟩
theorem fltW_at (s : ByteArray) (l : List Tok) (e : Int) (b : Nat) : fltW s (e, l.drop b) = fltT s l e b := by
 unfold fltW fltT placeT
 by_cases h : b < l.length
 ·rw [if_pos h]
  cases hq : l.drop b with
  | nil => have := congrArg List.length hq; simp at this; omega
  | cons t r => rfl
 ·rw [if_neg h, List.drop_eq_nil_of_le (by omega)]
def overF (fs : List Flt) : Bool := decide (20 ≤ fs.length) || (match fs.getLast? with | some f => decide (f.f0 = 21) | none => false)
theorem overF_is (s : ByteArray) (fs : List Wr) : overF (fs.map (fltW s)) = overP fs := by
 unfold overF overP
 rw [List.length_map, List.getLast?_map]
 cases fs.getLast? <;> rfl
set_option maxHeartbeats 8000000 in
set_option maxRecDepth 100000 in
theorem over_calls (G bp : Nat) (s : ByteArray) (A : Option Addr) (c : Nat) (l : List Tok) (begun : Int) (B : Option Addr) (q a : Nat) (w : World) (F : Nat → Prop) (fs : List Flt) (h : St G bp s A c l begun (.slice B fs.length q) a w) (hR : FltR F w (.slice B fs.length q) fs) (hl : fs.length ≤ 1000) :
  Calls Tryd.prog 21 #[.pointer (some ⟨bp, 0, none⟩)] w fun e w' => e = .returned (.bool (overF fs)) ∧ w' = w := by
 have y4 := blk_cell h.blk 4
 have HRR := aS hR
 have HL := aS hl
 obtain ⟨n, hn⟩ : ∃ n, fs.length = n := ⟨_, rfl⟩
 clear h hR
 by_cases h20 : 20 ≤ n
 ·have d1 : decide ((20 : Int) ≤ (n : Int)) = true := decide_eq_true (by omega)
  have d2 : decide (20 ≤ n) = true := decide_eq_true h20
  have ho : overF fs = true := by unfold overF; rw [hn, d2]; rfl
  rw [ho]
  rw [hn] at y4
  clear h20 hl
  clear ho
  go_enter Tryd.func21, Tryd.ntmps21
  go_wp2
  first | exact ⟨rfl, rfl⟩ | (go_ret; exact ⟨rfl, rfl⟩)
 ·have d1 : decide ((20 : Int) ≤ (n : Int)) = false := decide_eq_false (by omega)
  have d2 : decide (20 ≤ n) = false := decide_eq_false h20
  by_cases h0 : 0 < n
  ·have e1 : decide ((0 : Int) < (n : Int)) = true := decide_eq_true (by omega)
   have e2 : decide (0 < n) = true := decide_eq_true h0
   obtain ⟨m, hm⟩ : ∃ m, n = m + 1 := ⟨n - 1, by omega⟩
   have HM := aS hm
   obtain ⟨ad, hB, k0, k1, k2, k3⟩ := at_T35 (Kd.R_reads' HRR.out).2.2 (m : Int) (by omega) (by omega)
   subst hB
   simp only [Int.toNat_natCast] at k0
   have hw : wrap64 ((n : Int) - 1) = (m : Int) := by rw [hm, show (((m + 1 : Nat) : Int) - 1) = (m : Int) by omega]; unfold wrap64; omega
   have hi0 : 0 ≤ (m : Int) := by omega
   have hi1 : (m : Int) < (n : Int) := by omega
   have hi2 : m < n := by omega
   obtain ⟨f, hf⟩ : ∃ f, rd_T35 fs (m : Int) = f := ⟨_, rfl⟩
   rw [hf] at k0
   have ho : overF fs = (f.f0 == 21) := by
    unfold overF
    rw [hn, d2]
    have hg : fs.getLast? = some f := by
     rw [List.getLast?_eq_getElem?, hn, ← hf]
     unfold rd_T35
     rw [Int.toNat_natCast, hm, Nat.add_sub_cancel]
     have h5 : m < fs.length := by omega
     rw [List.getElem?_eq_getElem h5]
     simp [h5]
    rw [hg]
    rfl
   rw [ho]
   clear ho hf k1 k2 k3 h20 h0 hl hm
   rw [hn] at y4
   go_enter Tryd.func21, Tryd.ntmps21
   go_wp2
   first | exact ⟨rfl, rfl⟩ | (go_ret; exact ⟨rfl, rfl⟩)
  ·have e1 : decide ((0 : Int) < (n : Int)) = false := decide_eq_false (by omega)
   have e2 : decide (0 < n) = false := decide_eq_false h0
   have ho : overF fs = false := by
    have : fs = [] := List.eq_nil_of_length_eq_zero (by omega)
    subst this; rfl
   rw [ho]
   rw [hn] at y4
   clear h20 h0 hl ho
   go_enter Tryd.func21, Tryd.ntmps21
   go_wp2
   first | exact ⟨rfl, rfl⟩ | (go_ret; exact ⟨rfl, rfl⟩)
theorem storeW_mv {X : Nat → Prop} {w : World} {g : Nat} (hg : X g ∨ w.heap.size ≤ g) : ∀ (vs : List Value) (w1 : World) (i : Nat), Mv X w w1 → Mv X w (storeW w1 g i vs)
 | [], _, _, h => h
 | v :: vs, w1, i, h => storeW_mv hg vs _ (i + 1) (h.set ⟨g, i, none⟩ hg v)
def I1ok (G bp : Nat) (s : ByteArray) (A : Option Addr) (c : Nat) (l : List Tok) (begun : Int) (fv : Value) (k a : Nat) (w : World) (gb xb n : Nat) (x : Itm) (r : List Tok) (e : Ending) (w2 : World) : Prop :=
 ∃ (b : Nat) (v5 v6 v7 v8 v9 : Value), r = l.drop b ∧ b ≤ l.length ∧ e = .returned (.tuple #[]) ∧ St G bp s A c l begun fv b w2 ∧
   w2.heap[xb]? = some (.cells (itV x v5 v6 v7 v8 v9) 58 (0, 0)) ∧ ItR (Lo w.heap.size) w2 x v5 v6 v7 v8 v9 ∧ w2.heap[gb]? = some (.cells #[.int .i64 ((begunP n (l.drop a) : Nat) : Int)] 3 (0, 0)) ∧ Mv (fun k => k = bp ∨ k = gb ∨ k = xb) w w2
theorem wpList_value {P : Program} {ops : Array Oper} {Q : Exit → Act → World → Prop} {rest : List Oper} {o : Oper} {a : Act} {w w1 : World} {r : Value} (hg : o.guard = none) (hrun : (execOp a.eval o).run P w = .ok (.value r) w1) (h : wpList P ops Q rest (a.put o.dst r) w1) : wpList P ops Q (o :: rest) a w :=
 wpList_plain hg fun K hK => by
  unfold Oper.wp
  rw [hrun]
  exact hK _ _ h
set_option maxHeartbeats 8000000 in
set_option maxRecDepth 100000 in
theorem items1_ok (G bp : Nat) (s : ByteArray) (A : Option Addr) (c : Nat) (l : List Tok) (begun : Int) (fv : Value) (k a : Nat) (w : World) (h : St G bp s A c l begun fv a w) (pb gb xb : Nat) (hne : pb ≠ bp ∧ gb ≠ bp ∧ xb ≠ bp ∧ gb ≠ xb ∧ G ≤ gb ∧ G ≤ xb) (n : Nat) (hn : n ≤ 64)
  (hp : w.heap[pb]? = some (.cells #[.pointer (some ⟨bp, 0, none⟩)] 65 (0, 0))) (hg : w.heap[gb]? = some (.cells #[.int .i64 n] 3 (0, 0))) (hx : w.heap[xb]? = some (.cells (itV zItm NS NS NS NS NS) 58 (0, 0))) (x : Itm) (r : List Tok) (hres : itemP k n (l.drop a) = some (.ok x r)) :
  Calls Tryd.prog 54 #[.pointer (some ⟨pb, 0, none⟩), .pointer (some ⟨gb, 0, none⟩), .pointer (some ⟨xb, 0, none⟩)] w (I1ok G bp s A c l begun fv k a w gb xb n x r) := by
 have p0 := cH hp 0
 have HS := aS h
 have HNE := aS hne
 have HN := aS hn
 have HG := aS hg
 have HX := aS hx
 have HQ := aS hres
 clear h hne hn hp hg hx hres
 go_enter Tryd.func54, Tryd.ntmps54
 go_upto_region 99 with (fail)
 refine (item_head G bp s A c l begun fv k a w HS.out gb HNE.out.2.2.2.2.1 HNE.out.2.1 n HN.out HG.out _ HQ.out).mono ?_
 rintro e w2 ⟨⟨b, y, rfl, hb, rfl, ⟨v5, v6, v7, v8, v9, rfl, hit, hok⟩, hat⟩, hg2⟩
 obtain ⟨A5, c5, e5, _⟩ := Kd.R_reads hit.r5
 subst e5
 obtain ⟨A6, c6, e6, _⟩ := Kd.R_reads hit.r6
 subst e6
 obtain ⟨A7, c7, e7, _⟩ := Kd.R_reads hit.r7
 subst e7
 obtain ⟨A8, c8, e8, _⟩ := Kd.R_reads hit.r8
 subst e8
 obtain ⟨A9, c9, e9, _⟩ := Kd.R_reads hit.r9
 subst e9
 have hx2 := hat.obj HX.out HNE.out.2.2.1 (fun q => HNE.out.2.2.2.1 q.symm)
 have hth : w2.there xb 0 42 := there_new hx2 (by kernel_rfl)
 have HAT := aS hat
 have HG2 := aS hg2
 have HX2 := aS hx2
 have HIT := aS hit
 have HB := aS hb
 clear hat hg2 hx2 hit hb hok p0
 dsimp only
 go_upto_region 99 with (refine wpList_store_mid rfl 58 (.tmp 2) (.tmp 4) rfl xb 0 (itV x (.slice A5 x.f5.length c5) (.slice A6 x.f6.length c6) (.slice A7 x.f7.f6.length c7) (.slice A8 x.f8.f6.length c8) (.slice A9 x.f9.f6.length c9)) rfl rfl hth (by kernel_rfl) (by kernel_rfl) ?_)
 rw [setCells_storeW]
 have hn1 : gb ≠ xb := HNE.out.2.2.2.1
 have hnb : bp ≠ xb := fun q => HNE.out.2.2.1 q.symm
 have hxl : xb < w.heap.size := (Array.getElem?_eq_some_iff.1 HX.out).1
 have hm : Mv (fun k => k = bp ∨ k = gb ∨ k = xb) w (storeW w2 xb 0 (itV x (.slice A5 x.f5.length c5) (.slice A6 x.f6.length c6) (.slice A7 x.f7.f6.length c7) (.slice A8 x.f8.f6.length c8) (.slice A9 x.f9.f6.length c9)).toList) := storeW_mv (.inl (.inr (.inr rfl))) _ _ _ (HAT.out.mv.mono (fun k q => q.imp id .inl))
 have hx3 : (storeW w2 xb 0 (itV x (.slice A5 x.f5.length c5) (.slice A6 x.f6.length c6) (.slice A7 x.f7.f6.length c7) (.slice A8 x.f8.f6.length c8) (.slice A9 x.f9.f6.length c9)).toList).heap[xb]? = some (.cells (itV x (.slice A5 x.f5.length c5) (.slice A6 x.f6.length c6) (.slice A7 x.f7.f6.length c7) (.slice A8 x.f8.f6.length c8) (.slice A9 x.f9.f6.length c9)) 58 (0, 0)) := by
  exact storeW_new HX2.out (by kernel_rfl)
 have hg3 : (storeW w2 xb 0 (itV x (.slice A5 x.f5.length c5) (.slice A6 x.f6.length c6) (.slice A7 x.f7.f6.length c7) (.slice A8 x.f8.f6.length c8) (.slice A9 x.f9.f6.length c9)).toList).heap[gb]? = _ := storeW_other hn1 _ _ _ HG2.out
 have hr3 : ItR (Lo w.heap.size) (storeW w2 xb 0 (itV x (.slice A5 x.f5.length c5) (.slice A6 x.f6.length c6) (.slice A7 x.f7.f6.length c7) (.slice A8 x.f8.f6.length c8) (.slice A9 x.f9.f6.length c9)).toList) x (.slice A5 x.f5.length c5) (.slice A6 x.f6.length c6) (.slice A7 x.f7.f6.length c7) (.slice A8 x.f8.f6.length c8) (.slice A9 x.f9.f6.length c9) := HIT.out.map (fun q => storeW_rows (g := xb) (ok := Lo w.heap.size) (fun k hk => by have h1 : w.heap.size ≤ k := hk; omega) _ w2 0 q)
 have hb3 : (storeW w2 xb 0 (itV x (.slice A5 x.f5.length c5) (.slice A6 x.f6.length c6) (.slice A7 x.f7.f6.length c7) (.slice A8 x.f8.f6.length c8) (.slice A9 x.f9.f6.length c9)).toList).heap[bp]? = _ := storeW_other hnb _ _ _ (HAT.out.blk _ _ _ HS.out.blk)
 exact bodyPost_end (results_none rfl _ _ _) rfl ⟨b, _, _, _, _, _, rfl, HB.out, rfl, HS.out.move hm (fun k q => by rcases q with q | q | q; rw [q]; exact HS.out.low; rw [q]; exact HNE.out.2.2.2.2.1; rw [q]; exact HNE.out.2.2.2.2.2) HB.out hb3, hx3, hr3, hg3, hm⟩
set_option maxHeartbeats 8000000 in
set_option maxRecDepth 100000 in
theorem items1_bad (G bp : Nat) (s : ByteArray) (A : Option Addr) (c : Nat) (l : List Tok) (begun : Int) (fv : Value) (k a : Nat) (w : World) (h : St G bp s A c l begun fv a w) (pb gb xb : Nat) (hne : pb ≠ bp ∧ gb ≠ bp ∧ xb ≠ bp ∧ gb ≠ xb ∧ G ≤ gb ∧ G ≤ xb) (n : Nat) (hn : n ≤ 64)
  (hp : w.heap[pb]? = some (.cells #[.pointer (some ⟨bp, 0, none⟩)] 65 (0, 0))) (hg : w.heap[gb]? = some (.cells #[.int .i64 n] 3 (0, 0))) (er : Int) (t : List Tok) (hres : itemP k n (l.drop a) = some (.bad er t)) :
  Calls Tryd.prog 54 #[.pointer (some ⟨pb, 0, none⟩), .pointer (some ⟨gb, 0, none⟩), .pointer (some ⟨xb, 0, none⟩)] w fun e w2 => ∃ b a2 : Nat, t = l.drop b ∧ b ≤ l.length ∧ a2 ≤ l.length ∧ e = gaveUp er b ∧ St G bp s A c l begun fv a2 w2 ∧
   w2.heap[gb]? = some (.cells #[.int .i64 ((begunP n (l.drop a) : Nat) : Int)] 3 (0, 0)) ∧ Mv (fun k => k = bp ∨ k = gb ∨ k = xb) w w2 := by
 have p0 := cH hp 0
 have HS := aS h
 have HNE := aS hne
 have HN := aS hn
 have HG := aS hg
 have HQ := aS hres
 clear h hne hn hp hg hres
 go_enter Tryd.func54, Tryd.ntmps54
 go_upto_region 99 with (go_at_call 55; refine (item_head G bp s A c l begun fv k a w HS.out gb HNE.out.2.2.2.2.1 HNE.out.2.1 n HN.out HG.out _ HQ.out).mono ?_; rintro e w2 ⟨⟨b, a2, rfl, hb, ha2, rfl, hat⟩, hg2⟩)
 exact ⟨rfl, b, a2, rfl, hb, ha2, rfl, HS.out.step hat (fun k q => by have h1 : k = gb := q; rw [h1]; exact HNE.out.2.2.2.2.1) ha2, hg2, hat.mv.mono (fun k q => q.imp id .inl)⟩
end Go.Proofs.YtenogedclignmaaDoor.Q
