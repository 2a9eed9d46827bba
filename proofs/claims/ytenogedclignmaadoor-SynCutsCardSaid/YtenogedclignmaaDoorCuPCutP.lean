/-
  HELPER.
-/
import Derived.Test.YtenogedclignmaaDoorCuPSim
set_option linter.unusedVariables false
set_option linter.unusedSimpArgs false
namespace Go.Proofs.YtenogedclignmaaDoor.Q
open Go.RowKit Go.Proofs.YtenogedclignmaaDoorW.PrintWords Go.Proofs.YtenogedclignmaaDoorW.PrintLast Go.Proofs.YtenogedclignmaaDoorW.PrintMore
section
variable {q : List Tok} {α β : Type}
def Z (V : α → α → Prop) (v : α) (z : Option (PR α)) : Prop := (∃ v2, z = some (.ok v2 []) ∧ V v2 v) ∨ z = some (.bad 21 []) ∨ z = none
def C (V : α → α → Prop) (q : List Tok) (x z : Option (PR α)) : Prop := ∀ v r, x = some (.ok v r) → (∃ p, p ≠ [] ∧ r = p ++ q ∧ z = some (.ok v p)) ∨ Z V v z
abbrev Vt : α → α → Prop := fun _ _ => True
abbrev Vf : α → α → Prop := fun _ _ => False
abbrev Vd : Ex → Ex → Prop := fun a b => deepE a ≤ deepE b
theorem z_one {V : α → α → Prop} {v : α} {n : Nat} {z : Option (PR α)} (h : FineO [] (n + 1) z) : Z V v z := by
 cases z with
 | none => exact .inr (.inr rfl)
 | some y =>
  have := h y rfl
  cases y with
  | ok w r => have h2 := this.2; simp at h2
  | bad e t =>
   obtain ⟨h1, h2⟩ := this
   have h3 := List.suffix_nil.1 h1
   subst h3
   rcases h2 with ⟨_, rfl⟩ | ⟨h2, _⟩
   ·exact .inr (.inl rfl)
   ·exact absurd rfl h2
theorem z_and {V : α → α → Prop} {W : β → β → Prop} {v : α} {w : β} {z : Option (PR α)} {g : α → List Tok → Option (PR β)} (h : Z V v z) (hg : ∀ v2, V v2 v → Z W w (g v2 [])) : Z W w (andThen z g) := by
 rcases h with ⟨v2, rfl, hv⟩ | rfl | rfl
 ·exact hg v2 hv
 ·exact .inr (.inl rfl)
 ·exact .inr (.inr rfl)
theorem z_ok {V : α → α → Prop} {v v2 : α} (h : V v2 v) : Z V v (some (.ok v2 [])) := .inl ⟨v2, rfl, h⟩
theorem z_bad {V : α → α → Prop} {v : α} : Z V v (some (.bad 21 [] : PR α)) := .inr (.inl rfl)
theorem c_and {V : α → α → Prop} {W : β → β → Prop} {x z : Option (PR α)} {f g : α → List Tok → Option (PR β)} (hx : C V q x z) (hf : ∀ v p, p ≠ [] → C W q (f v (p ++ q)) (g v p)) (h0 : ∀ v v2 r w r', V v2 v → f v r = some (.ok w r') → Z W w (g v2 [])) : C W q (andThen x f) (andThen z g) := by
 intro w r' hw
 cases x with
 | none => cases hw
 | some y =>
  cases y with
  | bad e t => cases hw
  | ok v r =>
   rcases hx v r rfl with ⟨p, hp, rfl, rfl⟩ | h
   ·exact hf v p hp w r' hw
   ·exact .inr (z_and h (fun v2 hv => h0 v v2 r w r' hv hw))
theorem c_ok {V : α → α → Prop} {p : List Tok} (hp : p ≠ []) (v : α) : C V q (some (.ok v (p ++ q))) (some (.ok v p)) := by
 intro w r h; cases h; exact .inl ⟨p, hp, rfl, rfl⟩
theorem c_end {p : List Tok} (v : α) : C Vt q (some (.ok v (p ++ q))) (some (.ok v p)) := by
 intro w r h; cases h
 cases p with
 | nil => exact .inr (z_ok trivial)
 | cons t p1 => exact .inl ⟨_, List.cons_ne_nil _ _, rfl, rfl⟩
theorem c_fail {V : α → α → Prop} (e : Int) (a : List Tok) {z : Option (PR α)} : C V q (some (failP e a)) z := by
 intro v r h; cases a <;> cases h
theorem c_one {V : α → α → Prop} {n : Nat} {x z : Option (PR α)} (h : FineO [] (n + 1) z) : C V q x z := fun v r _ => .inr (z_one h)
theorem c_take {V : α → α → Prop} (x : List UInt8) {p : List Tok} (hp : p ≠ []) {N N2 : Option (PR α)} {F F2 : List Tok → Option (PR α)} (hN : C V q N N2) (hF : ∀ p1, C V q (F (p1 ++ q)) (F2 p1)) : C V q (takeC x (p ++ q) N F) (takeC x p N2 F2) := by
 cases p with
 | nil => exact absurd rfl hp
 | cons t p1 =>
  unfold takeC
  show C V q (match (if txt t = x then some (p1 ++ q) else none) with | none => N | some r => F r) (match (if txt t = x then some p1 else none) with | none => N2 | some r => F2 r)
  by_cases h : txt t = x
  ·rw [if_pos h, if_pos h]; exact hF p1
  ·rw [if_neg h, if_neg h]; exact hN
theorem c_takeD {V : α → α → Prop} (x : List UInt8) {p : List Tok} (hp : p ≠ []) {N N2 : Option (PR α)} {F F2 : List Tok → Option (PR α)} (hN : C V q N N2) (hF : ∀ p1, C V q (F (p1 ++ q)) (F2 p1)) : C V q (takeD x (p ++ q) N F) (takeD x p N2 F2) := by
 rw [takeD_is, takeD_is]; exact c_take x hp hN hF
theorem c_need (x : List UInt8) (p : List Tok) : C Vt q (some (needP x (p ++ q))) (some (needP x p)) := by
 cases p with
 | nil => exact c_one (n := 0) (fineO (fine_need x []))
 | cons t p1 =>
  unfold needP
  show C Vt q (some (match (if txt t = x then some (p1 ++ q) else none) with | some r' => .ok () r' | none => failP 20 (t :: p1 ++ q))) (some (match (if txt t = x then some p1 else none) with | some r' => .ok () r' | none => failP 20 (t :: p1)))
  by_cases h : txt t = x
  ·rw [if_pos h, if_pos h]; exact c_end ()
  ·rw [if_neg h, if_neg h]; exact c_fail 20 _
theorem c_name (p : List Tok) : C Vt q (some (nameP (p ++ q))) (some (nameP p)) := by
 cases p with
 | nil => exact c_one (n := 0) (fineO (fine_name []))
 | cons t p1 =>
  unfold nameP
  show C Vt q (some (if t.f0 = 1 ∧ wordP (txt t) = false then .ok t.f1 (p1 ++ q) else failP 20 (t :: p1 ++ q))) (some (if t.f0 = 1 ∧ wordP (txt t) = false then .ok t.f1 p1 else failP 20 (t :: p1)))
  by_cases h : t.f0 = 1 ∧ wordP (txt t) = false
  ·rw [if_pos h, if_pos h]; exact c_end _
  ·rw [if_neg h, if_neg h]; exact c_fail 20 _
theorem c_number (p : List Tok) : C Vt q (some (numberP (p ++ q))) (some (numberP p)) := by
 cases p with
 | nil => exact c_one (n := 0) (fineO (fine_number []))
 | cons t p1 =>
  unfold numberP
  show C Vt q (some (if t.f0 = 2 then .ok t.f2 (p1 ++ q) else failP 20 (t :: p1 ++ q))) (some (if t.f0 = 2 then .ok t.f2 p1 else failP 20 (t :: p1)))
  by_cases h : t.f0 = 2
  ·rw [if_pos h, if_pos h]; exact c_end _
  ·rw [if_neg h, if_neg h]; exact c_fail 20 _
theorem looks_app {p : List Tok} (hp : p ≠ []) : looks (p ++ q) = looks p := by
 cases p with
 | nil => exact absurd rfl hp
 | cons t p1 => rfl
theorem tail_app {p : List Tok} (hp : p ≠ []) : (p ++ q).tail = p.tail ++ q := by
 cases p with
 | nil => exact absurd rfl hp
 | cons t p1 => rfl
theorem c_single (p : List Tok) : C Vt q (some (singleP (p ++ q))) (some (singleP p)) := by
 by_cases hp : p = []
 ·subst hp; exact c_one (n := 0) (fineO (fine_single []))
 ·rw [single_and, single_and, looks_app hp]
  by_cases c : (looks p).f0 = 2
  ·rw [if_pos c, if_pos c]; exact c_and (c_number p) (fun v p1 h1 => c_ok h1 _) (fun v v2 r w r' _ _ => z_ok trivial)
  ·rw [if_neg c, if_neg c]; exact c_and (c_name p) (fun v p1 h1 => c_ok h1 _) (fun v v2 r w r' _ _ => z_ok trivial)
theorem dimK_nil (dm : Dm) : dimK dm [] = some (.ok dm []) := by
 unfold dimK
 by_cases c : dm.f0.data.toList = []
 ·rw [if_pos c]
 ·rw [if_neg c]; rfl
theorem c_dim (p : List Tok) : C Vt q (some (dimP (p ++ q))) (some (dimP p)) := by
 rw [dim_and, dim_and]
 refine c_and (c_single p) (fun v p1 h1 => ?_) (fun v v2 r w r' _ _ => by rw [dimK_nil]; exact z_ok trivial)
 unfold dimK
 by_cases c : v.f0.data.toList = []
 ·rw [if_pos c, if_pos c]; exact c_ok h1 _
 ·rw [if_neg c, if_neg c]
  exact c_take [43] h1 (c_ok h1 _) (fun p2 => c_and (c_number p2) (fun v p1 h1 => c_ok h1 _) (fun v v2 r w r' _ _ => z_ok trivial))
theorem c_plain (p : List Tok) : C Vd q (some (plainP (p ++ q))) (some (plainP p)) := by
 by_cases hp : p = []
 ·subst hp; exact c_one (n := 0) (fineO (fine_plain []))
 ·rw [plain_and, plain_and, looks_app hp]
  refine c_and (c_single p) (fun v p1 h1 => ?_) (fun v v2 r w r' _ _ => ?_)
  ·unfold plainK
   rw [looks_app h1]
   by_cases c : decide ((looks p).f0 = 2) = true ∨ txt (looks p1) = [39]
   ·rw [if_pos c, if_pos c]
    exact c_and (c_need [39] p1) (fun u p2 h2 => c_and (c_single p2) (fun v p3 h3 => c_ok h3 _) (fun v v2 r w r' _ hq => by cases hq; exact z_ok (Nat.le_refl _))) (fun _ v2 r w r' _ _ => z_and (V := Vf) (v := zDm) (z_one (n := 0) (fineO (fine_single []))) (fun _ h => h.elim))
   ·rw [if_neg c, if_neg c]
    exact c_take [46] h1 (c_ok h1 _) (fun p2 => c_and (c_name p2) (fun v p3 h3 => c_ok h3 _) (fun v v2 r w r' _ hq => by cases hq; exact z_ok (Nat.le_refl _)))
  ·unfold plainK
   by_cases c : decide ((looks p).f0 = 2) = true ∨ txt (looks []) = [39]
   ·rw [if_pos c]; exact z_bad
   ·rw [if_neg c]
    refine z_ok ?_
    show deepE (exRef v2.f0) ≤ _
    unfold exRef deepE deepL
    exact Nat.zero_le _
theorem made_ok {at_ r r' : List Tok} {e w : Ex} (h : madeP at_ e r = some (.ok w r')) : w = e ∧ r' = r ∧ deepE e ≤ 8 := by
 obtain ⟨h1, h2, h3⟩ := made_len h; exact ⟨h2, h1, h3⟩
theorem made_is {at_ r : List Tok} {e : Ex} (h : deepE e ≤ 8) : madeP at_ e r = some (.ok e r) := by unfold madeP; rw [if_neg (by omega)]
theorem c_made {at1 at2 p : List Tok} (hp : p ≠ []) (e : Ex) (V : Ex → Ex → Prop) : C V q (madeP at1 e (p ++ q)) (madeP at2 e p) := by
 intro w r h
 obtain ⟨rfl, rfl, h3⟩ := made_ok h
 exact .inl ⟨p, hp, rfl, made_is h3⟩
theorem z_made {at1 at2 r r' : List Tok} {e e2 w : Ex} (h : madeP at1 e r = some (.ok w r')) (hd : deepE e2 ≤ deepE e) : Z Vd w (madeP at2 e2 []) := by
 obtain ⟨rfl, rfl, h3⟩ := made_ok h
 rw [made_is (Nat.le_trans hd h3)]; exact z_ok hd
theorem and_ok' {x : Option (PR α)} {f : α → List Tok → Option (PR β)} {w : β} {r' : List Tok} (h : andThen x f = some (.ok w r')) : ∃ v r, x = some (.ok v r) ∧ f v r = some (.ok w r') := by
 cases x with
 | none => cases h
 | some y =>
  cases y with
  | bad e t => cases h
  | ok v r => exact ⟨v, r, rfl, h⟩
theorem deep_k1 (op : Int) (a b : Ex) : deepE (exK op [a, b]) = max (1 + deepE a) (1 + deepE b) := by
 unfold exK; rw [deepE, deepL, deepL, deepL]; omega
theorem deep_k2 (op : Int) (a b c : Ex) : deepE (exK op [a, b, c]) = max (1 + deepE a) (max (1 + deepE b) (1 + deepE c)) := by
 unfold exK; rw [deepE, deepL, deepL, deepL, deepL]; omega
theorem deep_k0 (op : Int) (a : Ex) : deepE (exK op [a]) = 1 + deepE a := by
 unfold exK; rw [deepE, deepL, deepL]; omega
theorem deep_cut (hi lo : Dm) (a : Ex) : deepE (exCut hi lo a) = 1 + deepE a := by
 unfold exCut; rw [deepE, deepL, deepL]; omega
theorem loop_deep : ∀ (k lev : Nat) (a w : Ex) (r r' : List Tok), loopP k lev a r = some (.ok w r') → deepE a ≤ deepE w := by
 intro k
 induction k with
 | zero => intro lev a w r r' h; unfold loopP at h; cases h
 | succ k ih =>
  intro lev a w r r' h
  unfold loopP at h
  by_cases c : opP lev (looks r) = 0
  ·rw [if_pos c] at h; cases h; exact Nat.le_refl _
  ·rw [if_neg c] at h
   obtain ⟨b, r1, h1, h2⟩ := and_ok' h
   obtain ⟨a2, r2, h3, h4⟩ := and_ok' h2
   obtain ⟨rfl, rfl, h5⟩ := made_ok h3
   have h6 : deepE (exK (opP lev (looks r)) [a, b]) ≤ deepE w := by
    by_cases c3 : lev = 3
    ·rw [if_pos c3] at h4; cases h4; exact Nat.le_refl _
    ·rw [if_neg c3] at h4; exact ih _ _ _ _ _ h4
   rw [deep_k1] at h6; omega
theorem cuts_deep : ∀ (k : Nat) (a w : Ex) (r r' : List Tok), cutsP k a r = some (.ok w r') → deepE a ≤ deepE w := by
 intro k
 induction k with
 | zero => intro a w r r' h; unfold cutsP at h; cases h
 | succ k ih =>
  intro a w r r' h
  unfold cutsP at h
  cases ht : takeP [91] r with
  | none => rw [ht] at h; cases h; exact Nat.le_refl _
  | some r1 =>
   rw [ht] at h
   dsimp only at h
   obtain ⟨hi, r2, _, h2⟩ := and_ok' h
   cases hq : takeP [58] r2 with
   | none =>
    rw [hq] at h2
    dsimp only at h2
    obtain ⟨u, r3, _, h3⟩ := and_ok' h2
    obtain ⟨a2, r4, h4, h5⟩ := and_ok' h3
    obtain ⟨rfl, rfl, h6⟩ := made_ok h4
    have := ih _ _ _ _ h5
    rw [deep_cut] at this; omega
   | some r3 =>
    rw [hq] at h2
    dsimp only at h2
    obtain ⟨lo, r5, _, h2⟩ := and_ok' h2
    obtain ⟨u, r3, _, h3⟩ := and_ok' h2
    obtain ⟨a2, r4, h4, h5⟩ := and_ok' h3
    obtain ⟨rfl, rfl, h6⟩ := made_ok h4
    have := ih _ _ _ _ h5
    rw [deep_cut] at this; omega
theorem loop_nil {k lev : Nat} {a v w : Ex} {r r' : List Tok} (h : loopP k lev v r = some (.ok w r')) (hd : deepE a ≤ deepE v) : Z Vd w (loopP k lev a []) := by
 have h1 := loop_deep k lev v w r r' h
 cases k with
 | zero => unfold loopP at h; cases h
 | succ k => unfold loopP; rw [if_pos (show opP lev (looks []) = 0 by unfold opP; rw [if_neg (by decide)])]; exact z_ok (Nat.le_trans hd h1)
theorem cuts_nil {k : Nat} {a v w : Ex} {r r' : List Tok} (h : cutsP k v r = some (.ok w r')) (hd : deepE a ≤ deepE v) : Z Vd w (cutsP k a []) := by
 have h1 := cuts_deep k v w r r' h
 cases k with
 | zero => unfold cutsP at h; cases h
 | succ k => unfold cutsP; exact z_ok (Nat.le_trans hd h1)
theorem z_need {V : β → β → Prop} {w : β} {x : List UInt8} {g : Unit → List Tok → Option (PR β)} : Z V w (andThen (some (needP x [])) g) := z_bad
theorem z_name {V : β → β → Prop} {w : β} {g : ByteArray → List Tok → Option (PR β)} : Z V w (andThen (some (nameP [])) g) := by
 have : nameP [] = .bad 21 [] := by unfold nameP; rw [if_neg (by intro h; exact absurd h.1 (by decide))]; rfl
 rw [this]; exact z_bad
theorem z_dim {V : β → β → Prop} {w : β} {g : Dm → List Tok → Option (PR β)} : Z V w (andThen (some (dimP [])) g) := z_and (V := Vf) (z_one (n := 0) (v := zDm) (fineO (fine_dim []))) (fun _ h => h.elim)
theorem z_expr {V : β → β → Prop} {w : β} {k : Nat} {g : Ex → List Tok → Option (PR β)} : Z V w (andThen (exprP k []) g) := z_and (V := Vf) (z_one (n := 0) (v := zEx) (fine_expr k [])) (fun _ h => h.elim)
theorem c_exprs : ∀ k : Nat, (∀ lev p, C Vd q (betweenP k lev (p ++ q)) (betweenP k lev p)) ∧ (∀ lev e p, C Vd q (loopP k lev e (p ++ q)) (loopP k lev e p)) ∧ (∀ p, C Vd q (exprP k (p ++ q)) (exprP k p)) ∧ (∀ p, C Vd q (unaryP k (p ++ q)) (unaryP k p)) ∧ (∀ e p, C Vd q (cutsP k e (p ++ q)) (cutsP k e p)) ∧ (∀ p, C Vd q (primaryP k (p ++ q)) (primaryP k p)) := by
 intro k
 induction k with
 | zero =>
  refine ⟨fun lev p v r h => ?_, fun lev e p v r h => ?_, fun p v r h => ?_, fun p v r h => ?_, fun e p v r h => ?_, fun p v r h => ?_⟩
  ·unfold betweenP at h; cases h
  ·unfold loopP at h; cases h
  ·unfold exprP at h; cases h
  ·unfold unaryP at h; cases h
  ·unfold cutsP at h; cases h
  ·unfold primaryP at h; cases h
 | succ k ih =>
  obtain ⟨hb, hl, he, hu, hc, hp⟩ := ih
  obtain ⟨fb, fl, fe, fu, fc, fp⟩ := fine_exprs (k + 1)
  refine ⟨fun lev p => ?_, fun lev e p => ?_, fun p => ?_, fun p => ?_, fun e p => ?_, fun p => ?_⟩
  ·rw [betweenP, betweenP]
   by_cases c : lev = 6
   ·rw [if_pos c, if_pos c]; exact hu p
   ·rw [if_neg c, if_neg c]
    exact c_and (hb (lev + 1) p) (fun v p1 h1 => hl lev v p1) (fun v v2 r w r' hv hw => loop_nil hw hv)
  ·by_cases h : p = []
   ·subst h; exact fun v r hv => .inr (loop_nil hv (Nat.le_refl _))
   ·rw [loopP, loopP, looks_app h, tail_app h]
    by_cases c : opP lev (looks p) = 0
    ·rw [if_pos c, if_pos c]; exact c_ok h _
    ·rw [if_neg c, if_neg c]
     refine c_and (hb (lev + 1) p.tail) (fun v p1 h1 => c_and (c_made h1 _ Vf) (fun v2 p2 h2 => ?_) (fun _ _ _ _ _ hv _ => hv.elim)) (fun v v2 r w r' hv hw => ?_)
     ·by_cases c3 : lev = 3
      ·rw [if_pos c3, if_pos c3]; exact c_ok h2 _
      ·rw [if_neg c3, if_neg c3]; exact hl lev v2 p2
     ·obtain ⟨a2, r2, h3, h4⟩ := and_ok' hw
      obtain ⟨rfl, rfl, h5⟩ := made_ok h3
      have hd : deepE (exK (opP lev (looks p)) [e, v2]) ≤ deepE (exK (opP lev (looks p)) [e, v]) := by
       rw [deep_k1, deep_k1]; have : deepE v2 ≤ deepE v := hv; omega
      rw [made_is (Nat.le_trans hd h5)]
      show Z Vd w (if lev = 3 then some (.ok (exK (opP lev (looks p)) [e, v2]) []) else loopP k lev (exK (opP lev (looks p)) [e, v2]) [])
      by_cases c3 : lev = 3
      ·rw [if_pos c3] at h4 ⊢; cases h4; exact z_ok hd
      ·rw [if_neg c3] at h4 ⊢; exact loop_nil h4 hd
  ·rw [exprP, exprP]
   refine c_and (hb 0 p) (fun a p1 h1 => c_take [63] h1 (c_ok h1 _) (fun p2 => c_and (he p2) (fun b p3 h3 => c_and (c_need [58] p3) (fun u p4 h4 => c_and (he p4) (fun c p5 h5 => c_made h5 _ _) (fun v v2 r w r' hv hw => z_made hw ?_)) (fun _ _ _ _ _ _ _ => z_expr)) (fun _ _ _ _ _ _ _ => z_need))) (fun v v2 r w r' hv hw => ?_)
   ·rw [deep_k2, deep_k2]; have : deepE v2 ≤ deepE v := hv; omega
   ·show Z Vd w (some (.ok v2 []))
    refine z_ok (Nat.le_trans hv ?_)
    cases ht : takeP [63] r with
    | none => rw [ht] at hw; cases hw; exact Nat.le_refl _
    | some r2 =>
     rw [ht] at hw
     dsimp only at hw
     obtain ⟨b, r3, _, hw⟩ := and_ok' hw
     obtain ⟨u, r4, _, hw⟩ := and_ok' hw
     obtain ⟨c, r5, _, hw⟩ := and_ok' hw
     obtain ⟨rfl, _, _⟩ := made_ok hw
     rw [deep_k2]; omega
  ·by_cases h : p = []
   ·subst h; exact c_one (n := 0) (fu [])
   ·rw [unaryP, unaryP]
    refine c_takeD [126] h (c_and (hp p) (fun v p1 h1 => hc v p1) (fun v v2 r w r' hv hw => cuts_nil hw hv)) (fun p1 => c_and (hu p1) (fun v p2 h2 => c_made h2 _ _) (fun v v2 r w r' hv hw => z_made hw ?_))
    rw [deep_k0, deep_k0]; have : deepE v2 ≤ deepE v := hv; omega
  ·by_cases h : p = []
   ·subst h; exact fun v r hv => .inr (cuts_nil hv (Nat.le_refl _))
   ·rw [cutsP, cutsP]
    have hM : ∀ (hi lo : Dm) (p1 : List Tok), C Vd q (andThen (some (needP [93] (p1 ++ q))) fun _ r5 => andThen (madeP (p ++ q) (exCut hi lo e) r5) fun a' r6 => cutsP k a' r6) (andThen (some (needP [93] p1)) fun _ r5 => andThen (madeP p (exCut hi lo e) r5) fun a' r6 => cutsP k a' r6) := fun hi lo p1 =>
     c_and (c_need [93] p1) (fun u p2 h2 => c_and (c_made h2 _ Vf) (fun v2 p3 h3 => hc v2 p3) (fun _ _ _ _ _ hv _ => hv.elim)) (fun u u2 r w r' _ hw => by
      obtain ⟨a2, r2, h3, h4⟩ := and_ok' hw
      obtain ⟨rfl, rfl, h5⟩ := made_ok h3
      rw [made_is h5]
      exact cuts_nil h4 (Nat.le_refl _))
    exact c_take [91] h (c_ok h _) (fun p1 => c_and (c_dim p1) (fun hi p2 h2 => c_takeD [58] h2 (hM hi hi p2) (fun p3 => c_and (c_dim p3) (fun lo p4 h4 => hM hi lo p4) (fun _ _ _ _ _ _ _ => z_need))) (fun _ _ _ _ _ _ _ => z_need))
  ·by_cases h : p = []
   ·subst h; exact c_one (n := 0) (fp [])
   ·rw [primaryP, primaryP, looks_app h, tail_app h]
    by_cases c : (looks p).f0 = 2 ∨ (looks p).f0 = 1 ∧ wordP (txt (looks p)) = false
    ·rw [if_pos c, if_pos c]; exact c_plain p
    ·rw [if_neg c, if_neg c]
     have hE : ∀ p1, C Vd q (andThen (exprP k (p1 ++ q)) fun a r2 => andThen (some (needP [41] r2)) fun _ r3 => some (.ok a r3)) (andThen (exprP k p1) fun a r2 => andThen (some (needP [41] r2)) fun _ r3 => some (.ok a r3)) := fun p1 =>
      c_and (he p1) (fun a p2 h2 => c_and (c_need [41] p2) (fun u p3 h3 => c_ok h3 _) (fun u u2 r w r' _ hw => by cases hw; exact z_ok (Nat.le_refl _))) (fun _ _ _ _ _ _ _ => z_need)
     refine c_takeD [40] h (c_takeD [123] h ?_ (fun p1 => c_and (he p1) (fun a p2 h2 => c_and (c_need [44] p2) (fun u p3 h3 => c_and (he p3) (fun b p4 h4 => c_and (c_need [125] p4) (fun u p5 h5 => c_made h5 _ _) (fun u u2 r w r' _ hw => z_made hw (Nat.le_refl _))) (fun _ _ _ _ _ _ _ => z_need)) (fun _ _ _ _ _ _ _ => z_expr)) (fun _ _ _ _ _ _ _ => z_need))) hE
     cases hw : wordsL.lookup (txt (looks p)) with
     | none => exact c_fail 20 _
     | some op =>
      dsimp only
      have hM : ∀ (x : Ex → Ex) (p1 : List Tok), C Vd q (andThen (exprP k (p1 ++ q)) fun a r4 => andThen (some (needP [41] r4)) fun _ r5 => madeP (p ++ q) (x a) r5) (andThen (exprP k p1) fun a r4 => andThen (some (needP [41] r4)) fun _ r5 => madeP p (x a) r5) := fun x p1 =>
       c_and (he p1) (fun a p2 h2 => c_and (c_need [41] p2) (fun u p3 h3 => c_made h3 _ _) (fun u u2 r w r' _ hw => z_made hw (Nat.le_refl _))) (fun _ _ _ _ _ _ _ => z_need)
      refine c_and (c_need [40] p.tail) (fun u p1 h1 => ?_) (fun u u2 r w r' _ hw => ?_)
      ·by_cases h19 : op = 19
       ·rw [if_pos h19, if_pos h19]
        exact c_and (c_name p1) (fun nm p2 h2 => c_and (c_need [44] p2) (fun u p3 h3 => hM (exRead nm) p3) (fun _ _ _ _ _ _ _ => z_expr)) (fun _ _ _ _ _ _ _ => z_need)
       ·rw [if_neg h19, if_neg h19]; exact hM (fun a => exK op [a]) p1
      ·by_cases h19 : op = 19
       ·rw [if_pos h19]; exact z_name
       ·rw [if_neg h19]; exact z_expr
theorem c_list {γ : Type} (stop : List UInt8) (one : List Tok → Option (PR γ)) {V : γ → γ → Prop} (h1 : ∀ p, C V q (one (p ++ q)) (one p)) (f1 : ∀ r, FineO r 1 (one r)) : ∀ (n : Nat) (acc : List γ) (p : List Tok), C Vt q (listP stop one n acc (p ++ q)) (listP stop one n acc p) := by
 intro n
 induction n with
 | zero => intro acc p; rw [listP]; exact c_fail 2 _
 | succ n ih =>
  intro acc p
  rw [listP, listP]
  have e : ∀ (v : γ) (r : List Tok), (andThen (some (needP stop r)) fun _ r2 => some (.ok (acc ++ [v]) r2)) = (match needP stop r with | .ok _ r2 => some (.ok (acc ++ [v]) r2) | .bad e t => some (.bad e t)) := fun v r => by cases needP stop r <;> rfl
  refine c_and (h1 p) (fun v p1 h2 => c_takeD [44] h2 ?_ (fun p2 => ih _ p2)) (fun v v2 r w r' _ _ => ?_)
  ·have hq := c_and (W := Vt) (c_need (q := q) stop p1) (f := fun _ r2 => some (.ok (acc ++ [v]) r2)) (g := fun _ r2 => some (.ok (acc ++ [v]) r2)) (fun u a2 h3 => c_ok h3 (acc ++ [v])) (fun _ _ _ _ _ _ _ => z_ok trivial)
   rw [e, e] at hq
   exact hq
  ·exact z_bad
theorem c_expr (k : Nat) (p : List Tok) : C Vd q (exprP k (p ++ q)) (exprP k p) := (c_exprs k).2.2.1 p
theorem c_bind (k : Nat) (p : List Tok) : C Vt q (bindP k (p ++ q)) (bindP k p) := by
 unfold bindP
 exact c_and (c_name p) (fun v p1 h1 => c_and (c_need [58] p1) (fun u p2 h2 => c_and (c_expr k p2) (fun e p3 h3 => c_ok h3 _) (fun _ _ _ _ _ _ _ => z_ok trivial)) (fun _ _ _ _ _ _ _ => z_expr)) (fun _ _ _ _ _ _ _ => z_need)
theorem c_args (p : List Tok) : C Vt q (argsP (p ++ q)) (argsP p) := by
 unfold argsP
 by_cases h : p = []
 ·subst h; exact fun v r _ => .inr (z_ok trivial)
 ·exact c_take [60] h (c_ok h _) (fun p1 => c_list [62] _ (fun p => c_dim p) (fun r => fineO (fine_dim r)) 4 [] p1)
theorem c_binds (k : Nat) (p : List Tok) : C Vt q (bindsP k (p ++ q)) (bindsP k p) := by
 unfold bindsP
 by_cases h : p = []
 ·subst h; exact fun v r _ => .inr (z_one (n := 0) (fine_list [41] _ (fine_bind k) 16 [] []))
 ·exact c_takeD [41] h (c_list [41] _ (fun p => c_bind k p) (fine_bind k) 16 [] p) (fun p1 => c_end _)
theorem c_gets (k : Nat) (x : Itm) (y : List UInt8) (p : List Tok) : C Vt q (andThen (some (needP y (p ++ q))) fun _ r1 => andThen (exprP k r1) fun e r2 => some (.ok { x with f7 := e } r2)) (andThen (some (needP y p)) fun _ r1 => andThen (exprP k r1) fun e r2 => some (.ok { x with f7 := e } r2)) :=
 c_and (c_need y p) (fun u p1 h1 => c_and (c_expr k p1) (fun e p2 h2 => c_ok h2 _) (fun _ _ _ _ _ _ _ => z_ok trivial)) (fun _ _ _ _ _ _ _ => z_expr)
theorem c_parts (k : Nat) (x : Itm) (p : List Tok) : C Vt q (partsP k x (p ++ q)) (partsP k x p) := by
 unfold partsP
 by_cases c1 : x.f0 = 1
 ·rw [if_pos c1, if_pos c1]
  exact c_and (c_need [58] p) (fun u p1 h1 => c_and (c_dim p1) (fun e p2 h2 => c_and (c_need [61] p2) (fun u p3 h3 => c_and (c_expr k p3) (fun e p4 h4 => c_ok h4 _) (fun _ _ _ _ _ _ _ => z_ok trivial)) (fun _ _ _ _ _ _ _ => z_expr)) (fun _ _ _ _ _ _ _ => z_need)) (fun _ _ _ _ _ _ _ => z_dim)
 rw [if_neg c1, if_neg c1]
 by_cases c2 : x.f0 = 2
 ·rw [if_pos c2, if_pos c2]
  exact c_and (c_need [58] p) (fun u p1 h1 => c_and (c_dim p1) (fun e p2 h2 => c_and (c_need [61] p2) (fun u p3 h3 => c_and (c_dim p3) (fun e p4 h4 => c_ok h4 _) (fun _ _ _ _ _ _ _ => z_ok trivial)) (fun _ _ _ _ _ _ _ => z_dim)) (fun _ _ _ _ _ _ _ => z_need)) (fun _ _ _ _ _ _ _ => z_dim)
 rw [if_neg c2, if_neg c2]
 by_cases c3 : x.f0 = 3
 ·rw [if_pos c3, if_pos c3]; exact c_gets k x [61] p
 rw [if_neg c3, if_neg c3]
 by_cases c4 : x.f0 = 4
 ·rw [if_pos c4, if_pos c4]; exact c_gets k x [61] p
 rw [if_neg c4, if_neg c4]
 by_cases c5 : x.f0 = 5
 ·rw [if_pos c5, if_pos c5]
  exact c_and (c_need [91] p) (fun u p1 h1 => c_and (c_dim p1) (fun e p2 h2 => c_and (c_need [93] p2) (fun u p3 h3 => c_and (c_need [58] p3) (fun u p4 h4 => c_and (c_dim p4) (fun e p5 h5 => c_ok h5 _) (fun _ _ _ _ _ _ _ => z_ok trivial)) (fun _ _ _ _ _ _ _ => z_dim)) (fun _ _ _ _ _ _ _ => z_need)) (fun _ _ _ _ _ _ _ => z_need)) (fun _ _ _ _ _ _ _ => z_dim)
 rw [if_neg c5, if_neg c5]
 by_cases c6 : x.f0 = 6
 ·rw [if_pos c6, if_pos c6]
  exact c_and (c_need [91] p) (fun u p1 h1 => c_and (c_expr k p1) (fun e p2 h2 => c_and (c_need [93] p2) (fun u p3 h3 => c_and (c_need [61] p3) (fun u p4 h4 => c_and (c_expr k p4) (fun e p5 h5 => c_and (c_need kIf p5) (fun u p6 h6 => c_and (c_expr k p6) (fun e p7 h7 => c_ok h7 _) (fun _ _ _ _ _ _ _ => z_ok trivial)) (fun _ _ _ _ _ _ _ => z_expr)) (fun _ _ _ _ _ _ _ => z_need)) (fun _ _ _ _ _ _ _ => z_expr)) (fun _ _ _ _ _ _ _ => z_need)) (fun _ _ _ _ _ _ _ => z_need)) (fun _ _ _ _ _ _ _ => z_expr)
 rw [if_neg c6, if_neg c6]
 by_cases c7 : x.f0 = 7
 ·rw [if_pos c7, if_pos c7]
  exact c_and (c_name p) (fun md p1 h1 => c_and (c_args p1) (fun as_ p2 h2 => c_and (c_need [40] p2) (fun u p3 h3 => c_and (c_binds k p3) (fun bs p4 h4 => c_ok h4 _) (fun _ _ _ _ _ _ _ => z_ok trivial)) (fun _ _ _ _ _ _ _ => z_and (V := Vf) (v := []) (z_one (n := 0) (fine_list [41] _ (fine_bind k) 16 [] [])) (fun _ h => h.elim))) (fun _ _ _ _ _ _ _ => z_need)) (fun _ _ _ _ _ _ _ => z_bad)
 rw [if_neg c7, if_neg c7]; exact c_gets k x [58] p
theorem c_item (k n : Nat) (p : List Tok) : C Vt q (itemP k n (p ++ q)) (itemP k n p) := by
 by_cases h : p = []
 ·subst h; exact c_one (n := 0) (fine_item k n [])
 ·unfold itemP
  rw [looks_app h, tail_app h]
  by_cases c : keptV (txt (looks p)) = 0
  ·rw [if_pos c]; exact c_fail 20 _
  rw [if_neg c, if_neg c]
  by_cases c2 : 64 ≤ n
  ·rw [if_pos c2]; exact c_fail 2 _
  rw [if_neg c2, if_neg c2]
  exact c_and (c_name p.tail) (fun nm p1 h1 => c_and (c_parts k _ p1) (fun x p2 h2 => c_and (c_need [59] p2) (fun u p3 h3 => c_ok h3 _) (fun _ _ _ _ _ _ _ => z_ok trivial)) (fun _ _ _ _ _ _ _ => z_need)) (fun _ v2 _ _ _ _ _ => z_and (V := Vf) (v := zItm) (z_one (n := 0) (fine_parts k _ [])) (fun _ h => h.elim))
theorem c_port (p : List Tok) : C Vt q (portP (p ++ q)) (portP p) := by
 have h0 : ∀ (b : Bool) (p : List Tok), C Vt q (andThen (some (nameP (p ++ q))) fun nm r2 => andThen (some (needP [58] r2)) fun _ r3 => andThen (some (dimP r3)) fun d r4 => some (.ok (⟨b, nm, d⟩ : Prt) r4)) (andThen (some (nameP p)) fun nm r2 => andThen (some (needP [58] r2)) fun _ r3 => andThen (some (dimP r3)) fun d r4 => some (.ok (⟨b, nm, d⟩ : Prt) r4)) :=
  fun b p => c_and (c_name p) (fun nm p1 h1 => c_and (c_need [58] p1) (fun u p2 h2 => c_and (c_dim p2) (fun e p3 h3 => c_ok h3 _) (fun _ _ _ _ _ _ _ => z_ok trivial)) (fun _ _ _ _ _ _ _ => z_dim)) (fun _ _ _ _ _ _ _ => z_need)
 by_cases h : p = []
 ·subst h; exact c_one (n := 0) (fine_port [])
 ·unfold portP
  exact c_takeD kIn h (c_and (c_need kOut p) (fun u p1 h1 => h0 false p1) (fun _ _ _ _ _ _ _ => z_name)) (fun p1 => h0 true p1)
theorem c_front (p : List Tok) : C Vt q (frontP (p ++ q)) (frontP p) := by
 have hp : ∀ p : List Tok, C Vt q (paramsP (p ++ q)) (paramsP p) := fun p => by
  unfold paramsP
  by_cases h : p = []
  ·subst h; exact fun v r _ => .inr (z_ok trivial)
  ·exact c_take [60] h (c_ok h _) (fun p1 => c_list [62] _ (fun p => c_name p) (fun r => fineO (fine_name r)) 4 [] p1)
 have hq : ∀ p : List Tok, C Vt q (portsP (p ++ q)) (portsP p) := fun p => by
  unfold portsP
  by_cases h : p = []
  ·subst h; exact fun v r _ => .inr (z_one (n := 0) (fine_list [41] _ fine_port 16 [] []))
  ·exact c_takeD [41] h (c_list [41] _ (fun p => c_port p) fine_port 16 [] p) (fun p1 => c_end _)
 unfold frontP
 exact c_and (c_name p) (fun nm p1 h1 => c_and (hp p1) (fun ps p2 h2 => c_and (c_need [40] p2) (fun u p3 h3 => c_and (hq p3) (fun qs p4 h4 => c_and (c_need [123] p4) (fun u p5 h5 => c_ok h5 _) (fun _ _ _ _ _ _ _ => z_ok trivial)) (fun _ _ _ _ _ _ _ => z_need)) (fun _ _ _ _ _ _ _ => z_and (V := Vf) (v := []) (z_one (n := 0) (fine_list [41] _ fine_port 16 [] [])) (fun _ h => h.elim))) (fun _ _ _ _ _ _ _ => z_need)) (fun _ _ _ _ _ _ _ => z_bad)
end
end Go.Proofs.YtenogedclignmaaDoor.Q
