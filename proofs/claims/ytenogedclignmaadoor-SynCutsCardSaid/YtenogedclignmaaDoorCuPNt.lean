/-
  HELPER.
-/
import Derived.Test.YtenogedclignmaaDoorCuPCutP
set_option linter.unusedVariables false
set_option linter.unusedSimpArgs false
namespace Go.Proofs.YtenogedclignmaaDoor.Q
open Go.RowKit Go.Proofs.YtenogedclignmaaDoorW.PrintWords Go.Proofs.YtenogedclignmaaDoorW.PrintLast Go.Proofs.YtenogedclignmaaDoorW.PrintMore
def bdL : List (List UInt8) := [[59], kModule, kWire, kReg, kNext, kMem, kPut, kInst, kAssert, kAssume, kCover]
def bd (t : Tok) : Bool := bdL.contains (txt t)
def NumT (r : List Tok) : Prop := ∀ t ∈ r, (t.f0 = 2 → bd t = false) ∧ (t.f0 = 1 → txt t ≠ [59])
section
variable {α β : Type}
def Nt (r : List Tok) (x : Option (PR α)) : Prop := NumT r → ∀ v r', x = some (.ok v r') → ∃ u, r = u ++ r' ∧ ∀ t ∈ u, bd t = false
theorem n_and {r : List Tok} {x : Option (PR α)} {f : α → List Tok → Option (PR β)} (hx : Nt r x) (hf : ∀ v r1, Nt r1 (f v r1)) : Nt r (andThen x f) := by
 intro hn w r' h
 obtain ⟨v, r1, h1, h2⟩ := and_ok' h
 obtain ⟨u, rfl, hu⟩ := hx hn v r1 h1
 obtain ⟨u2, rfl, hu2⟩ := hf v r1 (fun t ht => hn t (List.mem_append_right _ ht)) w r' h2
 exact ⟨u ++ u2, by rw [List.append_assoc], fun t ht => (List.mem_append.1 ht).elim (hu t) (hu2 t)⟩
theorem n_ok (r : List Tok) (v : α) : Nt r (some (.ok v r)) := fun _ w r' h => by cases h; exact ⟨[], rfl, by simp⟩
theorem n_fail {c : List Tok} (e : Int) (r : List Tok) : Nt c (some (failP e r : PR α)) := fun _ v r' h => by cases r <;> cases h
theorem n_one {t : Tok} {r : List Tok} (hb : NumT (t :: r) → bd t = false) (v : α) : Nt (t :: r) (some (.ok v r)) := fun hn w r' h => by
 cases h; exact ⟨[t], rfl, fun t2 h2 => by rw [List.mem_singleton] at h2; subst h2; exact hb hn⟩
theorem n_up {t : Tok} {r : List Tok} {x : Option (PR α)} (hb : NumT (t :: r) → bd t = false) (h : Nt r x) : Nt (t :: r) x := fun hn w r' hw => by
 obtain ⟨u, rfl, hu⟩ := h (fun t2 h2 => hn t2 (List.mem_cons_of_mem _ h2)) w r' hw
 exact ⟨t :: u, rfl, fun t2 h2 => by rcases List.mem_cons.1 h2 with rfl | h2; exact hb hn; exact hu t2 h2⟩
theorem n_take (x : List UInt8) (hx : bdL.contains x = false) {r : List Tok} {N : Option (PR α)} {F : List Tok → Option (PR α)} (hN : Nt r N) (hF : ∀ r1, Nt r1 (F r1)) : Nt r (takeC x r N F) := by
 unfold takeC
 cases ht : takeP x r with
 | none => exact hN
 | some r1 =>
  obtain ⟨t, rfl, h⟩ := take_some ht
  exact n_up (fun _ => by unfold bd; rw [h]; exact hx) (hF r1)
theorem n_takeD (x : List UInt8) (hx : bdL.contains x = false) {r : List Tok} {N : Option (PR α)} {F : List Tok → Option (PR α)} (hN : Nt r N) (hF : ∀ r1, Nt r1 (F r1)) : Nt r (takeD x r N F) := by
 rw [takeD_is]; exact n_take x hx hN hF
theorem n_need (x : List UInt8) (hx : bdL.contains x = false) (r : List Tok) : Nt r (some (needP x r)) := by
 unfold needP
 cases ht : takeP x r with
 | none => exact n_fail 20 r
 | some r1 =>
  obtain ⟨t, rfl, h⟩ := take_some ht
  exact n_one (fun _ => by unfold bd; rw [h]; exact hx) ()
theorem word_bd {x : List UInt8} (h : wordP x = false) (hs : x ≠ [59]) : bdL.contains x = false := by
 cases hc : bdL.contains x with
 | false => rfl
 | true =>
  exfalso
  have : x ∈ bdL := by simpa using hc
  have h2 : ∀ y ∈ bdL, y = [59] ∨ wordP y = true := by decide
  rcases h2 x this with h3 | h3
  ·exact hs h3
  ·rw [h3] at h; cases h
theorem n_name (r : List Tok) : Nt r (some (nameP r)) := by
 unfold nameP
 by_cases c : (looks r).f0 = 1 ∧ wordP (txt (looks r)) = false
 ·rw [if_pos c]
  obtain ⟨t, r1, rfl⟩ := looks_ne (r := r) (by rw [c.1]; decide)
  exact n_one (fun hn => word_bd c.2 ((hn t (List.mem_cons_self ..)).2 c.1)) _
 ·rw [if_neg c]; exact n_fail 20 r
theorem n_number (r : List Tok) : Nt r (some (numberP r)) := by
 unfold numberP
 by_cases c : (looks r).f0 = 2
 ·rw [if_pos c]
  obtain ⟨t, r1, rfl⟩ := looks_ne (r := r) (by rw [c]; decide)
  exact n_one (fun hn => (hn t (List.mem_cons_self ..)).1 c) _
 ·rw [if_neg c]; exact n_fail 20 r
theorem n_single (r : List Tok) : Nt r (some (singleP r)) := by
 rw [single_and]
 by_cases c : (looks r).f0 = 2
 ·rw [if_pos c]; exact n_and (n_number r) (fun v r1 => n_ok r1 _)
 ·rw [if_neg c]; exact n_and (n_name r) (fun v r1 => n_ok r1 _)
theorem n_dim (r : List Tok) : Nt r (some (dimP r)) := by
 rw [dim_and]
 refine n_and (n_single r) (fun v r1 => ?_)
 unfold dimK
 by_cases c : v.f0.data.toList = []
 ·rw [if_pos c]; exact n_ok r1 _
 ·rw [if_neg c]; exact n_take [43] (by decide) (n_ok r1 _) (fun r2 => n_and (n_number r2) (fun v r3 => n_ok r3 _))
theorem n_plain (r : List Tok) : Nt r (some (plainP r)) := by
 rw [plain_and]
 refine n_and (n_single r) (fun v r1 => ?_)
 unfold plainK
 by_cases c : decide ((looks r).f0 = 2) = true ∨ txt (looks r1) = [39]
 ·rw [if_pos c]; exact n_and (n_need [39] (by decide) r1) (fun u r2 => n_and (n_single r2) (fun v r3 => n_ok r3 _))
 ·rw [if_neg c]; exact n_take [46] (by decide) (n_ok r1 _) (fun r2 => n_and (n_name r2) (fun v r3 => n_ok r3 _))
theorem n_made (at_ r : List Tok) (e : Ex) : Nt r (madeP at_ e r) := fun _ v r' h => by
 obtain ⟨_, rfl, _⟩ := made_ok h; exact ⟨[], rfl, by simp⟩
theorem lookup_mem {γ δ : Type} [BEq γ] [LawfulBEq γ] {x : γ} {L : List (γ × δ)} {v : δ} (h : L.lookup x = some v) : x ∈ L.map Prod.fst := by
 induction L with
 | nil => cases h
 | cons p L ih =>
  obtain ⟨a, b⟩ := p
  rw [List.lookup_cons] at h
  cases hq : x == a with
  | true => rw [beq_iff_eq] at hq; subst hq; simp
  | false => rw [hq] at h; simp [ih h]
theorem level_bd {n : Nat} {x : List UInt8} (h : levelV n x ≠ 0) : bdL.contains x = false := by
 unfold levelV at h
 cases hq : (levelL n).lookup x with
 | none => rw [hq] at h; exact absurd rfl h
 | some v =>
  have hm := lookup_mem hq
  have : ∀ n, ∀ y ∈ (levelL n).map Prod.fst, bdL.contains y = false := fun n => by
   match n with
   | 0 => decide
   | 1 => decide
   | 2 => decide
   | 3 => decide
   | 4 => decide
   | 5 => decide
   | n + 6 => intro y hy; cases hy
  exact this n x hm
theorem n_exprs : ∀ k : Nat, (∀ lev r, Nt r (betweenP k lev r)) ∧ (∀ lev e r, Nt r (loopP k lev e r)) ∧ (∀ r, Nt r (exprP k r)) ∧ (∀ r, Nt r (unaryP k r)) ∧ (∀ e r, Nt r (cutsP k e r)) ∧ (∀ r, Nt r (primaryP k r)) := by
 intro k
 induction k with
 | zero =>
  refine ⟨fun lev r hn v r' h => ?_, fun lev e r hn v r' h => ?_, fun r hn v r' h => ?_, fun r hn v r' h => ?_, fun e r hn v r' h => ?_, fun r hn v r' h => ?_⟩
  ·unfold betweenP at h; cases h
  ·unfold loopP at h; cases h
  ·unfold exprP at h; cases h
  ·unfold unaryP at h; cases h
  ·unfold cutsP at h; cases h
  ·unfold primaryP at h; cases h
 | succ k ih =>
  obtain ⟨hb, hl, he, hu, hc, hp⟩ := ih
  refine ⟨fun lev r => ?_, fun lev e r => ?_, fun r => ?_, fun r => ?_, fun e r => ?_, fun r => ?_⟩
  ·rw [betweenP]
   by_cases c : lev = 6
   ·rw [if_pos c]; exact hu r
   ·rw [if_neg c]; exact n_and (hb (lev + 1) r) (fun v r1 => hl lev v r1)
  ·rw [loopP]
   by_cases c : opP lev (looks r) = 0
   ·rw [if_pos c]; exact n_ok r _
   ·rw [if_neg c]
    obtain ⟨t, r0, rfl⟩ := op_ne c
    refine n_up (fun _ => ?_) (n_and (hb (lev + 1) r0) (fun v r1 => n_and (n_made _ _ _) (fun v2 r2 => ?_)))
    ·have : opP lev t ≠ 0 := c
     unfold opP at this
     by_cases c2 : t.f0 = 3
     ·rw [if_pos c2] at this; exact level_bd this
     ·rw [if_neg c2] at this; exact absurd rfl this
    ·by_cases c3 : lev = 3
     ·rw [if_pos c3]; exact n_ok r2 _
     ·rw [if_neg c3]; exact hl lev v2 r2
  ·rw [exprP]
   exact n_and (hb 0 r) (fun v r1 => n_take [63] (by decide) (n_ok r1 _) (fun r2 => n_and (he r2) (fun b r3 => n_and (n_need [58] (by decide) r3) (fun u r4 => n_and (he r4) (fun c r5 => n_made _ _ _)))))
  ·rw [unaryP]
   exact n_takeD [126] (by decide) (n_and (hp r) (fun v r1 => hc v r1)) (fun r1 => n_and (hu r1) (fun v r2 => n_made _ _ _))
  ·rw [cutsP]
   exact n_take [91] (by decide) (n_ok r _) (fun r1 => n_and (n_dim r1) (fun hi r2 => n_takeD [58] (by decide)
    (n_and (n_need [93] (by decide) r2) (fun u r3 => n_and (n_made _ _ _) (fun v r4 => hc v r4)))
    (fun r3 => n_and (n_dim r3) (fun lo r4 => n_and (n_need [93] (by decide) r4) (fun u r5 => n_and (n_made _ _ _) (fun v r6 => hc v r6))))))
  ·rw [primaryP]
   by_cases c : (looks r).f0 = 2 ∨ (looks r).f0 = 1 ∧ wordP (txt (looks r)) = false
   ·rw [if_pos c]; exact n_plain r
   ·rw [if_neg c]
    refine n_takeD [40] (by decide) (n_takeD [123] (by decide) ?_ (fun r1 => n_and (he r1) (fun a r2 => n_and (n_need [44] (by decide) r2) (fun u r3 => n_and (he r3) (fun b r4 => n_and (n_need [125] (by decide) r4) (fun u r5 => n_made _ _ _))))))
     (fun r1 => n_and (he r1) (fun a r2 => n_and (n_need [41] (by decide) r2) (fun u r3 => n_ok r3 _)))
    cases hw : wordsL.lookup (txt (looks r)) with
    | none => exact n_fail 20 r
    | some op =>
     dsimp only
     cases r with
     | nil => cases hw
     | cons t r0 =>
      have hb2 : bd t = false := by
       have hm := lookup_mem hw
       have : ∀ y ∈ wordsL.map Prod.fst, bdL.contains y = false := by decide
       exact this _ hm
      refine n_up (fun _ => hb2) (n_and (n_need [40] (by decide) r0) (fun u r1 => ?_))
      by_cases h19 : op = 19
      ·rw [if_pos h19]
       exact n_and (n_name r1) (fun nm r2 => n_and (n_need [44] (by decide) r2) (fun u r3 => n_and (he r3) (fun e r4 => n_and (n_need [41] (by decide) r4) (fun u r5 => n_made _ _ _))))
      ·rw [if_neg h19]
       exact n_and (he r1) (fun e r4 => n_and (n_need [41] (by decide) r4) (fun u r5 => n_made _ _ _))
theorem n_list {γ : Type} (stop : List UInt8) (hs : bdL.contains stop = false) (one : List Tok → Option (PR γ)) (h1 : ∀ r, Nt r (one r)) : ∀ (n : Nat) (acc : List γ) (r : List Tok), Nt r (listP stop one n acc r) := by
 intro n
 induction n with
 | zero => intro acc r; rw [listP]; exact n_fail 2 r
 | succ n ih =>
  intro acc r
  rw [listP]
  have e : ∀ (v : γ) (r : List Tok), (andThen (some (needP stop r)) fun _ r2 => some (.ok (acc ++ [v]) r2)) = (match needP stop r with | .ok _ r2 => some (.ok (acc ++ [v]) r2) | .bad e t => some (.bad e t)) := fun v r => by cases needP stop r <;> rfl
  refine n_and (h1 r) (fun v r1 => n_takeD [44] (by decide) ?_ (fun r2 => ih _ r2))
  have hq := n_and (n_need stop hs r1) (f := fun _ r2 => some (.ok (acc ++ [v]) r2)) (fun u r2 => n_ok r2 (acc ++ [v]))
  rw [e] at hq
  exact hq
theorem n_expr (k : Nat) (r : List Tok) : Nt r (exprP k r) := (n_exprs k).2.2.1 r
theorem n_bind (k : Nat) (r : List Tok) : Nt r (bindP k r) := by
 unfold bindP
 exact n_and (n_name r) (fun v r1 => n_and (n_need [58] (by decide) r1) (fun u r2 => n_and (n_expr k r2) (fun e r3 => n_ok r3 _)))
theorem n_parts (k : Nat) (x : Itm) (r : List Tok) : Nt r (partsP k x r) := by
 unfold partsP
 by_cases c1 : x.f0 = 1
 ·rw [if_pos c1]; exact n_and (n_need [58] (by decide) r) (fun u r1 => n_and (n_dim r1) (fun e r2 => n_and (n_need [61] (by decide) r2) (fun u r3 => n_and (n_expr k r3) (fun e r4 => n_ok r4 _))))
 rw [if_neg c1]
 by_cases c2 : x.f0 = 2
 ·rw [if_pos c2]; exact n_and (n_need [58] (by decide) r) (fun u r1 => n_and (n_dim r1) (fun e r2 => n_and (n_need [61] (by decide) r2) (fun u r3 => n_and (n_dim r3) (fun e r4 => n_ok r4 _))))
 rw [if_neg c2]
 have hg : Nt r (getsP k x r) := n_and (n_need [61] (by decide) r) (fun u r1 => n_and (n_expr k r1) (fun e r2 => n_ok r2 _))
 by_cases c3 : x.f0 = 3
 ·rw [if_pos c3]; exact hg
 rw [if_neg c3]
 by_cases c4 : x.f0 = 4
 ·rw [if_pos c4]; exact hg
 rw [if_neg c4]
 by_cases c5 : x.f0 = 5
 ·rw [if_pos c5]; exact n_and (n_need [91] (by decide) r) (fun u r1 => n_and (n_dim r1) (fun e r2 => n_and (n_need [93] (by decide) r2) (fun u r3 => n_and (n_need [58] (by decide) r3) (fun u r4 => n_and (n_dim r4) (fun e r5 => n_ok r5 _)))))
 rw [if_neg c5]
 by_cases c6 : x.f0 = 6
 ·rw [if_pos c6]; exact n_and (n_need [91] (by decide) r) (fun u r1 => n_and (n_expr k r1) (fun e r2 => n_and (n_need [93] (by decide) r2) (fun u r3 => n_and (n_need [61] (by decide) r3) (fun u r4 => n_and (n_expr k r4) (fun e r5 => n_and (n_need kIf (by decide) r5) (fun u r6 => n_and (n_expr k r6) (fun e r7 => n_ok r7 _)))))))
 rw [if_neg c6]
 by_cases c7 : x.f0 = 7
 ·rw [if_pos c7]
  have ha : ∀ r, Nt r (argsP r) := fun r => by
   unfold argsP
   exact n_take [60] (by decide) (n_ok r _) (fun r1 => n_list [62] (by decide) _ (fun r => n_dim r) 4 [] r1)
  have hb : ∀ r, Nt r (bindsP k r) := fun r => by
   unfold bindsP
   exact n_takeD [41] (by decide) (n_list [41] (by decide) _ (fun r => n_bind k r) 16 [] r) (fun r1 => n_ok r1 _)
  exact n_and (n_name r) (fun md r1 => n_and (ha r1) (fun as_ r2 => n_and (n_need [40] (by decide) r2) (fun u r3 => n_and (hb r3) (fun bs r4 => n_ok r4 _))))
 rw [if_neg c7]; exact n_and (n_need [58] (by decide) r) (fun u r1 => n_and (n_expr k r1) (fun e r2 => n_ok r2 _))
theorem n_item {k n : Nat} {t : Tok} {r r' : List Tok} {x : Itm} (hn : NumT (t :: r)) (h : itemP k n (t :: r) = some (.ok x r')) : ∃ u s, r = u ++ s :: r' ∧ (∀ t ∈ u, bd t = false) ∧ txt s = [59] := by
 unfold itemP at h
 by_cases c : keptV (txt (looks (t :: r))) = 0
 ·rw [if_pos c] at h; cases h
 rw [if_neg c] at h
 by_cases c2 : 64 ≤ n
 ·rw [if_pos c2] at h; cases h
 rw [if_neg c2] at h
 obtain ⟨nm, r1, h1, ha⟩ := and_ok' h
 (try dsimp only at ha)
 obtain ⟨y, r2, h2, hb⟩ := and_ok' ha
 (try dsimp only at hb)
 obtain ⟨u0, r3, h3, hc⟩ := and_ok' hb
 have h4 : andThen (some (nameP r)) (fun nm r1 => partsP k { zItm with f0 := keptV (txt (looks (t :: r))), f1 := nm } r1) = some (.ok y r2) := by
  rw [show some (nameP r) = some (PR.ok nm r1) from h1]
  exact h2
 obtain ⟨u, hu, hbd⟩ := n_and (n_name r) (fun nm r1 => n_parts k _ r1) (fun t2 h2 => hn t2 (List.mem_cons_of_mem _ h2)) y r2 h4
 have h5 := Option.some.inj h3
 unfold needP at h5
 cases ht : takeP [59] r2 with
 | none => rw [ht] at h5; exact absurd h5 (by unfold failP; cases r2 <;> simp)
 | some r4 =>
  rw [ht] at h5
  obtain ⟨s, rfl, hs⟩ := take_some ht
  cases h5
  cases hc
  exact ⟨u, s, hu, hbd, hs⟩
theorem n_front (r : List Tok) : Nt r (frontP r) := by
 have h0 : ∀ (b : Bool) (r : List Tok), Nt r (andThen (some (nameP r)) fun nm r2 => andThen (some (needP [58] r2)) fun _ r3 => andThen (some (dimP r3)) fun d r4 => some (.ok (⟨b, nm, d⟩ : Prt) r4)) :=
  fun b r => n_and (n_name r) (fun nm r1 => n_and (n_need [58] (by decide) r1) (fun u r2 => n_and (n_dim r2) (fun e r3 => n_ok r3 _)))
 have h1 : ∀ r, Nt r (portP r) := fun r => by
  unfold portP
  exact n_takeD kIn (by decide) (n_and (n_need kOut (by decide) r) (fun u r1 => h0 false r1)) (fun r1 => h0 true r1)
 have hp : ∀ r, Nt r (paramsP r) := fun r => by
  unfold paramsP
  exact n_take [60] (by decide) (n_ok r _) (fun r1 => n_list [62] (by decide) _ (fun r => n_name r) 4 [] r1)
 have hq : ∀ r, Nt r (portsP r) := fun r => by
  unfold portsP
  exact n_takeD [41] (by decide) (n_list [41] (by decide) _ h1 16 [] r) (fun r1 => n_ok r1 _)
 unfold frontP
 exact n_and (n_name r) (fun nm r1 => n_and (hp r1) (fun ps r2 => n_and (n_need [40] (by decide) r2) (fun u r3 => n_and (hq r3) (fun qs r4 => n_and (n_need [123] (by decide) r4) (fun u r5 => n_ok r5 _)))))
end
end Go.Proofs.YtenogedclignmaaDoor.Q
