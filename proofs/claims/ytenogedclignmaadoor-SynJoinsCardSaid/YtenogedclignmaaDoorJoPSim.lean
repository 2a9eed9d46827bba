/-
  HELPER.
-/
import Derived.Test.YtenogedclignmaaDoorPlK16
import Derived.Test.YtenogedclignmaaDoorJoWords
import Derived.Test.YtenogedclignmaaDoorJoK11
set_option linter.unusedVariables false
set_option linter.unusedSimpArgs false
namespace Go.Proofs.YtenogedclignmaaDoor.Q
open Go.RowKit Go.Proofs.YtenogedclignmaaDoorW.PrintWords Go.Proofs.YtenogedclignmaaDoorW.PrintLast Go.Proofs.YtenogedclignmaaDoorW.PrintMore
abbrev sg (t : Tok) : Int × ByteArray × Int := (t.f0, t.f1, t.f2)
def Ag (n : Nat) (a b : List Tok) : Prop := ∀ i, i ≤ n → (a[i]?).map sg = (b[i]?).map sg
def J (m : Nat) (d : Int) (a b : List Tok) : Prop := m ≤ a.length → (b.length : Int) = a.length + d ∧ Ag (a.length - m) a b
section
variable {m : Nat} {d : Int} {α β : Type}
theorem j_cases {a b : List Tok} (h : J m d a b) (hm : m ≤ a.length) : (a = [] ∧ b = []) ∨ ∃ t a1 t2 b1, a = t :: a1 ∧ b = t2 :: b1 ∧ sg t = sg t2 ∧ J m d a1 b1 := by
 obtain ⟨h1, h2⟩ := h hm
 have h3 := h2 0 (Nat.zero_le _)
 cases a with
 | nil =>
  cases b with
  | nil => exact .inl ⟨rfl, rfl⟩
  | cons t2 b1 => simp at h3
 | cons t a1 =>
  cases b with
  | nil => simp at h3
  | cons t2 b1 =>
   refine .inr ⟨t, a1, t2, b1, rfl, rfl, ?_, fun hq => ⟨?_, fun i hi => ?_⟩⟩
   ·simpa using h3
   ·simp only [List.length_cons] at h1; omega
   ·have h4 := h2 (i + 1) (by simp only [List.length_cons]; omega)
    simpa using h4
theorem j_looks {a b : List Tok} (h : J m d a b) (hm : m ≤ a.length) : (looks a).f0 = (looks b).f0 ∧ (looks a).f1 = (looks b).f1 ∧ (looks a).f2 = (looks b).f2 := by
 rcases j_cases h hm with ⟨rfl, rfl⟩ | ⟨t, a1, t2, b1, rfl, rfl, hs, _⟩
 ·exact ⟨rfl, rfl, rfl⟩
 ·simp only [sg, Prod.mk.injEq] at hs; exact hs
theorem j_txt {a b : List Tok} (h : J m d a b) (hm : m ≤ a.length) : txt (looks a) = txt (looks b) := by
 unfold txt; rw [(j_looks h hm).2.1]
theorem j_tail {a b : List Tok} (h : J m d a b) (hm : m ≤ a.length) : J m d a.tail b.tail := by
 rcases j_cases h hm with ⟨rfl, rfl⟩ | ⟨t, a1, t2, b1, rfl, rfl, _, hj⟩
 ·exact h
 ·exact hj
theorem j_take {a b : List Tok} (h : J m d a b) (hm : m ≤ a.length) (x : List UInt8) : (takeP x a = none ∧ takeP x b = none) ∨ ∃ a1 b1, takeP x a = some a1 ∧ takeP x b = some b1 ∧ J m d a1 b1 ∧ a1.length + 1 = a.length := by
 have ht := j_txt h hm
 rcases j_cases h hm with ⟨rfl, rfl⟩ | ⟨t, a1, t2, b1, rfl, rfl, hs, hj⟩
 ·exact .inl ⟨rfl, rfl⟩
 ·change txt t = txt t2 at ht
  by_cases hx : txt t = x
  ·exact .inr ⟨a1, b1, if_pos hx, if_pos (ht ▸ hx), hj, rfl⟩
  ·exact .inl ⟨if_neg hx, if_neg (ht ▸ hx)⟩
def S (m : Nat) (d : Int) (a : List Tok) (x z : Option (PR α)) : Prop := ∀ y, x = some y → match y with
 | .ok v r => r.length ≤ a.length ∧ (m ≤ r.length → ∃ r2, z = some (.ok v r2) ∧ J m d r r2)
 | .bad e t => m = 0 → ∃ t2, z = some (.bad e t2) ∧ J m d t t2
theorem s_up {a a1 : List Tok} {x z : Option (PR α)} (h : S m d a1 x z) (hl : a1.length ≤ a.length) : S m d a x z := by
 intro y hy
 have := h y hy
 cases y with
 | ok v r => exact ⟨Nat.le_trans this.1 hl, this.2⟩
 | bad e t => exact this
theorem s_dead {a : List Tok} {n : Nat} {x z : Option (PR α)} (hm : ¬ m ≤ a.length) (hf : FineO a n x) : S m d a x z := by
 intro y hy
 have := hf y hy
 cases y with
 | ok v r => exact ⟨by have := this.2; omega, fun q => absurd q (by have := this.2; omega)⟩
 | bad e t => exact fun q => absurd (q ▸ Nat.zero_le _) hm
theorem s_and {a : List Tok} {x z : Option (PR α)} {f g : α → List Tok → Option (PR β)} (hx : S m d a x z) (hf : ∀ v a1 b1, J m d a1 b1 → S m d a1 (f v a1) (g v b1)) : S m d a (andThen x f) (andThen z g) := by
 intro y hy
 cases x with
 | none => cases hy
 | some q =>
  cases q with
  | bad e t => cases hy; intro hm; obtain ⟨t2, h1, h2⟩ := hx _ rfl hm; subst h1; exact ⟨t2, rfl, h2⟩
  | ok v r1 =>
   obtain ⟨hl, hx2⟩ := hx _ rfl
   by_cases hm : m ≤ r1.length
   ·obtain ⟨b1, h1, h2⟩ := hx2 hm
    subst h1
    have := hf v r1 b1 h2 y hy
    cases y with
    | ok w r => exact ⟨Nat.le_trans this.1 hl, this.2⟩
    | bad e t => exact this
   ·have := hf v r1 [] (fun q => absurd q hm) y hy
    cases y with
    | ok w r => exact ⟨Nat.le_trans this.1 hl, fun q => absurd (Nat.le_trans q this.1) hm⟩
    | bad e t => exact fun q => absurd (q ▸ Nat.zero_le _) hm
theorem j_dead {a b : List Tok} (hm : ¬ m ≤ a.length) : J m d a b := fun q => absurd q hm
theorem s_dead2 {a : List Tok} {x z z2 : Option (PR α)} (hm : ¬ m ≤ a.length) (h : S m d a x z2) : S m d a x z := by
 intro y hy
 have := h y hy
 cases y with
 | ok v r => exact ⟨this.1, fun q => absurd (Nat.le_trans q this.1) hm⟩
 | bad e t => exact fun q => absurd (q ▸ Nat.zero_le _) hm
def takeC (x : List UInt8) (a : List Tok) (N : Option (PR α)) (F : List Tok → Option (PR α)) : Option (PR α) :=
 match takeP x a with
 | none => N
 | some r => F r
theorem s_take (x : List UInt8) {a b : List Tok} {N N2 : Option (PR α)} {F F2 : List Tok → Option (PR α)} (h : J m d a b) (hN : S m d a N N2) (hF : ∀ a1 b1, J m d a1 b1 → S m d a1 (F a1) (F2 b1)) : S m d a (takeC x a N F) (takeC x b N2 F2) := by
 unfold takeC
 by_cases hm : m ≤ a.length
 ·rcases j_take h hm x with ⟨h1, h2⟩ | ⟨a1, b1, h1, h2, h3, h4⟩
  ·rw [h1, h2]; exact hN
  ·rw [h1, h2]; exact s_up (hF a1 b1 h3) (by omega)
 ·cases ht : takeP x a with
  | none => exact s_dead2 hm hN
  | some r =>
   obtain ⟨t, rfl, _⟩ := take_some ht
   have hm2 : ¬ m ≤ r.length := fun q => hm (by simp only [List.length_cons]; omega)
   exact s_dead2 hm (s_up (hF r [] (j_dead hm2)) (by simp))
def takeD (x : List UInt8) (a : List Tok) (N : Option (PR α)) (F : List Tok → Option (PR α)) : Option (PR α) :=
 match takeP x a with
 | some r => F r
 | none => N
theorem takeD_is (x : List UInt8) (a : List Tok) (N : Option (PR α)) (F : List Tok → Option (PR α)) : takeD x a N F = takeC x a N F := by unfold takeD takeC; cases takeP x a <;> rfl
theorem s_takeD (x : List UInt8) {a b : List Tok} {N N2 : Option (PR α)} {F F2 : List Tok → Option (PR α)} (h : J m d a b) (hN : S m d a N N2) (hF : ∀ a1 b1, J m d a1 b1 → S m d a1 (F a1) (F2 b1)) : S m d a (takeD x a N F) (takeD x b N2 F2) := by
 rw [takeD_is, takeD_is]; exact s_take x h hN hF
theorem s_ok {a b : List Tok} (h : J m d a b) (v : α) : S m d a (some (.ok v a)) (some (.ok v b)) := by
 intro y hy; cases hy; exact ⟨Nat.le_refl _, fun _ => ⟨b, rfl, h⟩⟩
theorem s_fail {a b c : List Tok} (h : J m d a b) (e : Int) : S m d c (some (failP e a : PR α)) (some (failP e b)) := by
 intro y hy
 have hb : ∀ m' : m = 0, ∃ e2 t2 t3, (failP e a : PR α) = .bad e2 t2 ∧ (failP e b : PR α) = .bad e2 t3 ∧ J m d t2 t3 := fun hm => by
  rcases j_cases h (by omega) with ⟨rfl, rfl⟩ | ⟨t, a1, t2, b1, rfl, rfl, _, _⟩
  ·exact ⟨21, [], [], rfl, rfl, h⟩
  ·exact ⟨e, _, _, rfl, rfl, h⟩
 cases hy
 cases hq : (failP e a : PR α) with
 | ok v r => cases a <;> cases hq
 | bad e2 t =>
  intro hm
  obtain ⟨e3, t2, t3, h1, h2, h3⟩ := hb hm
  rw [hq] at h1
  cases h1
  exact ⟨t3, by rw [h2], h3⟩
theorem s_need {a b : List Tok} (x : List UInt8) (h : J m d a b) : S m d a (some (needP x a)) (some (needP x b)) := by
 by_cases hm : m ≤ a.length
 ·unfold needP
  rcases j_take h hm x with ⟨h1, h2⟩ | ⟨a1, b1, h1, h2, h3, h4⟩
  ·rw [h1, h2]; exact s_fail h 20
  ·rw [h1, h2]; exact s_up (s_ok h3 ()) (by omega)
 ·exact s_dead hm (fineO (fine_need x a))
theorem s_name {a b : List Tok} (h : J m d a b) : S m d a (some (nameP a)) (some (nameP b)) := by
 by_cases hm : m ≤ a.length
 ·unfold nameP
  obtain ⟨h0, h1, h2⟩ := j_looks h hm
  rw [← j_txt h hm, ← h0, ← h1]
  by_cases c : (looks a).f0 = 1 ∧ wordP (txt (looks a)) = false
  ·rw [if_pos c, if_pos c]; exact s_up (s_ok (j_tail h hm) _) (by rw [List.length_tail]; omega)
  ·rw [if_neg c, if_neg c]; exact s_fail h 20
 ·exact s_dead hm (fineO (fine_name a))
theorem s_number {a b : List Tok} (h : J m d a b) : S m d a (some (numberP a)) (some (numberP b)) := by
 by_cases hm : m ≤ a.length
 ·unfold numberP
  obtain ⟨h0, h1, h2⟩ := j_looks h hm
  rw [← h0, ← h2]
  by_cases c : (looks a).f0 = 2
  ·rw [if_pos c, if_pos c]; exact s_up (s_ok (j_tail h hm) _) (by rw [List.length_tail]; omega)
  ·rw [if_neg c, if_neg c]; exact s_fail h 20
 ·exact s_dead hm (fineO (fine_number a))
theorem single_and (r : List Tok) : some (singleP r) = if (looks r).f0 = 2 then andThen (some (numberP r)) (fun n r1 => some (.ok (⟨⟨#[]⟩, n⟩ : Dm) r1)) else andThen (some (nameP r)) (fun s r1 => some (.ok (⟨s, 0⟩ : Dm) r1)) := by
 unfold singleP
 by_cases c : (looks r).f0 = 2
 ·rw [if_pos c, if_pos c]; cases numberP r <;> rfl
 ·rw [if_neg c, if_neg c]; cases nameP r <;> rfl
theorem s_single {a b : List Tok} (h : J m d a b) : S m d a (some (singleP a)) (some (singleP b)) := by
 by_cases hm : m ≤ a.length
 ·rw [single_and, single_and, ← (j_looks h hm).1]
  by_cases c : (looks a).f0 = 2
  ·rw [if_pos c, if_pos c]; exact s_and (s_number h) (fun v a1 b1 h1 => s_ok h1 _)
  ·rw [if_neg c, if_neg c]; exact s_and (s_name h) (fun v a1 b1 h1 => s_ok h1 _)
 ·exact s_dead hm (fineO (fine_single a))
def dimK (dm : Dm) (r1 : List Tok) : Option (PR Dm) :=
 if dm.f0.data.toList = [] then some (.ok dm r1) else
 match takeP [43] r1 with
 | none => some (.ok dm r1)
 | some r2 => andThen (some (numberP r2)) fun n r3 => some (.ok ⟨dm.f0, n⟩ r3)
theorem dim_and (r : List Tok) : some (dimP r) = andThen (some (singleP r)) dimK := by
 unfold dimP
 cases singleP r with
 | bad e t => rfl
 | ok dm r1 =>
  show some _ = dimK dm r1
  unfold dimK
  dsimp only
  by_cases c : dm.f0.data.toList = []
  ·rw [if_pos c, if_pos c]
  ·rw [if_neg c, if_neg c]
   cases takeP [43] r1 with
   | none => rfl
   | some r2 => dsimp only; cases numberP r2 <;> rfl
theorem fine_dimK (dm : Dm) (r : List Tok) : FineO r 0 (dimK dm r) := by
 unfold dimK
 by_cases c : dm.f0.data.toList = []
 ·rw [if_pos c]; exact step_ok0 _
 ·rw [if_neg c]
  cases ht : takeP [43] r with
  | none => exact step_ok0 _
  | some r2 =>
   obtain ⟨t, rfl, _⟩ := take_some ht
   exact (fine_and (fineO (fine_number r2)) (fun v r1 _ h1 h2 => (step_ok0 (r := r1) _).up (b2 := 0) h1 h2 (by omega))).up (c := 1) (List.suffix_cons t r2) (by simp) (by omega)
theorem s_dimK {a b : List Tok} (dm : Dm) (h : J m d a b) : S m d a (dimK dm a) (dimK dm b) := by
 by_cases hm : m ≤ a.length
 ·unfold dimK
  by_cases c : dm.f0.data.toList = []
  ·rw [if_pos c, if_pos c]; exact s_ok h _
  ·rw [if_neg c, if_neg c]
   rcases j_take h hm [43] with ⟨h1, h2⟩ | ⟨a1, b1, h1, h2, h3, h4⟩
   ·rw [h1, h2]; exact s_ok h _
   ·rw [h1, h2]; exact s_up (s_and (s_number h3) (fun v a2 b2 hj => s_ok hj _)) (by omega)
 ·exact s_dead hm (fine_dimK dm a)
theorem s_dim {a b : List Tok} (h : J m d a b) : S m d a (some (dimP a)) (some (dimP b)) := by
 rw [dim_and, dim_and]; exact s_and (s_single h) (fun v a1 b1 h1 => s_dimK v h1)
def plainK (num : Bool) (dm : Dm) (r1 : List Tok) : Option (PR Ex) :=
 if num = true ∨ txt (looks r1) = [39] then andThen (some (needP [39] r1)) fun _ r2 => andThen (some (singleP r2)) fun v r3 => some (.ok (exLit dm v) r3) else
 match takeP [46] r1 with
 | none => some (.ok (exRef dm.f0) r1)
 | some r2 => andThen (some (nameP r2)) fun s r3 => some (.ok (exRef (dm.f0 ++ ((⟨#[46]⟩ : ByteArray) ++ s))) r3)
theorem plain_and (r : List Tok) : some (plainP r) = andThen (some (singleP r)) (plainK (decide ((looks r).f0 = 2))) := by
 unfold plainP
 cases singleP r with
 | bad e t => rfl
 | ok dm r1 =>
  show some _ = plainK _ dm r1
  unfold plainK
  dsimp only
  by_cases c : (looks r).f0 = 2 ∨ txt (looks r1) = [39]
  ·rw [if_pos c, if_pos (by simpa using c)]
   cases needP [39] r1 with
   | bad e t => rfl
   | ok u r2 => show some _ = andThen (some (singleP r2)) _; dsimp only; cases singleP r2 <;> rfl
  ·rw [if_neg c, if_neg (by simpa using c)]
   cases takeP [46] r1 with
   | none => rfl
   | some r2 => dsimp only; cases nameP r2 <;> rfl
theorem step_name0 {r : List Tok} {f : ByteArray → List Tok → Option (PR β)} (hf : ∀ u r1, FineO r1 0 (f u r1)) : FineO r 0 (andThen (some (nameP r)) f) :=
 fine_and (fineO (fine_name r)) (fun v r1 _ h1 h2 => (hf v r1).up h1 h2 (by omega))
theorem step_single0 {r : List Tok} {f : Dm → List Tok → Option (PR β)} (hf : ∀ u r1, FineO r1 0 (f u r1)) : FineO r 0 (andThen (some (singleP r)) f) :=
 fine_and (fineO (fine_single r)) (fun v r1 _ h1 h2 => (hf v r1).up h1 h2 (by omega))
theorem fine_plainK (num : Bool) (dm : Dm) (r : List Tok) : FineO r 0 (plainK num dm r) := by
 unfold plainK
 by_cases c : num = true ∨ txt (looks r) = [39]
 ·rw [if_pos c]; exact step_need0 [39] fun u r2 => step_single0 fun v r3 => step_ok0 _
 ·rw [if_neg c]
  cases ht : takeP [46] r with
  | none => exact step_ok0 _
  | some r2 =>
   obtain ⟨t, rfl, _⟩ := take_some ht
   exact (step_name0 (r := r2) fun s r3 => step_ok0 _).up (c := 1) (List.suffix_cons t r2) (by simp) (by omega)
theorem s_plainK {a b : List Tok} (num : Bool) (dm : Dm) (h : J m d a b) : S m d a (plainK num dm a) (plainK num dm b) := by
 by_cases hm : m ≤ a.length
 ·unfold plainK
  rw [← j_txt h hm]
  by_cases c : num = true ∨ txt (looks a) = [39]
  ·rw [if_pos c, if_pos c]; exact s_and (s_need [39] h) (fun u a1 b1 h1 => s_and (s_single h1) (fun v a2 b2 h2 => s_ok h2 _))
  ·rw [if_neg c, if_neg c]
   rcases j_take h hm [46] with ⟨h1, h2⟩ | ⟨a1, b1, h1, h2, h3, h4⟩
   ·rw [h1, h2]; exact s_ok h _
   ·rw [h1, h2]; exact s_up (s_and (s_name h3) (fun v a2 b2 hj => s_ok hj _)) (by omega)
 ·exact s_dead hm (fine_plainK num dm a)
theorem s_plain {a b : List Tok} (h : J m d a b) : S m d a (some (plainP a)) (some (plainP b)) := by
 by_cases hm : m ≤ a.length
 ·rw [plain_and, plain_and, (j_looks h hm).1]; exact s_and (s_single h) (fun v a1 b1 h1 => s_plainK _ v h1)
 ·exact s_dead hm (fineO (fine_plain a))
theorem s_made {a b a1 b1 : List Tok} (h : J m d a b) (h1 : J m d a1 b1) (e : Ex) : S m d a1 (madeP a e a1) (madeP b e b1) := by
 unfold madeP
 by_cases c : deepE e > 8
 ·rw [if_pos c, if_pos c]; exact s_fail h 2
 ·rw [if_neg c, if_neg c]; exact s_ok h1 e
theorem j_op {a b : List Tok} (h : J m d a b) (hm : m ≤ a.length) (lev : Nat) : opP lev (looks a) = opP lev (looks b) := by
 unfold opP; rw [j_txt h hm, (j_looks h hm).1]
theorem s_exprs : ∀ k : Nat, (∀ lev a b, J m d a b → S m d a (betweenP k lev a) (betweenP k lev b)) ∧ (∀ lev e a b, J m d a b → S m d a (loopP k lev e a) (loopP k lev e b)) ∧ (∀ a b, J m d a b → S m d a (exprP k a) (exprP k b)) ∧ (∀ a b, J m d a b → S m d a (unaryP k a) (unaryP k b)) ∧ (∀ e a b, J m d a b → S m d a (cutsP k e a) (cutsP k e b)) ∧ (∀ a b, J m d a b → S m d a (primaryP k a) (primaryP k b)) := by
 intro k
 induction k with
 | zero =>
  refine ⟨fun lev a b _ y h => ?_, fun lev e a b _ y h => ?_, fun a b _ y h => ?_, fun a b _ y h => ?_, fun e a b _ y h => ?_, fun a b _ y h => ?_⟩
  ·unfold betweenP at h; cases h
  ·unfold loopP at h; cases h
  ·unfold exprP at h; cases h
  ·unfold unaryP at h; cases h
  ·unfold cutsP at h; cases h
  ·unfold primaryP at h; cases h
 | succ k ih =>
  obtain ⟨hb, hl, he, hu, hc, hp⟩ := ih
  obtain ⟨fb, fl, fe, fu, fc, fp⟩ := fine_exprs (k + 1)
  refine ⟨fun lev a b h => ?_, fun lev e a b h => ?_, fun a b h => ?_, fun a b h => ?_, fun e a b h => ?_, fun a b h => ?_⟩
  ·rw [betweenP, betweenP]
   by_cases c : lev = 6
   ·rw [if_pos c, if_pos c]; exact hu a b h
   ·rw [if_neg c, if_neg c]; exact s_and (hb (lev + 1) a b h) (fun v a1 b1 h1 => hl lev v a1 b1 h1)
  ·by_cases hm : m ≤ a.length
   ·rw [loopP, loopP, ← j_op h hm lev]
    by_cases c : opP lev (looks a) = 0
    ·rw [if_pos c, if_pos c]; exact s_ok h _
    ·rw [if_neg c, if_neg c]
     refine s_up (s_and (hb (lev + 1) _ _ (j_tail h hm)) (fun v a1 b1 h1 => s_and (s_made h h1 _) (fun v2 a2 b2 h2 => ?_))) (by rw [List.length_tail]; omega)
     by_cases c3 : lev = 3
     ·rw [if_pos c3, if_pos c3]; exact s_ok h2 _
     ·rw [if_neg c3, if_neg c3]; exact hl lev v2 a2 b2 h2
   ·exact s_dead hm (fl lev e a)
  ·rw [exprP, exprP]
   exact s_and (hb 0 a b h) (fun v a1 b1 h1 => s_take [63] h1 (s_ok h1 _) (fun a2 b2 h2 => s_and (he a2 b2 h2) (fun v2 a3 b3 h3 => s_and (s_need [58] h3) (fun u a4 b4 h4 => s_and (he a4 b4 h4) (fun v3 a5 b5 h5 => s_made h1 h5 _)))))
  ·rw [unaryP, unaryP]
   exact s_takeD [126] h (s_and (hp a b h) (fun v a1 b1 h1 => hc v a1 b1 h1)) (fun a2 b2 h2 => s_and (hu a2 b2 h2) (fun v a3 b3 h3 => s_made h h3 _))
  ·rw [cutsP, cutsP]
   exact s_take [91] h (s_ok h _) (fun a2 b2 h2 => s_and (s_dim h2) (fun hi a3 b3 h3 => s_takeD [58] h3
    (s_and (s_need [93] h3) (fun u a5 b5 h5 => s_and (s_made h h5 _) (fun v a6 b6 h6 => hc v a6 b6 h6)))
    (fun a4 b4 h4 => s_and (s_dim h4) (fun lo a5 b5 h5 => s_and (s_need [93] h5) (fun u a6 b6 h6 => s_and (s_made h h6 _) (fun v a7 b7 h7 => hc v a7 b7 h7))))))
  ·by_cases hm : m ≤ a.length
   ·rw [primaryP, primaryP, ← j_txt h hm, ← (j_looks h hm).1]
    by_cases c : (looks a).f0 = 2 ∨ (looks a).f0 = 1 ∧ wordP (txt (looks a)) = false
    ·rw [if_pos c, if_pos c]; exact s_plain h
    ·rw [if_neg c, if_neg c]
     refine s_takeD [40] h (s_takeD [123] h ?_ (fun a4 b4 h6 => s_and (he a4 b4 h6) (fun e a5 b5 h5 => s_and (s_need [44] h5) (fun u a6 b6 h6 => s_and (he a6 b6 h6) (fun e2 a7 b7 h7 => s_and (s_need [125] h7) (fun u a8 b8 h8 => s_made h h8 _))))))
      (fun a2 b2 h3 => s_and (he a2 b2 h3) (fun e a3 b3 h3 => s_and (s_need [41] h3) (fun u a4 b4 h4 => s_ok h4 _)))
     cases hw : wordsL.lookup (txt (looks a)) with
     | none => exact s_fail h 20
     | some op =>
      dsimp only
      refine s_up (s_and (s_need [40] (j_tail h hm)) (fun u a1 b1 h1 => ?_)) (by rw [List.length_tail]; omega)
      by_cases h19 : op = 19
      ·rw [if_pos h19, if_pos h19]
       exact s_and (s_name h1) (fun nm a2 b2 h2 => s_and (s_need [44] h2) (fun u a3 b3 h3 => s_and (he a3 b3 h3) (fun e a4 b4 h4 => s_and (s_need [41] h4) (fun u a5 b5 h5 => s_made h h5 _))))
      ·rw [if_neg h19, if_neg h19]
       exact s_and (he a1 b1 h1) (fun e a4 b4 h4 => s_and (s_need [41] h4) (fun u a5 b5 h5 => s_made h h5 _))
   ·exact s_dead hm (fp a)
theorem s_list {γ : Type} (stop : List UInt8) (one : List Tok → Option (PR γ)) (h1 : ∀ a b, J m d a b → S m d a (one a) (one b)) : ∀ (n : Nat) (acc : List γ) (a b : List Tok), J m d a b → S m d a (listP stop one n acc a) (listP stop one n acc b) := by
 intro n
 induction n with
 | zero => intro acc a b h; rw [listP, listP]; exact s_fail h 2
 | succ n ih =>
  intro acc a b h
  rw [listP, listP]
  refine s_and (h1 a b h) (fun v a1 b1 h2 => s_takeD [44] h2 ?_ (fun a2 b2 h3 => ih _ a2 b2 h3))
  have hq := s_and (s_need stop h2) (f := fun _ r2 => some (.ok (acc ++ [v]) r2)) (g := fun _ r2 => some (.ok (acc ++ [v]) r2)) (fun u a2 b2 h3 => s_ok h3 (acc ++ [v]))
  have e : ∀ r : List Tok, (andThen (some (needP stop r)) fun _ r2 => some (.ok (acc ++ [v]) r2)) = (match needP stop r with | .ok _ r2 => some (.ok (acc ++ [v]) r2) | .bad e t => some (.bad e t)) := fun r => by cases needP stop r <;> rfl
  rw [e, e] at hq
  exact hq
theorem s_expr {a b : List Tok} (k : Nat) (h : J m d a b) : S m d a (exprP k a) (exprP k b) := (s_exprs k).2.2.1 a b h
theorem s_bind {a b : List Tok} (k : Nat) (h : J m d a b) : S m d a (bindP k a) (bindP k b) := by
 unfold bindP
 exact s_and (s_name h) (fun v a1 b1 h1 => s_and (s_need [58] h1) (fun u a2 b2 h2 => s_and (s_expr k h2) (fun e a3 b3 h3 => s_ok h3 _)))
theorem s_args {a b : List Tok} (h : J m d a b) : S m d a (argsP a) (argsP b) := by
 unfold argsP
 exact s_take [60] h (s_ok h _) (fun a1 b1 h1 => s_list [62] _ (fun a b h => s_dim h) 4 [] a1 b1 h1)
theorem s_binds {a b : List Tok} (k : Nat) (h : J m d a b) : S m d a (bindsP k a) (bindsP k b) := by
 unfold bindsP
 exact s_takeD [41] h (s_list [41] _ (fun a b h => s_bind k h) 16 [] a b h) (fun a1 b1 h1 => s_ok h1 _)
theorem s_parts {a b : List Tok} (k : Nat) (x : Itm) (h : J m d a b) : S m d a (partsP k x a) (partsP k x b) := by
 unfold partsP
 by_cases c1 : x.f0 = 1
 ·rw [if_pos c1, if_pos c1]; exact s_and (s_need [58] h) (fun u a1 b1 h1 => s_and (s_dim h1) (fun e a2 b2 h2 => s_and (s_need [61] h2) (fun u a3 b3 h3 => s_and (s_expr k h3) (fun e a4 b4 h4 => s_ok h4 _))))
 rw [if_neg c1, if_neg c1]
 by_cases c2 : x.f0 = 2
 ·rw [if_pos c2, if_pos c2]; exact s_and (s_need [58] h) (fun u a1 b1 h1 => s_and (s_dim h1) (fun e a2 b2 h2 => s_and (s_need [61] h2) (fun u a3 b3 h3 => s_and (s_dim h3) (fun e a4 b4 h4 => s_ok h4 _))))
 rw [if_neg c2, if_neg c2]
 have hg : S m d a (getsP k x a) (getsP k x b) := s_and (s_need [61] h) (fun u a1 b1 h1 => s_and (s_expr k h1) (fun e a2 b2 h2 => s_ok h2 _))
 by_cases c3 : x.f0 = 3
 ·rw [if_pos c3, if_pos c3]; exact hg
 rw [if_neg c3, if_neg c3]
 by_cases c4 : x.f0 = 4
 ·rw [if_pos c4, if_pos c4]; exact hg
 rw [if_neg c4, if_neg c4]
 by_cases c5 : x.f0 = 5
 ·rw [if_pos c5, if_pos c5]; exact s_and (s_need [91] h) (fun u a1 b1 h1 => s_and (s_dim h1) (fun e a2 b2 h2 => s_and (s_need [93] h2) (fun u a3 b3 h3 => s_and (s_need [58] h3) (fun u a4 b4 h4 => s_and (s_dim h4) (fun e a5 b5 h5 => s_ok h5 _)))))
 rw [if_neg c5, if_neg c5]
 by_cases c6 : x.f0 = 6
 ·rw [if_pos c6, if_pos c6]; exact s_and (s_need [91] h) (fun u a1 b1 h1 => s_and (s_expr k h1) (fun e a2 b2 h2 => s_and (s_need [93] h2) (fun u a3 b3 h3 => s_and (s_need [61] h3) (fun u a4 b4 h4 => s_and (s_expr k h4) (fun e a5 b5 h5 => s_and (s_need kIf h5) (fun u a6 b6 h6 => s_and (s_expr k h6) (fun e a7 b7 h7 => s_ok h7 _)))))))
 rw [if_neg c6, if_neg c6]
 by_cases c7 : x.f0 = 7
 ·rw [if_pos c7, if_pos c7]; exact s_and (s_name h) (fun md a1 b1 h1 => s_and (s_args h1) (fun as_ a2 b2 h2 => s_and (s_need [40] h2) (fun u a3 b3 h3 => s_and (s_binds k h3) (fun bs a4 b4 h4 => s_ok h4 _))))
 rw [if_neg c7, if_neg c7]; exact s_and (s_need [58] h) (fun u a1 b1 h1 => s_and (s_expr k h1) (fun e a2 b2 h2 => s_ok h2 _))
theorem s_item {a b : List Tok} (k n : Nat) (h : J m d a b) : S m d a (itemP k n a) (itemP k n b) := by
 by_cases hm : m ≤ a.length
 ·unfold itemP
  rw [← j_txt h hm]
  by_cases c : keptV (txt (looks a)) = 0
  ·rw [if_pos c, if_pos c]; exact s_fail h 20
  rw [if_neg c, if_neg c]
  by_cases c2 : 64 ≤ n
  ·rw [if_pos c2, if_pos c2]; exact s_fail h 2
  rw [if_neg c2, if_neg c2]
  exact s_up (s_and (s_name (j_tail h hm)) (fun nm a1 b1 h1 => s_and (s_parts k _ h1) (fun x a2 b2 h2 => s_and (s_need [59] h2) (fun u a3 b3 h3 => s_ok h3 _)))) (by rw [List.length_tail]; omega)
 ·exact s_dead hm (fine_item k n a)
theorem s_port {a b : List Tok} (h : J m d a b) : S m d a (portP a) (portP b) := by
 have h0 : ∀ (q : Bool) (a b : List Tok), J m d a b → S m d a (andThen (some (nameP a)) fun nm r2 => andThen (some (needP [58] r2)) fun _ r3 => andThen (some (dimP r3)) fun d r4 => some (.ok (⟨q, nm, d⟩ : Prt) r4)) (andThen (some (nameP b)) fun nm r2 => andThen (some (needP [58] r2)) fun _ r3 => andThen (some (dimP r3)) fun d r4 => some (.ok (⟨q, nm, d⟩ : Prt) r4)) :=
  fun q a b h => s_and (s_name h) (fun nm a1 b1 h1 => s_and (s_need [58] h1) (fun u a2 b2 h2 => s_and (s_dim h2) (fun e a3 b3 h3 => s_ok h3 _)))
 unfold portP
 exact s_takeD kIn h (s_and (s_need kOut h) (fun u a1 b1 h1 => h0 false a1 b1 h1)) (fun a1 b1 h1 => h0 true a1 b1 h1)
theorem s_front {a b : List Tok} (h : J m d a b) : S m d a (frontP a) (frontP b) := by
 have hp : ∀ a b : List Tok, J m d a b → S m d a (paramsP a) (paramsP b) := fun a b h => by
  unfold paramsP
  exact s_take [60] h (s_ok h _) (fun a1 b1 h1 => s_list [62] _ (fun a b h => s_name h) 4 [] a1 b1 h1)
 have hq : ∀ a b : List Tok, J m d a b → S m d a (portsP a) (portsP b) := fun a b h => by
  unfold portsP
  exact s_takeD [41] h (s_list [41] _ (fun a b h => s_port h) 16 [] a b h) (fun a1 b1 h1 => s_ok h1 _)
 unfold frontP
 exact s_and (s_name h) (fun nm a1 b1 h1 => s_and (hp a1 b1 h1) (fun ps a2 b2 h2 => s_and (s_need [40] h2) (fun u a3 b3 h3 => s_and (hq a3 b3 h3) (fun qs a4 b4 h4 => s_and (s_need [123] h4) (fun u a5 b5 h5 => s_ok h5 _)))))
end
end Go.Proofs.YtenogedclignmaaDoor.Q
