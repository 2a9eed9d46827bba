/-
  HELPER.
-/
import Derived.Test.YtenogedclignmaaDoorPlKA
import Derived.Test.YtenogedclignmaaDoorPlK4
import Derived.Test.YtenogedclignmaaDoorPlK5
set_option linter.unusedVariables false
set_option linter.unusedSimpArgs false
namespace Go.Proofs.YtenogedclignmaaDoor.Q
open Go.RowKit Go.Maps Go.WideMaps Go.Proofs.YtenogedclignmaaDoorW.PrintWords Go.Proofs.YtenogedclignmaaDoorW.PrintLast Go.Proofs.YtenogedclignmaaDoorW.PrintMore
structure At (bp b : Nat) (X : Nat → Prop) (w w' : World) : Prop where
 os : w'.os = w.os
 tape : w'.tape = w.tape
 output : w'.output = w.output
 size : w.heap.size ≤ w'.heap.size
 blk : ∀ cs T fr, w.heap[bp]? = some (.cells cs T fr) → w'.heap[bp]? = some (.cells (cs.setIfInBounds 2 (.int .i64 (b : Int))) T fr)
 rest : ∀ k, k < w.heap.size → k ≠ bp → ¬ X k → w'.heap[k]? = w.heap[k]?
abbrev no : Nat → Prop := fun _ => False
theorem At.mono {bp b : Nat} {X Y : Nat → Prop} {w w' : World} (h : At bp b X w w') (hx : ∀ k, X k → Y k) : At bp b Y w w' := ⟨h.os, h.tape, h.output, h.size, h.blk, fun k h1 h2 h3 => h.rest k h1 h2 (fun q => h3 (hx k q))⟩
theorem At.up {bp b : Nat} {Y : Nat → Prop} {w w' : World} (h : At bp b no w w') : At bp b Y w w' := h.mono (fun _ q => q.elim)
theorem At.trans {bp b c : Nat} {X : Nat → Prop} {w w1 w2 : World} (h : At bp b X w w1) (k : At bp c X w1 w2) : At bp c X w w2 :=
 ⟨k.os.trans h.os, k.tape.trans h.tape, k.output.trans h.output, Nat.le_trans h.size k.size, fun cs T fr e => by
  have := k.blk _ _ _ (h.blk cs T fr e)
  simpa using this, fun i h1 h2 h3 => (k.rest i (Nat.lt_of_lt_of_le h1 h.size) h2 h3).trans (h.rest i h1 h2 h3)⟩
theorem At.then_ {bp b c : Nat} {X : Nat → Prop} {w w1 w2 : World} (h : At bp b X w w1) (k : At bp c no w1 w2) : At bp c X w w2 := h.trans k.up
theorem at_set {bp b : Nat} {X : Nat → Prop} {w w' : World} (h : Below w.heap.size (w.setCell ⟨bp, 2, none⟩ (.int .i64 (b : Int))) w') : At bp b X w w' := by
 have hs := h.size
 rw [size_set] at hs
 refine ⟨h.os, h.tape, h.output, hs, fun cs T fr e => ?_, fun k h1 h2 _ => ?_⟩
 ·exact (h.block bp (Array.getElem?_eq_some_iff.1 e).1).trans (set_heap e)
 ·exact (h.block k h1).trans (Below.heap_setCell _ _ _ _ h2)
theorem at_same {bp : Nat} {s : ByteArray} {A : Option Addr} {c : Nat} {l : List Tok} {begun : Int} {fv : Value} {a : Nat} {X : Nat → Prop} {w w' : World} (hP : PS bp s A c l begun fv a w) (h : Below w.heap.size w w') : At bp a X w w' :=
 ⟨h.os, h.tape, h.output, h.size, fun cs T fr e => by
  rw [hP.blk] at e
  cases e
  exact (h.block bp (Array.getElem?_eq_some_iff.1 hP.blk).1).trans hP.blk, fun k h1 _ _ => h.block k h1⟩
theorem At.below {bp b : Nat} {X : Nat → Prop} {w w1 w2 : World} (h : At bp b X w w1) (hb : bp < w1.heap.size) (k : Below w1.heap.size w1 w2) : At bp b X w w2 :=
 ⟨k.os.trans h.os, k.tape.trans h.tape, k.output.trans h.output, Nat.le_trans h.size k.size, fun cs T fr e => (k.block bp hb).trans (h.blk cs T fr e), fun i h1 h2 h3 => (k.block i (Nat.lt_of_lt_of_le h1 h.size)).trans (h.rest i h1 h2 h3)⟩
theorem At.own {bp b : Nat} {X : Nat → Prop} {w w1 : World} (h : At bp b X w w1) {p : Addr} (hg : w.heap.size ≤ p.block ∨ X p.block) (hn : p.block ≠ bp) (v : Value) : At bp b X w (w1.setCell p v) := by
 refine ⟨h.os, h.tape, h.output, by rw [size_set]; exact h.size, fun cs T fr e => (Below.heap_setCell _ _ _ _ (fun q => hn q.symm)).trans (h.blk cs T fr e), fun i h1 h2 h3 => (Below.heap_setCell _ _ _ _ (fun q => ?_)).trans (h.rest i h1 h2 h3)⟩
 rcases hg with hg | hg
 ·omega
 ·exact h3 (q ▸ hg)
theorem At.obj {bp b : Nat} {X : Nat → Prop} {w w' : World} {g : Nat} {o : Obj} (h : At bp b X w w') (hg : w.heap[g]? = some o) (hne : g ≠ bp) (hx : ¬ X g) : w'.heap[g]? = some o :=
 (h.rest g (Array.getElem?_eq_some_iff.1 hg).1 hne hx).trans hg
theorem MapAt.same {g j : Nat} {L : List (List UInt8 × Int)} {w w' : World} (h : MapAt g j L w) (hat : ∀ k, k < w.heap.size → w'.heap[k]? = w.heap[k]?) : MapAt g j L w' := by
 obtain ⟨bm, n, h2, h3⟩ := h
 have hb := h3.lt
 obtain ⟨es, clock, g1, g2, g3, g4⟩ := h3
 have hlt := World.block_lt_of_cell? w _ h2
 refine ⟨bm, n, ?_, es, clock, (hat bm hb).trans g1, g2, g3, g4⟩
 rw [← h2]
 unfold World.cell?
 rw [hat g hlt]
def Tabs (G : Nat) (w : World) : Prop := ∃ w0 : World, KTab w0 ∧ w0.heap.size = G ∧ ∀ k, k < G → w.heap[k]? = w0.heap[k]?
theorem Tabs.tab {G : Nat} {w : World} (h : Tabs G w) : KTab w := by
 obtain ⟨w0, h0, rfl, h2⟩ := h
 exact ⟨h0.kept.same h2, h0.words.same h2, fun n hn => (h0.levels n hn).same h2⟩
theorem Tabs.of {w : World} (h : KTab w) : Tabs w.heap.size w := ⟨w, h, rfl, fun _ _ => rfl⟩
theorem Tabs.same {G : Nat} {w w' : World} (h : Tabs G w) (hs : ∀ k, k < G → w'.heap[k]? = w.heap[k]?) : Tabs G w' := by
 obtain ⟨w0, h0, h1, h2⟩ := h
 exact ⟨w0, h0, h1, fun k hk => (hs k hk).trans (h2 k hk)⟩
theorem Tabs.size {G : Nat} {w : World} (h : Tabs G w) : G ≤ w.heap.size := by
 obtain ⟨w0, h0, rfl, h2⟩ := h
 rcases Nat.eq_zero_or_pos w0.heap.size with e | e
 ·omega
 ·have q := h2 (w0.heap.size - 1) (by omega)
  rw [Array.getElem?_eq_getElem (show w0.heap.size - 1 < w0.heap.size by omega)] at q
  have := (Array.getElem?_eq_some_iff.1 q).1
  omega
structure St (G bp : Nat) (s : ByteArray) (A : Option Addr) (c : Nat) (l : List Tok) (begun : Int) (fv : Value) (a : Nat) (w : World) : Prop where
 blk : w.heap[bp]? = some (.cells #[.string s, .slice A l.length c, .int .i64 a, .int .i64 begun, fv] 67 (0, 0))
 toks : Kd.R k37 37 w 0 (fun k => k < G) (.slice A l.length c) l
 room : a ≤ l.length
 small : l.length ≤ 1000000000
 short : shortL l
 tab : Tabs G w
 low : G ≤ bp
section
variable {G bp : Nat} {s : ByteArray} {A : Option Addr} {c : Nat} {l : List Tok} {begun : Int} {fv : Value} {a b : Nat} {w w' : World} {X : Nat → Prop}
theorem St.lt (h : St G bp s A c l begun fv a w) : bp < w.heap.size := (Array.getElem?_eq_some_iff.1 h.blk).1
theorem St.ps (h : St G bp s A c l begun fv a w) : PS bp s A c l begun fv a w := ⟨h.blk, Kd.R_mono h.toks (fun k hk => by have := h.low; omega), h.room, h.small⟩
theorem St.step (h : St G bp s A c l begun fv a w) (hat : At bp b X w w') (hX : ∀ k, X k → G ≤ k) (hb : b ≤ l.length) : St G bp s A c l begun fv b w' := by
 have hs : ∀ k, k < G → w'.heap[k]? = w.heap[k]? := fun k hk => hat.rest k (Nat.lt_of_lt_of_le hk h.tab.size) (by have := h.low; omega) (fun q => by have := hX k q; omega)
 exact ⟨hat.blk _ _ _ h.blk, Kd.R_step h.toks (fun k hk _ => hs k hk), hb, h.small, h.short, h.tab.same hs, h.low⟩
theorem St.next (h : St G bp s A c l begun fv a w) (hat : At bp b no w w') (hb : b ≤ l.length) : St G bp s A c l begun fv b w' := h.step hat (fun _ q => q.elim) hb
theorem St.below (h : St G bp s A c l begun fv a w) (hb : Below w.heap.size w w') : St G bp s A c l begun fv a w' := h.next (at_same h.ps hb) h.room
theorem St.same (h : St G bp s A c l begun fv a w) : At bp a X w w := at_same h.ps (bR _ _)
end
def Tells {α : Type} (bp : Nat) (l : List Tok) (X : Nat → Prop) (w : World) (enc : α → Value → World → Prop) (res : PR α) (e : Ending) (w' : World) : Prop :=
 match res with
 | .ok v r => ∃ (b : Nat) (x : Value), r = l.drop b ∧ b ≤ l.length ∧ e = .returned x ∧ enc v x w' ∧ At bp b X w w'
 | .bad er t => ∃ b a2 : Nat, t = l.drop b ∧ b ≤ l.length ∧ a2 ≤ l.length ∧ e = gaveUp er b ∧ At bp a2 X w w'
theorem tells_ok {α : Type} {bp : Nat} {l : List Tok} {X : Nat → Prop} {w w' : World} {enc : α → Value → World → Prop} {res : PR α} {v : α} {r : List Tok} {b : Nat} {x : Value} (h : some (PR.ok v r) = some res) (hr : r = l.drop b) (hb : b ≤ l.length) (he : enc v x w') (hat : At bp b X w w') : Tells bp l X w enc res (.returned x) w' := by
 cases h; exact ⟨b, x, hr, hb, rfl, he, hat⟩
theorem tells_bad {α : Type} {bp : Nat} {l : List Tok} {X : Nat → Prop} {w w' : World} {enc : α → Value → World → Prop} {res : PR α} {er : Int} {t : List Tok} {b a2 : Nat} (h : some (PR.bad er t) = some res) (ht : t = l.drop b) (hb : b ≤ l.length) (ha : a2 ≤ l.length) (hat : At bp a2 X w w') : Tells bp l X w enc res (gaveUp er b) w' := by
 cases h; exact ⟨b, a2, ht, hb, ha, rfl, hat⟩
theorem calls_tells {P : Program} {f : FuncId} {args : Array Value} {α : Type} {bp : Nat} {l : List Tok} {X : Nat → Prop} {w : World} {enc : α → Value → World → Prop} {res : PR α} {R : Ending → World → Prop} (h : Calls P f args w (Tells bp l X w enc res))
  (hok : ∀ v r b x w', res = .ok v r → r = l.drop b → b ≤ l.length → enc v x w' → At bp b X w w' → R (.returned x) w')
  (hbad : ∀ er t b a2 w', res = .bad er t → t = l.drop b → b ≤ l.length → a2 ≤ l.length → At bp a2 X w w' → R (gaveUp er b) w') : Calls P f args w R := by
 refine h.mono fun e w' hT => ?_
 cases res with
 | ok v r => obtain ⟨b, x, h1, h2, rfl, h4, h5⟩ := hT; exact hok v r b x w' rfl h1 h2 h4 h5
 | bad er t => obtain ⟨b, a2, h1, h2, h3, rfl, h5⟩ := hT; exact hbad er t b a2 w' rfl h1 h2 h3 h5
def encD (d : Dm) (x : Value) (_ : World) : Prop := x = .agg #[.string d.f0, .int .i64 d.f1]
def encU (_ : Unit) (x : Value) (_ : World) : Prop := x = .tuple #[]
def encS (d : ByteArray) (x : Value) (_ : World) : Prop := x = .string d
section
variable {G bp : Nat} {s : ByteArray} {A : Option Addr} {c : Nat} {l : List Tok} {begun : Int} {fv : Value} {a : Nat} {w : World}
theorem need_tells (x : ByteArray) (h : St G bp s A c l begun fv a w) : Calls Tryd.prog 39 #[.pointer (some ⟨bp, 0, none⟩), .string x] w (Tells bp l no w encU (needP x.data.toList (l.drop a))) := by
 unfold needP
 rw [take_is]
 by_cases ht : a < l.length ∧ txt (looks (l.drop a)) = x.data.toList
 ·rw [if_pos ht]
  exact (need_calls x bp s A c l begun fv a w h.ps ht.1 ht.2).mono fun e w' ⟨e1, e2⟩ => ⟨a + 1, _, rfl, ht.1, e1, rfl, at_set e2⟩
 ·rw [if_neg ht]
  show Calls _ _ _ _ (Tells bp l no w encU (failP 20 (l.drop a)))
  rw [fail_at]
  exact (need_not x bp s A c l begun fv a w h.ps (fun q q2 => ht ⟨q, q2⟩)).mono fun e w' ⟨e1, e2⟩ => ⟨a, a, rfl, h.room, h.room, e1, at_same h.ps e2⟩
theorem name_tells (h : St G bp s A c l begun fv a w) : Calls Tryd.prog 35 #[.pointer (some ⟨bp, 0, none⟩)] w (Tells bp l no w encS (nameP (l.drop a))) := by
 unfold nameP
 by_cases ht : (looks (l.drop a)).f0 = 1 ∧ wordP (txt (looks (l.drop a))) = false
 ·rw [if_pos ht]
  exact (name_calls bp s A c l begun fv a w h.ps h.tab.tab h.short _ rfl ht.1 ht.2).mono fun e w' ⟨e1, e2⟩ => ⟨a + 1, _, tail_drop l a, looks_lt (by rw [ht.1]; decide), e1, rfl, at_set e2⟩
 ·rw [if_neg ht, fail_at]
  refine (name_not bp s A c l begun fv a w h.ps h.tab.tab h.short _ rfl ?_).mono fun e w' ⟨e1, e2⟩ => ⟨a, a, rfl, h.room, h.room, e1, at_same h.ps e2⟩
  by_cases h3 : (looks (l.drop a)).f0 = 1
  ·right
   cases hq : wordP (txt (looks (l.drop a))) with
   | true => rfl
   | false => exact absurd ⟨h3, hq⟩ ht
  ·exact .inl h3
theorem single_tells (h : St G bp s A c l begun fv a w) : Calls Tryd.prog 52 #[.pointer (some ⟨bp, 0, none⟩)] w (Tells bp l no w encD (singleP (l.drop a))) := by
 cases hs : singleP (l.drop a) with
 | ok d r =>
  obtain ⟨h1, h2, h3⟩ := single_ok bp s A c l begun fv a w h.ps h.tab.tab h.short d r hs
  exact h3.mono fun e w' ⟨e1, e2⟩ => ⟨a + 1, _, h1, h2, e1, rfl, at_set e2⟩
 | bad er t =>
  obtain ⟨h1, h2, h3⟩ := single_bad bp s A c l begun fv a w h.ps h.tab.tab h.short er t hs
  subst h1
  exact h3.mono fun e w' ⟨e1, e2⟩ => ⟨a, a, h2, h.room, h.room, e1, at_same h.ps e2⟩
theorem dim_tells (h : St G bp s A c l begun fv a w) : Calls Tryd.prog 41 #[.pointer (some ⟨bp, 0, none⟩)] w (Tells bp l no w encD (dimP (l.drop a))) := by
 cases hd : dimP (l.drop a) with
 | ok d r =>
  obtain ⟨b, h1, h2, _, h3⟩ := dim_ok bp s A c l begun fv a w h.ps h.tab.tab h.short d r hd
  exact h3.mono fun e w' ⟨e1, e2⟩ => ⟨b, _, h1, h2, e1, rfl, at_set e2⟩
 | bad er t =>
  unfold dimP at hd
  cases hs : singleP (l.drop a) with
  | bad e0 t0 =>
   rw [hs] at hd
   cases hd
   obtain ⟨h1, h2, _⟩ := single_bad bp s A c l begun fv a w h.ps h.tab.tab h.short er t hs
   subst h1
   exact (dim_not bp s A c l begun fv a w h.ps h.tab.tab h.short _ t hs).mono fun e w' ⟨e1, e2⟩ => ⟨a, a, h2, h.room, h.room, e1, at_same h.ps e2⟩
  | ok d0 r0 =>
   rw [hs] at hd
   obtain ⟨e0, hlt, _⟩ := single_ok bp s A c l begun fv a w h.ps h.tab.tab h.short d0 r0 hs
   subst e0
   dsimp only at hd
   by_cases h0 : d0.f0.data.toList = []
   ·rw [if_pos h0] at hd; cases hd
   ·rw [if_neg h0, take_is] at hd
    by_cases ht : a + 1 < l.length ∧ txt (looks (l.drop (a + 1))) = [43]
    ·rw [if_pos ht] at hd
     dsimp only at hd
     unfold numberP at hd
     by_cases h2 : (looks (l.drop (a + 1 + 1))).f0 = 2
     ·rw [if_pos h2] at hd; cases hd
     ·rw [if_neg h2, fail_at] at hd
      cases hd
      exact (dim_plus_not bp s A c l begun fv a w h.ps h.tab.tab h.short d0 _ hs h0 ht.1 ht.2 _ rfl h2).mono fun e w' ⟨e1, e2⟩ => ⟨a + 2, a + 2, rfl, ht.1, ht.1, e1, at_set e2⟩
    ·rw [if_neg ht] at hd; cases hd
theorem take_tells (x : ByteArray) (h : St G bp s A c l begun fv a w) : Calls Tryd.prog 36 #[.pointer (some ⟨bp, 0, none⟩), .string x] w fun e w' =>
  (∃ r, takeP x.data.toList (l.drop a) = some r ∧ r = l.drop (a + 1) ∧ a + 1 ≤ l.length ∧ e = .returned (.bool true) ∧ At bp (a + 1) no w w') ∨ (takeP x.data.toList (l.drop a) = none ∧ e = .returned (.bool false) ∧ At bp a no w w') := by
 rw [take_is]
 by_cases ht : a < l.length ∧ txt (looks (l.drop a)) = x.data.toList
 ·rw [if_pos ht]
  exact (take_calls x bp s A c l begun fv a w h.ps ht.1 ht.2).mono fun e w' ⟨e1, e2⟩ => .inl ⟨_, rfl, rfl, ht.1, e1, at_set e2⟩
 ·rw [if_neg ht]
  exact (take_not x bp s A c l begun fv a w h.ps (fun q q2 => ht ⟨q, q2⟩)).mono fun e w' ⟨e1, e2⟩ => .inr ⟨rfl, e1, at_same h.ps e2⟩
end
theorem calls_take {P : Program} {f : FuncId} {args : Array Value} {bp a : Nat} {l : List Tok} {w : World} {x : List UInt8} {R : Ending → World → Prop} (h : Calls P f args w fun e w' =>
  (∃ r, takeP x (l.drop a) = some r ∧ r = l.drop (a + 1) ∧ a + 1 ≤ l.length ∧ e = .returned (.bool true) ∧ At bp (a + 1) no w w') ∨ (takeP x (l.drop a) = none ∧ e = .returned (.bool false) ∧ At bp a no w w'))
  (hyes : ∀ w', takeP x (l.drop a) = some (l.drop (a + 1)) → a + 1 ≤ l.length → At bp (a + 1) no w w' → R (.returned (.bool true)) w')
  (hno : ∀ w', takeP x (l.drop a) = none → At bp a no w w' → R (.returned (.bool false)) w') : Calls P f args w R := by
 refine h.mono fun e w' hT => ?_
 rcases hT with ⟨r, h1, rfl, h3, rfl, h5⟩ | ⟨h1, rfl, h3⟩
 ·exact hyes w' h1 h3 h5
 ·exact hno w' h1 h3
end Go.Proofs.YtenogedclignmaaDoor.Q
namespace Go.Proofs.YtenogedclignmaaDoor.Q
open Go.RowKit Go.Proofs.YtenogedclignmaaDoorW.PrintWords Go.Proofs.YtenogedclignmaaDoorW.PrintLast Go.Proofs.YtenogedclignmaaDoorW.PrintMore
theorem looks_ne {r : List Tok} (h : (looks r).f0 ≠ 0) : ∃ t r1, r = t :: r1 := by
 cases r with
 | nil => exact absurd rfl h
 | cons t r1 => exact ⟨t, r1, rfl⟩
theorem take_some {x : List UInt8} {r r1 : List Tok} (h : takeP x r = some r1) : ∃ t, r = t :: r1 ∧ txt t = x := by
 cases r with
 | nil => cases h
 | cons t r2 =>
  change (if txt t = x then some r2 else none) = some r1 at h
  by_cases ht : txt t = x
  ·rw [if_pos ht] at h
   cases h
   exact ⟨t, rfl, ht⟩
  ·rw [if_neg ht] at h; cases h
def FineR {α : Type} (r : List Tok) (b : Nat) : PR α → Prop
 | .ok _ r' => r' <:+ r ∧ r'.length + b ≤ r.length
 | .bad e t => t <:+ r ∧ (t = [] ∧ e = 21 ∨ t ≠ [] ∧ (e = 20 ∨ e = 2))
def FineO {α : Type} (r : List Tok) (b : Nat) (x : Option (PR α)) : Prop := ∀ y, x = some y → FineR r b y
theorem FineR.up {α : Type} {r r1 : List Tok} {b c b2 : Nat} {x : PR α} (h : FineR r1 b x) (hs : r1 <:+ r) (hl : r1.length + c ≤ r.length) (hle : b2 ≤ b + c) : FineR r b2 x := by
 cases x with
 | ok v r' => exact ⟨h.1.trans hs, by have := h.2; omega⟩
 | bad e t => exact ⟨h.1.trans hs, h.2⟩
theorem FineO.up {α : Type} {r r1 : List Tok} {b c b2 : Nat} {x : Option (PR α)} (h : FineO r1 b x) (hs : r1 <:+ r) (hl : r1.length + c ≤ r.length) (hle : b2 ≤ b + c) : FineO r b2 x := fun y hy => (h y hy).up hs hl hle
theorem fineO {α : Type} {r : List Tok} {b : Nat} {x : PR α} (h : FineR r b x) : FineO r b (some x) := fun y hy => by cases hy; exact h
theorem fine_and {α β : Type} {r : List Tok} {b b2 : Nat} {x : Option (PR α)} {f : α → List Tok → Option (PR β)} (h : FineO r b x) (hf : ∀ v r1, x = some (.ok v r1) → r1 <:+ r → r1.length + b ≤ r.length → FineO r b2 (f v r1)) : FineO r b2 (andThen x f) := by
 cases x with
 | none => intro y hy; cases hy
 | some q =>
  cases q with
  | ok v r1 => exact hf v r1 rfl (h _ rfl).1 (h _ rfl).2
  | bad e t => intro y hy; cases hy; exact h _ rfl
theorem fine_fail {α : Type} {e : Int} (he : e = 20 ∨ e = 2) {r t : List Tok} (ht : t <:+ r) (b : Nat) : FineR r b (failP e t : PR α) := by
 cases t with
 | nil => exact ⟨ht, .inl ⟨rfl, rfl⟩⟩
 | cons t0 t1 => exact ⟨ht, .inr ⟨List.cons_ne_nil _ _, he⟩⟩
theorem fine_need (x : List UInt8) (r : List Tok) : FineR r 1 (needP x r) := by
 unfold needP
 cases h : takeP x r with
 | none => exact fine_fail (.inl rfl) (List.suffix_refl r) _
 | some r1 =>
  obtain ⟨t, rfl, _⟩ := take_some h
  exact ⟨List.suffix_cons t r1, Nat.le_refl _⟩
theorem fine_name (r : List Tok) : FineR r 1 (nameP r) := by
 unfold nameP
 by_cases h : (looks r).f0 = 1 ∧ wordP (txt (looks r)) = false
 ·rw [if_pos h]
  obtain ⟨t, r1, rfl⟩ := looks_ne (r := r) (by rw [h.1]; decide)
  exact ⟨List.suffix_cons t r1, Nat.le_refl _⟩
 ·rw [if_neg h]; exact fine_fail (.inl rfl) (List.suffix_refl r) _
theorem fine_number (r : List Tok) : FineR r 1 (numberP r) := by
 unfold numberP
 by_cases h : (looks r).f0 = 2
 ·rw [if_pos h]
  obtain ⟨t, r1, rfl⟩ := looks_ne (r := r) (by rw [h]; decide)
  exact ⟨List.suffix_cons t r1, Nat.le_refl _⟩
 ·rw [if_neg h]; exact fine_fail (.inl rfl) (List.suffix_refl r) _
theorem fine_single (r : List Tok) : FineR r 1 (singleP r) := by
 unfold singleP
 by_cases h : (looks r).f0 = 2
 ·rw [if_pos h]
  have h1 := fine_number r
  cases hn : numberP r with
  | ok n r1 => rw [hn] at h1; exact h1
  | bad e t => rw [hn] at h1; exact h1
 ·rw [if_neg h]
  have h1 := fine_name r
  cases hn : nameP r with
  | ok n r1 => rw [hn] at h1; exact h1
  | bad e t => rw [hn] at h1; exact h1
theorem fine_dim (r : List Tok) : FineR r 1 (dimP r) := by
 unfold dimP
 have h1 := fine_single r
 cases hs : singleP r with
 | bad e t => rw [hs] at h1; exact h1
 | ok d r1 =>
  rw [hs] at h1
  dsimp only
  by_cases hd : d.f0.data.toList = []
  ·rw [if_pos hd]; exact h1
  ·rw [if_neg hd]
   cases ht : takeP [43] r1 with
   | none => exact h1
   | some r2 =>
    obtain ⟨t, rfl, _⟩ := take_some ht
    have h2 := (fine_number r2).up (b2 := 1) (c := 1) ((List.suffix_cons t r2).trans h1.1) (by have := h1.2; simp only [List.length_cons] at this; omega) (by omega)
    dsimp only
    cases hn : numberP r2 with
    | ok n r3 => rw [hn] at h2; exact h2
    | bad e u => rw [hn] at h2; exact h2
theorem fine_plain (r : List Tok) : FineR r 1 (plainP r) := by
 unfold plainP
 have h1 := fine_single r
 cases hs : singleP r with
 | bad e t => rw [hs] at h1; exact h1
 | ok d r1 =>
  rw [hs] at h1
  dsimp only
  by_cases hd : (looks r).f0 = 2 ∨ txt (looks r1) = [39]
  ·rw [if_pos hd]
   have h2 := (fine_need [39] r1).up (b2 := 1) (c := 1) h1.1 h1.2 (by omega)
   cases hn : needP [39] r1 with
   | bad e t => rw [hn] at h2; exact h2
   | ok u r2 =>
    rw [hn] at h2
    dsimp only
    have h3 := (fine_single r2).up (b2 := 1) (c := 1) h2.1 h2.2 (by omega)
    cases hv : singleP r2 with
    | bad e t => rw [hv] at h3; exact h3
    | ok v r3 => rw [hv] at h3; exact h3
  ·rw [if_neg hd]
   cases ht : takeP [46] r1 with
   | none => exact h1
   | some r2 =>
    obtain ⟨t, rfl, _⟩ := take_some ht
    have h2 := (fine_name r2).up (b2 := 1) (c := 1) ((List.suffix_cons t r2).trans h1.1) (by have := h1.2; simp only [List.length_cons] at this; omega) (by omega)
    dsimp only
    cases hn : nameP r2 with
    | ok n r3 => rw [hn] at h2; exact h2
    | bad e u => rw [hn] at h2; exact h2
theorem fine_made {at_ r base : List Tok} {e : Ex} {b : Nat} (ha : at_ <:+ base) (hr : r <:+ base) (hl : r.length + b ≤ base.length) : FineO base b (madeP at_ e r) := by
 unfold madeP
 refine fineO ?_
 by_cases h : deepE e > 8
 ·rw [if_pos h]; exact fine_fail (.inr rfl) ha _
 ·rw [if_neg h]; exact ⟨hr, hl⟩
theorem op_ne {lev : Nat} {r : List Tok} (h : opP lev (looks r) ≠ 0) : ∃ t r1, r = t :: r1 := by
 apply looks_ne
 intro e
 apply h
 unfold opP
 rw [if_neg (by rw [e]; decide)]
theorem fine_need2 {β : Type} (x : List UInt8) {r0 r : List Tok} {f : Unit → List Tok → Option (PR β)} {b c : Nat} (hs : r <:+ r0) (hl : r.length + c ≤ r0.length) (hf : ∀ u r1, r1 <:+ r0 → r1.length + (1 + c) ≤ r0.length → FineO r0 b (f u r1)) : FineO r0 b (andThen (some (needP x r)) f) :=
 fine_and ((fineO (fine_need x r)).up hs hl (Nat.le_refl _)) (fun v r1 _ h1 h2 => hf v r1 h1 h2)
theorem fine_exprs : ∀ k : Nat, (∀ lev r, FineO r 1 (betweenP k lev r)) ∧ (∀ lev a r, FineO r 0 (loopP k lev a r)) ∧ (∀ r, FineO r 1 (exprP k r)) ∧ (∀ r, FineO r 1 (unaryP k r)) ∧ (∀ a r, FineO r 0 (cutsP k a r)) ∧ (∀ r, FineO r 1 (primaryP k r)) := by
 intro k
 induction k with
 | zero =>
  refine ⟨fun lev r y h => ?_, fun lev a r y h => ?_, fun r y h => ?_, fun r y h => ?_, fun a r y h => ?_, fun r y h => ?_⟩
  ·unfold betweenP at h; cases h
  ·unfold loopP at h; cases h
  ·unfold exprP at h; cases h
  ·unfold unaryP at h; cases h
  ·unfold cutsP at h; cases h
  ·unfold primaryP at h; cases h
 | succ k ih =>
  obtain ⟨hb, hl, he, hu, hc, hp⟩ := ih
  refine ⟨fun lev r => ?_, fun lev a r => ?_, fun r => ?_, fun r => ?_, fun a r => ?_, fun r => ?_⟩
  ·unfold betweenP
   by_cases h : lev = 6
   ·rw [if_pos h]; exact hu r
   ·rw [if_neg h]
    exact fine_and (hb (lev + 1) r) (fun v r1 _ h1 h2 => (hl lev v r1).up h1 h2 (by omega))
  ·unfold loopP
   by_cases h : opP lev (looks r) = 0
   ·rw [if_pos h]; exact fineO ⟨List.suffix_refl r, Nat.le_refl _⟩
   ·rw [if_neg h]
    obtain ⟨t, r0, rfl⟩ := op_ne h
    refine fine_and ((hb (lev + 1) r0).up (b2 := 1) (c := 1) (List.suffix_cons t r0) (by simp) (by omega)) (fun v r1 _ h1 h2 => ?_)
    refine fine_and (fine_made (b := 1) (List.suffix_refl _) h1 h2) (fun v2 r2 _ h3 h4 => ?_)
    by_cases h5 : lev = 3
    ·rw [if_pos h5]; exact fineO ⟨h3, by omega⟩
    ·rw [if_neg h5]; exact (hl lev v2 r2).up h3 h4 (by omega)
  ·unfold exprP
   refine fine_and (hb 0 r) (fun v r1 _ h1 h2 => ?_)
   cases ht : takeP [63] r1 with
   | none => exact fineO ⟨h1, h2⟩
   | some r2 =>
    obtain ⟨t, rfl, _⟩ := take_some ht
    dsimp only
    have h3 : r2 <:+ r := (List.suffix_cons t r2).trans h1
    have h4 : r2.length + 2 ≤ r.length := by simp only [List.length_cons] at h2; omega
    refine fine_and ((he r2).up (b2 := 1) h3 h4 (by omega)) (fun b r3 _ h5 h6 => ?_)
    refine fine_need2 [58] h5 h6 (fun u r4 h7 h8 => ?_)
    refine fine_and ((he r4).up (b2 := 1) h7 h8 (by omega)) (fun c r5 _ h9 h10 => ?_)
    exact fine_made h1 h9 h10
  ·unfold unaryP
   cases ht : takeP [126] r with
   | some r1 =>
    obtain ⟨t, rfl, _⟩ := take_some ht
    exact fine_and ((hu r1).up (b2 := 1) (c := 1) (List.suffix_cons t r1) (by simp) (by omega)) (fun v r2 _ h1 h2 => fine_made (List.suffix_refl _) h1 h2)
   | none => exact fine_and (hp r) (fun v r1 _ h1 h2 => (hc v r1).up h1 h2 (by omega))
  ·unfold cutsP
   cases ht : takeP [91] r with
   | none => exact fineO ⟨List.suffix_refl r, Nat.le_refl _⟩
   | some r1 =>
    obtain ⟨t, rfl, _⟩ := take_some ht
    dsimp only
    refine fine_and ((fineO (fine_dim r1)).up (b2 := 1) (c := 1) (List.suffix_cons t r1) (by simp) (by omega)) (fun hi r2 _ h1 h2 => ?_)
    cases hq : takeP [58] r2 with
    | some r3 =>
     obtain ⟨t3, rfl, _⟩ := take_some hq
     dsimp only
     refine fine_and ((fineO (fine_dim r3)).up (b2 := 1) (c := 1) ((List.suffix_cons t3 r3).trans h1) (by simp only [List.length_cons] at h2 ⊢; omega) (by omega)) (fun lo r4 _ h3 h4 => ?_)
     refine fine_need2 [93] h3 h4 (fun u r5 h5 h6 => ?_)
     refine fine_and (fine_made (List.suffix_refl _) h5 h6) (fun a' r6 _ h7 h8 => ?_)
     exact (hc a' r6).up h7 h8 (by omega)
    | none =>
     dsimp only
     refine fine_need2 [93] h1 h2 (fun u r5 h5 h6 => ?_)
     refine fine_and (fine_made (List.suffix_refl _) h5 h6) (fun a' r6 _ h7 h8 => ?_)
     exact (hc a' r6).up h7 h8 (by omega)
  ·unfold primaryP
   by_cases h : (looks r).f0 = 2 ∨ (looks r).f0 = 1 ∧ wordP (txt (looks r)) = false
   ·rw [if_pos h]; exact fineO (fine_plain r)
   ·rw [if_neg h]
    cases ht : takeP [40] r with
    | some r1 =>
     obtain ⟨t, rfl, _⟩ := take_some ht
     dsimp only
     refine fine_and ((he r1).up (b2 := 1) (c := 1) (List.suffix_cons t r1) (by simp) (by omega)) (fun a r2 _ h1 h2 => ?_)
     exact fine_need2 [41] h1 h2 (fun u r3 h3 h4 => fineO ⟨h3, by omega⟩)
    | none =>
     dsimp only
     cases hq : takeP [123] r with
     | some r1 =>
      obtain ⟨t, rfl, _⟩ := take_some hq
      dsimp only
      refine fine_and ((he r1).up (b2 := 1) (c := 1) (List.suffix_cons t r1) (by simp) (by omega)) (fun a r2 _ h1 h2 => ?_)
      refine fine_need2 [44] h1 h2 (fun u r3 h3 h4 => ?_)
      refine fine_and ((he r3).up (b2 := 1) h3 h4 (by omega)) (fun b r4 _ h5 h6 => ?_)
      exact fine_need2 [125] h5 h6 (fun u r5 h7 h8 => fine_made (List.suffix_refl _) h7 (by omega))
     | none =>
      dsimp only
      cases hw : wordsL.lookup (txt (looks r)) with
      | none => exact fineO (fine_fail (.inl rfl) (List.suffix_refl r) _)
      | some op =>
       dsimp only
       have hne : r.tail <:+ r := List.tail_suffix r
       have hlen : r.tail.length + 0 ≤ r.length := by rw [List.length_tail]; omega
       refine fine_need2 [40] hne hlen (fun u r1 h1 h2 => ?_)
       by_cases h19 : op = 19
       ·rw [if_pos h19]
        refine fine_and ((fineO (fine_name r1)).up (b2 := 1) h1 h2 (by omega)) (fun nm r2 _ h3 h4 => ?_)
        refine fine_need2 [44] h3 h4 (fun u r3 h5 h6 => ?_)
        refine fine_and ((he r3).up (b2 := 1) h5 h6 (by omega)) (fun a r4 _ h7 h8 => ?_)
        exact fine_need2 [41] h7 h8 (fun u r5 h9 h10 => fine_made (List.suffix_refl _) h9 (by omega))
       ·rw [if_neg h19]
        refine fine_and ((he r1).up (b2 := 1) h1 h2 (by omega)) (fun a r4 _ h7 h8 => ?_)
        exact fine_need2 [41] h7 h8 (fun u r5 h9 h10 => fine_made (List.suffix_refl _) h9 (by omega))
theorem fine_expr (k : Nat) (r : List Tok) : FineO r 1 (exprP k r) := (fine_exprs k).2.2.1 r
end Go.Proofs.YtenogedclignmaaDoor.Q
namespace Go.Proofs.YtenogedclignmaaDoor.Q
open Go.RowKit Go.Maps Go.WideMaps Go.Proofs.YtenogedclignmaaDoorW.PrintWords Go.Proofs.YtenogedclignmaaDoorW.PrintLast Go.Proofs.YtenogedclignmaaDoorW.PrintMore
abbrev exV (x : Ex) (v : Value) : Array Value := #[.int .i64 x.f0, .string x.f1.f0, .int .i64 x.f1.f1, .string x.f2.f0, .int .i64 x.f2.f1, .string x.f3.f0, .int .i64 x.f3.f1, .string x.f4.f0, .int .i64 x.f4.f1, .string x.f5, v]
abbrev ExR (ok : Nat → Prop) (w : World) (v : Value) (ks : List Ex) : Prop := k56.R 56 w 0 ok v ks
def okE (n : Nat) (x : Ex) : Prop := okTr x ∧ deepE x ≤ n
def encE (ok : Nat → Prop) (n : Nat) (x : Ex) (v : Value) (w : World) : Prop := ∃ (B : Option Addr) (q : Nat), v = .agg (exV x (.slice B x.f6.length q)) ∧ ExR ok w (.slice B x.f6.length q) x.f6 ∧ okE n x
theorem ExR.at_ {ok : Nat → Prop} {bp b : Nat} {X : Nat → Prop} {w w' : World} {v : Value} {ks : List Ex} (h : ExR ok w v ks) (hat : At bp b X w w') (hX : ∀ k, ok k → k ≠ bp ∧ ¬ X k) : ExR ok w' v ks :=
 Kd.R_step h (fun k hk hlt => hat.rest k hlt (hX k hk).1 (hX k hk).2)
theorem ExR.no {ok : Nat → Prop} {bp b : Nat} {w w' : World} {v : Value} {ks : List Ex} (h : ExR ok w v ks) (hat : At bp b no w w') (hb : ∀ k, ok k → k ≠ bp) : ExR ok w' v ks := h.at_ hat (fun k hk => ⟨hb k hk, id⟩)
theorem ExR.below {ok : Nat → Prop} {w w' : World} {v : Value} {ks : List Ex} (h : ExR ok w v ks) (hb : Below w.heap.size w w') : ExR ok w' v ks := Kd.R_below h hb
theorem ExR.mono {ok ok' : Nat → Prop} {w : World} {v : Value} {ks : List Ex} (h : ExR ok w v ks) (hk : ∀ k, ok k → ok' k) : ExR ok' w v ks := Kd.R_mono h hk
theorem ExR.bound {ok : Nat → Prop} {w : World} {v : Value} {ks : List Ex} (h : ExR ok w v ks) : ExR (fun k => ok k ∧ k < w.heap.size) w v ks := Kd.R_mono (Kd.R_bound h) (fun k hk => ⟨hk.1, hk.2.2.1⟩)
theorem ExR.own {ok : Nat → Prop} {w : World} {v : Value} {ks : List Ex} (h : ExR ok w v ks) {p : Addr} (hg : ∀ k, ok k → k ≠ p.block) (u : Value) : ExR ok (w.setCell p u) v ks := Kd.R_far h hg u
theorem exR_nil (ok : Nat → Prop) (w : World) : ExR ok w (.slice none 0 0) [] := Kd.R_nil _ _ _ _ _
theorem ExR.fill11 {ok : Nat → Prop} {w : World} {v : Value} {ks : List Ex} (h : ExR ok w v ks) {g : Nat} (hg : ∀ k, ok k → k ≠ g) {b0 b1 b2 b3 b4 b5 b6 b7 b8 b9 b10 : Value} :
  ExR ok (((((((((((w.setCell ⟨g, 0, none⟩ b0).setCell ⟨g, 1, none⟩ b1).setCell ⟨g, 2, none⟩ b2).setCell ⟨g, 3, none⟩ b3).setCell ⟨g, 4, none⟩ b4).setCell ⟨g, 5, none⟩ b5).setCell ⟨g, 6, none⟩ b6).setCell ⟨g, 7, none⟩ b7).setCell ⟨g, 8, none⟩ b8).setCell ⟨g, 9, none⟩ b9).setCell ⟨g, 10, none⟩ b10) v ks :=
 ((((((((((h.own (p := ⟨g, 0, none⟩) hg b0).own (p := ⟨g, 1, none⟩) hg b1).own (p := ⟨g, 2, none⟩) hg b2).own (p := ⟨g, 3, none⟩) hg b3).own (p := ⟨g, 4, none⟩) hg b4).own (p := ⟨g, 5, none⟩) hg b5).own (p := ⟨g, 6, none⟩) hg b6).own (p := ⟨g, 7, none⟩) hg b7).own (p := ⟨g, 8, none⟩) hg b8).own (p := ⟨g, 9, none⟩) hg b9).own (p := ⟨g, 10, none⟩) hg b10
theorem fill11 {w : World} {g : Nat} {a0 a1 a2 a3 a4 a5 a6 a7 a8 a9 a10 b0 b1 b2 b3 b4 b5 b6 b7 b8 b9 b10 : Value} {T : TypeId} {fr : Nat × Nat} (h : w.heap[g]? = some (.cells #[a0, a1, a2, a3, a4, a5, a6, a7, a8, a9, a10] T fr)) :
  (((((((((((w.setCell ⟨g, 0, none⟩ b0).setCell ⟨g, 1, none⟩ b1).setCell ⟨g, 2, none⟩ b2).setCell ⟨g, 3, none⟩ b3).setCell ⟨g, 4, none⟩ b4).setCell ⟨g, 5, none⟩ b5).setCell ⟨g, 6, none⟩ b6).setCell ⟨g, 7, none⟩ b7).setCell ⟨g, 8, none⟩ b8).setCell ⟨g, 9, none⟩ b9).setCell ⟨g, 10, none⟩ b10).heap[g]? = some (.cells #[b0, b1, b2, b3, b4, b5, b6, b7, b8, b9, b10] T fr) := by
 have h0 : (w.setCell ⟨g, 0, none⟩ b0).heap[g]? = some (.cells #[b0, a1, a2, a3, a4, a5, a6, a7, a8, a9, a10] T fr) := set_heap h
 have h1 : ((w.setCell ⟨g, 0, none⟩ b0).setCell ⟨g, 1, none⟩ b1).heap[g]? = some (.cells #[b0, b1, a2, a3, a4, a5, a6, a7, a8, a9, a10] T fr) := set_heap h0
 have h2 : (((w.setCell ⟨g, 0, none⟩ b0).setCell ⟨g, 1, none⟩ b1).setCell ⟨g, 2, none⟩ b2).heap[g]? = some (.cells #[b0, b1, b2, a3, a4, a5, a6, a7, a8, a9, a10] T fr) := set_heap h1
 have h3 : ((((w.setCell ⟨g, 0, none⟩ b0).setCell ⟨g, 1, none⟩ b1).setCell ⟨g, 2, none⟩ b2).setCell ⟨g, 3, none⟩ b3).heap[g]? = some (.cells #[b0, b1, b2, b3, a4, a5, a6, a7, a8, a9, a10] T fr) := set_heap h2
 have h4 : (((((w.setCell ⟨g, 0, none⟩ b0).setCell ⟨g, 1, none⟩ b1).setCell ⟨g, 2, none⟩ b2).setCell ⟨g, 3, none⟩ b3).setCell ⟨g, 4, none⟩ b4).heap[g]? = some (.cells #[b0, b1, b2, b3, b4, a5, a6, a7, a8, a9, a10] T fr) := set_heap h3
 have h5 : ((((((w.setCell ⟨g, 0, none⟩ b0).setCell ⟨g, 1, none⟩ b1).setCell ⟨g, 2, none⟩ b2).setCell ⟨g, 3, none⟩ b3).setCell ⟨g, 4, none⟩ b4).setCell ⟨g, 5, none⟩ b5).heap[g]? = some (.cells #[b0, b1, b2, b3, b4, b5, a6, a7, a8, a9, a10] T fr) := set_heap h4
 have h6 : (((((((w.setCell ⟨g, 0, none⟩ b0).setCell ⟨g, 1, none⟩ b1).setCell ⟨g, 2, none⟩ b2).setCell ⟨g, 3, none⟩ b3).setCell ⟨g, 4, none⟩ b4).setCell ⟨g, 5, none⟩ b5).setCell ⟨g, 6, none⟩ b6).heap[g]? = some (.cells #[b0, b1, b2, b3, b4, b5, b6, a7, a8, a9, a10] T fr) := set_heap h5
 have h7 : ((((((((w.setCell ⟨g, 0, none⟩ b0).setCell ⟨g, 1, none⟩ b1).setCell ⟨g, 2, none⟩ b2).setCell ⟨g, 3, none⟩ b3).setCell ⟨g, 4, none⟩ b4).setCell ⟨g, 5, none⟩ b5).setCell ⟨g, 6, none⟩ b6).setCell ⟨g, 7, none⟩ b7).heap[g]? = some (.cells #[b0, b1, b2, b3, b4, b5, b6, b7, a8, a9, a10] T fr) := set_heap h6
 have h8 : (((((((((w.setCell ⟨g, 0, none⟩ b0).setCell ⟨g, 1, none⟩ b1).setCell ⟨g, 2, none⟩ b2).setCell ⟨g, 3, none⟩ b3).setCell ⟨g, 4, none⟩ b4).setCell ⟨g, 5, none⟩ b5).setCell ⟨g, 6, none⟩ b6).setCell ⟨g, 7, none⟩ b7).setCell ⟨g, 8, none⟩ b8).heap[g]? = some (.cells #[b0, b1, b2, b3, b4, b5, b6, b7, b8, a9, a10] T fr) := set_heap h7
 have h9 : ((((((((((w.setCell ⟨g, 0, none⟩ b0).setCell ⟨g, 1, none⟩ b1).setCell ⟨g, 2, none⟩ b2).setCell ⟨g, 3, none⟩ b3).setCell ⟨g, 4, none⟩ b4).setCell ⟨g, 5, none⟩ b5).setCell ⟨g, 6, none⟩ b6).setCell ⟨g, 7, none⟩ b7).setCell ⟨g, 8, none⟩ b8).setCell ⟨g, 9, none⟩ b9).heap[g]? = some (.cells #[b0, b1, b2, b3, b4, b5, b6, b7, b8, b9, a10] T fr) := set_heap h8
 have h10 : (((((((((((w.setCell ⟨g, 0, none⟩ b0).setCell ⟨g, 1, none⟩ b1).setCell ⟨g, 2, none⟩ b2).setCell ⟨g, 3, none⟩ b3).setCell ⟨g, 4, none⟩ b4).setCell ⟨g, 5, none⟩ b5).setCell ⟨g, 6, none⟩ b6).setCell ⟨g, 7, none⟩ b7).setCell ⟨g, 8, none⟩ b8).setCell ⟨g, 9, none⟩ b9).setCell ⟨g, 10, none⟩ b10).heap[g]? = some (.cells #[b0, b1, b2, b3, b4, b5, b6, b7, b8, b9, b10] T fr) := set_heap h9
 exact h10
theorem At.fill11 {bp b : Nat} {X : Nat → Prop} {w w1 : World} (h : At bp b X w w1) {g : Nat} (hg : w.heap.size ≤ g ∨ X g) (hn : g ≠ bp) {b0 b1 b2 b3 b4 b5 b6 b7 b8 b9 b10 : Value} :
  At bp b X w (((((((((((w1.setCell ⟨g, 0, none⟩ b0).setCell ⟨g, 1, none⟩ b1).setCell ⟨g, 2, none⟩ b2).setCell ⟨g, 3, none⟩ b3).setCell ⟨g, 4, none⟩ b4).setCell ⟨g, 5, none⟩ b5).setCell ⟨g, 6, none⟩ b6).setCell ⟨g, 7, none⟩ b7).setCell ⟨g, 8, none⟩ b8).setCell ⟨g, 9, none⟩ b9).setCell ⟨g, 10, none⟩ b10) :=
 ((((((((((h.own (p := ⟨g, 0, none⟩) hg hn b0).own (p := ⟨g, 1, none⟩) hg hn b1).own (p := ⟨g, 2, none⟩) hg hn b2).own (p := ⟨g, 3, none⟩) hg hn b3).own (p := ⟨g, 4, none⟩) hg hn b4).own (p := ⟨g, 5, none⟩) hg hn b5).own (p := ⟨g, 6, none⟩) hg hn b6).own (p := ⟨g, 7, none⟩) hg hn b7).own (p := ⟨g, 8, none⟩) hg hn b8).own (p := ⟨g, 9, none⟩) hg hn b9).own (p := ⟨g, 10, none⟩) hg hn b10
theorem results_cell {P : Program} {fn : Func} {tmps : Array Value} {t : Tmp} {T : TypeId} {g : Nat} {cs : Array Value} {fr : Nat × Nat} {w : World} {d : TypeDesc} (hf : fn.results = #[.cell t T]) (ht : tmps.getD t undef = .pointer (some ⟨g, 0, none⟩)) (hg : w.heap[g]? = some (.cells cs T fr))
  (hu : P.underlying T = some d) (hd : (match d with | .struct _ | .array _ _ => true | _ => false) = true) (hi : (P.info? T).map (·.size) = some cs.size) : (results fn tmps).run P w = .ok (.agg cs) w := by
 have hl : (loadVar T ⟨g, 0, none⟩).run P w = .ok (.agg cs) w := by
  have hc : ∀ (j : Nat) v, cs.toList[j]? = some v → w.cell? ((⟨g, 0, none⟩ : Addr).add j) = some v := fun j v hv => by
   have : w.cell? ⟨g, j, none⟩ = cs[j]? := by unfold World.cell?; rw [hg]; rfl
   rw [add_plain g j, this]; simpa using hv
  have hl : (loadCells ⟨g, 0, none⟩ cs.toList.length).run P w = .ok cs.toList.toArray w := run_loadCells_list (P := P) w ⟨g, 0, none⟩ cs.toList hc
  cases hq : P.info? T with
  | none => simp [hq] at hi
  | some i =>
   have hs : i.size = cs.size := by simpa [hq] using hi
   have hagg : (isAgg T).run P w = .ok true w := by
    unfold isAgg
    rw [Sem.run_bind, run_underlying hu w]
    cases d <;> simp_all
   simp only [Array.length_toList, Array.toArray_toList] at hl
   simp [loadVar, Sem.run_bind, hagg, sizeOf, typeInfo, hq, hs, hl]
 have ht2 : tmps[t]?.getD undef = .pointer (some ⟨g, 0, none⟩) := by simpa using ht
 simp [results, hf, Sem.run_bind, ht2, asAddr, hl]
theorem deep_enc {ok : Nat → Prop} {n : Nat} {x : Ex} {v : Value} {w : World} (h : encE ok n x v w) (hn : n ≤ 1000000) : Calls Tryd.prog 86 #[v] w fun e w' => e = .returned (.int .i64 (deepE x : Int)) ∧ Below w.heap.size w w' := by
 obtain ⟨B, q, rfl, hr, ho⟩ := h
 obtain ⟨A, c, e, hl, hc⟩ := Kd.R_reads hr
 cases e
 exact deep_calls x B q w hc hl ho.1 (Nat.le_trans ho.2 hn)
theorem At.drew {bp b : Nat} {X : Nat → Prop} {w w1 : World} (h : At bp b X w w1) : At bp b X w w1.drew := ⟨h.os, h.tape, h.output, h.size, h.blk, h.rest⟩
theorem ExR.drew {ok : Nat → Prop} {w : World} {v : Value} {ks : List Ex} (h : ExR ok w v ks) : ExR ok w.drew v ks := h.below (below_drew (bR _ _))
theorem heap_drew {W : World} {g : Nat} {o : Obj} (h : W.heap[g]? = some o) : W.drew.heap[g]? = some o := h
def fillW (w : World) (g : Nat) (x : Ex) (v : Value) : World := (((((((((((w.setCell ⟨g, 0, none⟩ (.int .i64 x.f0)).setCell ⟨g, 1, none⟩ (.string x.f1.f0)).setCell ⟨g, 2, none⟩ (.int .i64 x.f1.f1)).setCell ⟨g, 3, none⟩ (.string x.f2.f0)).setCell ⟨g, 4, none⟩ (.int .i64 x.f2.f1)).setCell ⟨g, 5, none⟩ (.string x.f3.f0)).setCell ⟨g, 6, none⟩ (.int .i64 x.f3.f1)).setCell ⟨g, 7, none⟩ (.string x.f4.f0)).setCell ⟨g, 8, none⟩ (.int .i64 x.f4.f1)).setCell ⟨g, 9, none⟩ (.string x.f5)).setCell ⟨g, 10, none⟩ (v))
theorem fillW_heap {w : World} {g : Nat} {a0 a1 a2 a3 a4 a5 a6 a7 a8 a9 a10 : Value} {T : TypeId} {fr : Nat × Nat} (h : w.heap[g]? = some (.cells #[a0, a1, a2, a3, a4, a5, a6, a7, a8, a9, a10] T fr)) (x : Ex) (v : Value) : (fillW w g x v).heap[g]? = some (.cells (exV x v) T fr) := fill11 h (b0 := .int .i64 x.f0) (b1 := .string x.f1.f0) (b2 := .int .i64 x.f1.f1) (b3 := .string x.f2.f0) (b4 := .int .i64 x.f2.f1) (b5 := .string x.f3.f0) (b6 := .int .i64 x.f3.f1) (b7 := .string x.f4.f0) (b8 := .int .i64 x.f4.f1) (b9 := .string x.f5) (b10 := v)
theorem fillW_at {bp b : Nat} {X : Nat → Prop} {w w1 : World} (h : At bp b X w w1) {g : Nat} (hg : w.heap.size ≤ g ∨ X g) (hn : g ≠ bp) (x : Ex) (v : Value) : At bp b X w (fillW w1 g x v) := h.fill11 hg hn (b0 := .int .i64 x.f0) (b1 := .string x.f1.f0) (b2 := .int .i64 x.f1.f1) (b3 := .string x.f2.f0) (b4 := .int .i64 x.f2.f1) (b5 := .string x.f3.f0) (b6 := .int .i64 x.f3.f1) (b7 := .string x.f4.f0) (b8 := .int .i64 x.f4.f1) (b9 := .string x.f5) (b10 := v)
theorem fillW_ex {ok : Nat → Prop} {w : World} {u : Value} {ks : List Ex} (h : ExR ok w u ks) {g : Nat} (hg : ∀ k, ok k → k ≠ g) (x : Ex) (v : Value) : ExR ok (fillW w g x v) u ks := h.fill11 hg (b0 := .int .i64 x.f0) (b1 := .string x.f1.f0) (b2 := .int .i64 x.f1.f1) (b3 := .string x.f2.f0) (b4 := .int .i64 x.f2.f1) (b5 := .string x.f3.f0) (b6 := .int .i64 x.f3.f1) (b7 := .string x.f4.f0) (b8 := .int .i64 x.f4.f1) (b9 := .string x.f5) (b10 := v)
theorem fillW_other {w : World} {g j : Nat} {o : Obj} (h : w.heap[j]? = some o) (hne : j ≠ g) (x : Ex) (v : Value) : (fillW w g x v).heap[j]? = some o := by
 have s : ∀ (w : World) (i : Nat) (u : Value), w.heap[j]? = some o → (w.setCell ⟨g, i, none⟩ u).heap[j]? = some o := fun w i u h => (Below.heap_setCell _ _ _ _ hne).trans h
 have h0 := s w 0 (.int .i64 x.f0) h
 have h1 := s _ 1 (.string x.f1.f0) h0
 have h2 := s _ 2 (.int .i64 x.f1.f1) h1
 have h3 := s _ 3 (.string x.f2.f0) h2
 have h4 := s _ 4 (.int .i64 x.f2.f1) h3
 have h5 := s _ 5 (.string x.f3.f0) h4
 have h6 := s _ 6 (.int .i64 x.f3.f1) h5
 have h7 := s _ 7 (.string x.f4.f0) h6
 have h8 := s _ 8 (.int .i64 x.f4.f1) h7
 have h9 := s _ 9 (.string x.f5) h8
 have h10 := s _ 10 (v) h9
 exact h10
section
variable {fn : Func} {tmps : Array Value} {t g : Nat} {a0 a1 a2 a3 a4 a5 a6 a7 a8 a9 a10 : Value} {bp b : Nat} {l : List Tok} {X : Nat → Prop} {w w6 : World} {ok ok' : Nat → Prop} {res : PR Ex} {x : Ex} {B : Option Addr} {q n : Nat} {r : List Tok}
theorem ret_fill (hf : fn.results = #[.cell t 56]) (ht : tmps.getD t undef = .pointer (some ⟨g, 0, none⟩)) (ho : w6.heap[g]? = some (.cells #[a0, a1, a2, a3, a4, a5, a6, a7, a8, a9, a10] 56 (0, 0))) (hat : At bp b X w w6) (hn : g ≠ bp) (hg : w.heap.size ≤ g ∨ X g) (hok : ∀ k, ok k → k ≠ g) (hok' : ∀ k, ok k → ok' k)
  (hx : ExR ok w6 (.slice B x.f6.length q) x.f6) (hoE : okE n x) (hR : some (PR.ok x r) = some res) (hr : r = l.drop b) (hb : b ≤ l.length) : bodyPost Tryd.prog fn (Tells bp l X w (encE ok' n) res) .ret { tmps := tmps, defers := [] } (fillW w6 g x (.slice B x.f6.length q)) :=
 bodyPost_ret (v := .agg (exV x (.slice B x.f6.length q))) (results_cell hf ht (fillW_heap ho x _) Tryd.underlying56 rfl (by kernel_rfl)) rfl (tells_ok hR hr hb ⟨B, q, rfl, (fillW_ex hx hok x _).mono hok', hoE⟩ (fillW_at hat hg hn x _))
theorem ret_fillD (hf : fn.results = #[.cell t 56]) (ht : tmps.getD t undef = .pointer (some ⟨g, 0, none⟩)) (ho : w6.heap[g]? = some (.cells #[a0, a1, a2, a3, a4, a5, a6, a7, a8, a9, a10] 56 (0, 0))) (hat : At bp b X w w6) (hn : g ≠ bp) (hg : w.heap.size ≤ g ∨ X g) (hok : ∀ k, ok k → k ≠ g) (hok' : ∀ k, ok k → ok' k)
  (hx : ExR ok w6 (.slice B x.f6.length q) x.f6) (hoE : okE n x) (hR : some (PR.ok x r) = some res) (hr : r = l.drop b) (hb : b ≤ l.length) : bodyPost Tryd.prog fn (Tells bp l X w (encE ok' n) res) .ret { tmps := tmps, defers := [] } (fillW w6 g x (.slice B x.f6.length q)).drew :=
 bodyPost_ret (v := .agg (exV x (.slice B x.f6.length q))) (results_cell (w := (fillW w6 g x (.slice B x.f6.length q)).drew) hf ht (heap_drew (fillW_heap ho x (.slice B x.f6.length q))) Tryd.underlying56 rfl (by kernel_rfl)) rfl (tells_ok hR hr hb ⟨B, q, rfl, ((fillW_ex hx hok x _).mono hok').drew, hoE⟩ (fillW_at hat hg hn x _).drew)
end
abbrev Lo (n : Nat) : Nat → Prop := fun k => n ≤ k
set_option maxHeartbeats 4000000 in
set_option maxRecDepth 100000 in
theorem made_tells (G bp : Nat) (s : ByteArray) (A : Option Addr) (c : Nat) (l : List Tok) (begun : Int) (fv : Value) (a : Nat) (w : World) (h : St G bp s A c l begun fv a w) (n : Nat) (hn : n ≤ 1000000) (x : Ex) (v : Value) (ok : Nat → Prop) (hok : ∀ k, ok k → k ≠ bp) (he : encE ok n x v w) (tok : Nat) (htok : tok ≤ l.length) (res : PR Ex) (hres : madeP (l.drop tok) x (l.drop a) = some res) :
  Calls Tryd.prog 80 #[.pointer (some ⟨bp, 0, none⟩), .int .i64 tok, v] w (Tells bp l no w (encE ok 8) res) := by
 have HD := aS (fun w' hb => deep_enc (ok := ok) (n := n) (x := x) (v := v) (w := w') hb hn)
 obtain ⟨B, q, rfl, hr, ho⟩ := he
 have HS := aS h
 have HR := aS hr
 have HO := aS ho
 have HT := aS htok
 have HQ := aS hres
 have HK := aS hok
 clear h hr ho htok hres hok
 have hsz : (w.alloc (.cells #[.int .i64 x.f0, .string x.f1.f0, .int .i64 x.f1.f1, .string x.f2.f0, .int .i64 x.f2.f1, .string x.f3.f0, .int .i64 x.f3.f1, .string x.f4.f0, .int .i64 x.f4.f1, .string x.f5, .slice B x.f6.length q] 56)).heap.size = w.heap.size + 1 := by show (w.heap.push _).size = _; simp
 have hb1 := below_alloc (below_alloc (bR w.heap.size w) (.cells #[.int .i64 x.f0, .string x.f1.f0, .int .i64 x.f1.f1, .string x.f2.f0, .int .i64 x.f2.f1, .string x.f3.f0, .int .i64 x.f3.f1, .string x.f4.f0, .int .i64 x.f4.f1, .string x.f5, .slice B x.f6.length q] 56)) (.cells #[.int .i64 0, .string ⟨#[]⟩, .int .i64 0, .string ⟨#[]⟩, .int .i64 0, .string ⟨#[]⟩, .int .i64 0, .string ⟨#[]⟩, .int .i64 0, .string ⟨#[]⟩, .slice none 0 0] 56)
 have ho1 : ((w.alloc (.cells #[.int .i64 x.f0, .string x.f1.f0, .int .i64 x.f1.f1, .string x.f2.f0, .int .i64 x.f2.f1, .string x.f3.f0, .int .i64 x.f3.f1, .string x.f4.f0, .int .i64 x.f4.f1, .string x.f5, .slice B x.f6.length q] 56)).alloc (.cells #[.int .i64 0, .string ⟨#[]⟩, .int .i64 0, .string ⟨#[]⟩, .int .i64 0, .string ⟨#[]⟩, .int .i64 0, .string ⟨#[]⟩, .int .i64 0, .string ⟨#[]⟩, .slice none 0 0] 56)).heap[w.heap.size]? = some (.cells #[.int .i64 x.f0, .string x.f1.f0, .int .i64 x.f1.f1, .string x.f2.f0, .int .i64 x.f2.f1, .string x.f3.f0, .int .i64 x.f3.f1, .string x.f4.f0, .int .i64 x.f4.f1, .string x.f5, .slice B x.f6.length q] 56) := fbelow (MapKept.heap_alloc w (.cells #[.int .i64 x.f0, .string x.f1.f0, .int .i64 x.f1.f1, .string x.f2.f0, .int .i64 x.f2.f1, .string x.f3.f0, .int .i64 x.f3.f1, .string x.f4.f0, .int .i64 x.f4.f1, .string x.f5, .slice B x.f6.length q] 56)).1 (below_alloc (bR _ _) (.cells #[.int .i64 0, .string ⟨#[]⟩, .int .i64 0, .string ⟨#[]⟩, .int .i64 0, .string ⟨#[]⟩, .int .i64 0, .string ⟨#[]⟩, .int .i64 0, .string ⟨#[]⟩, .slice none 0 0] 56))
 have ho2 : ((w.alloc (.cells #[.int .i64 x.f0, .string x.f1.f0, .int .i64 x.f1.f1, .string x.f2.f0, .int .i64 x.f2.f1, .string x.f3.f0, .int .i64 x.f3.f1, .string x.f4.f0, .int .i64 x.f4.f1, .string x.f5, .slice B x.f6.length q] 56)).alloc (.cells #[.int .i64 0, .string ⟨#[]⟩, .int .i64 0, .string ⟨#[]⟩, .int .i64 0, .string ⟨#[]⟩, .int .i64 0, .string ⟨#[]⟩, .int .i64 0, .string ⟨#[]⟩, .slice none 0 0] 56)).heap[w.heap.size + 1]? = some (.cells #[.int .i64 0, .string ⟨#[]⟩, .int .i64 0, .string ⟨#[]⟩, .int .i64 0, .string ⟨#[]⟩, .int .i64 0, .string ⟨#[]⟩, .int .i64 0, .string ⟨#[]⟩, .slice none 0 0] 56) := by have q := (MapKept.heap_alloc (w.alloc (.cells #[.int .i64 x.f0, .string x.f1.f0, .int .i64 x.f1.f1, .string x.f2.f0, .int .i64 x.f2.f1, .string x.f3.f0, .int .i64 x.f3.f1, .string x.f4.f0, .int .i64 x.f4.f1, .string x.f5, .slice B x.f6.length q] 56)) (.cells #[.int .i64 0, .string ⟨#[]⟩, .int .i64 0, .string ⟨#[]⟩, .int .i64 0, .string ⟨#[]⟩, .int .i64 0, .string ⟨#[]⟩, .int .i64 0, .string ⟨#[]⟩, .slice none 0 0] 56)).1; rw [hsz] at q; exact q
 have HA := aS ((HS.out.same (X := no)).below HS.out.lt hb1)
 have HS1 := aS (HS.out.below hb1)
 have HD1 := aS (HD.out _ ⟨B, q, rfl, HR.out.below hb1, HO.out⟩)
 have hne1 : w.heap.size ≠ bp := by have := HS.out.lt; omega
 have HB1 := aS hb1
 have HO1 := aS ho1
 have HO2 := aS ho2
 clear hb1 ho1 ho2 hsz
 have HN := aS hne1
 clear hne1
 by_cases hd : 8 < deepE x
 ·have d1 : decide ((8 : Int) < deepE x) = true := decide_eq_true (by omega)
  have d2 : decide (8 < deepE x) = true := decide_eq_true (by omega)
  have HDD := aS hd
  clear hd
  go_enter Tryd.func80, Tryd.ntmps80
  go_upto_region 1 with (fail)
  generalize (w.alloc (.cells #[.int .i64 x.f0, .string x.f1.f0, .int .i64 x.f1.f1, .string x.f2.f0, .int .i64 x.f2.f1, .string x.f3.f0, .int .i64 x.f3.f1, .string x.f4.f0, .int .i64 x.f4.f1, .string x.f5, .slice B x.f6.length q] 56)).alloc (.cells #[.int .i64 0, .string ⟨#[]⟩, .int .i64 0, .string ⟨#[]⟩, .int .i64 0, .string ⟨#[]⟩, .int .i64 0, .string ⟨#[]⟩, .int .i64 0, .string ⟨#[]⟩, .slice none 0 0] 56) = w1 at *
  have m0 := cH HO1.out 0
  have m1 := cH HO1.out 1
  have m2 := cH HO1.out 2
  have m3 := cH HO1.out 3
  have m4 := cH HO1.out 4
  have m5 := cH HO1.out 5
  have m6 := cH HO1.out 6
  have m7 := cH HO1.out 7
  have m8 := cH HO1.out 8
  have m9 := cH HO1.out 9
  have m10 := cH HO1.out 10
  go_wp2_with (first
   | (go_at_call 86; refine HD1.out.mono ?_; rintro e w2 ⟨rfl, hb⟩; have HB2 := aS hb; clear hb)
   | (go_at_call 34; refine (fail_calls bp s A c l begun fv a _ (HS1.out.below HB2.out).ps 2 tok HT.out).mono ?_; rintro e w3 ⟨rfl, rfl⟩))
  have hq := HQ.out
  unfold madeP at hq
  rw [if_pos HDD.out, fail_at] at hq
  exact ⟨rfl, tells_bad hq rfl HT.out HS.out.room (HA.out.below HS1.out.lt HB2.out)⟩
 ·have d1 : decide ((8 : Int) < deepE x) = false := decide_eq_false (by omega)
  have d2 : decide (8 < deepE x) = false := decide_eq_false (by omega)
  have HDD := aS hd
  clear hd
  go_enter Tryd.func80, Tryd.ntmps80
  go_upto_region 1 with (fail)
  generalize (w.alloc (.cells #[.int .i64 x.f0, .string x.f1.f0, .int .i64 x.f1.f1, .string x.f2.f0, .int .i64 x.f2.f1, .string x.f3.f0, .int .i64 x.f3.f1, .string x.f4.f0, .int .i64 x.f4.f1, .string x.f5, .slice B x.f6.length q] 56)).alloc (.cells #[.int .i64 0, .string ⟨#[]⟩, .int .i64 0, .string ⟨#[]⟩, .int .i64 0, .string ⟨#[]⟩, .int .i64 0, .string ⟨#[]⟩, .int .i64 0, .string ⟨#[]⟩, .slice none 0 0] 56) = w1 at *
  have m0 := cH HO1.out 0
  have m1 := cH HO1.out 1
  have m2 := cH HO1.out 2
  have m3 := cH HO1.out 3
  have m4 := cH HO1.out 4
  have m5 := cH HO1.out 5
  have m6 := cH HO1.out 6
  have m7 := cH HO1.out 7
  have m8 := cH HO1.out 8
  have m9 := cH HO1.out 9
  have m10 := cH HO1.out 10
  go_wp2_with (go_at_call 86; refine HD1.out.mono ?_; rintro e w2 ⟨rfl, hb⟩; have HB2 := aS hb; have ho1 := fbelow HO1.out hb; have ho2 := fbelow HO2.out hb; have n0 := cH ho1 0; have f0 := blk_frozen ho2 0; have j0 := cH ho2 0; have n1 := cH ho1 1; have f1 := blk_frozen ho2 1; have j1 := cH ho2 1; have n2 := cH ho1 2; have f2 := blk_frozen ho2 2; have j2 := cH ho2 2; have n3 := cH ho1 3; have f3 := blk_frozen ho2 3; have j3 := cH ho2 3; have n4 := cH ho1 4; have f4 := blk_frozen ho2 4; have j4 := cH ho2 4; have n5 := cH ho1 5; have f5 := blk_frozen ho2 5; have j5 := cH ho2 5; have n6 := cH ho1 6; have f6 := blk_frozen ho2 6; have j6 := cH ho2 6; have n7 := cH ho1 7; have f7 := blk_frozen ho2 7; have j7 := cH ho2 7; have n8 := cH ho1 8; have f8 := blk_frozen ho2 8; have j8 := cH ho2 8; have n9 := cH ho1 9; have f9 := blk_frozen ho2 9; have j9 := cH ho2 9; have n10 := cH ho1 10; have f10 := blk_frozen ho2 10; have j10 := cH ho2 10; clear hb)
  have hq := HQ.out
  unfold madeP at hq
  rw [if_neg HDD.out] at hq
  have HA2 := HA.out.below HS1.out.lt HB2.out
  have HA3 := HA2.fill11 (g := w.heap.size + 1) (.inl (by omega)) (by have := HS.out.lt; omega) (b0 := .int .i64 x.f0) (b1 := .string x.f1.f0) (b2 := .int .i64 x.f1.f1) (b3 := .string x.f2.f0) (b4 := .int .i64 x.f2.f1) (b5 := .string x.f3.f0) (b6 := .int .i64 x.f3.f1) (b7 := .string x.f4.f0) (b8 := .int .i64 x.f4.f1) (b9 := .string x.f5) (b10 := .slice B x.f6.length q)
  refine bodyPost_ret (v := .agg (exV x (.slice B x.f6.length q))) ?_ rfl (tells_ok hq rfl HS.out.room ⟨B, q, rfl, (((HR.out.bound.below HB1.out).no (at_same HS1.out.ps HB2.out) (fun k hk => HK.out k hk.1)).fill11 (fun k hk => by omega)).mono (fun k hk => hk.1), HO.out.1, by have := HDD.out; omega⟩ HA3)
  exact results_cell rfl rfl (fill11 (fbelow HO2.out HB2.out)) Tryd.underlying56 rfl (by kernel_rfl)
end Go.Proofs.YtenogedclignmaaDoor.Q
