/-
  HELPER.
-/
import Derived.Test.YtenogedclignmaaDoorPlKA
import Derived.Test.YtenogedclignmaaDoorPlK16
set_option linter.unusedVariables false
set_option linter.unusedSimpArgs false
namespace Go.Proofs.YtenogedclignmaaDoor.Q
open Go.RowKit Go.Maps Go.WideMaps Go.Proofs.YtenogedclignmaaDoorW.PrintWords Go.Proofs.YtenogedclignmaaDoorW.PrintLast Go.Proofs.YtenogedclignmaaDoorW.PrintMore
abbrev ItmR (O : Nat → Prop) (w : World) (v : Value) (xs : List Itm) : Prop := k58.R 58 w 0 O v xs
structure Par (G bp : Nat) (s : ByteArray) (A : Option Addr) (c : Nat) (l : List Tok) (begun : Int) (F : Nat → Prop) (fs : List Wr) (b : Nat) (w : World) : Prop where
 st : ∃ B q, St G bp s A c l begun (.slice B (fs.map (fltW s)).length q) b w ∧ FltR F w (.slice B (fs.map (fltW s)).length q) (fs.map (fltW s))
 far : ∀ k, F k → k ≠ bp ∧ G ≤ k ∧ k < w.heap.size
def ItemsT (G bp : Nat) (s : ByteArray) (A : Option Addr) (c : Nat) (l : List Tok) (begun : Int) (F0 : Nat → Prop) (w : World) (res : MR (List Itm)) (e : Ending) (w' : World) : Prop :=
 Mv (fun k => k = bp ∨ F0 k) w w' ∧ ∃ F, (∀ k, F k → F0 k ∨ w.heap.size ≤ k) ∧ match res with
 | .done xs r fs => ∃ (b : Nat) (v : Value) (O : Nat → Prop), r = l.drop b ∧ b ≤ l.length ∧ e = .returned (.tuple #[v, .bool true]) ∧ Par G bp s A c l begun F fs b w' ∧ ItmR O w' v xs ∧ (∀ k, O k → w.heap.size ≤ k ∧ k < w'.heap.size ∧ ¬ F k) ∧ xs.length ≤ 64
 | .stop fs t => ∃ b : Nat, b ≤ l.length ∧ e = .returned (.tuple #[NS, .bool false]) ∧ Par G bp s A c l begun F fs b w'
 | .bad er t fs => ∃ b a2 : Nat, t = l.drop b ∧ b ≤ l.length ∧ e = gaveUp er b ∧ Par G bp s A c l begun F fs a2 w'
structure Its (G bp : Nat) (s : ByteArray) (A : Option Addr) (c : Nat) (l : List Tok) (begun : Int) (F0 : Nat → Prop) (w : World) (pb gb : Nat) (n : Nat) (fl : List Flt) (B : Option Addr) (q : Nat) (F O : Nat → Prop) (v4 : Value) (out : List Itm) (a : Nat) (w' : World) : Prop where
 st : St G bp s A c l begun (.slice B fl.length q) a w'
 flt : FltR F w' (.slice B fl.length q) fl
 itm : ItmR O w' v4 out
 hF : ∀ k, F k → (F0 k ∨ w.heap.size ≤ k) ∧ k ≠ pb ∧ k ≠ gb ∧ k < w'.heap.size ∧ ¬ O k
 hO : ∀ k, O k → w.heap.size ≤ k ∧ k ≠ pb ∧ k ≠ gb ∧ k < w'.heap.size
 pbx : w'.heap[pb]? = some (.cells #[.pointer (some ⟨bp, 0, none⟩)] 65 (0, 0))
 gbx : w'.heap[gb]? = some (.cells #[.int .i64 n] 3 (0, 0))
 mv : Mv (fun k => k = bp ∨ F0 k) w w'
 few : out.length ≤ n ∧ n ≤ 64
theorem infoI : (Tryd.prog.info? 58).map (fun i => (i.zero, i.size, i.bytes)) = some (some (.agg (itV zItm NS NS NS NS NS)), 42, 568) := by kernel_rfl
section
variable {G bp : Nat} {s : ByteArray} {A : Option Addr} {c : Nat} {l : List Tok} {begun : Int} {F0 : Nat → Prop} {w : World} {pb gb n : Nat} {fl : List Flt} {B : Option Addr} {q : Nat} {F O : Nat → Prop} {v4 : Value} {out : List Itm} {a b : Nat} {w1 w2 : World}
theorem Its.at_ (h : Its G bp s A c l begun F0 w pb gb n fl B q F O v4 out a w1) (hat : At bp b no w1 w2) (hb : b ≤ l.length) (hp : pb ≠ bp) (hg : gb ≠ bp) (hF0 : ∀ k, F0 k → k ≠ bp) (hbw : bp < w.heap.size) : Its G bp s A c l begun F0 w pb gb n fl B q F O v4 out b w2 := by
 have hFb : ∀ k, F k → k ≠ bp := fun k hk => by rcases (h.hF k hk).1 with h1 | h1; exact hF0 k h1; omega
 have hOb : ∀ k, O k → k ≠ bp := fun k hk => by have := (h.hO k hk).1; omega
 exact ⟨h.st.next hat hb, R_at h.flt hat (fun k hk => ⟨hFb k hk, id⟩), R_at h.itm hat (fun k hk => ⟨hOb k hk, id⟩), fun k hk => by
  have := h.hF k hk; have h2 := hat.size; exact ⟨this.1, this.2.1, this.2.2.1, by omega, this.2.2.2.2⟩, fun k hk => by
  have := h.hO k hk; have h2 := hat.size; exact ⟨this.1, this.2.1, this.2.2.1, by omega⟩, hat.obj h.pbx hp id, hat.obj h.gbx hg id, h.mv.then_ hat.mv (fun i hi => .inl (.inl (hi.elim id False.elim))), h.few⟩
theorem Its.below (h : Its G bp s A c l begun F0 w pb gb n fl B q F O v4 out a w1) (hb : Below w1.heap.size w1 w2) : Its G bp s A c l begun F0 w pb gb n fl B q F O v4 out a w2 :=
 ⟨h.st.below hb, Kd.R_below h.flt hb, Kd.R_below h.itm hb, fun k hk => by have := h.hF k hk; have h2 := hb.size; exact ⟨this.1, this.2.1, this.2.2.1, by omega, this.2.2.2.2⟩, fun k hk => by
  have := h.hO k hk; have h2 := hb.size; exact ⟨this.1, this.2.1, this.2.2.1, by omega⟩, fbelow h.pbx hb, fbelow h.gbx hb, h.mv.then_ (mv_below (X := fun _ => False) hb) (fun _ q => q.elim), h.few⟩
theorem Its.par (h : Its G bp s A c l begun F0 w pb gb n fl B q F O v4 out a w1) {fs : List Wr} (hf : fl = fs.map (fltW s)) (hF0 : ∀ k, F0 k → k ≠ bp ∧ G ≤ k ∧ k < w.heap.size) (hG : G ≤ w.heap.size) (hbw : bp < w.heap.size) : Par G bp s A c l begun F fs a w1 := by
 subst hf
 exact ⟨⟨B, q, h.st, h.flt⟩, fun k hk => by
  have h2 := h.hF k hk
  rcases h2.1 with h1 | h1
  ·have := hF0 k h1; exact ⟨this.1, this.2.1, h2.2.2.2.1⟩
  ·exact ⟨by omega, by omega, h2.2.2.2.1⟩⟩
theorem Its.bad (h : Its G bp s A c l begun F0 w pb gb n fl B q F O v4 out a w1) {fs : List Wr} (hf : fl = fs.map (fltW s)) (hF0 : ∀ k, F0 k → k ≠ bp ∧ G ≤ k ∧ k < w.heap.size) (hG : G ≤ w.heap.size) (hbw : bp < w.heap.size) (hlt : ¬ a < l.length) : ItemsT G bp s A c l begun F0 w (.bad 21 [] fs) (gaveUp (failE l 21 a) a) w1 :=
 ⟨h.mv, F, fun k hk => (h.hF k hk).1, a, a, (List.drop_eq_nil_of_le (by omega)).symm, h.st.room, by unfold failE; rw [if_neg hlt], h.par hf hF0 hG hbw⟩
theorem Its.move0 (h : Its G bp s A c l begun F0 w pb gb n fl B q F O v4 out a w1) {Y O' : Nat → Prop} {v4' : Value} {out' : List Itm} (hm : Mv Y w1 w2) (hY : ∀ k, Y k → w.heap.size ≤ k ∧ k ≠ pb ∧ k ≠ gb ∧ ¬ F k) (hi : ItmR O' w2 v4' out') (hO' : ∀ k, O' k → w.heap.size ≤ k ∧ k ≠ pb ∧ k ≠ gb ∧ k < w2.heap.size ∧ ¬ F k) (hf : out'.length ≤ n)
  (hG : G ≤ w.heap.size) (hbw : bp < w.heap.size) : Its G bp s A c l begun F0 w pb gb n fl B q F O' v4' out' a w2 :=
 ⟨h.st.move hm (fun k hk => by have := (hY k hk).1; omega) h.st.room (hm.obj h.st.blk (fun q => by have := (hY _ q).1; omega)), Mv.row h.flt hm (fun k hk q => (hY k q).2.2.2 hk), hi, fun k hk => by
  have := h.hF k hk; have h2 := hm.size; exact ⟨this.1, this.2.1, this.2.2.1, by omega, fun q => (hO' k q).2.2.2.2 hk⟩, fun k hk => by have := hO' k hk; exact ⟨this.1, this.2.1, this.2.2.1, this.2.2.2.1⟩,
  hm.obj h.pbx (fun q => (hY _ q).2.1 rfl), hm.obj h.gbx (fun q => (hY _ q).2.2.1 rfl), h.mv.then_ hm (fun k hk => .inr (hY k hk).1), ⟨hf, h.few.2⟩⟩
theorem Its.append (h : Its G bp s A c l begun F0 w pb gb n fl B q F O v4 out a w1) {n0 : Nat} {x : Itm} {v5 v6 v7 v8 v9 : Value} (hx : ItR (Lo n0) w1 x v5 v6 v7 v8 v9) (hn0 : n0 ≤ w1.heap.size) (hFn : ∀ k, F k → k < n0) (hOn : ∀ k, O k → k < n0) (hwn : w.heap.size ≤ n0 ∧ pb < n0 ∧ gb < n0) (hlen : out.length + 1 ≤ n) (hG : G ≤ w.heap.size) (hbw : bp < w.heap.size) :
  ∃ Bo co v1 w2, v4 = .slice Bo out.length co ∧ (Builtin.append_ #[45, 45] 45 #[v4, .slice (some ⟨w1.heap.size, 0, none⟩) 1 1]).run Tryd.prog (w1.alloc (.cells (itV x v5 v6 v7 v8 v9) 58)) = .ok v1 w2 ∧ Its G bp s A c l begun F0 w pb gb n fl B q F (fun k => (O k ∨ n0 ≤ k) ∧ k < w2.heap.size) v1 (out ++ [x]) a w2 := by
 obtain ⟨Bo, co, e4, _⟩ := Kd.R_reads h.itm
 have hM := k58_mkM w1 0 (Lo n0) x hx.r5 hx.r6 hx.r7 hx.r8 hx.r9
 obtain ⟨v1, w2, hrun, hR, hg, _⟩ := R_append_run (P := Tryd.prog) k58 45 45 58 (.agg (itV zItm NS NS NS NS NS)) 568 Tryd.underlying45 infoI rfl (by decide) (by decide) w1 v4 out x _ (fun k => O k ∨ n0 ≤ k) (Lo n0) hM (fun k hk => ⟨.inr hk, fun e => by have h1 : n0 ≤ k := hk; have h2 := hOn k (h.itm.1 k e.symm); omega⟩) (fun k hk => .inr (Nat.le_trans hn0 hk)) (Kd.R_mono h.itm (fun k hk => .inl hk)) (by have h1 := h.few; omega)
 refine ⟨Bo, co, v1, w2, e4, hrun, ?_⟩
 have hm : Mv O w1 w2 := mv_grown (Mv.refl O w1) hg (fun k hk => .inl (h.itm.1 k hk))
 refine h.move0 hm (fun k hk => by have := h.hO k hk; exact ⟨this.1, this.2.1, this.2.2.1, fun q => (h.hF k q).2.2.2.2 hk⟩) (Kd.R_mono (Kd.R_bound hR) (fun k hk => ⟨hk.1, hk.2.2.1⟩)) (fun k hk => ?_) (by rw [List.length_append]; simpa using hlen) hG hbw
 rcases hk.1 with h1 | h1
 ·have := h.hO k h1; exact ⟨this.1, this.2.1, this.2.2.1, hk.2, fun q => (h.hF k q).2.2.2.2 h1⟩
 ·exact ⟨by omega, by omega, by omega, hk.2, fun q => by have := hFn k q; omega⟩
def ItOk (G bp : Nat) (s : ByteArray) (A : Option Addr) (c : Nat) (l : List Tok) (begun : Int) (fv : Value) (j a gb xb n : Nat) (w1 w2 : World) : Prop := ∃ x r, itemP j n (l.drop a) = some (.ok x r) ∧ I1ok G bp s A c l begun fv j a w1 gb xb n x r (.returned (.tuple #[])) w2
def ItBad (l : List Tok) (begun : Int) (fl : List Flt) (F : Nat → Prop) (j a gb n : Nat) (w1 w2 : World) (er : Int) (b a2 : Nat) (begun2 : Int) (fs2 : List Flt) (F2 : Nat → Prop) : Prop :=
 itemP j n (l.drop a) = some (.bad er (l.drop b)) ∧ begun2 = begun ∧ fs2 = fl ∧ F2 = F ∧ w2.heap[gb]? = some (.cells #[.int .i64 ((begunP n (l.drop a) : Nat) : Int)] 3 (0, 0))
theorem its_read (h : Its G bp s A c l begun F0 w pb gb n fl B q F O v4 out a w1) {xb : Nat} (hx : w1.heap[xb]? = some (.cells (itV zItm NS NS NS NS NS) 58 (0, 0))) (hne : pb ≠ bp ∧ gb ≠ bp ∧ xb ≠ bp ∧ gb ≠ xb ∧ G ≤ gb ∧ G ≤ xb) (hFx : ∀ k, F k → k ≠ bp ∧ k ≠ xb) (hfl : fl.length ≤ 1000) (j : Nat) (y : PR Itm) (hy : itemP j n (l.drop a) = some y) (w2 : World) (hb : Below w1.heap.size w1 w2) :
  Calls Tryd.prog 54 #[.pointer (some ⟨pb, 0, none⟩), .pointer (some ⟨gb, 0, none⟩), .pointer (some ⟨xb, 0, none⟩)] w2 fun e w3 => (e = .returned (.tuple #[]) ∧ ItOk G bp s A c l begun (.slice B fl.length q) j a gb xb n w2 w3 ∧ Mv (fun k => k = bp ∨ k = gb ∨ k = xb) w2 w3) ∨
   ∃ (er : Int) (b a2 : Nat) (begun2 : Int) (B2 : Option Addr) (q2 : Nat) (fs2 : List Flt) (F2 : Nat → Prop), e = gaveUp er b ∧ b ≤ l.length ∧ St G bp s A c l begun2 (.slice B2 fs2.length q2) a2 w3 ∧ FltR F2 w3 (.slice B2 fs2.length q2) fs2 ∧ (∀ k, F2 k → F k ∨ w2.heap.size ≤ k) ∧ fs2.length ≤ 1000 ∧ Mv (fun k => k = bp ∨ k = gb ∨ k = xb) w2 w3 ∧ ItBad l begun fl F j a gb n w2 w3 er b a2 begun2 fs2 F2 := by
 have hI := h.below hb
 cases y with
 | ok x r =>
  refine (items1_ok G bp s A c l begun _ j a w2 hI.st pb gb xb hne n hI.few.2 hI.pbx hI.gbx (fbelow hx hb) x r hy).mono ?_
  rintro e w3 ⟨b, v5, v6, v7, v8, v9, h1, h2, rfl, h4, h5, h6, h7, h8⟩
  exact .inl ⟨rfl, ⟨x, r, hy, b, v5, v6, v7, v8, v9, h1, h2, rfl, h4, h5, h6, h7, h8⟩, h8⟩
 | bad er t =>
  refine (items1_bad G bp s A c l begun _ j a w2 hI.st pb gb xb hne n hI.few.2 hI.pbx hI.gbx er t hy).mono ?_
  rintro e w3 ⟨b, a2, rfl, h2, h3, rfl, h5, h6, h7⟩
  exact .inr ⟨er, b, a2, begun, B, q, fl, F, rfl, h2, h5, Mv.row hI.flt h7 (fun k hk q => by rcases q with q | q | q; exact (hFx k hk).1 q; exact (hI.hF k hk).2.2.1 q; exact (hFx k hk).2 q), fun k hk => .inl hk, hfl, h7, hy, rfl, rfl, rfl, h6⟩
theorem its_ok (h : Its G bp s A c l begun F0 w pb gb n fl B q F O v4 out a w1) {xb j : Nat} (hne : pb ≠ bp ∧ gb ≠ bp ∧ xb ≠ bp ∧ gb ≠ xb ∧ pb ≠ gb ∧ pb ≠ xb ∧ xb < w1.heap.size ∧ w.heap.size ≤ gb ∧ w.heap.size ≤ xb) (hFx : ∀ k, F k → k ≠ bp ∧ k ≠ xb) (hOx : ∀ k, O k → k ≠ bp ∧ k ≠ xb) (hG : G ≤ w.heap.size) (hbw : bp < w.heap.size) {w2 w3 w4 : World} (hb : Below w1.heap.size w1 w2)
  (hok : ItOk G bp s A c l begun (.slice B fl.length q) j a gb xb n w2 w3) (hm : Mv (fun k => w1.heap.size ≤ k ∧ k < w2.heap.size) w3 w4) : ∃ (x : Itm) (b : Nat) (v5 v6 v7 v8 v9 : Value), itemP j n (l.drop a) = some (.ok x (l.drop b)) ∧ b ≤ l.length ∧ Its G bp s A c l begun F0 w pb gb (begunP n (l.drop a)) fl B q F O v4 out b w4 ∧ out.length + 1 ≤ begunP n (l.drop a) ∧
   w4.heap[xb]? = some (.cells (itV x v5 v6 v7 v8 v9) 58 (0, 0)) ∧ ItR (Lo w2.heap.size) w4 x v5 v6 v7 v8 v9 ∧ w1.heap.size ≤ w2.heap.size ∧ w2.heap.size ≤ w4.heap.size := by
 obtain ⟨x, r, hi, b, v5, v6, v7, v8, v9, rfl, h2, _, h4, h5, h6, h7, h8⟩ := hok
 have hgl := (Array.getElem?_eq_some_iff.1 h.gbx).1
 have hpl := (Array.getElem?_eq_some_iff.1 h.pbx).1
 have hbl := h.st.lt
 have hno : ∀ k, k < w1.heap.size → ¬ (w1.heap.size ≤ k ∧ k < w2.heap.size) := fun k hk q => by omega
 have hm13 : Mv (fun k => k = bp ∨ k = gb ∨ k = xb) w1 w3 := (mv_below (X := fun k => k = bp ∨ k = gb ∨ k = xb) hb).then_ h8 (fun i hi => .inl hi)
 have hm14 : Mv (fun k => k = bp ∨ k = gb ∨ k = xb) w1 w4 := hm13.then_ hm (fun i hi => .inr hi.1)
 have hk : keptV (txt (looks (l.drop a))) ≠ 0 ∧ ¬ 64 ≤ n := by
  unfold itemP at hi
  by_cases c1 : keptV (txt (looks (l.drop a))) = 0
  ·rw [if_pos c1] at hi; cases hq : l.drop a <;> rw [hq] at hi <;> cases hi
  ·rw [if_neg c1] at hi
   refine ⟨c1, fun c2 => ?_⟩
   rw [if_pos c2] at hi; cases hq : l.drop a <;> rw [hq] at hi <;> cases hi
 have hbg : begunP n (l.drop a) = n + 1 := by unfold begunP; rw [if_neg (fun q => q.elim hk.1 hk.2)]
 refine ⟨x, b, v5, v6, v7, v8, v9, hi, h2, ⟨?_, ?_, ?_, fun k hk => ?_, fun k hk => ?_, ?_, ?_, ?_, ?_⟩, ?_, ?_, ?_, hb.size, Nat.le_trans h8.size hm.size⟩
 ·exact h4.move hm (fun k hk => by have := h.st.tab.size; omega) h2 (hm.obj h4.blk (hno bp hbl))
 ·exact Mv.row h.flt hm14 (fun k hk q => by rcases q with q | q | q; exact (hFx k hk).1 q; exact (h.hF k hk).2.2.1 q; exact (hFx k hk).2 q)
 ·exact Mv.row h.itm hm14 (fun k hk q => by rcases q with q | q | q; exact (hOx k hk).1 q; exact (h.hO k hk).2.2.1 q; exact (hOx k hk).2 q)
 ·have := h.hF k hk; have h2 := hm14.size; exact ⟨this.1, this.2.1, this.2.2.1, by omega, this.2.2.2.2⟩
 ·have := h.hO k hk; have h2 := hm14.size; exact ⟨this.1, this.2.1, this.2.2.1, by omega⟩
 ·exact hm14.obj h.pbx (fun q => by rcases q with q | q | q; exact hne.1 q; exact hne.2.2.2.2.1 q; exact hne.2.2.2.2.2.1 q)
 ·exact hm.obj h7 (hno gb hgl)
 ·exact h.mv.then_ hm14 (fun k hk => by rcases hk with hk | hk | hk; exact .inl (.inl hk); exact .inr (by omega); exact .inr (by omega))
 ·rw [hbg]; have := h.few; exact ⟨by omega, by omega⟩
 ·rw [hbg]; have := h.few; omega
 ·exact hm.obj h5 (hno xb hne.2.2.2.2.2.2.1)
 ·exact h6.map (fun q => Mv.row q hm (fun k hk q => by have h1 : w2.heap.size ≤ k := hk; omega))
theorem its_bad (h : Its G bp s A c l begun F0 w pb gb n fl B q F O v4 out a w1) {xb j : Nat} (hne : pb ≠ bp ∧ gb ≠ bp ∧ xb ≠ bp ∧ gb ≠ xb ∧ pb ≠ gb ∧ pb ≠ xb ∧ xb < w1.heap.size ∧ w.heap.size ≤ gb ∧ w.heap.size ≤ xb) (hFx : ∀ k, F k → k ≠ bp ∧ k ≠ xb) (hOx : ∀ k, O k → k ≠ bp ∧ k ≠ xb) (hG : G ≤ w.heap.size) (hbw : bp < w.heap.size) {w2 w3 w4 : World} (hb : Below w1.heap.size w1 w2) (hm23 : Mv (fun k => k = bp ∨ k = gb ∨ k = xb) w2 w3)
  {er : Int} {b a2 : Nat} {begun2 : Int} {fs2 : List Flt} {F2 : Nat → Prop} {B3 : Option Addr} {q3 : Nat} (hbad : ItBad l begun fl F j a gb n w2 w3 er b a2 begun2 fs2 F2) (hst : St G bp s A c l begun2 (.slice B3 (fs2.length + 1) q3) a2 w4) (hfl : FltR (fun k => F2 k ∨ w3.heap.size ≤ k) w4 (.slice B3 (fs2.length + 1) q3) (fs2 ++ [fltT s l er b])) (hm : Mv (fun k => k = bp ∨ F2 k ∨ w1.heap.size ≤ k ∧ k < w2.heap.size) w3 w4) :
  itemP j n (l.drop a) = some (.bad er (l.drop b)) ∧ Its G bp s A c l begun F0 w pb gb (begunP n (l.drop a)) (fl ++ [fltT s l er b]) B3 q3 (fun k => (F k ∨ w3.heap.size ≤ k) ∧ k < w4.heap.size) O v4 out a2 w4 ∧ w1.heap.size ≤ w4.heap.size := by
 obtain ⟨hi, rfl, rfl, rfl, hg⟩ := hbad
 have hgl := (Array.getElem?_eq_some_iff.1 h.gbx).1
 have hpl := (Array.getElem?_eq_some_iff.1 h.pbx).1
 have hbl := h.st.lt
 have hm13 : Mv (fun k => k = bp ∨ k = gb ∨ k = xb) w1 w3 := (mv_below (X := fun k => k = bp ∨ k = gb ∨ k = xb) hb).then_ hm23 (fun i hi => .inl hi)
 have hm14 : Mv (fun k => k = bp ∨ k = gb ∨ k = xb ∨ F2 k) w1 w4 := (hm13.mono (fun k q => q.imp id (fun q => q.imp id .inl))).then_ hm (fun i hi => by
  rcases hi with hi | hi | hi
  ·exact .inl (.inl hi)
  ·exact .inl (.inr (.inr (.inr hi)))
  ·exact .inr hi.1)
 have hs13 := hm13.size
 refine ⟨hi, ⟨?_, ?_, ?_, fun k hk => ?_, fun k hk => ?_, ?_, ?_, ?_, ?_⟩, hm14.size⟩
 ·rw [List.length_append, List.length_singleton]; exact hst
 ·rw [List.length_append, List.length_singleton]; exact Kd.R_mono (Kd.R_bound hfl) (fun k hk => ⟨hk.1, hk.2.2.1⟩)
 ·exact Mv.row h.itm hm14 (fun k hk q => by rcases q with q | q | q | q; exact (hOx k hk).1 q; exact (h.hO k hk).2.2.1 q; exact (hOx k hk).2 q; exact (h.hF k q).2.2.2.2 hk)
 ·rcases hk.1 with h1 | h1
  ·have := h.hF k h1; exact ⟨this.1, this.2.1, this.2.2.1, hk.2, this.2.2.2.2⟩
  ·exact ⟨.inr (by omega), by omega, by omega, hk.2, fun q => by have := (h.hO k q).2.2.2; omega⟩
 ·have := h.hO k hk; have h2 := hm14.size; exact ⟨this.1, this.2.1, this.2.2.1, by omega⟩
 ·exact hm14.obj h.pbx (fun q => by rcases q with q | q | q | q; exact hne.1 q; exact hne.2.2.2.2.1 q; exact hne.2.2.2.2.2.1 q; exact (h.hF pb q).2.1 rfl)
 ·exact hm.obj hg (fun q => by rcases q with q | q | q; exact hne.2.1 q; exact (h.hF gb q).2.2.1 rfl; omega)
 ·exact h.mv.then_ hm14 (fun k hk => by
   rcases hk with hk | hk | hk | hk
   ·exact .inl (.inl hk)
   ·exact .inr (by omega)
   ·exact .inr (by omega)
   ·rcases (h.hF k hk).1 with h1 | h1
    ·exact .inl (.inr h1)
    ·exact .inr h1)
 ·have := h.few
  unfold begunP
  by_cases c1 : keptV (txt (looks (l.drop a))) = 0 ∨ 64 ≤ n
  ·rw [if_pos c1]; exact this
  ·rw [if_neg c1]; exact ⟨by omega, by have : ¬ 64 ≤ n := fun q => c1 (.inr q); omega⟩
end
set_option maxHeartbeats 8000000 in
set_option maxRecDepth 100000 in
theorem items_tells (G bp : Nat) (s : ByteArray) (A : Option Addr) (c : Nat) (l : List Tok) (begun : Int) (F0 : Nat → Prop) (k a : Nat) (fs : List Wr) (w : World) (hpar : Par G bp s A c l begun F0 fs a w) (hov : overP fs = false) (res : MR (List Itm)) (hres : itemsP k 0 [] fs (l.drop a) = some res) :
  Calls Tryd.prog 42 #[.pointer (some ⟨bp, 0, none⟩)] w (ItemsT G bp s A c l begun F0 w res) := by
 obtain ⟨⟨B, q, hst, hflt⟩, hfar⟩ := hpar
 have HFAR := aS hfar
 have hb1 := below_alloc (bR w.heap.size w) (.cells #[.pointer (some ⟨bp, 0, none⟩)] 65)
 have hp1 := (MapKept.heap_alloc w (.cells #[.pointer (some ⟨bp, 0, none⟩)] 65)).1
 have HLW := aS (show bp < w.heap.size ∧ G ≤ w.heap.size from ⟨hst.lt, hst.tab.size⟩)
 have HS0 := aS hst
 have HR0 := aS hflt
 have HP1 := aS hp1
 have HB1 := aS hb1
 have HQ := aS hres
 have HOV := aS hov
 have hz1 : (w.alloc (.cells #[.pointer (some ⟨bp, 0, none⟩)] 65)).heap.size = w.heap.size + 1 := by show (w.heap.push _).size = _; simp
 have HZ1 := aS hz1
 clear hst hflt hfar hb1 hp1 hres hov hz1
 go_enter Tryd.func42, Tryd.ntmps42
 go_upto_region 2 with (fail)
 generalize w.alloc (.cells #[.pointer (some ⟨bp, 0, none⟩)] 65) = w1 at *
 go_upto_region 3 with (fail)
 have hb2 := below_alloc (bR w1.heap.size w1) (.cells #[.int .i64 0] 3)
 have hg2 := (MapKept.heap_alloc w1 (.cells #[.int .i64 0] 3)).1
 have hz2 : (w1.alloc (.cells #[.int .i64 0] 3)).heap.size = w.heap.size + 2 := by show (w1.heap.push _).size = _; simp only [Array.size_push, HZ1.out]
 rw [HZ1.out] at hg2
 have hbb : Below w.heap.size w (w1.alloc (.cells #[.int .i64 0] 3)) := HB1.out.trans (hb2.mono HB1.out.size)
 have HI0 := aS (show Its G bp s A c l begun F0 w w.heap.size (w.heap.size + 1) 0 (fs.map (fltW s)) B q F0 (fun _ => False) NS [] a (w1.alloc (.cells #[.int .i64 0] 3)) from
  ⟨HS0.out.below hbb, Kd.R_below HR0.out hbb, Kd.R_nil _ _ _ _ _, fun k hk => by have := HFAR.out k hk; exact ⟨.inl hk, by omega, by omega, by omega, id⟩, fun k hk => hk.elim, fbelow HP1.out hb2, hg2, mv_below hbb, Nat.le_refl _, by decide⟩)
 clear hb2 hg2 hz2 hbb HP1 HB1 HS0 HR0
 generalize w1.alloc (.cells #[.int .i64 0] 3) = w2 at *
 rw [HZ1.out]
 clear HZ1
 generalize hpb : w.heap.size = pb at *
 generalize hgb : pb + 1 = gb at *
 have HGE := aS (And.intro hpb hgb)
 clear hpb hgb
 go_loopg [4] k (fun kq v4 w' => ∃ (n a' : Nat) (out : List Itm) (fs' : List Wr) (fl : List Flt) (B : Option Addr) (q : Nat) (F O : Nat → Prop), Aside0 (itemsP kq n out fs' (l.drop a') = some res) ∧ Aside0 (Its G bp s A c l begun F0 w pb gb n fl B q F O v4 out a' w') ∧ Aside0 (fl = fs'.map (fltW s)) ∧ Aside0 (overP fs' = false))
 case atStart => exact ⟨0, a, [], fs, _, B, q, F0, _, HQ, HI0, ⟨rfl⟩, HOV⟩
 case round =>
  clear HQ HI0 HOV
  obtain ⟨n, a', out, fs', fl, B, q, F, O, HQ, HI, HFL, HOV⟩ := hrel
  generalize wr = w3 at *
  obtain ⟨j, rfl⟩ : ∃ j, gk = j + 1 := by
   cases gk with
   | zero => have q := HQ.out; unfold itemsP at q; cases q
   | succ j => exact ⟨j, rfl⟩
  have HNB := aS (show pb ≠ bp ∧ gb ≠ bp ∧ bp < w.heap.size ∧ G ≤ w.heap.size ∧ G ≤ gb ∧ w.heap.size = pb ∧ pb + 1 = gb by have h1 := HGE.out; have h2 := HLW.out; exact ⟨by omega, by omega, by omega, by omega, by omega, by omega, by omega⟩)
  have p0 := cH HI.out.pbx 0
  go_upto_region 4 with (go_at_call 36; refine calls_take (take_tells ⟨#[125]⟩ HI.out.st) ?_ ?_; rotate_left; rintro w4 hq hat; have HNO := aS hq; have HI4 := aS (HI.out.at_ hat HI.out.st.room HNB.out.1 HNB.out.2.1 (fun k hk => (HFAR.out k hk).1) HNB.out.2.2.1); clear hq hat; rotate_left; rintro w4 hq hb hat; have HYES := aS hq; have HB4 := aS hb; have HI4 := aS (HI.out.at_ hat hb HNB.out.1 HNB.out.2.1 (fun k hk => (HFAR.out k hk).1) HNB.out.2.2.1); clear hq hb hat)
  ·have hr : res = .done out (l.drop (a' + 1)) fs' := by
    have qq := HQ.out
    rw [itemsP, HYES.out] at qq
    exact (Option.some.inj qq).symm
   rw [hr]
   exact bodyPost_ret (results_tmp2 rfl _ _ _) rfl ⟨HI4.out.mv, F, fun k hk => (HI4.out.hF k hk).1, a' + 1, _, O, rfl, HB4.out, rfl, HI4.out.par HFL.out (fun k hk => by have := HFAR.out k hk; exact ⟨this.1, this.2.1, by have := HNB.out; omega⟩) HNB.out.2.2.2.1 HNB.out.2.2.1, HI4.out.itm, fun k hk => by have := HI4.out.hO k hk; exact ⟨this.1, this.2.2.2, fun q => (HI4.out.hF k q).2.2.2.2 hk⟩, Nat.le_trans HI4.out.few.1 HI4.out.few.2⟩
  ·clear p0 HI
   have p0 := cH HI4.out.pbx 0
   have c1 := blk_cell HI4.out.st.blk 1
   have c2 := blk_cell HI4.out.st.blk 2
   have hsm := HI4.out.st.small
   by_cases hlt : a' < l.length
   ·have d1 : decide ((l.length : Int) ≤ (a' : Int)) = false := decide_eq_false (by omega)
    have d2 : decide (l.length ≤ a') = false := decide_eq_false (by omega)
    have HLT := aS hlt
    clear hlt
    go_region
    all_goals
     go_upto_region 6 with (fail)
     clear c1 c2 hsm d1 d2
     have HI5 := aS (HI4.out.below (below_drew (bR w4.heap.size w4)))
     clear HI4
     generalize w4.drew = w5 at *
     have hb6 := below_alloc (bR w5.heap.size w5) (.cells #[.int .i64 0, .string ⟨#[]⟩, .string ⟨#[]⟩, .int .i64 0, .string ⟨#[]⟩, .int .i64 0, .string ⟨#[]⟩, .slice none 0 0, .slice none 0 0, .int .i64 0, .string ⟨#[]⟩, .int .i64 0, .string ⟨#[]⟩, .int .i64 0, .string ⟨#[]⟩, .int .i64 0, .string ⟨#[]⟩, .int .i64 0, .string ⟨#[]⟩, .slice none 0 0, .int .i64 0, .string ⟨#[]⟩, .int .i64 0, .string ⟨#[]⟩, .int .i64 0, .string ⟨#[]⟩, .int .i64 0, .string ⟨#[]⟩, .int .i64 0, .string ⟨#[]⟩, .slice none 0 0, .int .i64 0, .string ⟨#[]⟩, .int .i64 0, .string ⟨#[]⟩, .int .i64 0, .string ⟨#[]⟩, .int .i64 0, .string ⟨#[]⟩, .int .i64 0, .string ⟨#[]⟩, .slice none 0 0] 58)
     have hx6 : (w5.alloc (.cells #[.int .i64 0, .string ⟨#[]⟩, .string ⟨#[]⟩, .int .i64 0, .string ⟨#[]⟩, .int .i64 0, .string ⟨#[]⟩, .slice none 0 0, .slice none 0 0, .int .i64 0, .string ⟨#[]⟩, .int .i64 0, .string ⟨#[]⟩, .int .i64 0, .string ⟨#[]⟩, .int .i64 0, .string ⟨#[]⟩, .int .i64 0, .string ⟨#[]⟩, .slice none 0 0, .int .i64 0, .string ⟨#[]⟩, .int .i64 0, .string ⟨#[]⟩, .int .i64 0, .string ⟨#[]⟩, .int .i64 0, .string ⟨#[]⟩, .int .i64 0, .string ⟨#[]⟩, .slice none 0 0, .int .i64 0, .string ⟨#[]⟩, .int .i64 0, .string ⟨#[]⟩, .int .i64 0, .string ⟨#[]⟩, .int .i64 0, .string ⟨#[]⟩, .int .i64 0, .string ⟨#[]⟩, .slice none 0 0] 58)).heap[w5.heap.size]? = some (.cells (itV zItm NS NS NS NS NS) 58 (0, 0)) := (MapKept.heap_alloc w5 (.cells #[.int .i64 0, .string ⟨#[]⟩, .string ⟨#[]⟩, .int .i64 0, .string ⟨#[]⟩, .int .i64 0, .string ⟨#[]⟩, .slice none 0 0, .slice none 0 0, .int .i64 0, .string ⟨#[]⟩, .int .i64 0, .string ⟨#[]⟩, .int .i64 0, .string ⟨#[]⟩, .int .i64 0, .string ⟨#[]⟩, .int .i64 0, .string ⟨#[]⟩, .slice none 0 0, .int .i64 0, .string ⟨#[]⟩, .int .i64 0, .string ⟨#[]⟩, .int .i64 0, .string ⟨#[]⟩, .int .i64 0, .string ⟨#[]⟩, .int .i64 0, .string ⟨#[]⟩, .slice none 0 0, .int .i64 0, .string ⟨#[]⟩, .int .i64 0, .string ⟨#[]⟩, .int .i64 0, .string ⟨#[]⟩, .int .i64 0, .string ⟨#[]⟩, .int .i64 0, .string ⟨#[]⟩, .slice none 0 0] 58)).1
     have hz6 : (w5.alloc (.cells #[.int .i64 0, .string ⟨#[]⟩, .string ⟨#[]⟩, .int .i64 0, .string ⟨#[]⟩, .int .i64 0, .string ⟨#[]⟩, .slice none 0 0, .slice none 0 0, .int .i64 0, .string ⟨#[]⟩, .int .i64 0, .string ⟨#[]⟩, .int .i64 0, .string ⟨#[]⟩, .int .i64 0, .string ⟨#[]⟩, .int .i64 0, .string ⟨#[]⟩, .slice none 0 0, .int .i64 0, .string ⟨#[]⟩, .int .i64 0, .string ⟨#[]⟩, .int .i64 0, .string ⟨#[]⟩, .int .i64 0, .string ⟨#[]⟩, .int .i64 0, .string ⟨#[]⟩, .slice none 0 0, .int .i64 0, .string ⟨#[]⟩, .int .i64 0, .string ⟨#[]⟩, .int .i64 0, .string ⟨#[]⟩, .int .i64 0, .string ⟨#[]⟩, .int .i64 0, .string ⟨#[]⟩, .slice none 0 0] 58)).heap.size = w5.heap.size + 1 := by show (w5.heap.push _).size = _; simp
     have hfx : ∀ k, F k → k ≠ bp ∧ k ≠ w5.heap.size := fun k hk => by
      have h1 := HI5.out.hF k hk
      refine ⟨fun e => ?_, by omega⟩
      rcases h1.1 with h2 | h2
      ·exact (HFAR.out k h2).1 e
      ·have := HNB.out; omega
     have hox : ∀ k, O k → k ≠ bp ∧ k ≠ w5.heap.size := fun k hk => by have h1 := HI5.out.hO k hk; have h2 := HNB.out; exact ⟨by omega, by omega⟩
     have hgl := (Array.getElem?_eq_some_iff.1 HI5.out.gbx).1
     have hpl := (Array.getElem?_eq_some_iff.1 HI5.out.pbx).1
     have hbl := HI5.out.st.lt
     have HI6 := aS (HI5.out.below hb6)
     have HX6 := aS hx6
     have HFX := aS hfx
     have HOX := aS hox
     have HZ6 := aS (show w5.heap.size < (w5.alloc (.cells #[.int .i64 0, .string ⟨#[]⟩, .string ⟨#[]⟩, .int .i64 0, .string ⟨#[]⟩, .int .i64 0, .string ⟨#[]⟩, .slice none 0 0, .slice none 0 0, .int .i64 0, .string ⟨#[]⟩, .int .i64 0, .string ⟨#[]⟩, .int .i64 0, .string ⟨#[]⟩, .int .i64 0, .string ⟨#[]⟩, .int .i64 0, .string ⟨#[]⟩, .slice none 0 0, .int .i64 0, .string ⟨#[]⟩, .int .i64 0, .string ⟨#[]⟩, .int .i64 0, .string ⟨#[]⟩, .int .i64 0, .string ⟨#[]⟩, .int .i64 0, .string ⟨#[]⟩, .slice none 0 0, .int .i64 0, .string ⟨#[]⟩, .int .i64 0, .string ⟨#[]⟩, .int .i64 0, .string ⟨#[]⟩, .int .i64 0, .string ⟨#[]⟩, .int .i64 0, .string ⟨#[]⟩, .slice none 0 0] 58)).heap.size ∧ pb < w5.heap.size ∧ gb < w5.heap.size ∧ bp < w5.heap.size ∧ (∀ k, F k → k < w5.heap.size) ∧ (∀ k, O k → k < w5.heap.size) from ⟨by omega, hpl, hgl, hbl, fun k hk => (HI5.out.hF k hk).2.2.2.1, fun k hk => (HI5.out.hO k hk).2.2.2⟩)
     clear hb6 hx6 hz6 hfx hox hgl hpl hbl
     go_upto_region 7 with (fail)
     generalize w5.alloc (.cells #[.int .i64 0, .string ⟨#[]⟩, .string ⟨#[]⟩, .int .i64 0, .string ⟨#[]⟩, .int .i64 0, .string ⟨#[]⟩, .slice none 0 0, .slice none 0 0, .int .i64 0, .string ⟨#[]⟩, .int .i64 0, .string ⟨#[]⟩, .int .i64 0, .string ⟨#[]⟩, .int .i64 0, .string ⟨#[]⟩, .int .i64 0, .string ⟨#[]⟩, .slice none 0 0, .int .i64 0, .string ⟨#[]⟩, .int .i64 0, .string ⟨#[]⟩, .int .i64 0, .string ⟨#[]⟩, .int .i64 0, .string ⟨#[]⟩, .int .i64 0, .string ⟨#[]⟩, .slice none 0 0, .int .i64 0, .string ⟨#[]⟩, .int .i64 0, .string ⟨#[]⟩, .int .i64 0, .string ⟨#[]⟩, .int .i64 0, .string ⟨#[]⟩, .int .i64 0, .string ⟨#[]⟩, .slice none 0 0] 58) = w6 at *
     generalize hxb : w5.heap.size = xb at *
     clear HI5
     have HNE := aS (show pb ≠ bp ∧ gb ≠ bp ∧ xb ≠ bp ∧ gb ≠ xb ∧ pb ≠ gb ∧ pb ≠ xb ∧ xb < w6.heap.size ∧ w.heap.size ≤ gb ∧ w.heap.size ≤ xb by have h1 := HNB.out; have h2 := HZ6.out; exact ⟨by omega, by omega, by omega, by omega, by omega, by omega, by omega, by omega, by omega⟩)
     clear hxb
     have hnil : ¬ l.drop a' = [] := fun e => by have := congrArg List.length e; have := HLT.out; simp at *; omega
     have HNIL := aS hnil
     obtain ⟨y, hy⟩ : ∃ y, itemP j n (l.drop a') = some y := by
      have qq := HQ.out
      rw [itemsP, HNO.out] at qq
      dsimp only at qq
      rw [if_neg hnil] at qq
      cases hq : itemP j n (l.drop a') with
      | none => rw [hq] at qq; cases qq
      | some y => exact ⟨y, rfl⟩
     have HY := aS hy
     have HLN := aS (show fl.length ≤ 19 by
      rw [HFL.out, List.length_map]
      have qq := HOV.out
      unfold overP at qq
      rw [Bool.or_eq_false_iff] at qq
      have := of_decide_eq_false qq.1; omega)
     clear hy hnil
     clear p0
     have p0 := cH HI6.out.pbx 0
     have hmf : ∀ (fn : Fn) (first cap : Array Value) (w : World), (Instr.makeFunc fn first cap).run Tryd.prog w = .ok (.func fn first cap) w := fun _ _ _ _ => rfl
     go_upto_region 9 with (go_at_call 22; refine (guarded_calls G bp s A c l begun _ a' w6 F HI6.out.st (fun k hk => ⟨(HFX.out k hk).1, by rcases (HI6.out.hF k hk).1 with h1 | h1; exact (HFAR.out k h1).2.1; have := HNB.out; omega, (HI6.out.hF k hk).2.2.2.1⟩) (fun k => k = bp ∨ k = gb ∨ k = xb) (fun k hk => by have h1 := HZ6.out; rcases hk with hk | hk | hk <;> omega) 54 _ (fun w => enters_ Tryd.func54 (by kernel_rfl) rfl _ w) (ItOk G bp s A c l begun (.slice B fl.length q) j a' gb xb n) (ItBad l begun fl F j a' gb n) (fun w1 hb hz => its_read HI6.out HX6.out (by have h1 := HNE.out; have h2 := HNB.out; exact ⟨h1.1, h1.2.1, h1.2.2.1, h1.2.2.2.1, h2.2.2.2.2.1, by omega⟩) HFX.out (by have := HLN.out; omega) j y HY.out w1 hb)).mono ?_; rintro e w7 (⟨rfl, w8, w9, hb8, hz8, hok, hmX, hm7⟩ | ⟨er, b, a2, begun2, fs2, F2, B3, q3, w8, w9, rfl, hbb, hb8, hz8, hmX, hbad, hst7, hfl7, hf27, hm7⟩))
     ·obtain ⟨x, b, v5, v6, v7, v8, v9, hi, hb, hI7, hlen, hx7, hr7, hs1, hs2⟩ := its_ok HI6.out HNE.out HFX.out HOX.out HNB.out.2.2.2.1 HNB.out.2.2.1 hb8 hok hm7
      have hbw := below_alloc (bR w7.heap.size w7) (.cells #[.int .i64 0, .int .i64 0] 69)
      have HI10 := aS (hI7.below hbw)
      have hx10 := fbelow hx7 hbw
      have hr10 : ItR (Lo w8.heap.size) (w7.alloc (.cells #[.int .i64 0, .int .i64 0] 69)) x v5 v6 v7 v8 v9 := hr7.map (fun q => Kd.R_below q hbw)
      have hs3 := hbw.size
      have HI := aS hi
      have HB := aS hb
      have HLEN := aS hlen
      clear hI7 hbw hx7 hr7 hi hb hlen hb8 hz8 hok hmX hm7 p0 hmf
      go_upto_region 10 with (fail)
      generalize w7.alloc (.cells #[.int .i64 0, .int .i64 0] 69) = w10 at *
      obtain ⟨A5, c5, e5, _⟩ := Kd.R_reads hr10.r5; subst e5
      obtain ⟨A6, c6, e6, _⟩ := Kd.R_reads hr10.r6; subst e6
      obtain ⟨A7, c7, e7, _⟩ := Kd.R_reads hr10.r7; subst e7
      obtain ⟨A8, c8, e8, _⟩ := Kd.R_reads hr10.r8; subst e8
      obtain ⟨A9, c9, e9, _⟩ := Kd.R_reads hr10.r9; subst e9
      obtain ⟨Bo, co, v1, w11, e4, hrun, hI11⟩ := HI10.out.append hr10 (Nat.le_trans hs2 hs3) (fun k hk => by have h1 := HZ6.out.2.2.2.2.1 k hk; have h2 := HZ6.out.1; omega) (fun k hk => by have h1 := HZ6.out.2.2.2.2.2 k hk; have h2 := HZ6.out.1; omega) (by have h1 := HZ6.out; have h2 := HNB.out; exact ⟨by omega, by omega, by omega⟩) HLEN.out HNB.out.2.2.2.1 HNB.out.2.2.1
      subst e4
      have HI11 := aS hI11
      have HQ2 := aS (show itemsP j (begunP n (l.drop a')) (out ++ [x]) fs' (l.drop b) = some res from by
       have qq := HQ.out
       rw [itemsP, HNO.out] at qq
       dsimp only at qq
       rw [if_neg HNIL.out, HI.out] at qq
       exact qq)
      have hrg : w10.rangeAt xb 0 (itV x (.slice A5 x.f5.length c5) (.slice A6 x.f6.length c6) (.slice A7 x.f7.f6.length c7) (.slice A8 x.f8.f6.length c8) (.slice A9 x.f9.f6.length c9)).toList := fun j v hv => by rw [Nat.zero_add, cH hx10 j, Array.getElem?_toList] at *; exact hv
      clear hI11 hr10 hs1 hs2 hs3 hx10
      go_upto_region 99 with (first | (refine wpList_load_mid rfl 58 (.tmp 6) rfl xb 0 rfl (itV x (.slice A5 x.f5.length c5) (.slice A6 x.f6.length c6) (.slice A7 x.f7.f6.length c7) (.slice A8 x.f8.f6.length c8) (.slice A9 x.f9.f6.length c9)).toList _ hrg Tryd.underlying58 rfl (by kernel_rfl) ?_) | (refine wpList_value rfl (append_exec hrun rfl rfl rfl rfl) ?_))
      go_roundg j
      case measure => omega
      case rel => exact ⟨begunP n (l.drop a'), b, out ++ [x], fs', fl, B, q, F, _, HQ2, HI11, HFL, HOV⟩
     ·obtain ⟨hi, hI7, hs7⟩ := its_bad HI6.out HNE.out HFX.out HOX.out HNB.out.2.2.2.1 HNB.out.2.2.1 hb8 hmX hbad hst7 hfl7 hm7
      have hbw := below_alloc (bR w7.heap.size w7) (.cells #[.int .i64 er, .int .i64 (b : Int)] 69)
      have hzw := (MapKept.heap_alloc w7 (.cells #[.int .i64 er, .int .i64 (b : Int)] 69)).1
      have HI10 := aS (hI7.below hbw)
      have HZW := aS hzw
      have HBB := aS hbb
      have HFL2 := aS (show fl ++ [fltT s l er b] = (fs' ++ [(er, l.drop b)]).map (fltW s) by rw [List.map_append, HFL.out, ← fltW_at s l er b]; rfl)
      have HQ2 := aS (show (if overP (fs' ++ [(er, l.drop b)]) = true then some (.stop (fs' ++ [(er, l.drop b)]) (l.drop b)) else itemsP j (begunP n (l.drop a')) out (fs' ++ [(er, l.drop b)]) (skipP (l.drop b))) = some res from by
       have qq := HQ.out
       rw [itemsP, HNO.out] at qq
       dsimp only at qq
       rw [if_neg HNIL.out, hi] at qq
       exact qq)
      have HW7 := aS (show w7.heap.size ≠ bp from by have h1 := hs7; have h2 := HZ6.out; omega)
      clear hi hI7 hs7 hbw hzw hbb hb8 hz8 hmX hbad hst7 hfl7 hf27 hm7 p0 hmf
      go_upto_region 11 with (fail)
      generalize w7.alloc (.cells #[.int .i64 er, .int .i64 (b : Int)] 69) = w10 at *
      generalize w7.heap.size = wv at *
      have p0 := cH HI10.out.pbx 0
      by_cases ho : overP (fs' ++ [(er, l.drop b)]) = true
      ·have ho2 : overF (fl ++ [fltT s l er b]) = true := by rw [HFL2.out, overF_is]; exact ho
       have HR := aS (show MR.stop (fs' ++ [(er, l.drop b)]) (l.drop b) = res from by have qq := HQ2.out; rw [if_pos ho] at qq; exact Option.some.inj qq)
       have HO2 := aS ho2
       clear ho ho2
       go_upto_region 99 with (go_at_call 21; refine (over_calls G bp s A c l begun B3 q3 a2 w10 _ _ HI10.out.st HI10.out.flt (by rw [List.length_append]; simp only [List.length_singleton]; have := HLN.out; omega)).mono ?_; rintro e w11 ⟨he, rfl⟩; rw [HO2.out] at he; subst he)
       rw [← HR.out]
       exact bodyPost_ret (results_tmp2 rfl _ _ _) rfl ⟨HI10.out.mv, _, fun k hk => (HI10.out.hF k hk).1, a2, HI10.out.st.room, rfl, HI10.out.par HFL2.out (fun k hk => by have := HFAR.out k hk; exact ⟨this.1, this.2.1, by have := HNB.out; omega⟩) HNB.out.2.2.2.1 HNB.out.2.2.1⟩
      ·have ho3 : overP (fs' ++ [(er, l.drop b)]) = false := by simpa using ho
       have ho2 : overF (fl ++ [fltT s l er b]) = false := by rw [HFL2.out, overF_is]; exact ho3
       have HQ3 := aS (show itemsP j (begunP n (l.drop a')) out (fs' ++ [(er, l.drop b)]) (skipP (l.drop b)) = some res from by have qq := HQ2.out; rw [if_neg ho] at qq; exact qq)
       have HO2 := aS ho2
       have HO3 := aS ho3
       clear ho ho2 ho3
       have z1 := cH HZW.out 1
       go_upto_region 8 with (go_at_call 21; refine (over_calls G bp s A c l begun B3 q3 a2 w10 _ _ HI10.out.st HI10.out.flt (by rw [List.length_append]; simp only [List.length_singleton]; have := HLN.out; omega)).mono ?_; rintro e w11 ⟨he, rfl⟩; rw [HO2.out] at he; subst he)
       go_upto_region 99 with (go_at_call 56; refine (skip_calls G bp s A c l begun _ a2 b _ HI10.out.st HBB.out).mono ?_; rintro e w12 ⟨rfl, b', hb', hsk, hat⟩; have HSK := aS hsk; have HI12 := aS (HI10.out.at_ hat hb' HNB.out.1 HNB.out.2.1 (fun k hk => (HFAR.out k hk).1) HNB.out.2.2.1); clear hb' hsk hat)
       go_roundg j
       case measure => omega
       case rel => exact ⟨begunP n (l.drop a'), b', out, fs' ++ [(er, l.drop b)], _, B3, q3, _, O, ⟨by rw [← HSK.out]; exact HQ3.out⟩, HI12, HFL2, HO3⟩
   ·have d1 : decide ((l.length : Int) ≤ (a' : Int)) = true := decide_eq_true (by omega)
    have d2 : decide (l.length ≤ a') = true := decide_eq_true (by omega)
    have HLT := aS hlt
    clear hlt
    have hnil : l.drop a' = [] := List.drop_eq_nil_of_le (by have := HLT.out; omega)
    have hr : res = .bad 21 [] fs' := by
     have qq := HQ.out
     rw [itemsP, HNO.out] at qq
     dsimp only at qq
     rw [if_pos hnil] at qq
     exact (Option.some.inj qq).symm
    have HR := aS hr
    have HNIL := aS hnil
    clear hr hnil
    go_region
    all_goals
     go_upto_region 5 with (fail)
     have HI5 := aS (HI4.out.below (below_drew (bR w4.heap.size w4)))
     have p5 := cH HI5.out.pbx 0
     have y5 := cH HI5.out.st.blk 2
     clear c1 c2 hsm d1 d2 p0
     have hdd : Below w4.drew.heap.size w4.drew w4.drew.drew := below_drew (bR _ _)
     refine start_ (n := 6) (S := fun w' => w'.cell? ⟨pb, 0, none⟩ = some (.pointer (some ⟨bp, 0, none⟩)) ∧ w'.cell? ⟨bp, 2, none⟩ = some (.int .i64 (a' : Int))) (ds := []) #[false, false, false, false, false, false] (by kernel_rfl) rfl rfl ⟨p5, y5⟩ (fun hHeld => ?_)
     refine take_ (i := 0) (N := some 22) (v := ?_) (a' := ?_) #[true, false, false, false, false, false] rfl rfl (by kernel_rfl) (fun _ _ _ h => h) (Or.inl ⟨by rfl, ?_⟩) hHeld ?_ ?_
     rotate_left
     ·rintro w' ⟨s0, s1⟩
      go_simp
      try with_reducible rfl
     rotate_left
     ·simp only [putAll, Act.put, sI, s0', s1']
      rfl
     refine take_ (i := 1) (N := some 23) (v := ?_) (a' := ?_) #[true, true, false, false, false, false] rfl rfl (by kernel_rfl) (fun _ _ _ h => h) (Or.inl ⟨by rfl, ?_⟩) hHeld ?_ ?_
     rotate_left
     ·rintro w' ⟨s0, s1⟩
      go_simp
      try with_reducible rfl
     rotate_left
     ·simp only [putAll, Act.put, sI, s0', s1']
      rfl
     refine pure_ (i := 2) (N := some 24) (v := ?_) (a' := ?_) #[true, true, true, false, false, false] rfl rfl (by kernel_rfl) (fun _ _ _ h => h) (Or.inl ⟨by rfl, ?_⟩) ?_ ?_
     rotate_left
     ·intro w'
      go_simp
      try with_reducible rfl
     rotate_left
     ·simp only [putAll, Act.put, sI, s0', s1']
      rfl
     refine pure_ (i := 3) (N := some 25) (v := ?_) (a' := ?_) #[true, true, true, true, false, false] rfl rfl (by kernel_rfl) (fun _ _ _ h => h) (Or.inl ⟨by rfl, ?_⟩) ?_ ?_
     rotate_left
     ·intro w'
      go_simp
      try with_reducible rfl
     rotate_left
     ·simp only [putAll, Act.put, sI, s0', s1']
      rfl
     refine take_ (i := 4) (N := some 26) (v := ?_) (a' := ?_) #[true, true, true, true, true, false] rfl rfl (by kernel_rfl) (fun _ _ _ h => h) (Or.inl ⟨by rfl, ?_⟩) hHeld ?_ ?_
     rotate_left
     ·rintro w' ⟨s0, s1⟩
      go_simp
      try with_reducible rfl
     rotate_left
     ·simp only [putAll, Act.put, sI, s0', s1']
      rfl
     refine one_ (i := 5) (N := some 27) #[true, true, true, true, true, true] rfl rfl (by kernel_rfl) (by decide) (fun K hK => ?_)
     refine step_goes Tryd.func34 (by kernel_rfl) rfl #[.pointer (some ⟨bp, 0, none⟩), .int .i64 21, .int .i64 (a' : Int)] (by rfl) rfl rfl (by (try simp only [List.map_toArray, List.map_cons, List.map_nil]); rfl) ?_
     refine (fail_calls bp s A c l begun _ a' _ (HI5.out.st.ps.below hdd) 21 a' HI5.out.st.room).mono ?_
     rintro e w6 ⟨rfl, hw6⟩
     rw [hw6, HR.out]
     exact And.intro rfl ((HI5.out.below hdd).bad HFL.out (fun k hk => by have := HFAR.out k hk; exact ⟨this.1, this.2.1, by have := HNB.out; omega⟩) HNB.out.2.2.2.1 HNB.out.2.2.1 HLT.out)
abbrev StrR (O : Nat → Prop) (w : World) (v : Value) (xs : List ByteArray) : Prop := Kd.string.R 9 w 0 O v xs
abbrev PrtR (O : Nat → Prop) (w : World) (v : Value) (xs : List Prt) : Prop := k64.R 64 w 0 O v xs
theorem infoS : (Tryd.prog.info? 9).map (fun i => (i.zero, i.size, i.bytes)) = some (some (.string ⟨#[]⟩), 1, 16) := by kernel_rfl
theorem infoP : (Tryd.prog.info? 64).map (fun i => (i.zero, i.size, i.bytes)) = some (some (.agg #[.bool false, .string ⟨#[]⟩, .string ⟨#[]⟩, .int .i64 0]), 4, 48) := by kernel_rfl
structure ModAt (bp mb pbx n0 : Nat) (nm : ByteArray) (ps : List ByteArray) (qs : List Prt) (w : World) : Prop where
 p : w.heap[pbx]? = some (.cells #[.pointer (some ⟨bp, 0, none⟩)] 65 (0, 0))
 m : ∃ B1 q1 B2 q2, w.heap[mb]? = some (.cells #[.string nm, .slice B1 ps.length q1, .slice B2 qs.length q2, NS] 47 (0, 0)) ∧ StrR (Lo n0) w (.slice B1 ps.length q1) ps ∧ PrtR (Lo n0) w (.slice B2 qs.length q2) qs
theorem ModAt.step {bp b mb pbx n0 : Nat} {nm : ByteArray} {ps : List ByteArray} {qs : List Prt} {w w' : World} (h : ModAt bp mb pbx n0 nm ps qs w) (hat : At bp b no w w') (hne : mb ≠ bp ∧ pbx ≠ bp ∧ bp < n0) : ModAt bp mb pbx n0 nm ps qs w' := by
 obtain ⟨hp, B1, q1, B2, q2, hm, h1, h2⟩ := h
 have hlo : ∀ k, Lo n0 k → k ≠ bp ∧ ¬ no k := fun k hk => ⟨by have h1 : n0 ≤ k := hk; omega, id⟩
 exact ⟨hat.obj hp hne.2.1 id, B1, q1, B2, q2, hat.obj hm hne.1 id, R_at h1 hat hlo, R_at h2 hat hlo⟩
theorem ModAt.below {bp mb pbx n0 : Nat} {nm : ByteArray} {ps : List ByteArray} {qs : List Prt} {w w' : World} (h : ModAt bp mb pbx n0 nm ps qs w) (hb : Below w.heap.size w w') : ModAt bp mb pbx n0 nm ps qs w' := by
 obtain ⟨hp, B1, q1, B2, q2, hm, h1, h2⟩ := h
 exact ⟨fbelow hp hb, B1, q1, B2, q2, fbelow hm hb, Kd.R_below h1 hb, Kd.R_below h2 hb⟩
set_option maxHeartbeats 8000000 in
set_option maxRecDepth 100000 in
theorem param_calls (G bp : Nat) (s : ByteArray) (A : Option Addr) (c : Nat) (l : List Tok) (begun : Int) (fv : Value) (a : Nat) (w1 : World) (h : St G bp s A c l begun fv a w1) (mb pbx n0 : Nat) (hne : mb ≠ bp ∧ pbx ≠ bp ∧ mb ≠ pbx ∧ mb < n0 ∧ bp < n0 ∧ pbx < n0 ∧ n0 ≤ w1.heap.size ∧ G ≤ mb) (nm : ByteArray) (acc : List ByteArray) (qs : List Prt) (hacc : acc.length ≤ 1000) (hI : ModAt bp mb pbx n0 nm acc qs w1) (res : PR ByteArray) (hres : nameP (l.drop a) = res) :
  Calls Tryd.prog 38 #[.pointer (some ⟨mb, 0, none⟩), .pointer (some ⟨pbx, 0, none⟩)] w1 (Tells bp l (InX mb n0) w1 (fun v x w' => x = .tuple #[] ∧ ModAt bp mb pbx n0 nm (acc ++ [v]) qs w') res) := by
 obtain ⟨hpx, B1, q1, B2, q2, hmb, hr1, hr2⟩ := hI
 have HS1 := aS h
 have HPX := aS hpx
 have HMB := aS hmb
 have HR1 := aS hr1
 have HR2 := aS hr2
 have HNE := aS hne
 have HQ := aS hres
 have HLA := aS hacc
 have HA1 := aS (h.same (X := InX mb n0))
 have c1 : w1.cell? ⟨pbx, 0, none⟩ = some (.pointer (some ⟨bp, 0, none⟩)) := cH hpx 0
 have c2 : w1.cell? ⟨mb, 1, none⟩ = some (.slice B1 acc.length q1) := cH hmb 1
 clear h hpx hmb hr1 hr2 hne hres hacc
 have HS1d := aS (HS1.out.below (below_drew (bR _ _)))
 go_enter Tryd.func38, Tryd.ntmps38
 refine start_ (n := 8) (S := fun w' => w'.cell? ⟨pbx, 0, none⟩ = some (.pointer (some ⟨bp, 0, none⟩)) ∧ w'.cell? ⟨mb, 1, none⟩ = some (.slice B1 acc.length q1)) (ds := [7]) #[false, false, false, false, false, false, false, false] (by kernel_rfl) rfl rfl ⟨c1, c2⟩ (fun hHeld => ?_)
 refine pure_ (i := 0) (N := some 2) (v := ?_) (a' := ?_) #[true, false, false, false, false, false, false, false] rfl rfl (by kernel_rfl) (fun _ _ _ h => h) (Or.inl ⟨by rfl, ?_⟩) ?_ ?_
 rotate_left
 ·intro w'
  go_simp
  try with_reducible rfl
 rotate_left
 ·simp only [putAll, Act.put, sI, s0', s1']
  rfl
 refine take_ (i := 1) (N := some 3) (v := ?_) (a' := ?_) #[true, true, false, false, false, false, false, false] rfl rfl (by kernel_rfl) (fun _ _ _ h => h) (Or.inl ⟨by rfl, ?_⟩) hHeld ?_ ?_
 rotate_left
 ·rintro w' ⟨s0, s1⟩
  go_simp
  try with_reducible rfl
 rotate_left
 ·simp only [putAll, Act.put, sI, s0', s1']
  rfl
 refine take_ (i := 2) (N := some 4) (v := ?_) (a' := ?_) #[true, true, true, false, false, false, false, false] rfl rfl (by kernel_rfl) (fun _ _ _ h => h) (Or.inl ⟨by rfl, ?_⟩) hHeld ?_ ?_
 rotate_left
 ·rintro w' ⟨s0, s1⟩
  go_simp
  try with_reducible rfl
 rotate_left
 ·simp only [putAll, Act.put, sI, s0', s1']
  rfl
 refine one_ (i := 3) (N := some 5) #[true, true, true, true, false, false, false, false] rfl rfl (by kernel_rfl) (by decide) (fun K hK => ?_)
 refine step_goes Tryd.func35 (by kernel_rfl) rfl #[.pointer (some ⟨bp, 0, none⟩)] (by rfl) rfl rfl (by (try simp only [List.map_toArray, List.map_cons, List.map_nil]); rfl) ?_
 refine calls_tells (name_tells HS1d.out) ?_ (fun er t b a2 w' hq ht hb ha hat => And.intro rfl (tells_bad (show some (PR.bad er t) = some res by rw [← hq, HQ.out]) ht hb ha (HA1.out.drew.then_ hat)))
 rintro d r b vv w2 hq rfl hb rfl hat
 have HR := aS (show some (PR.ok d (l.drop b)) = some res by rw [← hq, HQ.out])
 have HA2 := aS (HA1.out.drew.then_ hat)
 have HS2 := aS (HS1d.out.next hat hb)
 have hlo : ∀ k, Lo n0 k → k ≠ bp ∧ ¬ no k := fun k hk => ⟨by have h1 : n0 ≤ k := hk; have := HNE.out; omega, id⟩
 have hpx2 := hat.obj (heap_drew HPX.out) HNE.out.2.1 id
 have hmb2 := hat.obj (heap_drew HMB.out) HNE.out.1 id
 have hr12 : StrR (Lo n0) w2 (.slice B1 acc.length q1) acc := R_at (Kd.R_below HR1.out (below_drew (bR _ _))) hat hlo
 have hr22 : PrtR (Lo n0) w2 (.slice B2 qs.length q2) qs := R_at (Kd.R_below HR2.out (below_drew (bR _ _))) hat hlo
 have hz2 : w1.heap.size ≤ w2.heap.size := hat.size
 have HZ2 := aS hz2
 have HB2 := aS hb
 clear hq hb hat hz2 hlo
 refine hK.out _ _ ⟨cH hpx2 0, cH hmb2 1⟩ (fun hHeld => ?_)
 clear hK K
 refine norm_ (a' := ?_) ?_ ?_
 rotate_left
 ·show Act.put _ (some 5) _ = _
  simp only [putAll, Act.put, sI, s0', s1']
  rfl
 have hbr := below_alloc (bR w2.heap.size w2) (.cells #[.string d] 9)
 refine one_ (i := 4) (N := some 6) #[true, true, true, true, true, false, false, false] rfl rfl (by kernel_rfl) (by decide) (fun K hK => ?_)
 refine value_ (w1 := ?_) (v := ?_) (by rfl) rfl ?_ ?_
 rotate_left 2
 ·go_simp
  constructor
  ·rfl
  ·rfl
 refine hK.out _ _ ⟨cH (fbelow hpx2 hbr) 0, cH (fbelow hmb2 hbr) 1⟩ (fun hHeld => ?_)
 clear hK K
 refine norm_ (a' := ?_) ?_ ?_
 rotate_left
 ·show Act.put _ (some 6) _ = _
  simp only [putAll, Act.put, sI, s0', s1']
  rfl
 obtain ⟨v3, w3, hrun3, hR3, hg3, A3, q3, hv3⟩ := R_append_run (P := Tryd.prog) Kd.string 43 43 9 (.string ⟨#[]⟩) 16 Tryd.underlying43 infoS rfl (by decide) (by decide) w2 (.slice B1 acc.length q1) acc d [.string d] (Lo n0) (fun _ => False) rfl (fun _ hk => hk.elim) (fun k hk => by have h1 := HZ2.out; have h2 := HNE.out; have h3 : w2.heap.size ≤ k := hk; show n0 ≤ k; omega) hr12 (by have := HLA.out; omega)
 subst hv3
 have nb1 := Kd.R_ne hr12 hpx2 (by decide)
 have nb2 := Kd.R_ne hr12 hmb2 (by decide)
 have hlt := fun (g : Nat) (o : Obj) (h : w2.heap[g]? = some o) => (Array.getElem?_eq_some_iff.1 h).1
 have hpx3 := (hg3.block _ (hlt _ _ hpx2) nb1).trans hpx2
 have hmb3 := (hg3.block _ (hlt _ _ hmb2) nb2).trans hmb2
 have hr23 : PrtR (Lo n0) w3 (.slice B2 qs.length q2) qs := R_other hr22 hr12 (by decide) hg3
 have HA3 := aS (HA2.out.grown HS2.out.lt hg3 (fun k hk => by have h1 : n0 ≤ k := hr12.1 k hk; have := HNE.out; exact ⟨by omega, .inl (.inr h1)⟩))
 refine one_ (i := 5) (N := some 7) #[true, true, true, true, true, true, false, false] rfl rfl (by kernel_rfl) (by decide) (fun K hK => ?_)
 refine value_ (w1 := w3) (v := .slice A3 (acc.length + 1) q3) (by rfl) rfl ?_ ?_
 ·exact append_exec hrun3 rfl rfl rfl rfl
 refine hK.out _ _ ⟨cH hpx3 0, cH hmb3 1⟩ (fun hHeld => ?_)
 clear hK K
 refine norm_ (a' := ?_) ?_ ?_
 rotate_left
 ·show Act.put _ (some 7) _ = _
  simp only [putAll, Act.put, sI, s0', s1']
  rfl
 refine pure_ (i := 6) (N := some 8) (v := ?_) (a' := ?_) #[true, true, true, true, true, true, true, false] rfl rfl (by kernel_rfl) (fun _ _ _ h => h) (Or.inl ⟨by rfl, ?_⟩) ?_ ?_
 rotate_left
 ·intro w'
  go_simp
  try with_reducible rfl
 rotate_left
 ·simp only [putAll, Act.put, sI, s0', s1']
  rfl
 have f3 := blk_frozen hmb3 1
 have y3 : w3.cell? ⟨mb, 1, none⟩ = some (.slice B1 acc.length q1) := cH hmb3 1
 refine last_ (i := 7) (N := none) #[true, true, true, true, true, true, true, true] rfl rfl (by kernel_rfl) (by decide) (fun K hK => ?_)
 refine skip_ (w1 := w3.setCell ⟨mb, 1, none⟩ (.slice A3 (acc.length + 1) q3)) (by rfl) rfl ?_ ?_
 ·simp [go_sem, y3, f3]
 refine hK.out _ _ ?_
 clear hK K
 refine done_ (by kernel_rfl) ?_
 have hl : (acc ++ [d]).length = acc.length + 1 := by simp
 have hn1 : pbx ≠ mb := fun q => HNE.out.2.2.1 q.symm
 have hno : ∀ k, Lo n0 k → k ≠ mb := fun k hk => by have h1 : n0 ≤ k := hk; have := HNE.out; omega
 have hmb4 : (w3.setCell ⟨mb, 1, none⟩ (.slice A3 (acc.length + 1) q3)).heap[mb]? = some (.cells #[.string nm, .slice A3 (acc.length + 1) q3, .slice B2 qs.length q2, NS] 47 (0, 0)) := set_new hmb3 (by kernel_rfl)
 have HA4 := HA3.out.own (p := ⟨mb, 1, none⟩) (.inr (.inl rfl)) HNE.out.1 (.slice A3 (acc.length + 1) q3)
 refine bodyPost_end (results_none rfl _ _ _) rfl (tells_ok HR.out rfl HB2.out ⟨rfl, ⟨(Below.heap_setCell _ ⟨mb, 1, none⟩ _ _ hn1).trans hpx3, A3, q3, B2, q2, ?_, ?_, ?_⟩⟩ HA4)
 ·rw [hl]; exact hmb4
 ·rw [hl]; exact Kd.R_far (p := ⟨mb, 1, none⟩) hR3 hno _
 ·exact Kd.R_far (p := ⟨mb, 1, none⟩) hr23 hno _
end Go.Proofs.YtenogedclignmaaDoor.Q
