/-
  An argument, opened as one plain value of its kind: what it holds, that its whole numbers fit, and that its bulk is at least the value's own.
-/
import Derived.Test.YtmfekngjhiofaaaGreatDoorRows
import Derived.Test.YtmfekngjhiofaaaGreatDoorWords
import Derived.ChangeArms
import Derived.DataReads
set_option linter.unusedVariables false
set_option linter.unusedSimpArgs false
namespace Go.Proofs.YtmfekngjhiofaaaGreatDoor.Q
open Go.ChangeShapes Go.WideShapes Go.RowKit Go.Proofs.YtmfekngjhiofaaaGreatDoorW.PrintWords

def Opens {α : Type} (P : Program) (t : TypeId) (K : Kd α) (W : α → Prop) (B : α → Nat) : Prop :=
  ∀ (H : Type) (enc : TypeId × Value → H) (w : World) (base : Nat) (sp : Nat → Bool) (held : Bool) (fuel : Nat) (cs : List Value) (x : DataW H × List MemPlace),
    DataW.trod enc P w base sp held fuel t cs = some x → ∃ a : α, K.K w a cs ∧ W a ∧ B a ≤ Rows.uptoBulk x.1
theorem opens_int {P : Program} {t : TypeId} {k : IntKind} (ht : P.underlying t = some (.int k)) : Opens P t (Kd.int k) (fun x => (Lit.int k x).wf = true) (fun _ => 1) := by
  intro H enc w base sp held fuel cs x h
  obtain ⟨n, rfl, rfl, hw⟩ := DataW.trod_int ht h
  exact ⟨n, rfl, hw, Nat.le_refl _⟩
theorem opens_bool {P : Program} {t : TypeId} (ht : P.underlying t = some .bool) : Opens P t Kd.bool (fun _ => True) (fun _ => 1) := by
  intro H enc w base sp held fuel cs x h
  obtain ⟨n, rfl, rfl⟩ := DataW.trod_bool ht h
  exact ⟨n, rfl, trivial, Nat.le_refl _⟩
theorem opens_string {P : Program} {t : TypeId} (ht : P.underlying t = some .string) : Opens P t Kd.string (fun s => s.size ≤ maxLen) (fun s => s.size + 1) := by
  intro H enc w base sp held fuel cs x h
  obtain ⟨s, rfl, rfl, hw⟩ := DataW.trod_string ht h
  exact ⟨s, rfl, hw, by simp [Rows.uptoBulk]⟩
/-- A struct's fields from a place on. -/
def OpensF {β : Type} (P : Program) (fs : List Field) (o : Nat) (K : Kd β) (W : β → Prop) (B : β → Nat) : Prop :=
  ∀ (H : Type) (enc : TypeId × Value → H) (w : World) (base : Nat) (sp : Nat → Bool) (held : Bool) (fuel : Nat) (cs : List Value) (xs : List (DataW H × List MemPlace)),
    cs.length = o + K.sz → xs.length = fs.length → (∀ (i : Nat) (f : Field), fs[i]? = some f → DataW.trod enc P w base sp held fuel f.type ((cs.drop f.offset).take (P.cellsOf f.type)) = xs[i]?) →
    ∃ b : β, K.K w b (cs.drop o) ∧ W b ∧ B b ≤ Rows.uptoBulkAll (xs.map (·.1))
theorem opensF_one {β : Type} {P : Program} {f : Field} {o : Nat} {K : Kd β} {W : β → Prop} {B : β → Nat} (ho : f.offset = o) (hs : K.sz = P.cellsOf f.type) (h : Opens P f.type K W B) : OpensF P [f] o K W B := by
  intro H enc w base sp held fuel cs xs hl hx hc
  match xs, hx with
  | [x], _ =>
    have h0 := hc 0 f rfl
    rw [ho, List.take_of_length_le (by rw [List.length_drop]; omega)] at h0
    obtain ⟨a, h1, h2, h3⟩ := h H enc w base sp held fuel _ x h0
    exact ⟨a, h1, h2, by simpa [Rows.uptoBulkAll] using h3⟩
theorem opensF_cons {α β : Type} {P : Program} {f : Field} {fs : List Field} {o : Nat} {K : Kd α} {L : Kd β} {W : α → Prop} {V : β → Prop} {B : α → Nat} {D : β → Nat} (ho : f.offset = o) (hs : K.sz = P.cellsOf f.type) (h : Opens P f.type K W B)
    (h' : OpensF P fs (o + K.sz) L V D) : OpensF P (f :: fs) o (Kd.pair K L) (fun x => W x.1 ∧ V x.2) (fun x => B x.1 + D x.2) := by
  intro H enc w base sp held fuel cs xs hl hx hc
  match xs, hx with
  | x :: xs, hx =>
    have hl' : cs.length = o + (K.sz + L.sz) := hl
    have h0 := hc 0 f rfl
    rw [ho] at h0
    obtain ⟨a, h1, h2, h3⟩ := h H enc w base sp held fuel _ x h0
    obtain ⟨b, g1, g2, g3⟩ := h' H enc w base sp held fuel cs xs (by omega) (by simpa using hx) (fun i g hg => hc (i + 1) g (by simpa using hg))
    refine ⟨(a, b), ⟨_, _, ?_, h1, g1⟩, ⟨h2, g2⟩, ?_⟩
    · rw [← hs, ← List.drop_drop, List.take_append_drop]
    · simp only [List.map_cons, Rows.uptoBulkAll]; omega
theorem opens_struct {β : Type} {P : Program} {t : TypeId} {fs : Array Field} {K : Kd β} {W : β → Prop} {B : β → Nat} (ht : P.underlying t = some (.struct fs)) (hs : K.sz = P.cellsOf t) (h : OpensF P fs.toList 0 K W B) :
    Opens P t K W (fun x => B x + 1) := by
  intro H enc w base sp held fuel cs x hx
  obtain ⟨xs, n, rfl, rfl, hl, hn, hc⟩ := DataW.trod_struct ht hx
  obtain ⟨b, h1, h2, h3⟩ := h H enc w base sp held n cs xs (by omega) (by simpa using hn) (fun i f hf => hc i f (by simpa using hf))
  exact ⟨b, by simpa using h1, h2, by simp only [Rows.uptoBulk]; omega⟩
theorem opens_iso {α β : Type} {P : Program} {t : TypeId} {K : Kd α} {W : α → Prop} {B : α → Nat} (f : β → α) (g : α → β) (hg : ∀ a, f (g a) = a) (h : Opens P t K W B) : Opens P t (Kd.iso K f) (fun x => W (f x)) (fun x => B (f x)) := by
  intro H enc w base sp held fuel cs x hx
  obtain ⟨a, h1, h2, h3⟩ := h H enc w base sp held fuel cs x hx
  exact ⟨g a, by show K.K w (f (g a)) cs; rw [hg]; exact h1, by show W (f (g a)); rw [hg]; exact h2, by show B (f (g a)) ≤ _; rw [hg]; exact h3⟩
theorem list_of_each {α : Type} {Q : Nat → α → Prop} : ∀ n, (∀ i, i < n → ∃ a, Q i a) → ∃ l : List α, l.length = n ∧ ∀ i (h : i < l.length), Q i l[i]
  | 0, _ => ⟨[], rfl, fun i h => by simp at h⟩
  | n + 1, h => by
    obtain ⟨l, hl, hq⟩ := list_of_each n (fun i hi => h i (by omega))
    obtain ⟨a, ha⟩ := h n (by omega)
    refine ⟨l ++ [a], by simp [hl], fun i hi => ?_⟩
    by_cases h1 : i < l.length
    · rw [List.getElem_append_left h1]; exact hq i h1
    · have : i = n := by simp at hi; omega
      subst this
      rw [List.getElem_append_right (by omega)]; simpa using ha
theorem bulk_sum {α H : Type} {B : α → Nat} : ∀ {l : List α} {ys : List (DataW H)}, l.length = ys.length → (∀ i (h : i < l.length) (h' : i < ys.length), B l[i] ≤ Rows.uptoBulk ys[i]) → (l.map B).sum ≤ Rows.uptoBulkAll ys
  | [], ys, _, _ => by simp
  | a :: l, [], h, _ => by simp at h
  | a :: l, y :: ys, h, hb => by
    have h0 := hb 0 (by simp) (by simp)
    have := bulk_sum (B := B) (l := l) (ys := ys) (by simpa using h) (fun i h1 h2 => hb (i + 1) (by simpa using h1) (by simpa using h2))
    simp only [List.map_cons, List.sum_cons, Rows.uptoBulkAll]
    simp only [List.getElem_cons_zero] at h0
    omega
theorem opens_slice {α : Type} {P : Program} {t e : TypeId} {q : Nat} {K : Kd α} {W : α → Prop} {B : α → Nat} (ht : P.underlying t = some (.slice e)) (hs : K.sz = P.cellsOf e) (h : Opens P e K W B) :
    Opens P t (Kd.slice q K) (fun l => (∀ x ∈ l, W x) ∧ l.length ≤ maxLen) (fun l => (l.map B).sum + 1) := by
  intro H enc w base sp held fuel cs x hx
  rcases DataW.trod_slice ht hx with ⟨rfl, rfl⟩ | ⟨a, len, cap, elems, rest, n, rfl, rfl, rfl, _, hlc, hcm, hle, hel, _, _⟩
  · exact ⟨[], ⟨none, 0, rfl, Nat.le_refl _, Kd.C_nil K w⟩, ⟨(fun _ hx => absurd hx (by simp)), Nat.zero_le _⟩, by simp [Rows.uptoBulk]⟩
  · have each : ∀ i, i < len → ∃ y : α, (∃ c, c.length = K.sz ∧ K.K w y c ∧ ∀ j u, c[j]? = some u → w.cell? (a.add (i * K.sz + j)) = some u) ∧ W y ∧ ∀ d, elems[i]? = some d → B y ≤ Rows.uptoBulk d.1 := by
      intro i hi
      have hE := hel i hi
      rw [List.getElem?_eq_getElem (by omega), Option.bind_eq_some_iff] at hE
      obtain ⟨c, hc, hd⟩ := hE
      obtain ⟨y, y1, y2, y3⟩ := h H enc w base sp held n c _ hd
      obtain ⟨_, c1, c2⟩ := World.cells?_some hc
      refine ⟨y, ⟨c, K.K_len y1, y1, fun j u hu => ?_⟩, y2, fun d hd => ?_⟩
      · have hj : j < c.length := (List.getElem?_eq_some_iff.1 hu).1
        have := c2 j (by omega)
        rw [← hs] at this
        rw [← hu, ← this]
        unfold Addr.add
        by_cases z1 : i * K.sz = 0 <;> by_cases z2 : j = 0 <;> simp [z1, z2, Nat.add_assoc]
      · rw [List.getElem?_eq_getElem (by omega)] at hd; obtain rfl := Option.some.inj hd; exact y3
    obtain ⟨l, hl, hq⟩ := list_of_each (Q := fun i (y : α) => (∃ c, c.length = K.sz ∧ K.K w y c ∧ ∀ j u, c[j]? = some u → w.cell? (a.add (i * K.sz + j)) = some u) ∧ W y ∧ ∀ d, elems[i]? = some d → B y ≤ Rows.uptoBulk d.1) len each
    refine ⟨l, ⟨some a, cap, by rw [hl], by omega, ⟨rfl, by unfold maxLen at hcm; omega, fun _ => ⟨a, rfl, fun j p hp => ?_⟩⟩⟩, ⟨fun z hz => ?_, by omega⟩, ?_⟩
    · have hj : j < l.length := (List.getElem?_eq_some_iff.1 hp).1
      have e := (List.getElem?_eq_some_iff.1 hp).2
      have := (hq j hj).1
      rw [e] at this; exact this
    · obtain ⟨i, hi, rfl⟩ := List.mem_iff_getElem.1 hz; exact (hq i hi).2.1
    · have := bulk_sum (B := B) (l := l) (ys := elems.map (·.1)) (by simp; omega) (fun i h1 h2 => by
        simp only [List.getElem_map]
        exact (hq i h1).2.2 _ (List.getElem?_eq_getElem (by simpa using h2)))
      simp only [Rows.uptoBulk]; omega
end Go.Proofs.YtmfekngjhiofaaaGreatDoor.Q
