/-
  HAND: facts of the walks on builders, boxes and numerals.
-/
import Derived.Test.YtmfekngjhiofaaaGreatDoorQx0
import Derived.Test.YtmfekngjhiofaaaGreatDoorHTab
import Derived.Test.YtmfekngjhiofaaaGreatDoorHBuilder
import Derived.Lib.ItoaLen
set_option linter.unusedVariables false
set_option linter.unusedSimpArgs false
namespace Go.Proofs.YtmfekngjhiofaaaGreatDoor.Q
open Go.RowKit Go.Proofs.YtmfekngjhiofaaaGreatDoorW.PrintWords Go.Proofs.YtmfekngjhiofaaaGreatDoorW.PrintLast Go.Proofs.YtmfekngjhiofaaaGreatDoorW.PrintMore
theorem builder_below {T e : TypeId} {B b : Nat} {bs : List Value} {w w1 : World} (h : Lib.IsBuilder T e B b bs w) (hb : Below w.heap.size w w1) : Lib.IsBuilder T e B b bs w1 := by
  have go : ∀ p, Lib.BuilderAt T e B b p bs w → Lib.BuilderAt T e B b p bs w1 := by
    rintro p ⟨hB, v, hbk, hown, hne⟩
    have hlt : b < w.heap.size := (Array.getElem?_eq_some_iff.1 hbk).1
    refine ⟨hB, v, (hb.block b hlt).trans hbk, own_move hown (fun k hk => hb.block k ?_), hne⟩
    obtain ⟨cells, hc⟩ := own_typed hown k hk
    exact (Array.getElem?_eq_some_iff.1 hc).1
  exact h.elim (fun x => .inl (go _ x)) (fun x => .inr (go _ x))
theorem wrap_k (k : Nat) (h : k < 100000000) : wrap64 ((k : Int) + 1) = ((k + 1 : Nat) : Int) := by unfold wrap64; omega
theorem fcells {w' : World} {f : Nat} {a b c d : Value} {T : TypeId} (h : w'.heap[f]? = some (.cells #[a, b, c, d] T (0, 0))) :
    w'.heap[f]? = some (.cells #[a, b, c, d] T (0, 0)) ∧ w'.cell? ⟨f, 0, none⟩ = some a ∧ w'.cell? ⟨f, 1, none⟩ = some b ∧ w'.cell? ⟨f, 2, none⟩ = some c ∧ w'.cell? ⟨f, 3, none⟩ = some d := by
  refine ⟨h, ?_, ?_, ?_, ?_⟩ <;> (rw [Lib.cell_of_heap h]; rfl)
theorem fbelow {w1 w' : World} {f : Nat} {o : Obj} (h : w1.heap[f]? = some o) (hb : Below w1.heap.size w1 w') : w'.heap[f]? = some o := (hb.block f (Array.getElem?_eq_some_iff.1 h).1).trans h
theorem fkept {w1 w' : World} {f b : Nat} {a : Array Value} {T : TypeId} {fr : Nat × Nat} (h : w1.heap[f]? = some (.cells a T fr)) (hk : Lib.OthersKept 5 (some b) w1 w') (hf : f ≠ b) (hT : T ≠ 5) : w'.heap[f]? = some (.cells a T fr) :=
  hk f _ h (fun e => hf (Option.some.inj e)) (fun c fz e => hT (by injection e))
theorem itoa_f (n : Int) (h : (Lit.int .i64 n).wf = true) : strconv_Itoa.f n = some (numB n) := by
  have h1 : IntKind.i64.min ≤ n ∧ n ≤ 9223372036854775807 := by simpa [Lit.wf] using h
  rw [show IntKind.i64.min = -9223372036854775808 by decide] at h1
  have := h1
  unfold strconv_Itoa.f; rw [if_pos this]
theorem numB_size (n : Int) (h : (Lit.int .i64 n).wf = true) : (numB n).size ≤ 21 := by
  have h1 : IntKind.i64.min ≤ n ∧ n ≤ 9223372036854775807 := by simpa [Lit.wf] using h
  rw [show IntKind.i64.min = -9223372036854775808 by decide] at h1
  have := Lib.itoa_length_le n h1.1 h1.2
  show (Lib.itoa n).toArray.size ≤ 21
  simpa using this
theorem sblocks (w : World) (o o2 : Obj) : ((w.alloc o).alloc o2).heap[w.heap.size]? = some o ∧ ((w.alloc o).alloc o2).heap[w.heap.size + 1]? = some o2 := by
  have h1 := (MapKept.heap_alloc w o).1
  have h2 := (MapKept.heap_alloc (w.alloc o) o2).1
  have e : (w.alloc o).heap.size = w.heap.size + 1 := by show (w.heap.push o).size = _; simp
  rw [e] at h2
  exact ⟨(Lib.alloc_old (w.alloc o) o2 w.heap.size (by omega)).trans h1, h2⟩
end Go.Proofs.YtmfekngjhiofaaaGreatDoor.Q
