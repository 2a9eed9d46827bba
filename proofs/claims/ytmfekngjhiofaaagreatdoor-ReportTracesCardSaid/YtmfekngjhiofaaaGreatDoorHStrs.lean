/-
  strings.Join in the printer's form.
-/
import Derived.Test.YtmfekngjhiofaaaGreatDoorQx0
import Derived.Test.YtmfekngjhiofaaaGreatDoorHTab
set_option linter.unusedVariables false
set_option linter.unusedSimpArgs false
namespace Go.Proofs.YtmfekngjhiofaaaGreatDoor.Q
open Go.RowKit Go.Proofs.YtmfekngjhiofaaaGreatDoorW.PrintWords Go.Proofs.YtmfekngjhiofaaaGreatDoorW.PrintLast Go.Proofs.YtmfekngjhiofaaaGreatDoorW.PrintMore

theorem addr_add (b o j : Nat) : (⟨b, o, none⟩ : Addr).add j = ⟨b, o + j, none⟩ := by
  unfold Addr.add; split
  · subst_vars; rfl
  · rfl
/-- joined texts -/
def joinB (l : List ByteArray) (s : ByteArray) : List UInt8 := Lib.join (l.map (·.data.toList)) s.data.toList
def strings_Join.f (l0 : List ByteArray) (a1 : ByteArray) : Option (ByteArray) :=
  if l0.length ≤ 140737488355328 ∧ (joinB l0 a1).length ≤ 140737488355328 then some ⟨(joinB l0 a1).toArray⟩ else none
theorem strings_Join.calls (A0 : Option Addr) (c0 : Nat) (l0 : List ByteArray) (a1 : ByteArray) (r : ByteArray) (w : World) (hG : Tab w) (hr0 : Kd.C Kd.string w A0 l0.length l0) (hc0 : l0.length ≤ c0) (h : strings_Join.f l0 a1 = some r) :
    Calls Tryz.prog 50 #[.slice A0 l0.length c0, .string a1] w fun e w' => e = .returned (.string r) ∧ Below w.heap.size w w' := by
  unfold strings_Join.f at h
  by_cases hb : l0.length ≤ 140737488355328 ∧ (joinB l0 a1).length ≤ 140737488355328
  · rw [if_pos hb] at h
    obtain rfl := Option.some.inj h
    by_cases h0 : l0.length = 0
    · have hnil : l0 = [] := List.eq_nil_of_length_eq_zero h0
      subst hnil
      refine (Tryz.strings_Join_none A0 c0 a1 w).mono ?_
      rintro e w' ⟨rfl, rfl⟩
      exact ⟨rfl, Below.refl _ _⟩
    · obtain ⟨⟨bk, o, sp⟩, rfl, hc⟩ := hr0.2.2 (Nat.pos_of_ne_zero h0)
      have hcell : ∀ (j : Nat) x, l0[j]? = some x → w.cell? ((⟨bk, o, sp⟩ : Addr).add j) = some (.string x) := by
        intro j x hx
        obtain ⟨c, hl, hk, hcc⟩ := hc j x hx
        have hk' : c = [.string x] := hk
        subst hk'
        have := hcc 0 _ rfl
        rwa [show j * Kd.string.sz + 0 = j by show j * 1 + 0 = j; omega] at this
      have hx0 := List.getElem?_eq_getElem (l := l0) (i := 0) (by omega)
      have hz := hcell 0 _ hx0
      have hsp : sp = none := by
        cases sp with
        | none => rfl
        | some q =>
          simp [World.cell?, Addr.add] at hz
          split at hz <;> simp at hz
      subst hsp
      have hbk : bk < w.heap.size := World.block_lt_of_cell? w _ hz
      exact Tryz.strings_Join bk o c0 l0 a1 w (fun j x hx => by have := hcell j x hx; rwa [addr_add] at this) hbk hb.1 hc0 hb.2
  · rw [if_neg hb] at h; exact absurd h (by simp)
end Go.Proofs.YtmfekngjhiofaaaGreatDoor.Q
