/-
  A net and a verdict among the arguments, opened.
-/
import Derived.Test.YtmfekngjhiofaaaGreatDoorHOpen
import Derived.Test.YtmfekngjhiofaaaGreatDoorQx0
set_option linter.unusedVariables false
set_option linter.unusedSimpArgs false
namespace Go.Proofs.YtmfekngjhiofaaaGreatDoor.Q
open Go.ChangeShapes Go.WideShapes Go.RowKit Go.Proofs.YtmfekngjhiofaaaGreatDoorW.PrintWords

theorem opens_weak {α : Type} {P : Program} {t : TypeId} {K : Kd α} {W V : α → Prop} {B : α → Nat} (h : Opens P t K W B) (hv : ∀ a, W a → V a) : Opens P t K V (fun _ => 0) := by
  intro H enc w base sp held fuel cs x hx
  obtain ⟨a, h1, h2, h3⟩ := h H enc w base sp held fuel cs x hx
  exact ⟨a, h1, hv a h2, Nat.zero_le _⟩
abbrev oInt : Opens Tryz.prog 3 (Kd.int .i64) (fun x => (Lit.int .i64 x).wf = true) (fun _ => 1) := opens_int Tryz.underlying3
theorem open_node : Opens Tryz.prog 125 k125 (fun _ => True) (fun _ => 0) :=
  opens_weak (opens_iso (fun x : S125 => (x.f0, x.f1, x.f2, x.f3, x.f4, x.f5, x.f6)) (fun p => ⟨p.1, p.2.1, p.2.2.1, p.2.2.2.1, p.2.2.2.2.1, p.2.2.2.2.2.1, p.2.2.2.2.2.2⟩) (fun _ => rfl)
    (opens_struct (P := Tryz.prog) (t := 125) (K := Kd.pair (Kd.int .i64) (Kd.pair (Kd.int .i64) (Kd.pair (Kd.int .i64) (Kd.pair (Kd.int .i64) (Kd.pair (Kd.int .i64) (Kd.pair (Kd.int .i64) (Kd.int .i64))))))) Tryz.underlying125 (by kernel_rfl)
      (opensF_cons (K := Kd.int .i64) rfl (by kernel_rfl) (opens_int (by kernel_rfl)) (opensF_cons (K := Kd.int .i64) rfl (by kernel_rfl) (opens_int (by kernel_rfl)) (opensF_cons (K := Kd.int .i64) rfl (by kernel_rfl) (opens_int (by kernel_rfl)) (opensF_cons (K := Kd.int .i64) rfl (by kernel_rfl) (opens_int (by kernel_rfl)) (opensF_cons (K := Kd.int .i64) rfl (by kernel_rfl) (opens_int (by kernel_rfl)) (opensF_cons (K := Kd.int .i64) rfl (by kernel_rfl) (opens_int (by kernel_rfl)) (opensF_one (K := Kd.int .i64) rfl (by kernel_rfl) (opens_int (by kernel_rfl)))))))))))
    (fun _ _ => trivial)
theorem open_pin : Opens Tryz.prog 72 k72 (fun _ => True) (fun _ => 0) :=
  opens_weak (opens_iso (fun x : S72 => (x.f0, x.f1)) (fun p => ⟨p.1, p.2⟩) (fun _ => rfl)
    (opens_struct (P := Tryz.prog) (t := 72) (K := Kd.pair Kd.string (Kd.int .i64)) Tryz.underlying72 (by kernel_rfl)
      (opensF_cons (K := Kd.string) rfl (by kernel_rfl) (opens_string Tryz.underlying9) (opensF_one (K := Kd.int .i64) rfl (by kernel_rfl) (opens_int (by kernel_rfl))))))
    (fun _ _ => trivial)
theorem open_cell : Opens Tryz.prog 114 k114 (fun _ => True) (fun _ => 0) :=
  opens_weak (opens_iso (fun x : S114 => (x.f0, x.f1, x.f2, x.f3)) (fun p => ⟨p.1, p.2.1, p.2.2.1, p.2.2.2⟩) (fun _ => rfl)
    (opens_struct (P := Tryz.prog) (t := 114) (K := Kd.pair Kd.string (Kd.pair (Kd.int .i64) (Kd.pair (Kd.int .i64) (Kd.int .i64)))) Tryz.underlying114 (by kernel_rfl)
      (opensF_cons (K := Kd.string) rfl (by kernel_rfl) (opens_string Tryz.underlying9) (opensF_cons (K := Kd.int .i64) rfl (by kernel_rfl) (opens_int (by kernel_rfl)) (opensF_cons (K := Kd.int .i64) rfl (by kernel_rfl) (opens_int (by kernel_rfl)) (opensF_one (K := Kd.int .i64) rfl (by kernel_rfl) (opens_int (by kernel_rfl))))))))
    (fun _ _ => trivial)
theorem open_prop : Opens Tryz.prog 105 k105 (fun x => (Lit.int .i64 x.f0).wf = true) (fun _ => 0) :=
  opens_weak (opens_iso (fun x : S105 => (x.f0, x.f1, x.f2)) (fun p => ⟨p.1, p.2.1, p.2.2⟩) (fun _ => rfl)
    (opens_struct (P := Tryz.prog) (t := 105) (K := Kd.pair (Kd.int .i64) (Kd.pair Kd.string (Kd.int .i64))) Tryz.underlying105 (by kernel_rfl)
      (opensF_cons (K := Kd.int .i64) rfl (by kernel_rfl) (opens_int (by kernel_rfl)) (opensF_cons (K := Kd.string) rfl (by kernel_rfl) (opens_string Tryz.underlying9) (opensF_one (K := Kd.int .i64) rfl (by kernel_rfl) (opens_int (by kernel_rfl)))))))
    (fun a h => by have h1 : (Lit.int .i64 a.f0).wf = true := h.1; exact h1)
abbrev KNet := Kd.pair (Kd.slice 125 k125) (Kd.pair (Kd.slice 72 k72) (Kd.pair (Kd.slice 114 k114) (Kd.pair (Kd.slice 105 k105) (Kd.slice 72 k72))))
theorem open_net : Opens Tryz.prog 27 KNet (fun x => ∀ p ∈ x.2.2.2.1, (Lit.int .i64 p.f0).wf = true) (fun _ => 0) :=
  opens_weak (opens_struct (P := Tryz.prog) (t := 27) (K := KNet) Tryz.underlying27 (by kernel_rfl)
    (opensF_cons rfl (by kernel_rfl) (opens_slice (q := 125) (by kernel_rfl) (by kernel_rfl) open_node)
      (opensF_cons rfl (by kernel_rfl) (opens_slice (q := 72) (by kernel_rfl) (by kernel_rfl) open_pin)
        (opensF_cons rfl (by kernel_rfl) (opens_slice (q := 114) (by kernel_rfl) (by kernel_rfl) open_cell)
          (opensF_cons rfl (by kernel_rfl) (opens_slice (q := 105) (by kernel_rfl) (by kernel_rfl) open_prop)
            (opensF_one rfl (by kernel_rfl) (opens_slice (q := 72) (by kernel_rfl) (by kernel_rfl) open_pin)))))))
    (fun a h => h.2.2.2.1.1)
abbrev KVerdict := Kd.pair (Kd.int .i64) (Kd.pair (Kd.int .i64) (Kd.pair (Kd.slice 37 (Kd.slice 3 (Kd.int .i64))) (Kd.slice 37 (Kd.slice 3 (Kd.int .i64)))))
theorem open_ints : Opens Tryz.prog 37 (Kd.slice 3 (Kd.int .i64)) (fun l => ∀ x ∈ l, (Lit.int .i64 x).wf = true) (fun _ => 0) :=
  opens_weak (opens_slice (q := 3) (by kernel_rfl) (by kernel_rfl) (opens_int (t := 3) (by kernel_rfl))) (fun a h => h.1)
theorem open_verdict : Opens Tryz.prog 54 KVerdict (fun x => (Lit.int .i64 x.1).wf = true ∧ (Lit.int .i64 x.2.1).wf = true ∧ (∀ l ∈ x.2.2.1, ∀ y ∈ l, (Lit.int .i64 y).wf = true) ∧ ∀ l ∈ x.2.2.2, ∀ y ∈ l, (Lit.int .i64 y).wf = true) (fun _ => 0) :=
  opens_weak (opens_struct (P := Tryz.prog) (t := 54) (K := KVerdict) Tryz.underlying54 (by kernel_rfl)
    (opensF_cons (K := Kd.int .i64) rfl (by kernel_rfl) (opens_int (by kernel_rfl)) (opensF_cons (K := Kd.int .i64) rfl (by kernel_rfl) (opens_int (by kernel_rfl))
      (opensF_cons rfl (by kernel_rfl) (opens_slice (q := 37) (by kernel_rfl) (by kernel_rfl) open_ints) (opensF_one rfl (by kernel_rfl) (opens_slice (q := 37) (by kernel_rfl) (by kernel_rfl) open_ints))))))
    (fun a h => ⟨h.1, h.2.1, h.2.2.1.1, h.2.2.2.1⟩)
end Go.Proofs.YtmfekngjhiofaaaGreatDoor.Q
