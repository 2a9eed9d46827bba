/-
  A net and a verdict among the arguments, opened.
-/
import Derived.Test.YtmfekngjhiofaaaDoorHOpen
import Derived.Test.YtmfekngjhiofaaaDoorQx0
set_option linter.unusedVariables false
set_option linter.unusedSimpArgs false
namespace Go.Proofs.YtmfekngjhiofaaaDoor.Q
open Go.ChangeShapes Go.WideShapes Go.RowKit Go.Proofs.YtmfekngjhiofaaaDoorW.PrintWords

theorem opens_weak {α : Type} {P : Program} {t : TypeId} {K : Kd α} {W V : α → Prop} {B : α → Nat} (h : Opens P t K W B) (hv : ∀ a, W a → V a) : Opens P t K V (fun _ => 0) := by
  intro H enc w base sp held fuel cs x hx
  obtain ⟨a, h1, h2, h3⟩ := h H enc w base sp held fuel cs x hx
  exact ⟨a, h1, hv a h2, Nat.zero_le _⟩
abbrev oInt : Opens Tryd.prog 3 (Kd.int .i64) (fun x => (Lit.int .i64 x).wf = true) (fun _ => 1) := opens_int Tryd.underlying3
theorem open_node : Opens Tryd.prog 96 k96 (fun _ => True) (fun _ => 0) :=
  opens_weak (opens_iso (fun x : S96 => (x.f0, x.f1, x.f2, x.f3, x.f4, x.f5, x.f6)) (fun p => ⟨p.1, p.2.1, p.2.2.1, p.2.2.2.1, p.2.2.2.2.1, p.2.2.2.2.2.1, p.2.2.2.2.2.2⟩) (fun _ => rfl)
    (opens_struct (P := Tryd.prog) (t := 96) (K := Kd.pair (Kd.int .i64) (Kd.pair (Kd.int .i64) (Kd.pair (Kd.int .i64) (Kd.pair (Kd.int .i64) (Kd.pair (Kd.int .i64) (Kd.pair (Kd.int .i64) (Kd.int .i64))))))) Tryd.underlying96 (by kernel_rfl)
      (opensF_cons (K := Kd.int .i64) rfl (by kernel_rfl) (opens_int (by kernel_rfl)) (opensF_cons (K := Kd.int .i64) rfl (by kernel_rfl) (opens_int (by kernel_rfl)) (opensF_cons (K := Kd.int .i64) rfl (by kernel_rfl) (opens_int (by kernel_rfl)) (opensF_cons (K := Kd.int .i64) rfl (by kernel_rfl) (opens_int (by kernel_rfl)) (opensF_cons (K := Kd.int .i64) rfl (by kernel_rfl) (opens_int (by kernel_rfl)) (opensF_cons (K := Kd.int .i64) rfl (by kernel_rfl) (opens_int (by kernel_rfl)) (opensF_one (K := Kd.int .i64) rfl (by kernel_rfl) (opens_int (by kernel_rfl)))))))))))
    (fun _ _ => trivial)
theorem open_pin : Opens Tryd.prog 111 k111 (fun _ => True) (fun _ => 0) :=
  opens_weak (opens_iso (fun x : S111 => (x.f0, x.f1)) (fun p => ⟨p.1, p.2⟩) (fun _ => rfl)
    (opens_struct (P := Tryd.prog) (t := 111) (K := Kd.pair Kd.string (Kd.int .i64)) Tryd.underlying111 (by kernel_rfl)
      (opensF_cons (K := Kd.string) rfl (by kernel_rfl) (opens_string Tryd.underlying9) (opensF_one (K := Kd.int .i64) rfl (by kernel_rfl) (opens_int (by kernel_rfl))))))
    (fun _ _ => trivial)
theorem open_cell : Opens Tryd.prog 94 k94 (fun _ => True) (fun _ => 0) :=
  opens_weak (opens_iso (fun x : S94 => (x.f0, x.f1, x.f2, x.f3)) (fun p => ⟨p.1, p.2.1, p.2.2.1, p.2.2.2⟩) (fun _ => rfl)
    (opens_struct (P := Tryd.prog) (t := 94) (K := Kd.pair Kd.string (Kd.pair (Kd.int .i64) (Kd.pair (Kd.int .i64) (Kd.int .i64)))) Tryd.underlying94 (by kernel_rfl)
      (opensF_cons (K := Kd.string) rfl (by kernel_rfl) (opens_string Tryd.underlying9) (opensF_cons (K := Kd.int .i64) rfl (by kernel_rfl) (opens_int (by kernel_rfl)) (opensF_cons (K := Kd.int .i64) rfl (by kernel_rfl) (opens_int (by kernel_rfl)) (opensF_one (K := Kd.int .i64) rfl (by kernel_rfl) (opens_int (by kernel_rfl))))))))
    (fun _ _ => trivial)
theorem open_prop : Opens Tryd.prog 73 k73 (fun x => (Lit.int .i64 x.f0).wf = true) (fun _ => 0) :=
  opens_weak (opens_iso (fun x : S73 => (x.f0, x.f1, x.f2)) (fun p => ⟨p.1, p.2.1, p.2.2⟩) (fun _ => rfl)
    (opens_struct (P := Tryd.prog) (t := 73) (K := Kd.pair (Kd.int .i64) (Kd.pair Kd.string (Kd.int .i64))) Tryd.underlying73 (by kernel_rfl)
      (opensF_cons (K := Kd.int .i64) rfl (by kernel_rfl) (opens_int (by kernel_rfl)) (opensF_cons (K := Kd.string) rfl (by kernel_rfl) (opens_string Tryd.underlying9) (opensF_one (K := Kd.int .i64) rfl (by kernel_rfl) (opens_int (by kernel_rfl)))))))
    (fun a h => by have h1 : (Lit.int .i64 a.f0).wf = true := h.1; exact h1)
abbrev KNet := Kd.pair (Kd.slice 96 k96) (Kd.pair (Kd.slice 111 k111) (Kd.pair (Kd.slice 94 k94) (Kd.pair (Kd.slice 73 k73) (Kd.slice 111 k111))))
theorem open_net : Opens Tryd.prog 27 KNet (fun x => ∀ p ∈ x.2.2.2.1, (Lit.int .i64 p.f0).wf = true) (fun _ => 0) :=
  opens_weak (opens_struct (P := Tryd.prog) (t := 27) (K := KNet) Tryd.underlying27 (by kernel_rfl)
    (opensF_cons rfl (by kernel_rfl) (opens_slice (q := 96) (by kernel_rfl) (by kernel_rfl) open_node)
      (opensF_cons rfl (by kernel_rfl) (opens_slice (q := 111) (by kernel_rfl) (by kernel_rfl) open_pin)
        (opensF_cons rfl (by kernel_rfl) (opens_slice (q := 94) (by kernel_rfl) (by kernel_rfl) open_cell)
          (opensF_cons rfl (by kernel_rfl) (opens_slice (q := 73) (by kernel_rfl) (by kernel_rfl) open_prop)
            (opensF_one rfl (by kernel_rfl) (opens_slice (q := 111) (by kernel_rfl) (by kernel_rfl) open_pin)))))))
    (fun a h => h.2.2.2.1.1)
abbrev KVerdict := Kd.pair (Kd.int .i64) (Kd.pair (Kd.int .i64) (Kd.pair (Kd.slice 55 (Kd.slice 3 (Kd.int .i64))) (Kd.slice 55 (Kd.slice 3 (Kd.int .i64)))))
theorem open_ints : Opens Tryd.prog 55 (Kd.slice 3 (Kd.int .i64)) (fun l => ∀ x ∈ l, (Lit.int .i64 x).wf = true) (fun _ => 0) :=
  opens_weak (opens_slice (q := 3) (by kernel_rfl) (by kernel_rfl) (opens_int (t := 3) (by kernel_rfl))) (fun a h => h.1)
theorem open_verdict : Opens Tryd.prog 30 KVerdict (fun x => (Lit.int .i64 x.1).wf = true ∧ (Lit.int .i64 x.2.1).wf = true ∧ (∀ l ∈ x.2.2.1, ∀ y ∈ l, (Lit.int .i64 y).wf = true) ∧ ∀ l ∈ x.2.2.2, ∀ y ∈ l, (Lit.int .i64 y).wf = true) (fun _ => 0) :=
  opens_weak (opens_struct (P := Tryd.prog) (t := 30) (K := KVerdict) Tryd.underlying30 (by kernel_rfl)
    (opensF_cons (K := Kd.int .i64) rfl (by kernel_rfl) (opens_int (by kernel_rfl)) (opensF_cons (K := Kd.int .i64) rfl (by kernel_rfl) (opens_int (by kernel_rfl))
      (opensF_cons rfl (by kernel_rfl) (opens_slice (q := 55) (by kernel_rfl) (by kernel_rfl) open_ints) (opensF_one rfl (by kernel_rfl) (opens_slice (q := 55) (by kernel_rfl) (by kernel_rfl) open_ints))))))
    (fun a h => ⟨h.1, h.2.1, h.2.2.1.1, h.2.2.2.1⟩)
end Go.Proofs.YtmfekngjhiofaaaDoor.Q
