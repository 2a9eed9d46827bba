/-
  A row of tokens among the arguments, opened.
-/
import Derived.Test.YthegiggpkphieaaDoorHOpen
import Derived.Test.YthegiggpkphieaaDoorPureLexTells
set_option linter.unusedVariables false
set_option linter.unusedSimpArgs false
namespace Go.Proofs.YthegiggpkphieaaDoor.Q
open Go.ChangeShapes Go.WideShapes Go.RowKit Go.Proofs.YthegiggpkphieaaDoorW.PrintWords

theorem open_tok : Opens Tryd.prog 33 k33 (fun _ => True) (fun x => x.f1.size + 1) := by
  have h := opens_iso (fun x : S33 => (x.f0, x.f1, x.f2, x.f3)) (fun p => ⟨p.1, p.2.1, p.2.2.1, p.2.2.2⟩) (fun _ => rfl)
    (opens_struct (P := Tryd.prog) (t := 33) (K := Kd.pair (Kd.int .i64) (Kd.pair Kd.string (Kd.pair (Kd.int .i64) (Kd.int .i64)))) Tryd.underlying33 (by kernel_rfl)
      (opensF_cons (K := Kd.int .i64) rfl (by kernel_rfl) (opens_int Tryd.underlying3) (opensF_cons (K := Kd.string) rfl (by kernel_rfl) (opens_string Tryd.underlying9)
        (opensF_cons (K := Kd.int .i64) rfl (by kernel_rfl) (opens_int Tryd.underlying3) (opensF_one (K := Kd.int .i64) rfl (by kernel_rfl) (opens_int Tryd.underlying3))))))
  intro H enc w base sp held fuel cs x hx
  obtain ⟨a, h1, _, h3⟩ := h H enc w base sp held fuel cs x hx
  exact ⟨a, h1, trivial, by show a.f1.size + 1 ≤ _; have h4 : 1 + ((a.f1.size + 1) + (1 + 1)) + 1 ≤ Rows.uptoBulk x.1 := h3; omega⟩
theorem open_toks : Opens Tryd.prog 22 (Kd.slice 33 k33) (fun l => True) (fun l => sizes l + l.length) := by
  have h := opens_slice (P := Tryd.prog) (t := 22) (q := 33) Tryd.underlying22 (by kernel_rfl) open_tok
  intro H enc w base sp held fuel cs x hx
  obtain ⟨a, h1, _, h3⟩ := h H enc w base sp held fuel cs x hx
  have hs : ∀ l : List S33, (l.map fun x => x.f1.size + 1).sum = sizes l + l.length := by
    intro l
    induction l with
    | nil => rfl
    | cons x l ih => simp [sizes] at ih ⊢; omega
  exact ⟨a, h1, trivial, by show sizes a + a.length ≤ _; have h4 : (a.map fun x => x.f1.size + 1).sum + 1 ≤ Rows.uptoBulk x.1 := h3; rw [hs] at h4; omega⟩
end Go.Proofs.YthegiggpkphieaaDoor.Q
