/-
  proofmarklaw27.Ask among the arguments, opened: a net, a circuit, rows, numbers, a text.
-/
import Derived.Test.YtmfekngjhiofaaaGreatDoorHOpenNet
import Derived.OpenShut
set_option linter.unusedVariables false
set_option linter.unusedSimpArgs false
namespace Go.Proofs.YtmfekngjhiofaaaGreatDoor.Q
open Go.ChangeShapes Go.WideShapes Go.RowKit Go.Proofs.YtmfekngjhiofaaaGreatDoorW.PrintWords

/-- An array is opened as a struct of as many fields. -/
theorem opens_arr {β : Type} {P : Program} {t e : TypeId} {n : Nat} {fs : List Field} {K : Kd β} {W : β → Prop} {B : β → Nat} (ht : P.underlying t = some (.array n e)) (hs : K.sz = P.cellsOf t) (hn : fs.length = n)
    (hf : ∀ (i : Nat) (f : Field), fs[i]? = some f → f.type = e ∧ f.offset = i * P.cellsOf e) (h : OpensF P fs 0 K W B) : Opens P t K W (fun x => B x + 1) := by
  intro H enc w base sp held fuel cs x hx
  obtain ⟨xs, m, rfl, rfl, hl, hx2, hc⟩ := DataW.trod_array ht hx
  obtain ⟨b, h1, h2, h3⟩ := h H enc w base sp held m cs xs (by omega) (by omega) (fun i f hq => by
    obtain ⟨e1, e2⟩ := hf i f hq
    rw [e1, e2]
    exact hc i (by have := (List.getElem?_eq_some_iff.1 hq).1; omega))
  exact ⟨b, by simpa using h1, h2, by simp only [Rows.uptoBulk]; omega⟩
def fldAt (e : TypeId) (o : Nat) : Field := { name := "", type := e, offset := o, embedded := false, tag := "", pkgPath := "", byteOffset := 0 }
theorem open_two : Opens Tryz.prog 199 k199 (fun _ => True) (fun _ => 0) :=
  opens_weak (opens_iso (fun x : S199 => (x.f0, x.f1)) (fun p => ⟨p.1, p.2⟩) (fun _ => rfl)
    (opens_arr (P := Tryz.prog) (t := 199) (K := Kd.pair (Kd.int .i64) (Kd.int .i64)) (fs := [fldAt 3 0, fldAt 3 1]) Tryz.underlying199 (by kernel_rfl) rfl
      (fun i f hq => by match i, hq with | 0, hq => obtain rfl := Option.some.inj hq; exact ⟨rfl, by kernel_rfl⟩ | 1, hq => obtain rfl := Option.some.inj hq; exact ⟨rfl, by kernel_rfl⟩)
      (opensF_cons (K := Kd.int .i64) rfl (by kernel_rfl) (opens_int (by kernel_rfl)) (opensF_one (K := Kd.int .i64) rfl (by kernel_rfl) (opens_int (by kernel_rfl))))))
    (fun _ _ => trivial)
theorem open_three : Opens Tryz.prog 200 k200 (fun _ => True) (fun _ => 0) :=
  opens_weak (opens_iso (fun x : S200 => (x.f0, x.f1, x.f2)) (fun p => ⟨p.1, p.2.1, p.2.2⟩) (fun _ => rfl)
    (opens_arr (P := Tryz.prog) (t := 200) (K := Kd.pair (Kd.int .i64) (Kd.pair (Kd.int .i64) (Kd.int .i64))) (fs := [fldAt 3 0, fldAt 3 1, fldAt 3 2]) Tryz.underlying200 (by kernel_rfl) rfl
      (fun i f hq => by match i, hq with | 0, hq => obtain rfl := Option.some.inj hq; exact ⟨rfl, by kernel_rfl⟩ | 1, hq => obtain rfl := Option.some.inj hq; exact ⟨rfl, by kernel_rfl⟩ | 2, hq => obtain rfl := Option.some.inj hq; exact ⟨rfl, by kernel_rfl⟩)
      (opensF_cons (K := Kd.int .i64) rfl (by kernel_rfl) (opens_int (by kernel_rfl)) (opensF_cons (K := Kd.int .i64) rfl (by kernel_rfl) (opens_int (by kernel_rfl)) (opensF_one (K := Kd.int .i64) rfl (by kernel_rfl) (opens_int (by kernel_rfl)))))))
    (fun _ _ => trivial)
theorem open_latch : Opens Tryz.prog 94 k94 (fun x => (Lit.int .i64 x.f4).wf = true) (fun _ => 0) :=
  opens_weak (opens_iso (fun x : S94 => (x.f0, x.f1, x.f2, x.f3, x.f4)) (fun p => ⟨p.1, p.2.1, p.2.2.1, p.2.2.2.1, p.2.2.2.2⟩) (fun _ => rfl)
    (opens_struct (P := Tryz.prog) (t := 94) (K := Kd.pair (Kd.int .i64) (Kd.pair (Kd.int .i64) (Kd.pair Kd.bool (Kd.pair (Kd.int .i64) (Kd.int .i64))))) Tryz.underlying94 (by kernel_rfl)
      (opensF_cons (K := Kd.int .i64) rfl (by kernel_rfl) (opens_int (by kernel_rfl)) (opensF_cons (K := Kd.int .i64) rfl (by kernel_rfl) (opens_int (by kernel_rfl)) (opensF_cons (K := Kd.bool) rfl (by kernel_rfl) (opens_bool (by kernel_rfl)) (opensF_cons (K := Kd.int .i64) rfl (by kernel_rfl) (opens_int (by kernel_rfl)) (opensF_one (K := Kd.int .i64) rfl (by kernel_rfl) (opens_int (by kernel_rfl)))))))))
    (fun a h => by have h1 : (Lit.int .i64 a.f4).wf = true := h.2.2.2.2; exact h1)
theorem open_out : Opens Tryz.prog 202 k202 (fun _ => True) (fun _ => 0) :=
  opens_weak (opens_iso (fun x : S202 => (x.f0, x.f1, x.f2)) (fun p => ⟨p.1, p.2.1, p.2.2⟩) (fun _ => rfl)
    (opens_struct (P := Tryz.prog) (t := 202) (K := Kd.pair (Kd.int .i64) (Kd.pair (Kd.int .i64) (Kd.int .i64))) Tryz.underlying202 (by kernel_rfl)
      (opensF_cons (K := Kd.int .i64) rfl (by kernel_rfl) (opens_int (by kernel_rfl)) (opensF_cons (K := Kd.int .i64) rfl (by kernel_rfl) (opens_int (by kernel_rfl)) (opensF_one (K := Kd.int .i64) rfl (by kernel_rfl) (opens_int (by kernel_rfl)))))))
    (fun _ _ => trivial)
abbrev KAig := Kd.pair (Kd.int .i64) (Kd.slice 199 k199)
theorem open_aig : Opens Tryz.prog 30 KAig (fun _ => True) (fun _ => 0) :=
  opens_weak (opens_struct (P := Tryz.prog) (t := 30) (K := KAig) Tryz.underlying30 (by kernel_rfl)
    (opensF_cons (K := Kd.int .i64) rfl (by kernel_rfl) (opens_int (by kernel_rfl)) (opensF_one rfl (by kernel_rfl) (opens_slice (q := 199) (by kernel_rfl) (by kernel_rfl) open_two))))
    (fun _ _ => trivial)
abbrev KCirc := Kd.pair KAig (Kd.pair (Kd.slice 200 k200) (Kd.pair (Kd.slice 94 k94) (Kd.slice 202 k202)))
theorem open_circ : Opens Tryz.prog 35 KCirc (fun x => ∀ p ∈ x.2.2.1, (Lit.int .i64 p.f4).wf = true) (fun _ => 0) :=
  opens_weak (opens_struct (P := Tryz.prog) (t := 35) (K := KCirc) Tryz.underlying35 (by kernel_rfl)
    (opensF_cons (K := KAig) rfl (by kernel_rfl) open_aig
      (opensF_cons rfl (by kernel_rfl) (opens_slice (q := 200) (by kernel_rfl) (by kernel_rfl) open_three)
        (opensF_cons rfl (by kernel_rfl) (opens_slice (q := 94) (by kernel_rfl) (by kernel_rfl) open_latch)
          (opensF_one rfl (by kernel_rfl) (opens_slice (q := 202) (by kernel_rfl) (by kernel_rfl) open_out))))))
    (fun a h => h.2.2.1.1)
abbrev KAsk := Kd.pair KNet (Kd.pair KCirc (Kd.pair (Kd.slice 37 (Kd.slice 3 (Kd.int .i64))) (Kd.pair (Kd.slice 3 (Kd.int .i64)) Kd.string)))
theorem open_ask : Opens Tryz.prog 39 KAsk (fun x => (∀ p ∈ x.2.1.2.2.1, (Lit.int .i64 p.f4).wf = true) ∧ (∀ l ∈ x.2.2.1, ∀ y ∈ l, (Lit.int .i64 y).wf = true) ∧ (∀ y ∈ x.2.2.2.1, (Lit.int .i64 y).wf = true) ∧ x.2.2.2.2.size ≤ maxLen) (fun _ => 0) :=
  opens_weak (opens_struct (P := Tryz.prog) (t := 39) (K := KAsk) Tryz.underlying39 (by kernel_rfl)
    (opensF_cons (K := KNet) rfl (by kernel_rfl) open_net
      (opensF_cons (K := KCirc) rfl (by kernel_rfl) open_circ
        (opensF_cons rfl (by kernel_rfl) (opens_slice (q := 37) (by kernel_rfl) (by kernel_rfl) open_ints)
          (opensF_cons (K := Kd.slice 3 (Kd.int .i64)) rfl (by kernel_rfl) open_ints
            (opensF_one (K := Kd.string) rfl (by kernel_rfl) (opens_string Tryz.underlying9)))))))
    (fun a h => ⟨h.2.1, h.2.2.1.1, h.2.2.2.1, h.2.2.2.2⟩)
end Go.Proofs.YtmfekngjhiofaaaGreatDoor.Q
