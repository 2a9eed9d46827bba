/-
  Plain: cuts of a text and moved rows.
-/
import Derived.Test.YthegiggpkphieaaDoorPBase
import Derived.Test.YthegiggpkphieaaDoorHMoved
set_option linter.unusedVariables false
set_option linter.unusedSimpArgs false
namespace Go.Proofs.YthegiggpkphieaaDoor.Q
open Go.NumPure Go.RowKit Go.Proofs.YthegiggpkphieaaDoorW.PrintWords Go.Proofs.YthegiggpkphieaaDoorW.PrintLast Go.Proofs.YthegiggpkphieaaDoorW.PrintMore

theorem wrap_add (a b : Nat) (h : a + b < 4611686018427387904) : wrap64 ((a : Int) + (b : Int)) = ((a + b : Nat) : Int) := by unfold wrap64; omega
theorem ext_take (s : ByteArray) (n : Nat) : (s.extract 0 n).data.toList = s.data.toList.take n := by
  simp only [ByteArray.data_extract, Array.toList_extract, List.extract_eq_take_drop]; simp
theorem ext_drop (s : ByteArray) (n : Nat) : (s.extract n s.size).data.toList = s.data.toList.drop n := by
  simp only [ByteArray.data_extract, Array.toList_extract, List.extract_eq_take_drop]
  rw [List.take_of_length_le]; simp
theorem app_list (s t : ByteArray) : (s ++ t).data.toList = s.data.toList ++ t.data.toList := by simp
theorem pos_le (l : List UInt8) (x : LexP.Tok) (h : x ∈ (LexP.lxA l 0).1) : x.pos + x.text.length ≤ l.length := by
  obtain ⟨i, hi, rfl⟩ := List.mem_iff_getElem.1 h
  have := (LexP.lxA_places l.length l 0 (Nat.le_refl _) i _ (List.getElem?_eq_getElem hi)).2.1
  omega
theorem moved_rows (T : List LexP.Tok) (d : Nat) (h : ∀ x ∈ T, x.pos + d < 4611686018427387904) : (T.map toS).map (moveS (d : Int)) = (T.map (LexP.mv d)).map toS := by
  rw [List.map_map, List.map_map]
  refine List.map_congr_left fun x hx => ?_
  have := h x hx
  show moveS (d : Int) (toS x) = toS (LexP.mv d x)
  have hw : wrap64 ((x.pos : Int) + (d : Int)) = ((x.pos + d : Nat) : Int) := by unfold wrap64; omega
  show (⟨(x.kind : Int), ⟨x.text.toArray⟩, (x.n : Int), wrap64 ((x.pos : Int) + (d : Int))⟩ : S33) = _
  rw [hw]; rfl
end Go.Proofs.YthegiggpkphieaaDoor.Q
