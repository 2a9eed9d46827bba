/-
  HELPER.
-/
import Derived.Test.YtenogedclignmaaDoorPlK25
import Derived.Test.YtenogedclignmaaDoorPlLSynPlaces
set_option linter.unusedVariables false
set_option linter.unusedSimpArgs false
namespace Go.Proofs.YtenogedclignmaaDoor.Q
open Go.NumPure Go.RowKit Go.Proofs.YtenogedclignmaaDoorW.PrintWords Go.Proofs.YtenogedclignmaaDoorW.PrintLast Go.Proofs.YtenogedclignmaaDoorW.PrintMore
structure FltOk (n : Nat) (l : List Tok) (fs : List Flt) (i : Nat) (h : i < fs.length) : Prop where
  up : ∀ j, (hj : j + 1 = i) → fs[j].f1 ≤ fs[i].f1
  md : fs[i].f2 = 0
  it : fs[i].f3 = 0
  at_ : (fs[i].f0 = 21 ∧ fs[i].f1 = (n : Int) ∧ i + 1 = fs.length) ∨ ((l.any fun t => t.f3 == fs[i].f1) = true ∧ (fs[i].f0 = 20 ∨ fs[i].f0 = 2))
theorem places_l1 (s : ByteArray) (fs : List Flt) (l : List Tok) (hl : l.length ≤ 20000) (x10 y0 y1 y2 y3 : Int) (d : Nat) : ∀ (k i : Nat) (b : Bool), i ≤ l.length → l.length - i = d →
    proofmarklaw02_SynPlaces.l1 (k + d) true s fs l x10 b (i : Int) y0 y1 y2 y3 = proofmarklaw02_SynPlaces.l1 k true s fs l x10 (b || (l.drop i).any fun t => t.f3 == y1) (l.length : Int) y0 y1 y2 y3 := by
  induction d with
  | zero =>
    intro k i b h1 h2
    obtain rfl : i = l.length := by omega
    simp
  | succ d ih =>
    intro k i b h1 h2
    have hi : i < l.length := by omega
    rw [← Nat.add_assoc]
    have hd : l.drop i = l[i] :: l.drop (i + 1) := (List.drop_eq_getElem_cons hi)
    have hw : wrap64 ((i : Int) + 1) = ((i + 1 : Nat) : Int) := by rw [wrap_eq _ (by omega) (by omega)]; omega
    rw [proofmarklaw02_SynPlaces.l1]
    rw [if_pos (by omega)]
    cases b with
    | true => rw [if_pos rfl, hw, ih k (i + 1) true (by omega) (by omega)]; simp
    | false => rw [if_neg (by simp), if_pos (by omega), hw, ih k (i + 1) _ (by omega) (by omega), rd_tok l i hi]; rw [hd, List.any_cons, Bool.false_or]
theorem places_tree (s : ByteArray) (fs : List Flt) (l : List Tok) (k : Nat) (x10 : Int) (b : Bool) (y0 y1 y2 y3 : Int) (hy2 : y2 = 0) (hy3 : y3 = 0)
    (hup : x10 > 0 → 0 ≤ wrap64 (x10 - 1) ∧ wrap64 (x10 - 1) < (fs.length : Int) ∧ ¬ y1 < (rd_T35 fs (wrap64 (x10 - 1))).f1) (hat : (y0 = 21 ∧ y1 = (s.size : Int) ∧ x10 = wrap64 ((fs.length : Int) - 1)) ∨ (b = true ∧ (y0 = 20 ∨ y0 = 2))) :
    proofmarklaw02_SynPlaces.l1 (k + 1) true s fs l x10 b (l.length : Int) y0 y1 y2 y3 = proofmarklaw02_SynPlaces.l0 k true s fs l (wrap64 (x10 + 1)) := by
  subst hy2 hy3
  rw [proofmarklaw02_SynPlaces.l1, if_neg (by omega)]
  by_cases hx : x10 > 0
  · obtain ⟨p, q, r⟩ := hup hx
    rcases hat with ⟨rfl, rfl, e⟩ | ⟨rfl, rfl | rfl⟩
    · rw [if_pos rfl, if_pos rfl, if_pos hx, if_pos p, if_pos q, if_neg r, if_pos rfl, if_pos rfl, if_pos e]
    · rw [if_neg (by decide), if_pos hx, if_pos p, if_pos q, if_neg r, if_pos rfl, if_pos rfl, if_pos rfl, if_pos rfl]
    · rw [if_neg (by decide), if_pos hx, if_pos p, if_pos q, if_neg r, if_pos rfl, if_pos rfl, if_pos rfl, if_neg (by decide), if_pos rfl]
  · rcases hat with ⟨rfl, rfl, e⟩ | ⟨rfl, rfl | rfl⟩
    · rw [if_pos rfl, if_pos rfl, if_neg hx, if_pos rfl, if_pos rfl, if_pos e]
    · rw [if_neg (by decide), if_neg hx, if_pos rfl, if_pos rfl, if_pos rfl, if_pos rfl]
    · rw [if_neg (by decide), if_neg hx, if_pos rfl, if_pos rfl, if_pos rfl, if_neg (by decide), if_pos rfl]
theorem places_l0 (s : ByteArray) (fs : List Flt) (hf : fs.length ≤ 20) (l : List Tok) (hl : l.length ≤ 20000) (ok : ∀ i (h : i < fs.length), FltOk s.size l fs i h) (d : Nat) : ∀ (k i : Nat), i ≤ fs.length → fs.length - i = d → d * (l.length + 2) < k →
    proofmarklaw02_SynPlaces.l0 k true s fs l (i : Int) = some true := by
  induction d with
  | zero =>
    intro k i h1 h2 h3
    obtain ⟨k, rfl⟩ : ∃ m, k = m + 1 := ⟨k - 1, by omega⟩
    rw [proofmarklaw02_SynPlaces.l0, if_neg (by omega)]
  | succ d ih =>
    intro k i h1 h2 h3
    have hi : i < fs.length := by omega
    have h4 : (d + 1) * (l.length + 2) = d * (l.length + 2) + (l.length + 2) := Nat.succ_mul d _
    obtain ⟨k, rfl⟩ : ∃ m, k = m + 1 + l.length + 1 := ⟨k - 2 - l.length, by omega⟩
    rw [proofmarklaw02_SynPlaces.l0, if_pos (by omega), if_pos (by omega), rd_flt fs i hi]
    have hz := places_l1 s fs l hl (i : Int) fs[i].f0 fs[i].f1 fs[i].f2 fs[i].f3 l.length (k + 1) 0 false (Nat.zero_le _) rfl
    rw [Bool.false_or, List.drop_zero] at hz
    have o := ok i hi
    have hw : wrap64 ((i : Int) + 1) = ((i + 1 : Nat) : Int) := by rw [wrap_eq _ (by omega) (by omega)]; omega
    have hz2 : proofmarklaw02_SynPlaces.l1 (k + 1 + l.length) true s fs l (i : Int) false 0 fs[i].f0 fs[i].f1 fs[i].f2 fs[i].f3 = _ := hz
    rw [hz2, places_tree s fs l k (i : Int) _ _ _ _ _ o.md o.it ?_ ?_, hw]
    · exact ih k (i + 1) (by omega) (by omega) (by omega)
    · intro hx
      have e1 : wrap64 ((i : Int) - 1) = ((i - 1 : Nat) : Int) := by rw [wrap_eq _ (by omega) (by omega)]; omega
      rw [e1, rd_flt fs (i - 1) (by omega)]
      have := o.up (i - 1) (by omega)
      exact ⟨by omega, by omega, by omega⟩
    · rcases o.at_ with ⟨a1, a2, a3⟩ | ⟨a1, a2⟩
      · left
        refine ⟨a1, a2, ?_⟩
        rw [wrap_eq _ (by omega) (by omega)]; omega
      · right
        exact ⟨a1, a2⟩
theorem flt_ok (s : ByteArray) (hs : s.size ≤ 20000) (hn : (LexP.lxA s.data.toList 0).2 = none) (ms : List Mdl) (fs : List Wr) (h : prs ((LexP.lxA s.data.toList 0).1.map toS) = some (ms, fs)) :
    fs.length ≤ 20 ∧ ∀ i (hi : i < (fs.map (fltW s)).length), FltOk s.size ((LexP.lxA s.data.toList 0).1.map toS) (fs.map (fltW s)) i hi := by
  have ho := tok_order s
  have hw := tok_within s
  generalize (LexP.lxA s.data.toList 0).1.map toS = l at *
  obtain ⟨r', F⟩ := modules_fs l _ 0 [] [] l (ms, fs) (List.suffix_refl _) (fs_nil l l) h
  refine ⟨F.few, fun i hi => ?_⟩
  have hi' : i < fs.length := by simpa using hi
  have he : (fs.map (fltW s))[i] = fltW s fs[i] := by simp
  obtain ⟨g1, g2⟩ := F.each fs[i] (List.getElem_mem hi')
  refine ⟨fun j hj => ?_, by rw [he]; rfl, by rw [he]; rfl, ?_⟩
  · have hj' : j < fs.length := by omega
    have he2 : (fs.map (fltW s))[j]'(by simpa using hj') = fltW s fs[j] := by simp
    rw [he2, he]
    have hsf : fs[i].2 <:+ fs[j].2 := (List.pairwise_iff_getElem.1 F.order) j i hj' hi' (by omega)
    obtain ⟨g3, g4⟩ := F.each fs[j] (List.getElem_mem hj')
    unfold fltW
    show (match fs[j].2 with | [] => (s.size : Int) | t :: _ => t.f3) ≤ (match fs[i].2 with | [] => (s.size : Int) | t :: _ => t.f3)
    cases hA : fs[j].2 with
    | nil => rw [hA] at hsf; rw [List.suffix_nil.1 hsf]; exact Int.le_refl _
    | cons t q =>
      have ht : t ∈ l := g3.subset (by rw [hA]; simp)
      cases hB : fs[i].2 with
      | nil => have := hw t ht; show t.f3 ≤ (s.size : Int); omega
      | cons u p =>
        rw [hA, hB] at hsf
        rcases List.suffix_cons_iff.1 hsf with h1 | h1
        · cases h1; exact Int.le_refl _
        · have hq : (t :: q) <:+ l := hA ▸ g3
          have hp := List.Pairwise.sublist hq.sublist ho
          have := (List.pairwise_cons.1 hp).1 u (h1.subset (by simp))
          show t.f3 ≤ u.f3; omega
  · rw [he]
    unfold fltW
    rcases g2 with ⟨g2, g5⟩ | ⟨g2, g5⟩
    · left
      refine ⟨g5, by rw [g2], ?_⟩
      rw [List.length_map]
      by_cases hl : i + 1 = fs.length
      · exact hl
      · exfalso
        refine F.last fs[i] ?_ g5
        rw [List.mem_iff_getElem]
        exact ⟨i, by rw [List.length_dropLast]; show i < fs.length - 1; omega, by simp⟩
    · right
      refine ⟨?_, g5⟩
      cases hA : fs[i].2 with
      | nil => exact absurd hA g2
      | cons t q =>
        rw [List.any_eq_true]
        exact ⟨t, g1.subset (by rw [hA]; simp), by simp⟩
theorem SynPlaces : proofmarklaw02_SynPlaces.Pure := by
  intro a0 h0
  obtain ⟨t, ht, hs⟩ := few_cut a0
  refine ⟨1000000, ?_⟩
  unfold proofmarklaw02_SynPlaces.f
  rw [show proofmarklaw02_head.f = some true from rfl, ht]
  simp only [Option.bind_some]
  rcases lex_cases t (by omega) with ⟨hn, hx⟩ | ⟨q, hn, hx⟩
  · obtain ⟨⟨ms, fs⟩, hp⟩ := prs_some ((LexP.lxA t.data.toList 0).1.map toS)
    obtain ⟨f1, f2⟩ := flt_ok t (by omega) hn ms fs hp
    have hl : ((LexP.lxA t.data.toList 0).1.map toS).length ≤ 3000 := by
      have := lxA_count t.data.toList.length t.data.toList 0 (Nat.le_refl _)
      have e : t.data.toList.length = t.size := by simp
      rw [List.length_map]; omega
    rw [parse_ok hx hp, hx]
    simp only [Option.bind_some]
    rw [if_pos trivial, if_neg (by rw [List.length_map]; have : fs.length ≤ 20 := f1; omega)]
    refine places_l0 t _ (by rw [List.length_map]; exact f1) _ (by omega) f2 (fs.map (fltW t)).length 1000000 0 (Nat.zero_le _) rfl ?_
    rw [List.length_map]
    have h1 := Nat.mul_le_mul f1 (show ((LexP.lxA t.data.toList 0).1.map toS).length + 2 ≤ 3002 by omega)
    omega
  · rw [parse_bad hx (by decide), hx]
    simp only [Option.bind_some]
    rw [if_neg (by decide), if_pos trivial, if_pos (by rfl), if_pos (by simp)]
    simp [rd_T35]
end Go.Proofs.YtenogedclignmaaDoor.Q
