/-
  HELPER.
-/
import Derived.Test.YtenogedclignmaaDoorCuPCuts
import Derived.Test.YtenogedclignmaaDoorCuLSynCuts
set_option linter.unusedVariables false
set_option linter.unusedSimpArgs false
namespace Go.Proofs.YtenogedclignmaaDoor.Q
open Go.NumPure Go.RowKit Go.Proofs.YtenogedclignmaaDoorW.PrintWords Go.Proofs.YtenogedclignmaaDoorW.PrintLast Go.Proofs.YtenogedclignmaaDoorW.PrintMore
theorem looks_drop (l : List Tok) (n : Nat) (h : n < l.length) : looks (l.drop n) = l[n] := by rw [List.drop_eq_getElem_cons h]; rfl
theorem cuts_j2 (k : Nat) (x : Int) (B T : List Mdl) (g : List Flt) (hg : g = [] ∨ g = [⟨21, x, 0, 0⟩]) : proofmarklaw02_SynCuts.j2 (k + 1) true x g false (B ++ T) B = some true := by
  have hle : (B.length : Int) ≤ ((B ++ T).length : Int) := by rw [List.length_append]; omega
  have hs : proofmarkref02_Same.f B ((B ++ T).take (B.length : Int).toNat) = some true := same_true (by simp)
  rw [proofmarklaw02_SynCuts.j2, if_neg (by decide)]
  rcases hg with rfl | rfl
  · rw [if_neg (by simp), if_pos rfl, if_pos (by omega), if_pos hle, hs]; rfl
  · rw [if_pos (by simp), if_pos (by simp), if_neg (by simp [rd_T35]), if_pos rfl, if_pos (by omega), if_pos hle, hs]; rfl
theorem SynCuts : proofmarklaw02_SynCuts.Pure := by
  intro a0 a1 h0 h1
  obtain ⟨t, ht, hs⟩ := few_cut a0
  refine ⟨4, ?_⟩
  unfold proofmarklaw02_SynCuts.f
  rw [head_true, ht]
  simp only [Option.bind_some]
  rcases lex_cases t (by omega) with ⟨hn, hx⟩ | ⟨q, hn, hx⟩
  · obtain ⟨⟨ms, fs⟩, hp⟩ := prs_some ((LexP.lxA t.data.toList 0).1.map toS)
    have hl : ((LexP.lxA t.data.toList 0).1.map toS).length ≤ t.size := tok_count
    rw [parse_ok hx hp, hx]
    simp only [Option.bind_some]
    rw [if_pos trivial]
    by_cases hf : ((fs.map (fltW t)).length : Int) > 0
    · rw [if_pos hf, proofmarklaw02_SynCuts.j0, if_pos rfl]
    rw [if_neg hf]
    obtain rfl : fs = [] := by
      cases fs with
      | nil => rfl
      | cons a b => exact absurd (by simp only [List.map_cons, List.length_cons]; omega) hf
    by_cases hn0 : a1 < 0
    · rw [if_pos hn0, proofmarklaw02_SynCuts.j0, if_pos rfl]
    rw [if_neg hn0]
    by_cases hnl : a1 ≥ (((LexP.lxA t.data.toList 0).1.map toS).length : Int)
    · rw [decide_eq_true hnl, proofmarklaw02_SynCuts.j0, if_pos rfl]
    obtain ⟨n, rfl⟩ : ∃ n : Nat, a1 = (n : Int) := ⟨a1.toNat, by omega⟩
    have hn1 : n < ((LexP.lxA t.data.toList 0).1.map toS).length := by omega
    have hn2 : n < (LexP.lxA t.data.toList 0).1.length := by rw [List.length_map] at hn1; exact hn1
    obtain ⟨hc, hle⟩ := lex_cut t.data.toList n hn2
    have hle2 : (LexP.lxA t.data.toList 0).1[n].pos ≤ t.size := by have e : t.data.toList.length = t.size := by simp
                                                                   omega
    have hp3 : (((LexP.lxA t.data.toList 0).1.map toS)[n]).f3 = ((LexP.lxA t.data.toList 0).1[n].pos : Int) := by rw [List.getElem_map]; rfl
    have hp1 : (((LexP.lxA t.data.toList 0).1.map toS)[n]).f1.toList = txt (((LexP.lxA t.data.toList 0).1.map toS)[n]) := ByteArray.toList_eq _
    generalize hpos : (LexP.lxA t.data.toList 0).1[n].pos = pos at hc hle2 hp3
    rw [decide_eq_false hnl, proofmarklaw02_SynCuts.j0, if_neg (by decide), if_pos (by omega), if_pos (by omega), rd_tok _ n hn1, hp3, if_neg (by omega), decide_eq_false (by omega),
      proofmarklaw02_SynCuts.j1, if_neg (by decide), if_pos (by omega), if_pos (by omega), Int.toNat_natCast]
    have hsz : (t.extract 0 pos).size = pos := by simp; omega
    have hx2 : lex_Lex.f (t.extract 0 pos) = some (((LexP.lxA t.data.toList 0).1.map toS).take n, 0, 0) := by
      rw [lex_small _ (by omega), ext_take, lexF_ok _ _ (by rw [hc]), hc, List.map_take]
    have hsplit := List.take_append_drop n ((LexP.lxA t.data.toList 0).1.map toS)
    obtain ⟨B, T, rfl, hB⟩ := prs_cut (p := ((LexP.lxA t.data.toList 0).1.map toS).take n) (q := ((LexP.lxA t.data.toList 0).1.map toS).drop n) (by
      intro e
      have := congrArg List.length e
      rw [List.length_drop, List.length_nil] at this; omega) (by rw [hsplit]; exact lex_numT _ _) (by rw [hsplit]; exact hp)
    rw [looks_drop _ n hn1] at hB
    have hBT : ¬ (B.length : Int) > ((B ++ T).length : Int) := by rw [List.length_append]; omega
    rcases hB with ⟨hB, hk⟩ | ⟨hB, hk⟩
    · rw [parse_ok hx2 hB]
      simp only [Option.bind_some]
      rw [if_neg hBT, if_neg (by simp), if_pos (by omega), if_pos (by omega), rd_tok _ n hn1, hp1, hk]
      exact cuts_j2 1 pos B T _ (.inl rfl)
    · rw [parse_ok hx2 hB]
      simp only [Option.bind_some]
      have hne : (txt (((LexP.lxA t.data.toList 0).1.map toS)[n]) == ([109, 111, 100, 117, 108, 101] : List UInt8)) = false := beq_eq_false_iff_ne.2 hk
      rw [if_neg hBT, if_neg (by simp), if_pos (by omega), if_pos (by omega), rd_tok _ n hn1, hp1, hne]
      refine cuts_j2 1 pos B T _ (.inr ?_)
      show [(⟨21, ((t.extract 0 pos).size : Int), 0, 0⟩ : Flt)] = _
      rw [hsz]
  · rw [hx]
    simp only [Option.bind_some]
    rw [parse_bad hx (by decide)]
    simp only [Option.bind_some]
    rw [if_neg (by decide), proofmarklaw02_SynCuts.j0, if_pos rfl]
end Go.Proofs.YtenogedclignmaaDoor.Q
