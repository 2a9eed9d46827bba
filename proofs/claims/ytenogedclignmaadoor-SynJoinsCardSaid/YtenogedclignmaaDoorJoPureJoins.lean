/-
  HELPER.
-/
import Derived.Test.YtenogedclignmaaDoorJoPCuts
import Derived.Test.YtenogedclignmaaDoorJoLSynJoins
set_option linter.unusedVariables false
set_option linter.unusedSimpArgs false
namespace Go.Proofs.YtenogedclignmaaDoor.Q
open Go.NumPure Go.RowKit Go.Proofs.YtenogedclignmaaDoorW.PrintWords Go.Proofs.YtenogedclignmaaDoorW.PrintLast Go.Proofs.YtenogedclignmaaDoorW.PrintMore
theorem no_faults {s : ByteArray} (hs : s.size ≤ 20000) {ms : List Mdl} {fs : List Flt} (h : syn_Parse.f s = some (ms, fs)) (hf : ¬ (fs.length : Int) > 0) :
  (LexP.lxA s.data.toList 0).2 = none ∧ prs ((LexP.lxA s.data.toList 0).1.map toS) = some (ms, []) ∧ fs = [] := by
 rcases lex_cases s hs with ⟨hn, hx⟩ | ⟨q, hn, hx⟩
 ·obtain ⟨⟨ms2, fs2⟩, hp⟩ := prs_some ((LexP.lxA s.data.toList 0).1.map toS)
  rw [parse_ok hx hp] at h
  cases h
  cases fs2 with
  | nil => exact ⟨hn, hp, rfl⟩
  | cons a b => exact absurd (by simp only [List.map_cons, List.length_cons]; omega) hf
 ·rw [parse_bad hx (by decide)] at h
  cases h
  exact absurd (by simp) hf
theorem parse_some (s : ByteArray) (hs : s.size ≤ 20000) : ∃ ms fs, syn_Parse.f s = some (ms, fs) := by
 rcases lex_cases s hs with ⟨hn, hx⟩ | ⟨q, hn, hx⟩
 ·obtain ⟨⟨ms2, fs2⟩, hp⟩ := prs_some ((LexP.lxA s.data.toList 0).1.map toS)
  exact ⟨_, _, parse_ok hx hp⟩
 ·exact ⟨_, _, parse_bad hx (by decide)⟩
theorem SynJoins : proofmarklaw02_SynJoins.Pure := by
 intro a0 a1 h0 h1
 obtain ⟨x, hx, hxs⟩ := few_cut a0
 obtain ⟨y, hy, hys⟩ := few_cut a1
 have hsz : (x ++ (⟨#[10]⟩ : ByteArray) ++ y).size = x.size + 1 + y.size := by rw [ByteArray.size_append, ByteArray.size_append]; rfl
 have hsz1 : (x ++ (⟨#[10]⟩ : ByteArray)).size = x.size + 1 := by rw [ByteArray.size_append]; rfl
 obtain ⟨A, f, hA⟩ := parse_some x (by omega)
 obtain ⟨B, g, hB⟩ := parse_some y (by omega)
 obtain ⟨C, h, hC⟩ := parse_some (x ++ (⟨#[10]⟩ : ByteArray) ++ y) (by omega)
 unfold proofmarklaw02_SynJoins.f
 rw [head_true, hx, hy]
 simp only [Option.bind_some]
 rw [hA, hB]
 simp only [Option.bind_some]
 rw [if_pos (by omega), if_pos (by omega), hC]
 simp only [Option.bind_some]
 by_cases hf : (f.length : Int) > 0
 ·rw [if_pos hf]
 rw [if_neg hf]
 by_cases hg : (g.length : Int) > 0
 ·rw [if_pos hg]
 rw [if_neg hg]
 by_cases hw : wrap64 ((A.length : Int) + (B.length : Int)) > 16
 ·rw [if_pos hw]
 rw [if_neg hw]
 obtain ⟨n1, p1, rfl⟩ := no_faults (by omega) hA hf
 obtain ⟨n2, p2, rfl⟩ := no_faults (by omega) hB hg
 have hfew : ∀ {l : List Tok} {M : List Mdl}, prs l = some (M, []) → M.length ≤ 16 := fun hp => modules_few hp
 have hA16 := hfew p1
 have hB16 := hfew p2
 rw [wrap_eq _ (by omega) (by omega)] at hw
 have hl : (x ++ (⟨#[10]⟩ : ByteArray) ++ y).data.toList = x.data.toList ++ 10 :: y.data.toList := by simp
 obtain ⟨n3, e3⟩ := lex_both x.data.toList y.data.toList n1 n2
 obtain ⟨gs, p3, F⟩ := prs_sg e3.symm (prs_join p1 p2 (by omega))
 cases F
 have hx3 := lex_good (s := x ++ (⟨#[10]⟩ : ByteArray) ++ y) (by omega) (by rw [hl]; exact n3)
 rw [hl] at hx3
 rw [parse_ok hx3 p3] at hC
 cases hC
 rw [if_pos (by simp; omega)]
 simp only [Option.bind_some, List.nil_append]
 rw [if_pos (by omega), if_pos trivial, if_pos (by rfl), same_true rfl]
 rfl
end Go.Proofs.YtenogedclignmaaDoor.Q
