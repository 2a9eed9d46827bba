/-
  HELPER.
-/
import Derived.Test.YtenogedclignmaaDoorLePNames
import Derived.Test.YtenogedclignmaaDoorLeLSynLexes
set_option linter.unusedVariables false
set_option linter.unusedSimpArgs false
namespace Go.Proofs.YtenogedclignmaaDoor.Q
open Go.NumPure Go.RowKit Go.Proofs.YtenogedclignmaaDoorW.PrintWords Go.Proofs.YtenogedclignmaaDoorW.PrintLast Go.Proofs.YtenogedclignmaaDoorW.PrintMore
theorem letter_true (c : UInt8) (h : LexP.ltr c = true) : proofmarkref01_Letter.f (c.toNat : Int) = some true := by
  unfold LexP.ltr at h
  simp only [Bool.or_eq_true, Bool.and_eq_true, decide_eq_true_eq, beq_iff_eq] at h
  unfold proofmarkref01_Letter.f
  rcases h with (⟨h1, h2⟩ | ⟨h1, h2⟩) | h
  · rw [if_pos (by omega), if_pos (by omega)]
  · rw [if_neg (by omega), if_pos (by omega), if_pos (by omega)]
  · rw [if_neg (by omega), if_pos (by omega), if_neg (by omega), h]; rfl
theorem named_alone {s : ByteArray} (hs : s.size ≤ 20000) {m : Mdl} (h : Named ((LexP.lxA s.data.toList 0).1.map toS) m) :
    ∃ x : Tok, lex_Lex.f m.f0 = some ([x], 0, 0) ∧ x.f0 = 1 ∧ syn_Word.f m.f0 = some false ∧ 0 < (x.f1.size : Int) ∧ proofmarkref01_Letter.f (bt x.f1 0) = some true := by
  obtain ⟨t, ht, h1, h2, h3⟩ := h
  obtain ⟨u, hu, rfl⟩ := List.mem_map.1 ht
  have hk : u.kind = 1 := by have h4 : ((u.kind : Nat) : Int) = 1 := h1; omega
  obtain ⟨g1, c, r, g2, g3⟩ := name_alone hu hk
  have hlen := lxA_short s.data.toList.length s.data.toList 0 (Nat.le_refl _) u hu
  have hsz : s.data.toList.length = s.size := by simp
  have hm : m.f0 = ⟨u.text.toArray⟩ := h3
  have hms : m.f0.size = u.text.length := by rw [hm]; show u.text.toArray.size = _; rw [List.size_toArray]
  have hml : m.f0.data.toList = u.text := by rw [hm]
  refine ⟨toS ⟨1, u.text, u.n, 0⟩, ?_, rfl, ?_, ?_, ?_⟩
  · rw [lex_small _ (by omega), hml, lexF_ok _ _ (by rw [g1]), g1]; rfl
  · unfold syn_Word.f
    rw [if_pos (by omega), hml]
    have : wordP u.text = false := h2
    rw [this]
  · show 0 < ((u.text.toArray.size : Nat) : Int)
    rw [List.size_toArray, g2, List.length_cons]; omega
  · have e : bt (toS ⟨1, u.text, u.n, 0⟩).f1 0 = (c.toNat : Int) := by
      unfold toS bt
      rw [g2, dif_pos (by show 0 < (c :: r).toArray.size; simp)]
      rfl
    rw [e]
    exact letter_true c g3
theorem lexes_l0 (s : ByteArray) (hs : s.size ≤ 20000) (ms : List Mdl) (hl : ms.length ≤ 1000000) (ok : ∀ m ∈ ms, Named ((LexP.lxA s.data.toList 0).1.map toS) m) (d : Nat) : ∀ (k i : Nat), i ≤ ms.length → ms.length - i = d → d < k →
    proofmarklaw02_SynLexes.l0 k true (i : Int) ms = some true := by
  induction d with
  | zero =>
    intro k i h1 h2 h3
    obtain ⟨k, rfl⟩ : ∃ m, k = m + 1 := ⟨k - 1, by omega⟩
    rw [proofmarklaw02_SynLexes.l0, if_neg (by omega)]
  | succ d ih =>
    intro k i h1 h2 h3
    have hi : i < ms.length := by omega
    obtain ⟨k, rfl⟩ : ∃ m, k = m + 1 := ⟨k - 1, by omega⟩
    have hw : wrap64 ((i : Int) + 1) = ((i + 1 : Nat) : Int) := by rw [wrap_eq _ (by omega) (by omega)]; omega
    have hr : rd_T47 ms (i : Int) = ms[i] := by simp [rd_T47, hi]
    obtain ⟨x, e1, e2, e3, e4, e5⟩ := named_alone hs (ok ms[i] (List.getElem_mem hi))
    have hx0 : rd_T37 [x] 0 = x := rd_tok [x] 0 (by simp)
    rw [proofmarklaw02_SynLexes.l0, if_pos (by omega), if_pos (by omega), hr, e1]
    simp only [Option.bind_some]
    rw [if_pos trivial, if_pos (by simp), if_pos (by simp), hx0, if_pos e2, e3]
    simp only [Option.bind_some]
    rw [if_neg (by decide), if_pos e4, e5]
    simp only [Option.bind_some]
    rw [if_pos trivial, hw]
    exact ih k (i + 1) (by omega) (by omega) (by omega)
theorem SynLexes : proofmarklaw02_SynLexes.Pure := by
  intro a0 a1 a2 h0 h1 h2
  obtain ⟨t, ht, hs⟩ := few_cut a0
  by_cases hn0 : a1 < 0
  · refine ⟨1, ?_⟩
    unfold proofmarklaw02_SynLexes.f
    rw [head_true, ht]
    simp only [Option.bind_some]
    rw [if_pos hn0, proofmarklaw02_SynLexes.j0, if_pos rfl]
  by_cases hn1 : a1 > (t.size : Int)
  · refine ⟨1, ?_⟩
    unfold proofmarklaw02_SynLexes.f
    rw [head_true, ht]
    simp only [Option.bind_some]
    rw [if_neg hn0, decide_eq_true hn1, proofmarklaw02_SynLexes.j0, if_pos rfl]
  obtain ⟨n, rfl⟩ : ∃ n : Nat, a1 = (n : Int) := ⟨a1.toNat, by omega⟩
  have hc : (strOfNums [a2]).size = 1 := by rfl
  have hU1 : (t.extract 0 ((n : Int)).toNat ++ strOfNums [a2]).size ≤ 3001 := by
    rw [ByteArray.size_append, hc, ByteArray.size_extract]; omega
  have hU : (t.extract 0 ((n : Int)).toNat ++ strOfNums [a2] ++ t.extract ((n : Int)).toNat t.size).size ≤ 3001 := by
    rw [ByteArray.size_append, ByteArray.size_append, hc, ByteArray.size_extract, ByteArray.size_extract]; omega
  have hb1 : (t.extract 0 ((n : Int)).toNat).size + (strOfNums [a2]).size ≤ 9223372036854775807 := by
    rw [ByteArray.size_append] at hU1; omega
  have hb2 : (t.extract 0 ((n : Int)).toNat ++ strOfNums [a2]).size + (t.extract ((n : Int)).toNat t.size).size ≤ 9223372036854775807 := by
    rw [ByteArray.size_append] at hU; omega
  have key : ∃ k, proofmarklaw02_SynLexes.j0 k (n : Int) a2 true t false = some true := by
    rcases lex_cases (t.extract 0 ((n : Int)).toNat ++ strOfNums [a2] ++ t.extract ((n : Int)).toNat t.size) (by omega) with ⟨hn, hx⟩ | ⟨q, hn, hx⟩
    · obtain ⟨⟨ms, fs⟩, hp⟩ := prs_some ((LexP.lxA (t.extract 0 ((n : Int)).toNat ++ strOfNums [a2] ++ t.extract ((n : Int)).toNat t.size).data.toList 0).1.map toS)
      have hms : ms.length ≤ 16 := modules_most' hp
      refine ⟨ms.length + 2, ?_⟩
      rw [proofmarklaw02_SynLexes.j0, if_neg (by decide), if_pos (by omega), if_pos (by omega)]
      simp only [Option.bind_some]
      rw [if_pos hb1, if_pos hb2, hx]
      simp only [Option.bind_some]
      rw [parse_ok hx hp]
      simp only [Option.bind_some]
      rw [if_pos trivial]
      exact lexes_l0 _ (by omega) ms (by omega) (prs_named hp) ms.length (ms.length + 1) 0 (Nat.zero_le _) rfl (by omega)
    · refine ⟨1, ?_⟩
      rw [proofmarklaw02_SynLexes.j0, if_neg (by decide), if_pos (by omega), if_pos (by omega)]
      simp only [Option.bind_some]
      rw [if_pos hb1, if_pos hb2, hx]
      simp only [Option.bind_some]
      rw [parse_bad hx (by decide)]
      simp only [Option.bind_some]
      rw [if_neg (by decide), if_pos trivial, if_pos (by rfl), faults_true rfl]
      rfl
  obtain ⟨k, hk⟩ := key
  refine ⟨k, ?_⟩
  unfold proofmarklaw02_SynLexes.f
  rw [head_true, ht]
  simp only [Option.bind_some]
  rw [if_neg hn0, decide_eq_false hn1]
  exact hk
end Go.Proofs.YtenogedclignmaaDoor.Q
