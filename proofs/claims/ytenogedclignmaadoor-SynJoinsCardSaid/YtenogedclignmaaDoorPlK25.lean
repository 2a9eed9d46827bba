/-
  HELPER.
-/
import Derived.Test.YtenogedclignmaaDoorPlKA
import Derived.Test.YtenogedclignmaaDoorPlK24
set_option linter.unusedVariables false
set_option linter.unusedSimpArgs false
namespace Go.Proofs.YtenogedclignmaaDoor.Q
open Go.NumPure Go.RowKit Go.Proofs.YtenogedclignmaaDoorW.PrintWords Go.Proofs.YtenogedclignmaaDoorW.PrintLast Go.Proofs.YtenogedclignmaaDoorW.PrintMore
theorem few_cut (s : ByteArray) : ∃ t : ByteArray, proofmarklaw02_few.f s = some t ∧ t.size ≤ 3000 := by
 refine ⟨s.extract 0 (mn (s.size : Int) 3000).toNat, ?_, ?_⟩
 ·unfold proofmarklaw02_few.f
  rw [if_pos (by unfold mn; omega), if_pos (by unfold mn; omega)]
 ·simp; unfold mn; omega
theorem lex_small (s : ByteArray) (hs : s.size ≤ 20000) : lex_Lex.f s = some (lexF [] s.data.toList 0) := by unfold lex_Lex.f; rw [if_neg (by omega)]
theorem lexF_ok (l : List UInt8) (p : Nat) (h : (LexP.lxA l p).2 = none) : lexF [] l p = ((LexP.lxA l p).1.map toS, 0, 0) := by unfold lexF; rw [h]; simp
theorem lexF_bad (l : List UInt8) (p q : Nat) (h : (LexP.lxA l p).2 = some q) : lexF [] l p = ([], 10, (q : Int)) := by unfold lexF; rw [h]
theorem lex_cases (s : ByteArray) (hs : s.size ≤ 20000) :
  ((LexP.lxA s.data.toList 0).2 = none ∧ lex_Lex.f s = some ((LexP.lxA s.data.toList 0).1.map toS, 0, 0)) ∨ (∃ q : Nat, (LexP.lxA s.data.toList 0).2 = some q ∧ lex_Lex.f s = some ([], 10, (q : Int))) := by
 rw [lex_small s hs]
 cases h : (LexP.lxA s.data.toList 0).2 with
 | none => left; rw [lexF_ok _ _ h]; exact ⟨rfl, rfl⟩
 | some q => right; rw [lexF_bad _ _ q h]; exact ⟨q, rfl, rfl⟩
theorem parse_bad {s : ByteArray} {l : List Tok} {e p : Int} (h : lex_Lex.f s = some (l, e, p)) (he : e ≠ 0) : syn_Parse.f s = some ([], [⟨e, p, 0, 0⟩]) := by
 unfold syn_Parse.f; rw [h]; simp only; rw [if_neg he]
def prs (l : List Tok) : Option (List Mdl × List Wr) := modulesP (12 * l.length + 3) 0 [] [] l
theorem prs_some (l : List Tok) : ∃ y, prs l = some y := by
 cases h : prs l with
 | none => exact absurd h (tot_modules _ _ _ _ _ (Or.inl (Nat.le_refl _)))
 | some y => exact ⟨y, rfl⟩
theorem parse_ok {s : ByteArray} {l : List Tok} {p : Int} (h : lex_Lex.f s = some (l, 0, p)) {ms : List Mdl} {fs : List Wr} (hp : prs l = some (ms, fs)) : syn_Parse.f s = some (ms, fs.map (fltW s)) := by
 unfold syn_Parse.f; rw [h]; simp only; rw [if_pos trivial]; unfold prs at hp; rw [hp]; rfl
theorem tok_order (s : ByteArray) : ((LexP.lxA s.data.toList 0).1.map toS).Pairwise fun a b => a.f3 < b.f3 := by
 rw [List.pairwise_map, List.pairwise_iff_getElem]
 intro i j hi hj hij
 obtain ⟨_, _, h3, _, _, _, h7⟩ := LexP.lxA_places s.data.toList.length s.data.toList 0 (Nat.le_refl _) j _ (List.getElem?_eq_getElem hj)
 have h1 := h7 i _ hij (List.getElem?_eq_getElem hi)
 obtain ⟨_, _, g3, _⟩ := LexP.lxA_places s.data.toList.length s.data.toList 0 (Nat.le_refl _) i _ (List.getElem?_eq_getElem hi)
 show (((LexP.lxA s.data.toList 0).1[i]).pos : Int) < (((LexP.lxA s.data.toList 0).1[j]).pos : Int)
 omega
theorem tok_within (s : ByteArray) : ∀ t ∈ (LexP.lxA s.data.toList 0).1.map toS, 0 ≤ t.f3 ∧ t.f3 + t.f1.size ≤ s.size ∧ 1 ≤ t.f1.size := by
 intro t ht
 obtain ⟨u, hu, rfl⟩ := List.mem_map.1 ht
 obtain ⟨i, hi, rfl⟩ := List.mem_iff_getElem.1 hu
 obtain ⟨h1, h2, h3, _⟩ := LexP.lxA_places s.data.toList.length s.data.toList 0 (Nat.le_refl _) i _ (List.getElem?_eq_getElem hi)
 have hz : (toS (LexP.lxA s.data.toList 0).1[i]).f1.size = (LexP.lxA s.data.toList 0).1[i].text.length := rfl
 have hs : s.data.toList.length = s.size := by simp
 rw [hz]
 show 0 ≤ (((LexP.lxA s.data.toList 0).1[i]).pos : Int) ∧ (((LexP.lxA s.data.toList 0).1[i]).pos : Int) + _ ≤ _ ∧ _
 omega
theorem wrap_eq (x : Int) (h1 : 0 ≤ x) (h2 : x < 4611686018427387904) : wrap64 x = x := by unfold wrap64; omega
theorem rd_tok (l : List Tok) (i : Nat) (h : i < l.length) : rd_T37 l (i : Int) = l[i] := by simp [rd_T37, h]
theorem rd_flt (l : List Flt) (i : Nat) (h : i < l.length) : rd_T35 l (i : Int) = l[i] := by simp [rd_T35, h]
end Go.Proofs.YtenogedclignmaaDoor.Q
