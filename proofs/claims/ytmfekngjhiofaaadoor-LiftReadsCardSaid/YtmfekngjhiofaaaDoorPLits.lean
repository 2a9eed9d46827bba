/-
  Plain: what lift.Lits tells of a text has that text.
-/
import Derived.Test.YtmfekngjhiofaaaDoorPClause
import Derived.Test.YtmfekngjhiofaaaDoorPSplit
set_option linter.unusedVariables false
set_option linter.unusedSimpArgs false
namespace Go.Proofs.YtmfekngjhiofaaaDoor.Q
open Go.RowKit Go.Maps Go.WideMaps Go.Proofs.YtmfekngjhiofaaaDoorW.PrintWords Go.Proofs.YtmfekngjhiofaaaDoorW.PrintLast Go.Proofs.YtmfekngjhiofaaaDoorW.PrintMore
theorem lastIdx_get (l : List (List UInt8)) (t : List UInt8) (h : 0 < lastIdx l t) : l[lastIdx l t - 1]? = some t := by
  unfold lastIdx at h ⊢
  have hi : l.reverse.idxOf t < l.reverse.length := by rw [List.length_reverse]; omega
  have hq : l.reverse[l.reverse.idxOf t]? = some t := by rw [List.getElem?_eq_getElem hi, List.getElem_idxOf hi]
  rw [List.getElem?_reverse (by rw [List.length_reverse] at hi; exact hi)] at hq
  rwa [show l.length - l.reverse.idxOf t - 1 = l.length - 1 - l.reverse.idxOf t by omega]
theorem piece_text (cells : List S94) {lats : List S98} (hl : lats.length ≤ 1000000) {p : ByteArray} (h : pieceOk (textsB cells lats) p = true) : litOk lats.length (pieceV (textsB cells lats) p) = true ∧ wordB cells lats (pieceV (textsB cells lats) p) = p := by
  unfold pieceOk at h
  have h0 := of_decide_eq_true h
  have h1 : 0 < lastIdx (textsB cells lats) (restB p) := by omega
  have hg := lastIdx_get _ _ h1
  have hle := lastIdx_le (textsB cells lats) (restB p)
  have hlen : (textsB cells lats).length = lats.length := by unfold textsB; rw [List.length_map]
  rw [hlen] at hle
  unfold pieceV
  generalize lastIdx (textsB cells lats) (restB p) = i at h0 h1 hg hle ⊢
  have hi : i - 1 < lats.length := by omega
  have hx : (litB cells (lats[i - 1]).f3 (lats[i - 1]).f4).data.toList = restB p := by
    unfold textsB at hg
    rw [List.getElem?_map, List.getElem?_eq_getElem hi] at hg
    exact Option.some.inj hg
  have hrd : ∀ m : Int, m = (i : Int) → rd_T98 lats (m - 1) = lats[i - 1] := fun m hm => by
    subst hm
    unfold rd_T98
    rw [show ((i : Int) - 1).toNat = i - 1 by omega, List.getD_eq_getElem?_getD, List.getElem?_eq_getElem hi]; rfl
  by_cases ht : turnB p = true
  · rw [if_pos ht]
    have hm : magI (-(i : Int)) = (i : Int) := by unfold magI mx wrap64; split <;> omega
    refine ⟨by unfold litOk; rw [hm]; exact decide_eq_true (by omega), ?_⟩
    unfold wordB
    rw [if_pos (by omega), hm, hrd _ rfl]
    apply ba_list
    rw [ByteArray.data_append, Array.toList_append, hx]
    have ht2 := ht
    unfold turnB Lib.hasPrefix at ht2
    unfold restB Lib.trimPrefix
    rw [show Lib.hasPrefix p.data.toList [126] = true from ht, if_pos rfl]
    cases hd : p.data.toList with
    | nil => rw [hd] at ht2; simp [List.isPrefixOf] at ht2
    | cons a r =>
      rw [hd] at ht2
      simp [List.isPrefixOf] at ht2
      subst ht2
      rfl
  · rw [if_neg ht]
    have hm : magI (i : Int) = (i : Int) := by unfold magI mx wrap64; split <;> omega
    refine ⟨by unfold litOk; rw [hm]; exact decide_eq_true (by omega), ?_⟩
    unfold wordB
    rw [if_neg (by omega), hm, hrd _ rfl]
    apply ba_list
    rw [hx]
    unfold restB Lib.trimPrefix
    rw [if_neg (by exact ht)]
theorem lits_text (l1 : List S111) (l2 : List S94) (lats : List S98) (hl : lats.length ≤ 1000000) (u : ByteArray) :
    ((litsB l1 l2 lats u).2 = true → clauseB l1 l2 lats (litsB l1 l2 lats u).1 = u.data.toList ∧ (litsB l1 l2 lats u).1.length ≤ u.size + 1) ∧ ((litsB l1 l2 lats u).2 = false → (litsB l1 l2 lats u).1 = []) := by
  unfold litsB
  by_cases hc : (unlikeB (namesP l1) && unlikeB (namesC l2)) = true ∧ goesB l2.length lats = true
  · rw [if_pos hc]
    by_cases hf : u.data.toList = [102, 97, 108, 115, 101]
    · rw [if_pos hf]
      refine ⟨fun _ => ⟨?_, by simp⟩, fun h => by cases h⟩
      unfold clauseB
      rw [if_pos hc, if_pos rfl, hf]
    · rw [if_neg hf]
      by_cases ha : (piecesB u).all (pieceOk (textsB l2 lats)) = true
      · rw [readB_ok ha]
        refine ⟨fun _ => ?_, fun h => by cases h⟩
        have hall := List.all_eq_true.1 ha
        have hpl := piecesB_len u
        have hcl := Lib.countB_mul_le barB (by decide) u.size u (Nat.le_refl _)
        have e3 : barB.size = 3 := rfl
        rw [e3] at hcl
        refine ⟨?_, by rw [List.length_map, hpl]; omega⟩
        unfold clauseB
        rw [if_pos hc, if_neg (by intro e; have := congrArg List.length e; rw [List.length_map, hpl] at this; simp at this), if_pos (List.all_eq_true.2 fun x hx => by
          obtain ⟨p, hp, rfl⟩ := List.mem_map.1 hx
          exact (piece_text l2 hl (hall p hp)).1), List.map_map]
        have e : (piecesB u).map (wordB l2 lats ∘ pieceV (textsB l2 lats)) = piecesB u :=
          (List.map_congr_left (g := id) (fun p hp => (piece_text l2 hl (hall p hp)).2)).trans (List.map_id _)
        rw [e]
        exact joinB_split u barB (by decide)
      · rw [readB_bad (Bool.eq_false_iff.2 ha)]
        exact ⟨fun h => absurd h (by decide), fun _ => rfl⟩
  · rw [if_neg hc]
    exact ⟨fun h => absurd h (by decide), fun _ => rfl⟩
end Go.Proofs.YtmfekngjhiofaaaDoor.Q
