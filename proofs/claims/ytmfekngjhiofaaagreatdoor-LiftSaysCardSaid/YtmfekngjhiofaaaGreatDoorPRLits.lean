/-
  Plain: the document's Lits (layer 27) tells what lift.Lits tells.
-/
import Derived.Test.YtmfekngjhiofaaaGreatDoorQx20
import Derived.Test.YtmfekngjhiofaaaGreatDoorHRGoes
import Derived.Test.YtmfekngjhiofaaaGreatDoorHRClause
import Derived.Test.YtmfekngjhiofaaaGreatDoorPRCut
import Derived.Test.YtmfekngjhiofaaaGreatDoorPRNamed
import Derived.Test.YtmfekngjhiofaaaGreatDoorPClause
set_option linter.unusedVariables false
set_option linter.unusedSimpArgs false
namespace Go.Proofs.YtmfekngjhiofaaaGreatDoor.Q
open Go.RowKit Go.Proofs.YtmfekngjhiofaaaGreatDoorW.PrintWords Go.Proofs.YtmfekngjhiofaaaGreatDoorW.PrintLast Go.Proofs.YtmfekngjhiofaaaGreatDoorW.PrintMore
theorem pre_text' {s : List UInt8} (h : Lib.hasPrefix s [126] = true) : s = 126 :: Lib.trimPrefix s [126] := by
  unfold Lib.trimPrefix
  rw [if_pos h]
  unfold Lib.hasPrefix at h
  obtain ⟨r, rfl⟩ := List.isPrefixOf_iff_prefix.1 h
  rfl
theorem wrap_negN (m : Nat) (h : m ≤ 100000) : wrap64 (-(m : Int)) = -(m : Int) := by unfold wrap64; omega
theorem pieceV_snoc (l : List (List UInt8)) (t : List UInt8) (p : ByteArray) (ht : Lib.hasPrefix t [126] = false) :
    (p.data.toList = t → pieceV (l ++ [t]) p = ((l.length + 1 : Nat) : Int) ∧ p.data.toList ≠ 126 :: t) ∧
    (p.data.toList = 126 :: t → pieceV (l ++ [t]) p = -((l.length + 1 : Nat) : Int) ∧ p.data.toList ≠ t) ∧
    (p.data.toList ≠ t → p.data.toList ≠ 126 :: t → pieceV (l ++ [t]) p = pieceV l p) := by
  have hcons : ∀ r : List UInt8, Lib.hasPrefix (126 :: r) [126] = true := fun r => by unfold Lib.hasPrefix; simp [List.isPrefixOf]
  refine ⟨fun h => ?_, fun h => ?_, fun h1 h2 => ?_⟩
  · have hn : turnB p = false := by unfold turnB; rw [h]; exact ht
    have hr : restB p = t := by unfold restB Lib.trimPrefix; rw [h, if_neg (by rw [ht]; simp)]
    refine ⟨?_, fun e => ?_⟩
    · unfold pieceV
      rw [hn, hr, if_neg (by simp), lastIdx_snoc, if_pos rfl]
    · have := congrArg List.length (h.symm.trans e)
      simp at this
  · have hy : turnB p = true := by unfold turnB; rw [h]; exact hcons t
    have hr : restB p = t := by unfold restB Lib.trimPrefix; rw [h, if_pos (hcons t)]; rfl
    refine ⟨?_, fun e => ?_⟩
    · unfold pieceV
      rw [hy, hr, if_pos rfl, lastIdx_snoc, if_pos rfl]
    · have := congrArg List.length (h.symm.trans e)
      simp at this
  · have hr : restB p ≠ t := by
      intro e
      cases hy : turnB p with
      | false =>
        have : restB p = p.data.toList := by
          unfold restB Lib.trimPrefix
          unfold turnB at hy
          rw [if_neg (by rw [hy]; simp)]
        exact h1 (this.symm.trans e)
      | true =>
        unfold turnB at hy
        have hp := pre_text' hy
        unfold restB at e
        rw [e] at hp
        exact h2 hp
    unfold pieceV
    rw [lastIdx_snoc, if_neg hr]
section
variable (n0 : List S125) (n1 : List S72) (n2 : List S114) (n3 : List S105) (n4 : List S72) (a : Int) (l1 : List S199) (l2 : List S200) (lats : List S94) (l4 : List S202)
theorem lit_at (hg : goesB n2.length lats = true) (hcf : cellsFit n2 = true) (hw : lats.all (fun x => (Lit.int .i64 x.f4).wf) = true) (hl : lats.length ≤ 1000) (j : Nat) (hj : j < lats.length) :
    proofmarkref27_lit.f n0 n1 n2 n3 n4 a l1 l2 lats l4 ((j + 1 : Nat) : Int) = some (litB n2 lats[j].f3 lats[j].f4, true) := by
  have hm : magI ((j + 1 : Nat) : Int) = ((j + 1 : Nat) : Int) := (mag_pos _ (by omega) (by omega)).symm
  have hwf : (Lit.int .i64 ((j + 1 : Nat) : Int)).wf = true := wf_of _ (by omega) (by omega)
  have hok : litOk lats.length ((j + 1 : Nat) : Int) = true := by unfold litOk; rw [hm]; exact decide_eq_true ⟨by omega, by omega⟩
  unfold proofmarkref27_lit.f
  rw [if_pos (by rw [hg, hcf, hw, hwf]; rfl), if_pos hok]
  unfold wordB
  have hrd : rd_T94 lats (((j + 1 : Nat) : Int) - 1) = lats[j] := by
    rw [show ((j + 1 : Nat) : Int) - 1 = (j : Int) by omega]
    simp [rd_T94, hj]
  rw [if_neg (by omega), hm, hrd]
theorem lits_l1 (hg : goesB n2.length lats = true) (hcf : cellsFit n2 = true) (hw : lats.all (fun x => (Lit.int .i64 x.f4).wf) = true) (hl : lats.length ≤ 1000) (hn : NamesOk n2)
    (out : List Int) (ps : List ByteArray) (i : Nat) (hi : i < ps.length) (hps : ps.length ≤ 100000) (hout : out.length ≤ 100000) (F : Nat) (R : Option (List Int × Bool))
    (hR : ∀ k, F < k → pieceOk (textsB n2 lats) ps[i] = true → proofmarkref27_Lits.l0 k (out ++ [pieceV (textsB n2 lats) ps[i]]) ps ((i + 1 : Nat) : Int) n0 n1 n2 n3 n4 a l1 l2 lats l4 = R)
    (hB : pieceOk (textsB n2 lats) ps[i] = false → R = some ([], false)) (d : Nat) : ∀ (k j : Nat), lats.length - j = d → j ≤ lats.length → d + F + 1 < k →
    proofmarkref27_Lits.l1 k out ps (i : Int) (pieceV ((textsB n2 lats).take j) ps[i]) ((j + 1 : Nat) : Int) n0 n1 n2 n3 n4 a l1 l2 lats l4 = R := by
  have htl : (textsB n2 lats).length = lats.length := by unfold textsB; simp
  induction d with
  | zero =>
    intro k j h1 h2 h3
    obtain ⟨k, rfl⟩ : ∃ q, k = q + 1 := ⟨k - 1, by omega⟩
    have htk : (textsB n2 lats).take j = textsB n2 lats := List.take_of_length_le (by omega)
    rw [htk]
    simp only [proofmarkref27_Lits.l1]
    rw [if_neg (by omega)]
    have hle := lastIdx_le (textsB n2 lats) (restB ps[i])
    by_cases hok : pieceOk (textsB n2 lats) ps[i] = true
    · have hne : ¬ pieceV (textsB n2 lats) ps[i] = 0 := by
        have h0 : 0 < (lastIdx (textsB n2 lats) (restB ps[i]) : Int) := of_decide_eq_true hok
        unfold pieceV
        split <;> omega
      rw [if_neg hne, if_pos (by omega), wrap_one i (by omega)]
      exact hR k (by omega) hok
    · have hz : pieceV (textsB n2 lats) ps[i] = 0 := by
        have h0 : ¬ 0 < (lastIdx (textsB n2 lats) (restB ps[i]) : Int) := fun h => hok (decide_eq_true h)
        have h00 : (lastIdx (textsB n2 lats) (restB ps[i]) : Int) = 0 := by omega
        unfold pieceV
        rw [h00]
        split <;> rfl
      rw [if_pos hz, hB (Bool.eq_false_iff.2 hok)]
  | succ d ih =>
    intro k j h1 h2 h3
    obtain ⟨k, rfl⟩ : ∃ q, k = q + 1 := ⟨k - 1, by omega⟩
    have hj : j < lats.length := by omega
    have hlit := lit_at n0 n1 n2 n3 n4 a l1 l2 lats l4 hg hcf hw hl j hj
    have hmem := goesFrom_mem _ _ _ _ hg _ (List.getElem_mem hj)
    have hnp := head_not n2 hn hmem.2.1 hmem.2.2 lats[j].f4
    have hsz : (litB n2 lats[j].f3 lats[j].f4).size ≤ 10023 := litB_size _ _ _ (fun x hx => by have := (cellsFit_out hcf).2 x hx; omega) (by have := List.all_eq_true.1 hw _ (List.getElem_mem hj); exact this)
    have htake : (textsB n2 lats).take (j + 1) = (textsB n2 lats).take j ++ [(litB n2 lats[j].f3 lats[j].f4).data.toList] := by
      have hj' : j < (textsB n2 lats).length := by omega
      have hgx : (textsB n2 lats)[j] = (litB n2 lats[j].f3 lats[j].f4).data.toList := List.getElem_map _
      rw [List.take_add_one, List.getElem?_eq_getElem hj', hgx]
      rfl
    have hpl : ((textsB n2 lats).take j).length = j := by rw [List.length_take]; omega
    have hv := pieceV_snoc ((textsB n2 lats).take j) (litB n2 lats[j].f3 lats[j].f4).data.toList ps[i] hnp
    rw [← htake, hpl] at hv
    have hih := ih k (j + 1) (by omega) (by omega) (by omega)
    have hrd := rdOf_at ps i hi
    have htil : ((⟨#[126]⟩ : ByteArray) ++ litB n2 lats[j].f3 lats[j].f4).toList = 126 :: (litB n2 lats[j].f3 lats[j].f4).data.toList := by
      rw [ByteArray.toList_eq, ByteArray.data_append, Array.toList_append]; rfl
    simp only [proofmarkref27_Lits.l1]
    rw [if_pos (by omega), hlit, Option.bind_some, if_pos (by omega), if_pos (by omega), hrd, wrap_one (j + 1) (by omega), htil]
    rw [wrap_negN (j + 1) (by omega), ByteArray.toList_eq (litB n2 lats[j].f3 lats[j].f4), ByteArray.toList_eq ps[i]]
    have hs1 : 1 + (litB n2 lats[j].f3 lats[j].f4).size ≤ 9223372036854775807 := Nat.le_trans (Nat.add_le_add_left hsz 1) (by decide)
    clear hsz
    by_cases e1 : (litB n2 lats[j].f3 lats[j].f4).data.toList = ps[i].data.toList
    · obtain ⟨q1, q2⟩ := hv.1 e1.symm
      rw [if_pos e1, if_pos hs1, if_neg (fun e => q2 e.symm)]
      rw [q1] at hih
      exact hih
    · by_cases e2 : 126 :: (litB n2 lats[j].f3 lats[j].f4).data.toList = ps[i].data.toList
      · obtain ⟨q1, q2⟩ := hv.2.1 e2.symm
        rw [if_neg e1, if_pos hs1, if_pos e2]
        rw [q1] at hih
        exact hih
      · have q1 := hv.2.2 (fun e => e1 e.symm) (fun e => e2 e.symm)
        rw [if_neg e1, if_pos hs1, if_neg e2]
        rw [q1] at hih
        exact hih
theorem lits_l0 (hg : goesB n2.length lats = true) (hcf : cellsFit n2 = true) (hw : lats.all (fun x => (Lit.int .i64 x.f4).wf) = true) (hl : lats.length ≤ 1000) (hn : NamesOk n2)
    (ps : List ByteArray) (hps : ps.length ≤ 100000) (d : Nat) : ∀ (k i : Nat) (out : List Int), ps.length - i = d → i ≤ ps.length → d * 1010 + 2 < k → out.length ≤ i →
    proofmarkref27_Lits.l0 k out ps (i : Int) n0 n1 n2 n3 n4 a l1 l2 lats l4 = some (if (ps.drop i).all (pieceOk (textsB n2 lats)) = true then (out ++ (ps.drop i).map (pieceV (textsB n2 lats)), true) else ([], false)) := by
  induction d with
  | zero =>
    intro k i out h1 h2 h3 h4
    obtain ⟨k, rfl⟩ : ∃ q, k = q + 1 := ⟨k - 1, by omega⟩
    simp only [proofmarkref27_Lits.l0]
    rw [if_neg (by omega), List.drop_eq_nil_of_le (by omega)]
    simp
  | succ d ih =>
    intro k i out h1 h2 h3 h4
    obtain ⟨k, rfl⟩ : ∃ q, k = q + 1 := ⟨k - 1, by omega⟩
    have hi : i < ps.length := by omega
    have hout : (out ++ [pieceV (textsB n2 lats) ps[i]]).length = out.length + 1 := by rw [List.length_append]; rfl
    simp only [proofmarkref27_Lits.l0]
    rw [if_pos (by omega)]
    have := lits_l1 n0 n1 n2 n3 n4 a l1 l2 lats l4 hg hcf hw hl hn out ps i hi hps (by omega) (d * 1010 + 2)
      (some (if (ps.drop i).all (pieceOk (textsB n2 lats)) = true then (out ++ (ps.drop i).map (pieceV (textsB n2 lats)), true) else ([], false)))
      (fun k hk hok => by
        rw [ih k (i + 1) _ (by omega) (by omega) hk (by omega), List.drop_eq_getElem_cons hi, List.all_cons, hok, Bool.true_and, List.map_cons, List.append_assoc]
        rfl)
      (fun hbad => by rw [List.drop_eq_getElem_cons hi, List.all_cons, hbad, Bool.false_and]; rfl)
      lats.length k 0 (by omega) (by omega) (by omega)
    have e0 : pieceV ((textsB n2 lats).take 0) ps[i] = 0 := by
      unfold pieceV
      have : lastIdx ((textsB n2 lats).take 0) (restB ps[i]) = 0 := rfl
      rw [this]
      split <;> rfl
    rw [e0] at this
    exact this
theorem refLits_f (h1l : n1.length ≤ 1000) (h1z : ∀ x ∈ n1, x.f0.size ≤ 1000) (h2 : n2.length ≤ 1000) (hz : ∀ x ∈ n2, x.f0.size ≤ 1000) (hw : lats.all (fun x => (Lit.int .i64 x.f4).wf) = true) (hl : lats.length ≤ 1000) (s : ByteArray) (hs : s.size ≤ 10000) (k : Nat) (hk : 30000000 ≤ k) :
    proofmarkref27_Lits.f k n0 n1 n2 n3 n4 a l1 l2 lats l4 s = some (litsB n1 n2 lats s) := by
  obtain ⟨k, rfl⟩ : ∃ q, k = q + 1 := ⟨k - 1, by omega⟩
  have hcf : cellsFit n2 = true := by
    unfold cellsFit
    rw [decide_eq_true h2, Bool.true_and]
    exact List.all_eq_true.2 fun x hx => decide_eq_true (hz x hx)
  have hjt : proofmarkref27_Lits.j0 (k + 1) s [] true n0 n1 n2 n3 n4 a l1 l2 lats l4 = some (([] : List Int), false) := by
    simp only [proofmarkref27_Lits.j0]; rw [if_pos trivial]
  unfold proofmarkref27_Lits.f
  rw [Option.bind_some, named_f n0 n1 n2 n3 n4 h1l h1z h2 hz (k + 1) (by omega), Option.bind_some]
  unfold litsB
  by_cases hN : (unlikeB (namesP n1) && unlikeB (namesC n2)) = true
  · have hn := names_ok (Bool.and_eq_true_iff.1 hN).2
    rw [if_pos hN]
    show ((some (goesB n2.length lats)).bind fun t => _) = _
    rw [Option.bind_some]
    by_cases hg : goesB n2.length lats = true
    · rw [if_pos ⟨hN, hg⟩, hg]
      have hsz : s.size + (⟨#[32, 124, 32]⟩ : ByteArray).size < 1000000000 := by
        have e : (⟨#[32, 124, 32]⟩ : ByteArray).size = 3 := rfl
        rw [e]; omega
      have hpl : (splitS s ⟨#[32, 124, 32]⟩).length ≤ s.size + 1 := splitS_bound s _ (by decide)
      have hcut := cut_f s ⟨#[32, 124, 32]⟩ (by decide) hsz k (by omega)
      show proofmarkref27_Lits.j0 (k + 1) s [] false n0 n1 n2 n3 n4 a l1 l2 lats l4 = _
      simp only [proofmarkref27_Lits.j0]
      rw [if_neg (by simp)]
      by_cases hf : s.data.toList = [102, 97, 108, 115, 101]
      · rw [if_pos (by rw [ByteArray.toList_eq]; exact hf), if_pos hf]
      · rw [if_neg (by rw [ByteArray.toList_eq]; exact hf), if_neg hf, hcut, Option.bind_some]
        have := lits_l0 n0 n1 n2 n3 n4 a l1 l2 lats l4 hg hcf hw hl hn (splitS s ⟨#[32, 124, 32]⟩) (by omega) _ k 0 [] rfl (by omega) (by
          have : ((splitS s ⟨#[32, 124, 32]⟩).length - 0) * 1010 ≤ 10001 * 1010 := Nat.mul_le_mul_right _ (by omega)
          omega) (by simp)
        rw [List.drop_zero, List.nil_append] at this
        exact this
    · rw [if_neg (fun h => hg h.2)]
      have hgf := Bool.eq_false_iff.2 hg
      rw [hgf]
      exact hjt
  · rw [if_neg hN, if_neg (fun h => hN h.1)]
    exact hjt
end
end Go.Proofs.YtmfekngjhiofaaaGreatDoor.Q
