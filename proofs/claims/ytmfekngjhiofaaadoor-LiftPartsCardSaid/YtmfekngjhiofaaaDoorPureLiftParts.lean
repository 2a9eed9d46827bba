/-
  Plain: LiftParts' printed function answers true.
-/
import Derived.Test.YtmfekngjhiofaaaDoorLLiftParts
import Derived.Test.YtmfekngjhiofaaaDoorPHeadL
import Derived.Test.YtmfekngjhiofaaaDoorPLift
import Derived.Test.YtmfekngjhiofaaaDoorPClause
import Derived.Test.YtmfekngjhiofaaaDoorPSplit
set_option linter.unusedVariables false
set_option linter.unusedSimpArgs false
namespace Go.Proofs.YtmfekngjhiofaaaDoor.Q
open Go.RowKit Go.Proofs.YtmfekngjhiofaaaDoorW.PrintWords Go.Proofs.YtmfekngjhiofaaaDoorW.PrintLast Go.Proofs.YtmfekngjhiofaaaDoorW.PrintMore
theorem head_from (k : Nat) (hk : 12 ≤ k) : proofmarklaw27_head.f k = some true := by
  obtain ⟨d, rfl⟩ : ∃ d, k = 12 + d := ⟨k - 12, by omega⟩
  induction d with
  | zero => exact head_true
  | succ d ih => exact proofmarklaw27_head.mono _ _ (ih (by omega))
theorem clause_f (n1 : List S111) (n2 : List S94) (l3 : List S98) (h3 : ∀ p ∈ l3, (Lit.int .i64 p.f4).wf = true) (l : List Int) (hl : l.length ≤ 10000) :
    lift_Clause.f [] (pinsC n1) (cellsC n2) [] [] 0 [] [] (latsC l3) [] l = some ⟨(clauseB (pinsC n1) (cellsC n2) (latsC l3) l).toArray⟩ := by
  unfold lift_Clause.f
  have hf : clauseFit (pinsC n1) (cellsC n2) (latsC l3) l = true := by
    unfold clauseFit
    rw [shortP_C, shortC_C, smallC_C, latsC_wf l3 h3, decide_eq_true hl]; rfl
  rw [if_pos hf]
theorem lp_size (l : List UInt8) : (⟨l.toArray⟩ : ByteArray).size = l.length := by show l.toArray.size = _; rw [List.size_toArray]
theorem lp_toList (l : List UInt8) : (⟨l.toArray⟩ : ByteArray).toList = l := by rw [ByteArray.toList_eq]
theorem join_snoc (c : List UInt8) : ∀ (w : List UInt8) (ws : List (List UInt8)) (x : List UInt8), Lib.join (w :: ws ++ [x]) c = Lib.join (w :: ws) c ++ (c ++ x)
  | w, [], x => by rw [join_one]; show Lib.join (w :: [x]) c = _; rw [join_two, join_one]
  | w, w' :: ws, x => by
    have ih := join_snoc c w' ws x
    rw [join_two, List.cons_append, List.cons_append, join_two]
    rw [List.cons_append] at ih
    rw [ih]; simp
theorem wf64 (x : Int) (h : (Lit.int .i64 x).wf = true) : -9223372036854775808 ≤ x ∧ x ≤ 9223372036854775807 := by
  have hmin : IntKind.i64.min = -9223372036854775808 := rfl
  have hmax : IntKind.i64.max = 9223372036854775807 := rfl
  simp only [Lit.wf, Bool.and_eq_true, decide_eq_true_eq] at h
  omega
def negI (x : Int) : Int := wrap64 (-x)
theorem magI_neg {x : Int} (h : (Lit.int .i64 x).wf = true) : magI (negI x) = magI x := by
  have hr : -9223372036854775808 ≤ x ∧ x ≤ 9223372036854775807 := wf64 x h
  unfold magI negI mx wrap64
  omega
theorem litOk_neg {n : Nat} {x : Int} (h : (Lit.int .i64 x).wf = true) : litOk n (negI x) = litOk n x := by unfold litOk; rw [magI_neg h]
abbrev Named (l1 : List S111) (l2 : List S94) (lats : List S98) : Prop := (unlikeB (namesP l1) && unlikeB (namesC l2)) = true ∧ goesB l2.length lats = true
section
variable (l1 : List S111) (l2 : List S94) (lats : List S98)
theorem cl_no (h : ¬ Named l1 l2 lats) (l : List Int) : clauseB l1 l2 lats l = [] := by unfold clauseB; exact if_neg h
theorem cl_bad (l : List Int) (hl : l ≠ []) (h : l.all (litOk lats.length) = false) : clauseB l1 l2 lats l = [] := by
  unfold clauseB
  by_cases hn : Named l1 l2 lats
  · rw [if_pos hn, if_neg hl, if_neg (by rw [h]; simp)]
  · exact if_neg hn
theorem cl_one (h : Named l1 l2 lats) (x : Int) (hx : litOk lats.length x = true) : clauseB l1 l2 lats [x] = (wordB l2 lats x).data.toList := by
  unfold clauseB
  rw [if_pos h, if_neg (by simp), if_pos (by simp [hx])]
  unfold joinB
  rw [List.map_cons, List.map_nil, List.map_cons, List.map_nil, join_one]
theorem cl_all (h : Named l1 l2 lats) (l : List Int) (hl : l ≠ []) (hx : l.all (litOk lats.length) = true) : clauseB l1 l2 lats l = joinB (l.map (wordB l2 lats)) barB := by
  unfold clauseB
  rw [if_pos h, if_neg hl, if_pos hx]
theorem word_ne (x : Int) : (wordB l2 lats x).data.toList ≠ [] := fun e => by have := word_last l2 lats x; rw [e] at this; cases this
theorem word_turned (x : Int) (hx : 0 < x) (hw : (Lit.int .i64 x).wf = true) : (wordB l2 lats (negI x)).data.toList = 126 :: (wordB l2 lats x).data.toList := by
  have hr : -9223372036854775808 ≤ x ∧ x ≤ 9223372036854775807 := wf64 x hw
  have hn : negI x < 0 := by unfold negI wrap64; omega
  unfold wordB
  rw [magI_neg hw, if_pos hn, if_neg (by omega), ByteArray.data_append, Array.toList_append]
  rfl
/-- the words so far -/
def soFar (l : List Int) : List UInt8 := joinB (l.map (wordB l2 lats)) barB
theorem soFar_snoc (l : List Int) (x : Int) : soFar l2 lats (l ++ [x]) = if l = [] then (wordB l2 lats x).data.toList else soFar l2 lats l ++ ([32, 124, 32] ++ (wordB l2 lats x).data.toList) := by
  cases l with
  | nil => rw [if_pos rfl]; unfold soFar joinB; simp [join_one]
  | cons y l =>
    rw [if_neg (by simp)]
    unfold soFar joinB
    rw [List.map_append, List.map_append, List.map_cons, List.map_cons, List.map_cons, List.map_nil, List.map_cons, List.map_nil, join_snoc]
    rfl
end
theorem bne_ff {a b : Bool} (h : a = b) : ¬ (a != b) = true := by subst h; simp
set_option maxHeartbeats 4000000 in
theorem lp_loop (n1 : List S111) (n2 : List S94) (l3 : List S98) (h3 : ∀ p ∈ l3, (Lit.int .i64 p.f4).wf = true) (q : List Int) (hq : q.length ≤ 30) (hw : ∀ x ∈ q, (Lit.int .i64 x).wf = true) (d : Nat) : ∀ (k i : Nat) (s : ByteArray), i ≤ q.length → q.length - i = d → 2 * d + 2 < k → (q.take i).all (litOk (latsC l3).length) = true → (0 < i → Named (pinsC n1) (cellsC n2) (latsC l3)) → s.data.toList = soFar (cellsC n2) (latsC l3) (q.take i) → s.size ≤ 20000 * i → proofmarklaw27_LiftParts.l0 k true q s (i : Int) [] (pinsC n1) (cellsC n2) [] [] 0 [] [] (latsC l3) [] = some true := by
  induction d with
  | zero =>
    intro k i s h1 h2 h3k hall hnm hs hsz
    obtain ⟨k, rfl⟩ : ∃ m, k = m + 1 := ⟨k - 1, by omega⟩
    simp only [proofmarklaw27_LiftParts.l0]
    rw [if_neg (by omega), if_pos trivial]
    by_cases hl : (q.length : Int) = 0
    · rw [if_pos hl]
    · rw [if_neg hl, clause_f n1 n2 l3 h3 q (by omega)]
      simp only [Option.bind_some]
      have hi : q.take i = q := List.take_of_length_le (by omega)
      rw [hi] at hall hs
      rw [lp_toList, ByteArray.toList_eq, hs, cl_all _ _ _ (hnm (by omega)) q (by intro e; rw [e] at hl; simp at hl) hall]
      unfold soFar
      simp
  | succ d ih =>
    intro k i s h1 h2 h3k hall hnm hs hsz
    obtain ⟨k, rfl⟩ : ∃ m, k = m + 2 := ⟨k - 2, by omega⟩
    have hi : i < q.length := by omega
    have hx := hw _ (List.getElem_mem hi)
    have e1 : (q.take (i + 1)).drop i = [q[i]] := by
      rw [List.drop_take, show i + 1 - i = 1 by omega, List.drop_eq_getElem_cons hi]; rfl
    have e2 : rd q (i : Int) = q[i] := by simp [rd, hi]
    have hv1 : clauseB (pinsC n1) (cellsC n2) (latsC l3) [q[i]] = [] → proofmarklaw27_LiftParts.j1 (k + 1) true q s (i : Int) ⟨(clauseB (pinsC n1) (cellsC n2) (latsC l3) [q[i]]).toArray⟩ false [] (pinsC n1) (cellsC n2) [] [] 0 [] [] (latsC l3) [] = (lift_Clause.f [] (pinsC n1) (cellsC n2) [] [] 0 [] [] (latsC l3) [] q).bind fun t => some (t.toList == ([] : List UInt8)) := by
      intro hz
      simp only [proofmarklaw27_LiftParts.j1]
      rw [if_neg (by simp), if_pos (by rw [lp_toList]; exact hz), if_pos trivial]
    simp only [proofmarklaw27_LiftParts.l0]
    rw [if_pos (by omega), if_pos (by omega), wrap_one i (by omega), if_pos (by omega), if_pos (by omega), Int.toNat_natCast, Int.toNat_natCast, e1, e2, clause_f n1 n2 l3 h3 [q[i]] (by simp)]
    simp only [Option.bind_some]
    show (lift_Clause.f [] (pinsC n1) (cellsC n2) [] [] 0 [] [] (latsC l3) [] [negI q[i]]).bind _ = some true
    rw [clause_f n1 n2 l3 h3 [negI q[i]] (by simp)]
    simp only [Option.bind_some]
    rw [lp_toList, lp_toList]
    have hqne : q ≠ [] := fun e => by rw [e] at hi; simp at hi
    by_cases hN : Named (pinsC n1) (cellsC n2) (latsC l3)
    · by_cases hL : litOk (latsC l3).length q[i] = true
      · -- it has a text
        have hone := cl_one _ _ _ hN _ hL
        have htwo := cl_one _ _ _ hN (negI q[i]) (by rw [litOk_neg hx]; exact hL)
        have n1' := word_ne (cellsC n2) (latsC l3) q[i]
        have n2' := word_ne (cellsC n2) (latsC l3) (negI q[i])
        have hsn := soFar_snoc (cellsC n2) (latsC l3) (q.take i) q[i]
        have htk : q.take (i + 1) = q.take i ++ [q[i]] := by rw [List.take_add_one, List.getElem?_eq_getElem hi]; rfl
        rw [← htk] at hsn
        have hall' := all_take_snoc hi hall hL
        have hws := wordB_size (cellsC n2) (latsC l3) q[i] (fun x hx => by have := cellsC_size n2 x hx; omega) (latsC_wf l3 h3) hL
        have hwt : 0 < q[i] → (wordB (cellsC n2) (latsC l3) (negI q[i])).data.toList = 126 :: (wordB (cellsC n2) (latsC l3) q[i]).data.toList := fun hp => word_turned _ _ _ hp hx
        rw [hone, htwo]
        have hws' : (wordB (cellsC n2) (latsC l3) q[i]).data.toList.length ≤ 10024 := by simpa using hws
        generalize (wordB (cellsC n2) (latsC l3) q[i]).data.toList = o at *
        generalize (wordB (cellsC n2) (latsC l3) (negI q[i])).data.toList = u at *
        have hoz := lp_size o
        have hj : proofmarklaw27_LiftParts.j1 (k + 1) true q s (i : Int) ⟨o.toArray⟩ false [] (pinsC n1) (cellsC n2) [] [] 0 [] [] (latsC l3) [] = some true := by
          simp only [proofmarklaw27_LiftParts.j1]
          rw [if_neg (by simp), if_neg (by rw [lp_toList]; exact n1')]
          by_cases hp : (i : Int) > 0
          · have hne : q.take i ≠ [] := fun e => by have := congrArg List.length e; rw [List.length_take, List.length_nil] at this; omega
            rw [if_neg hne] at hsn
            have hz3 : (s ++ (⟨#[32, 124, 32]⟩ : ByteArray)).size = s.size + 3 := by rw [ByteArray.size_append]; rfl
            have hz4 : ((s ++ (⟨#[32, 124, 32]⟩ : ByteArray)) ++ (⟨o.toArray⟩ : ByteArray)).size = s.size + 3 + o.length := by rw [ByteArray.size_append, hz3, hoz]
            rw [if_pos hp, if_pos (by omega), if_pos (by omega), wrap_one i (by omega)]
            refine ih k (i + 1) _ (by omega) (by omega) (by omega) hall' (fun _ => hN) ?_ (by rw [hz4]; omega)
            rw [hsn, ← hs, ByteArray.data_append, ByteArray.data_append, Array.toList_append, Array.toList_append, List.append_assoc]
          · have hi0 : i = 0 := by omega
            have hne : q.take i = [] := by rw [hi0]; rfl
            rw [if_pos hne] at hsn
            have hs0 : s.data.toList = [] := by rw [hs, hne]; rfl
            have hz4 : (s ++ (⟨o.toArray⟩ : ByteArray)).size = s.size + o.length := by rw [ByteArray.size_append, hoz]
            rw [if_neg hp, if_pos (by omega), wrap_one i (by omega)]
            refine ih k (i + 1) _ (by omega) (by omega) (by omega) hall' (fun _ => hN) ?_ (by rw [hz4]; omega)
            rw [hsn, ByteArray.data_append, Array.toList_append, hs0]; rfl
        have b1 : (o == ([] : List UInt8)) = false := by cases o with | nil => exact absurd rfl n1' | cons _ _ => rfl
        have b2 : (u == ([] : List UInt8)) = false := by cases u with | nil => exact absurd rfl n2' | cons _ _ => rfl
        rw [if_neg (bne_ff (by rw [b1, b2])), if_neg n1']
        by_cases hp : q[i] > 0
        · have hu := hwt hp
          have hb : (u != ((⟨#[126]⟩ : ByteArray) ++ (⟨o.toArray⟩ : ByteArray)).toList) = false := by
            rw [ByteArray.toList_eq, ByteArray.data_append, Array.toList_append, hu]
            simp
          rw [if_pos hp, if_pos (by omega), hb]
          exact hj
        · rw [if_neg hp]; exact hj
      · -- it has none
        have hL' := Bool.eq_false_iff.2 hL
        have z1 := cl_bad (pinsC n1) (cellsC n2) (latsC l3) [q[i]] (by simp) (by rw [List.all_cons, hL']; rfl)
        have z2 := cl_bad (pinsC n1) (cellsC n2) (latsC l3) [negI q[i]] (by simp) (by rw [List.all_cons, litOk_neg hx, hL']; rfl)
        have z3 := cl_bad (pinsC n1) (cellsC n2) (latsC l3) q hqne (all_take_false hi hL')
        rw [if_neg (bne_ff (by rw [z1, z2])), if_pos z1, hv1 z1, clause_f n1 n2 l3 h3 q (by omega)]
        simp only [Option.bind_some]
        rw [lp_toList, z3]; rfl
    · have z1 := cl_no _ _ _ hN [q[i]]
      have z2 := cl_no _ _ _ hN [negI q[i]]
      have z3 := cl_no _ _ _ hN q
      rw [if_neg (bne_ff (by rw [z1, z2])), if_pos z1, hv1 z1, clause_f n1 n2 l3 h3 q (by omega)]
      simp only [Option.bind_some]
      rw [lp_toList, z3]; rfl
theorem LiftParts (k : Nat) (hk : 2000 ≤ k) (n0 : List S96) (n1 : List S111) (n2 : List S94) (n3 : List S73) (n4 : List S111) (a : Int) (l1 : List S201) (l2 : List S202) (l3 : List S98) (l4 : List S204) (tr : List (List Int)) (l : List Int) (s : ByteArray)
    (h3 : ∀ p ∈ l3, (Lit.int .i64 p.f4).wf = true) (h : ∀ y ∈ l, (Lit.int .i64 y).wf = true) : proofmarklaw27_LiftParts.f k n0 n1 n2 n3 n4 a l1 l2 l3 l4 tr l s = some true := by
  unfold proofmarklaw27_LiftParts.f
  rw [head_from k (by omega), fit27_f n0 n1 n2 n3 n4 a l1 l2 l3 l4 tr l s k (by omega)]
  simp only [Option.bind_some]
  have e : l.take (min l.length 30) = l.take 30 := by rw [List.take_eq_take_iff]; omega
  rw [show (30 : Int) = ((30 : Nat) : Int) from rfl, mn_nat, if_pos (by omega), if_pos (by omega), Int.toNat_natCast, e]
  have hl : (l.take 30).length ≤ 30 := by simp; omega
  have hw : ∀ y ∈ l.take 30, (Lit.int .i64 y).wf = true := fun y hy => h y (List.mem_of_mem_take hy)
  exact lp_loop n1 n2 l3 h3 (l.take 30) hl hw _ k 0 ⟨#[]⟩ (by omega) rfl (by omega) rfl (fun h => absurd h (by omega)) rfl (by show 0 ≤ _; omega)
end Go.Proofs.YtmfekngjhiofaaaDoor.Q
