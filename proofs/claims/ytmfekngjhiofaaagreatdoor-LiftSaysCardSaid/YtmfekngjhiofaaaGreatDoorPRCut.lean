/-
  Plain: the document's find and cut (layer 27): a text, cut at each place of another one, is what strings.Split tells.
-/
import Derived.Test.YtmfekngjhiofaaaGreatDoorQx11
import Derived.Test.YtmfekngjhiofaaaGreatDoorQx12
import Derived.Test.YtmfekngjhiofaaaGreatDoorPSplit
import Derived.Test.YtmfekngjhiofaaaGreatDoorPCutOne
import Derived.Test.YtmfekngjhiofaaaGreatDoorPCut
set_option linter.unusedVariables false
set_option linter.unusedSimpArgs false
namespace Go.Proofs.YtmfekngjhiofaaaGreatDoor.Q
open Go.RowKit Go.Proofs.YtmfekngjhiofaaaGreatDoorW.PrintWords Go.Proofs.YtmfekngjhiofaaaGreatDoorW.PrintLast Go.Proofs.YtmfekngjhiofaaaGreatDoorW.PrintMore
theorem ext_list (s : ByteArray) (a b : Nat) : (s.extract a b).data.toList = (s.data.toList.take b).drop a := by
  rw [ByteArray.data_extract, Array.toList_extract, List.extract_eq_take_drop]
  rw [List.drop_take]
/-- where a text stands in another one from a place on -/
def FindAt (s w : List UInt8) (i : Nat) (r : Int) : Prop := (r = -1 ∧ ∀ j, i ≤ j → Lib.occAt s w j = false) ∨ (∃ j : Nat, r = j ∧ i ≤ j ∧ j + w.length ≤ s.length ∧ Lib.occAt s w j = true ∧ ∀ q, i ≤ q → q < j → Lib.occAt s w q = false)
theorem find_l0 (s w : ByteArray) (hw : 1 ≤ w.size) (hs : s.size + w.size < 4611686018427387904) (d : Nat) : ∀ (k i : Nat), s.size - i = d → i ≤ s.size → d < k → ∃ r, proofmarkref27_find.l0 k s w (i : Int) = some r ∧ FindAt s.data.toList w.data.toList i r := by
  have hsl : s.data.toList.length = s.size := by simp
  have hwl : w.data.toList.length = w.size := by simp
  induction d with
  | zero =>
    intro k i h1 h2 h3
    obtain ⟨k, rfl⟩ : ∃ q, k = q + 1 := ⟨k - 1, by omega⟩
    refine ⟨-1, ?_, .inl ⟨rfl, fun j hj => ?_⟩⟩
    · simp only [proofmarkref27_find.l0]
      have e : wrap64 ((i : Int) + (w.size : Int)) = (i : Int) + w.size := by unfold wrap64; omega
      rw [e, if_neg (by omega)]
    · cases ho : Lib.occAt s.data.toList w.data.toList j with
      | false => rfl
      | true =>
        rcases Lib.occAt_room ho with h | h
        · omega
        · rw [h] at hwl; simp at hwl; omega
  | succ d ih =>
    intro k i h1 h2 h3
    obtain ⟨k, rfl⟩ : ∃ q, k = q + 1 := ⟨k - 1, by omega⟩
    have e : wrap64 ((i : Int) + (w.size : Int)) = ((i + w.size : Nat) : Int) := by unfold wrap64; omega
    simp only [proofmarkref27_find.l0]
    rw [e]
    by_cases hr : i + w.size ≤ s.size
    · rw [if_pos (by omega), if_pos (by omega), if_pos (by omega), Int.toNat_natCast, Int.toNat_natCast]
      have hx : (s.extract i (i + w.size)).toList = (s.data.toList.drop i).take w.data.toList.length := by
        rw [ByteArray.toList_eq, ext_list, hwl, List.take_drop]
      have ho := Lib.occAt_iff_take s.data.toList w.data.toList i (by omega)
      by_cases heq : (s.extract i (i + w.size)).toList = w.toList
      · rw [if_pos heq]
        refine ⟨(i : Int), rfl, .inr ⟨i, rfl, Nat.le_refl _, by omega, ?_, fun q h h' => absurd h' (by omega)⟩⟩
        rw [ho, ← hx, heq, ByteArray.toList_eq]
        simp
      · rw [if_neg heq, wrap_one i (by omega)]
        have hno : Lib.occAt s.data.toList w.data.toList i = false := by
          rw [ho, ← hx]
          rw [ByteArray.toList_eq w] at heq
          exact beq_eq_false_iff_ne.2 heq
        obtain ⟨r, hr1, hr2⟩ := ih k (i + 1) (by omega) (by omega) (by omega)
        refine ⟨r, hr1, ?_⟩
        rcases hr2 with ⟨h4, h5⟩ | ⟨j, h4, h5, h6, h7, h8⟩
        · refine .inl ⟨h4, fun j hj => ?_⟩
          by_cases hj2 : j = i
          · rw [hj2]; exact hno
          · exact h5 j (by omega)
        · refine .inr ⟨j, h4, by omega, h6, h7, fun q hq hq' => ?_⟩
          by_cases hj2 : q = i
          · rw [hj2]; exact hno
          · exact h8 q (by omega) hq'
    · rw [if_neg (by omega)]
      refine ⟨-1, rfl, .inl ⟨rfl, fun j hj => ?_⟩⟩
      cases ho : Lib.occAt s.data.toList w.data.toList j with
      | false => rfl
      | true =>
        rcases Lib.occAt_room ho with h | h
        · omega
        · rw [h] at hwl; simp at hwl; omega
theorem occ_drop (s w : List UInt8) (i j : Nat) : Lib.occAt (s.drop i) w j = Lib.occAt s w (i + j) := by
  unfold Lib.occAt
  rw [List.drop_drop]
theorem index_of_find {s w : List UInt8} {i : Nat} {r : Int} (hi : i ≤ s.length) (h : FindAt s w i r) : Lib.index (s.drop i) w = if r < 0 then -1 else r - i := by
  rcases h with ⟨rfl, h5⟩ | ⟨j, rfl, h5, h6, h7, h8⟩
  · rw [if_pos (by decide)]
    exact Lib.index_none fun j _ => by rw [occ_drop]; exact h5 _ (by omega)
  · rw [if_neg (by omega)]
    have := Lib.index_first (s := s.drop i) (sub := w) (i := j - i) (by rw [List.length_drop]; omega) (by rw [occ_drop, show i + (j - i) = j by omega]; exact h7) (fun q hq => by rw [occ_drop]; exact h8 _ (by omega) (by omega))
    rw [this]; omega
theorem splitS_miss (s w : ByteArray) (h : Lib.indexB s w = -1) : splitS s w = [s] := by
  unfold splitS; rw [Lib.countB_miss s w h]; rfl
theorem splitS_hit (s w : ByteArray) (i : Nat) (h1 : 1 ≤ w.size) (h : Lib.indexB s w = i) : splitS s w = s.extract 0 i :: splitS (s.extract (i + w.size) s.size) w := by
  unfold splitS
  rw [Lib.countB_hit s w i h1 h, Nat.add_comm 1, Lib.splitB_hit w 0 _ s i h]
  rfl
theorem cut_l0 (s w : ByteArray) (hw : 1 ≤ w.size) (hs : s.size + w.size < 1000000000) (n : Nat) : ∀ (k i : Nat) (out : List ByteArray), s.size - i ≤ n → i ≤ s.size → n + s.size + 3 < k → out.length + n < 4000000000 → proofmarkref27_cut.l0 k s w out (i : Int) = some (out ++ splitS (s.extract i s.size) w) := by
  have hsl : s.data.toList.length = s.size := by simp
  have hwl : w.data.toList.length = w.size := by simp
  induction n with
  | zero =>
    intro k i out h1 h2 h3 h4
    obtain ⟨k, rfl⟩ : ∃ q, k = q + 1 := ⟨k - 1, by omega⟩
    obtain ⟨r, hr1, hr2⟩ := find_l0 s w hw (by omega) (s.size - i) k i rfl h2 (by omega)
    have hix := index_of_find (by omega) hr2
    have hdr : (s.extract i s.size).data.toList = s.data.toList.drop i := by rw [ext_list, List.take_of_length_le (by omega)]
    simp only [proofmarkref27_cut.l0, proofmarkref27_find.f]
    rw [hr1]
    simp only [Option.bind_some]
    rcases hr2 with ⟨rfl, h5⟩ | ⟨j, rfl, h5, h6, h7, h8⟩
    · rw [if_pos (by decide), if_pos (by omega), if_pos (by omega), if_pos (by omega), Int.toNat_natCast]
      rw [splitS_miss _ _ (by unfold Lib.indexB; rw [hdr, hix]; rfl)]
    · omega
  | succ n ih =>
    intro k i out h1 h2 h3 h4
    obtain ⟨k, rfl⟩ : ∃ q, k = q + 1 := ⟨k - 1, by omega⟩
    obtain ⟨r, hr1, hr2⟩ := find_l0 s w hw (by omega) (s.size - i) k i rfl h2 (by omega)
    have hix := index_of_find (by omega) hr2
    have hdr : (s.extract i s.size).data.toList = s.data.toList.drop i := by rw [ext_list, List.take_of_length_le (by omega)]
    simp only [proofmarkref27_cut.l0, proofmarkref27_find.f]
    rw [hr1]
    simp only [Option.bind_some]
    rcases hr2 with ⟨rfl, h5⟩ | ⟨j, rfl, h5, h6, h7, h8⟩
    · rw [if_pos (by decide), if_pos (by omega), if_pos (by omega), if_pos (by omega), Int.toNat_natCast]
      rw [splitS_miss _ _ (by unfold Lib.indexB; rw [hdr, hix]; rfl)]
    · rw [if_neg (by omega), if_pos (by omega), if_pos (by omega), if_pos (by omega), if_pos (by omega), Int.toNat_natCast, Int.toNat_natCast]
      have hout : (out ++ [s.extract i j]).length = out.length + 1 := by rw [List.length_append]; rfl
      have g1 : s.size - (j + w.size) ≤ n := by omega
      have g2 : j + w.size ≤ s.size := by omega
      have g3 : n + s.size + 3 < k := by omega
      have g4 : (out ++ [s.extract i j]).length + n < 4000000000 := by rw [hout]; omega
      have e : wrap64 ((j : Int) + (w.size : Int)) = ((j + w.size : Nat) : Int) := by unfold wrap64; omega
      rw [e, ih k (j + w.size) (out ++ [s.extract i j]) g1 g2 g3 g4]
      clear e hout g4
      rw [splitS_hit (s.extract i s.size) w (j - i) hw (by unfold Lib.indexB; rw [hdr, hix, if_neg (by omega)]; omega)]
      rw [List.append_assoc, List.singleton_append]
      have q1 : (s.extract i s.size).extract 0 (j - i) = s.extract i j := by
        apply ba_list0
        rw [ext_list, hdr, ext_list, List.drop_zero, List.take_drop, show i + (j - i) = j by omega]
      have q2 : (s.extract i s.size).extract (j - i + w.size) (s.extract i s.size).size = s.extract (j + w.size) s.size := by
        apply ba_list0
        rw [ext_list, hdr, ext_list, List.take_of_length_le (by rw [List.length_drop, ByteArray.size_extract]; omega), List.take_of_length_le (by omega), List.drop_drop, show i + (j - i + w.size) = j + w.size by omega]
      rw [q1, q2]
theorem cut_f (s w : ByteArray) (hw : 1 ≤ w.size) (hs : s.size + w.size < 1000000000) (k : Nat) (hk : 2 * s.size + 3 < k) : proofmarkref27_cut.f k s w = some (splitS s w) := by
  unfold proofmarkref27_cut.f
  have := cut_l0 s w hw hs s.size k 0 [] (by omega) (by omega) (by omega) (by simp; omega)
  rw [List.nil_append, show s.extract 0 s.size = s from ByteArray.extract_zero_size] at this
  exact this
/-- no piece holds the byte that cuts -/
theorem split_clean (c : UInt8) : ∀ (n : Nat) (s : ByteArray), s.size ≤ n → ∀ p ∈ splitS s ⟨#[c]⟩, c ∉ p.data.toList := by
  intro n
  induction n with
  | zero =>
    intro s hs p hp hc
    have h0 : s.data.toList = [] := List.eq_nil_of_length_eq_zero (by rw [Array.length_toList]; show s.size = 0; omega)
    rw [splitS_miss s _ (Lib.index_none fun j _ => by unfold Lib.occAt; rw [h0]; simp [List.isPrefixOf])] at hp
    rw [List.mem_singleton.1 hp, h0] at hc
    cases hc
  | succ n ih =>
    intro s hs p hp hc
    have hno : ∀ j, Lib.occAt s.data.toList [c] j = false → s.data.toList[j]? ≠ some c := by
      intro j hj e
      obtain ⟨hlt, he⟩ := List.getElem?_eq_some_iff.1 e
      unfold Lib.occAt at hj
      rw [List.drop_eq_getElem_cons hlt, he] at hj
      simp [List.isPrefixOf] at hj
    rcases Lib.index_spec s.data.toList [c] with ⟨h1, h2⟩ | ⟨i, h1, h2, h3, h4⟩
    · rw [splitS_miss s _ h1] at hp
      rw [List.mem_singleton.1 hp] at hc
      obtain ⟨j, hj, e⟩ := List.mem_iff_getElem.1 hc
      exact hno j (h2 j (by omega)) (by rw [List.getElem?_eq_getElem hj, e])
    · rw [splitS_hit s ⟨#[c]⟩ i (Nat.le_refl 1) h1] at hp
      have hsl : s.data.toList.length = s.size := by simp
      have hroom : i + 1 ≤ s.data.toList.length := by
        rcases Lib.occAt_room h3 with h | h
        · simpa using h
        · cases h
      rcases List.mem_cons.1 hp with rfl | hp
      · rw [ext_list, List.drop_zero] at hc
        obtain ⟨j, hj, e⟩ := List.mem_iff_getElem.1 hc
        rw [List.length_take] at hj
        rw [List.getElem_take] at e
        exact hno j (h4 j (by omega)) (by rw [List.getElem?_eq_getElem (by omega), e])
      · have e1 : (⟨#[c]⟩ : ByteArray).size = 1 := rfl
        exact ih _ (by rw [ByteArray.size_extract]; omega) p hp hc
theorem splitS_front (c : UInt8) (a r : List UInt8) (ha : c ∉ a) : splitS ⟨(a ++ ([c] ++ r)).toArray⟩ ⟨#[c]⟩ = ⟨a.toArray⟩ :: splitS ⟨r.toArray⟩ ⟨#[c]⟩ := by
  have hi : Lib.indexB ⟨(a ++ ([c] ++ r)).toArray⟩ ⟨#[c]⟩ = (a.length : Int) := index1_at c a r ha
  rw [splitS_hit _ ⟨#[c]⟩ a.length (Nat.le_refl 1) hi]
  have e1 : (⟨#[c]⟩ : ByteArray).size = 1 := rfl
  have q1 : (⟨(a ++ ([c] ++ r)).toArray⟩ : ByteArray).extract 0 a.length = ⟨a.toArray⟩ := by
    apply ba_list0
    rw [ext_list]
    simp
  have q2 : (⟨(a ++ ([c] ++ r)).toArray⟩ : ByteArray).extract (a.length + (⟨#[c]⟩ : ByteArray).size) (⟨(a ++ ([c] ++ r)).toArray⟩ : ByteArray).size = ⟨r.toArray⟩ := by
    apply ba_list0
    rw [ext_list, e1, List.take_of_length_le (by show (a ++ ([c] ++ r)).length ≤ (a ++ ([c] ++ r)).toArray.size; simp)]
    show (a ++ ([c] ++ r)).drop (a.length + 1) = r
    rw [← List.append_assoc, show a.length + 1 = (a ++ [c]).length by simp, List.drop_left]
  rw [q1, q2]
theorem splitS_end (c : UInt8) (t : ByteArray) : splitS (t ++ ⟨#[c]⟩) ⟨#[c]⟩ = splitS t ⟨#[c]⟩ ++ [⟨#[]⟩] := by
  refine splitS_join c _ (by simp) _ ?_ ?_
  · rw [List.map_append, ByteArray.data_append, Array.toList_append]
    have h := splitS_text c t
    obtain ⟨x, xs, hx⟩ : ∃ x xs, splitS t ⟨#[c]⟩ = x :: xs := by
      have := splitS_len t ⟨#[c]⟩ (Nat.le_refl 1)
      cases hq : splitS t ⟨#[c]⟩ with
      | nil => rw [hq] at this; simp at this
      | cons x xs => exact ⟨x, xs, rfl⟩
    rw [hx] at h ⊢
    have := join_back c (x.data.toList) (xs.map (·.data.toList))
    rw [List.map_cons] at h ⊢
    rw [h] at this
    have e2 : ((⟨#[c]⟩ : ByteArray).data.toList) = [c] := rfl
    rw [e2, this]
    clear h this e2 hx
    have go : ∀ (w : List UInt8) (ws : List (List UInt8)), ((w :: ws).map (· ++ [c])).flatten = Lib.join (w :: ws ++ [[]]) [c] := by
      intro w ws
      induction ws generalizing w with
      | nil => show _ = Lib.join (w :: [[]]) [c]; rw [join_two, join_one]; simp
      | cons w' ws ih =>
        rw [List.map_cons, List.flatten_cons, ih w', List.cons_append, List.cons_append, List.cons_append, join_two]
        simp
    exact go _ _
  · intro x hx
    rcases List.mem_append.1 hx with hx | hx
    · exact split_clean c t.size t (Nat.le_refl _) x hx
    · rw [List.mem_singleton.1 hx]; simp
end Go.Proofs.YtmfekngjhiofaaaGreatDoor.Q
