/-
  Plain: what lift.Lits tells of a text that lift.Clause told: the clause itself; and no line feed in it.
-/
import Derived.Test.YtmfekngjhiofaaaGreatDoorHLits
import Derived.Test.YtmfekngjhiofaaaGreatDoorPCut
import Derived.Test.YtmfekngjhiofaaaGreatDoorPNum
set_option linter.unusedVariables false
set_option linter.unusedSimpArgs false
namespace Go.Proofs.YtmfekngjhiofaaaGreatDoor.Q
open Go.RowKit Go.Maps Go.WideMaps Go.Proofs.YtmfekngjhiofaaaGreatDoorW.PrintWords Go.Proofs.YtmfekngjhiofaaaGreatDoorW.PrintLast Go.Proofs.YtmfekngjhiofaaaGreatDoorW.PrintMore
/-! ### cut at the bar -/
def barL : List UInt8 := [32, 124, 32]
theorem occ_no (s : List UInt8) (j : Nat) (h : s[j]? ≠ some 32) : Lib.occAt s barL j = false := by
  unfold Lib.occAt barL
  cases hd : s.drop j with
  | nil => rfl
  | cons c r =>
    have hc : s[j]? = some c := by rw [← List.head?_drop, hd]; rfl
    have hne : c ≠ 32 := fun e => h (by rw [hc, e])
    have : ((32 : UInt8) == c) = false := beq_eq_false_iff_ne.mpr (fun e => hne e.symm)
    simp [List.isPrefixOf, this]
theorem index_clean (w : List UInt8) (h : ∀ b ∈ w, b ≠ 32) : Lib.index w barL = -1 :=
  Lib.index_none fun j _ => occ_no w j fun e => h 32 (List.mem_of_getElem? e) rfl
theorem index_bar (w r : List UInt8) (h : ∀ b ∈ w, b ≠ 32) : Lib.index (w ++ (barL ++ r)) barL = w.length := by
  refine Lib.index_first (by simp) ?_ (fun j hj => occ_no _ j fun e => ?_)
  · unfold Lib.occAt
    rw [List.drop_left]
    simp [barL, List.isPrefixOf]
  · rw [List.getElem?_append_left hj] at e
    exact h 32 (List.mem_of_getElem? e) rfl
theorem cut_join : ∀ (w : List UInt8) (ws : List (List UInt8)), (∀ x ∈ w :: ws, ∀ b ∈ x, b ≠ 32) → Lib.count (Lib.join (w :: ws) barL) barL = ws.length ∧ Lib.splitK barL 0 ws.length (Lib.join (w :: ws) barL) = w :: ws
  | w, [], h => by
    have e : Lib.join [w] barL = w := by rw [Lib.join_cons]; simp [Lib.joinTail]
    rw [e]
    exact ⟨Lib.count_miss (index_clean w (h w (by simp))), rfl⟩
  | w, w' :: ws, h => by
    obtain ⟨h1, h2⟩ := cut_join w' ws (fun x hx => h x (List.mem_cons_of_mem _ hx))
    have e : Lib.join (w :: w' :: ws) barL = w ++ (barL ++ Lib.join (w' :: ws) barL) := by rw [Lib.join_cons, Lib.join_cons]; simp [Lib.joinTail]
    have hi := index_bar w (Lib.join (w' :: ws) barL) (h w (by simp))
    have hd : (w ++ (barL ++ Lib.join (w' :: ws) barL)).drop (w.length + barL.length) = Lib.join (w' :: ws) barL := by
      rw [← List.append_assoc, ← List.length_append, List.drop_left]
    rw [e]
    refine ⟨by rw [Lib.count_hit (by simp [barL]) hi, hd, h1, List.length_cons]; omega, ?_⟩
    have hne : (Lib.index (w ++ (barL ++ Lib.join (w' :: ws) barL)) barL == -1) = false := by rw [hi, beq_eq_false_iff_ne]; omega
    rw [List.length_cons]
    unfold Lib.splitK
    rw [hne, hi]
    simp only [Bool.false_eq_true, if_false, Int.toNat_natCast, Nat.add_zero]
    rw [hd, h2, List.take_left]
theorem ba_list {a b : ByteArray} (h : a.data.toList = b.data.toList) : a = b := by
  cases a; cases b; congr 1; exact Array.toList_inj.1 h
theorem map_data_inj : ∀ {l l' : List ByteArray}, l.map (·.data.toList) = l'.map (·.data.toList) → l = l'
  | [], [], _ => rfl
  | [], _ :: _, h => by simp at h
  | _ :: _, [], h => by simp at h
  | a :: l, b :: l', h => by
    simp only [List.map_cons, List.cons.injEq] at h
    rw [ba_list h.1, map_data_inj h.2]
theorem pieces_join (w : ByteArray) (ws : List ByteArray) (s : ByteArray) (hs : s.data.toList = joinB (w :: ws) barB) (h : ∀ x ∈ w :: ws, ∀ b ∈ x.data.toList, b ≠ 32) : piecesB s = w :: ws := by
  have hc := cut_join w.data.toList (ws.map (·.data.toList)) (fun x hx => by
    rcases List.mem_cons.1 hx with rfl | hx
    · exact h w (by simp)
    · obtain ⟨y, hy, rfl⟩ := List.mem_map.1 hx
      exact h y (List.mem_cons_of_mem _ hy))
  have hsj : s.data.toList = Lib.join (w.data.toList :: ws.map (·.data.toList)) barL := hs
  rw [← hsj, List.length_map] at hc
  apply map_data_inj
  have hcount : Lib.countB s barB = ws.length := hc.1
  unfold piecesB
  rw [hcount, Lib.splitB_data]
  exact hc.2
/-! ### names, words -/
theorem bad_is (c : UInt8) : badC.data.toList.contains c = oddC c := by
  show List.contains [32, 10, 61, 124, 126, 58] c = oddC c
  rw [Bool.eq_iff_iff]
  simp [oddC, List.contains_cons, or_assoc]
theorem bad_no : ∀ (l : List UInt8), badL l = false → ∀ b ∈ l, oddC b = false
  | [], _, _, hb => by cases hb
  | c :: l, h, b, hb => by
    have hg := Lib.indexAny_ge badC.data.toList l
    unfold badL Lib.containsAny at h
    simp only [Lib.indexAny, bad_is c] at h
    cases hc : oddC c with
    | true => rw [hc] at h; simp at h
    | false =>
      rw [hc] at h
      have hl : badL l = false := by
        unfold badL Lib.containsAny
        by_cases e : Lib.indexAny l badC.data.toList = -1
        · rw [e]; rfl
        · have h1 : ¬ (Lib.indexAny l badC.data.toList == -1) = true := fun q => e (beq_iff_eq.1 q)
          rw [if_neg (by simp), if_neg h1] at h
          have := of_decide_eq_false h
          omega
      rcases List.mem_cons.1 hb with rfl | hb
      · exact hc
      · exact bad_no l hl b hb
theorem odd_ne {b : UInt8} (h : oddC b = false) : b ≠ 32 ∧ b ≠ 10 ∧ b ≠ 126 := by
  refine ⟨?_, ?_, ?_⟩ <;> (rintro rfl; exact absurd h (by decide))
theorem num_ne {b : UInt8} (h : numC b = true) : b ≠ 32 ∧ b ≠ 10 ∧ b ≠ 91 ∧ b ≠ 126 := by
  refine ⟨?_, ?_, ?_, ?_⟩ <;> (rintro rfl; exact absurd h (by decide))
theorem litB_data (cells : List S114) (c b : Int) : (litB cells c b).data.toList = (rd_T114 cells c).f0.data.toList ++ 91 :: (Lib.itoa b ++ [93]) := by
  unfold litB numB
  simp
/-- names in order, plain -/
def NamesOk (cells : List S114) : Prop := (namesC cells).Nodup ∧ ∀ x ∈ cells, ∀ b ∈ x.f0.data.toList, oddC b = false
theorem names_ok {cells : List S114} (h : unlikeB (namesC cells) = true) : NamesOk cells := by
  unfold unlikeB at h
  simp only [Bool.and_eq_true, decide_eq_true_eq, List.all_eq_true, Bool.not_eq_true'] at h
  exact ⟨h.1, fun x hx => bad_no _ (h.2 _ (List.mem_map.2 ⟨x, hx, rfl⟩))⟩
theorem rdC_mem {cells : List S114} {c : Int} (h0 : 0 ≤ c) (h1 : c < cells.length) : rd_T114 cells c ∈ cells := by
  unfold rd_T114
  rw [List.getD_eq_getElem?_getD, List.getElem?_eq_getElem (show c.toNat < cells.length by omega)]
  exact List.getElem_mem _
theorem lit_clean {cells : List S114} (hn : NamesOk cells) {c : Int} (h0 : 0 ≤ c) (h1 : c < cells.length) (b : Int) : ∀ x ∈ (litB cells c b).data.toList, x ≠ 32 ∧ x ≠ 10 := by
  rw [litB_data]
  intro x hx
  rcases List.mem_append.1 hx with hx | hx
  · have := odd_ne (hn.2 _ (rdC_mem h0 h1) x hx); exact ⟨this.1, this.2.1⟩
  · rcases List.mem_cons.1 hx with rfl | hx
    · decide
    · rcases List.mem_append.1 hx with hx | hx
      · have := num_ne (itoa_num b x hx); exact ⟨this.1, this.2.1⟩
      · simp only [List.mem_cons, List.not_mem_nil, or_false] at hx; subst hx; decide
theorem lit_inj {cells : List S114} (hn : NamesOk cells) {c b c' b' : Int} (h0 : 0 ≤ c) (h1 : c < cells.length) (h0' : 0 ≤ c') (h1' : c' < cells.length) (h : (litB cells c b).data.toList = (litB cells c' b').data.toList) : c = c' ∧ b = b' := by
  rw [litB_data, litB_data] at h
  have hr := congrArg List.reverse h
  simp only [List.reverse_append, List.reverse_cons, List.reverse_nil, List.nil_append, List.singleton_append, List.append_assoc, List.cons_append, List.cons.injEq, true_and] at hr
  obtain ⟨e1, e2⟩ := cut_class (f := numC) (fun x hx => itoa_num b x (List.mem_reverse.1 hx)) (fun x hx => itoa_num b' x (List.mem_reverse.1 hx)) (by decide) (by decide) hr
  refine ⟨?_, itoa_inj (List.reverse_inj.1 e1)⟩
  have e3 := List.reverse_inj.1 (List.cons.inj e2).2
  have g : ∀ (i : Int), 0 ≤ i → i < cells.length → (namesC cells)[i.toNat]? = some (rd_T114 cells i).f0.data.toList := fun i i0 i1 => by
    have hi : i.toNat < cells.length := by omega
    unfold namesC rd_T114
    rw [List.getElem?_map, List.getElem?_eq_getElem hi, List.getD_eq_getElem?_getD, List.getElem?_eq_getElem hi]
    rfl
  have hk := (List.getElem?_inj (l := namesC cells) (i := c.toNat) (j := c'.toNat) (by unfold namesC; rw [List.length_map]; omega) hn.1).1 (by rw [g c h0 h1, g c' h0' h1', e3])
  omega
/-! ### latches in order -/
def latLt (x y : S94) : Prop := x.f3 < y.f3 ∨ (x.f3 = y.f3 ∧ x.f4 < y.f4)
theorem goes_gt (nc : Int) : ∀ (l : List S94) (c b : Int), goesFrom nc c b l = true → ∀ x ∈ l, c < x.f3 ∨ (c = x.f3 ∧ b < x.f4)
  | [], _, _, _, x, hx => by cases hx
  | y :: l, c, b, h, x, hx => by
    unfold goesFrom at h
    simp only [Bool.and_eq_true, latOk, decide_eq_true_eq] at h
    rcases List.mem_cons.1 hx with rfl | hx
    · exact h.1.2.1
    · have := goes_gt nc l _ _ h.2 x hx
      have := h.1.2.1
      omega
theorem goes_pair (nc : Int) : ∀ (l : List S94) (c b : Int), goesFrom nc c b l = true → l.Pairwise latLt
  | [], _, _, _ => List.Pairwise.nil
  | y :: l, c, b, h => by
    unfold goesFrom at h
    simp only [Bool.and_eq_true] at h
    exact List.Pairwise.cons (fun x hx => goes_gt nc l _ _ h.2 x hx) (goes_pair nc l _ _ h.2)
theorem texts_nodup {cells : List S114} (hn : NamesOk cells) {lats : List S94} (hg : goesB cells.length lats = true) : (textsB cells lats).Nodup := by
  have hp := goes_pair _ _ _ _ hg
  have hm := goesFrom_mem _ _ _ _ hg
  unfold textsB List.Nodup
  rw [List.pairwise_map]
  refine hp.imp_of_mem ?_
  intro x y hx hy hlt he
  have mx := hm x hx
  have my := hm y hy
  have := lit_inj hn mx.2.1 mx.2.2 my.2.1 my.2.2 he
  unfold latLt at hlt
  omega
theorem lastIdx_take {l : List (List UInt8)} (hn : l.Nodup) (m : Nat) (hm : m < l.length) : ∀ k, k ≤ l.length → lastIdx (l.take k) l[m] = if m < k then m + 1 else 0
  | 0, _ => by simp [lastIdx]
  | k + 1, hk => by
    have ih := lastIdx_take hn m hm k (by omega)
    rw [List.take_add_one, List.getElem?_eq_getElem (show k < l.length by omega), Option.toList_some, lastIdx_snoc, ih]
    by_cases e : m = k
    · subst e
      rw [if_pos rfl, if_pos (by omega), List.length_take]; omega
    · have hne : l[m] ≠ l[k] := fun q => e ((List.getElem_inj hn).1 q)
      rw [if_neg hne]
      by_cases h1 : m < k
      · rw [if_pos h1, if_pos (by omega)]
      · rw [if_neg h1, if_neg (by omega)]
theorem lastIdx_at {l : List (List UInt8)} (hn : l.Nodup) (m : Nat) (hm : m < l.length) : lastIdx l l[m] = m + 1 := by
  have := lastIdx_take hn m hm l.length (Nat.le_refl _)
  rwa [List.take_length, if_pos hm] at this
/-! ### a literal's text, read back -/
theorem word_clean {cells : List S114} (hn : NamesOk cells) {lats : List S94} (hg : goesB cells.length lats = true) {x : Int} (hx : litOk lats.length x = true) : ∀ b ∈ (wordB cells lats x).data.toList, b ≠ 32 ∧ b ≠ 10 := by
  have hm := goesFrom_mem _ _ _ _ hg _ (rdL_mem hx)
  have hc := lit_clean hn hm.2.1 hm.2.2 (rd_T94 lats (magI x - 1)).f4
  unfold wordB
  split
  · rw [ByteArray.data_append, Array.toList_append]
    intro b hb
    rcases List.mem_append.1 hb with hb | hb
    · obtain rfl : b = 126 := by simpa using hb
      decide
    · exact hc b hb
  · exact hc
theorem head_not (cells : List S114) (hn : NamesOk cells) {c : Int} (h0 : 0 ≤ c) (h1 : c < cells.length) (b : Int) : Lib.hasPrefix (litB cells c b).data.toList [126] = false := by
  rw [litB_data]
  unfold Lib.hasPrefix
  cases hq : (rd_T114 cells c).f0.data.toList with
  | nil => rfl
  | cons a r =>
    have := (odd_ne (hn.2 _ (rdC_mem h0 h1) a (by rw [hq]; simp))).2.2
    have : ((126 : UInt8) == a) = false := beq_eq_false_iff_ne.mpr (fun e => this e.symm)
    simp [List.isPrefixOf, this]
theorem piece_word {cells : List S114} (hn : NamesOk cells) {lats : List S94} (hg : goesB cells.length lats = true) (hl : lats.length ≤ 1000000) {x : Int} (hx : litOk lats.length x = true) (hw : (Lit.int .i64 x).wf = true) : pieceV (textsB cells lats) (wordB cells lats x) = x ∧ pieceOk (textsB cells lats) (wordB cells lats x) = true := by
  have hm := goesFrom_mem _ _ _ _ hg _ (rdL_mem hx)
  have hnot := head_not cells hn hm.2.1 hm.2.2 (rd_T94 lats (magI x - 1)).f4
  have hnd := texts_nodup hn hg
  have hw2 : -9223372036854775808 ≤ x ∧ x ≤ 9223372036854775807 := by
    have h1 : IntKind.i64.min ≤ x ∧ x ≤ 9223372036854775807 := by simpa [Lit.wf] using hw
    rwa [show IntKind.i64.min = -9223372036854775808 by decide] at h1
  have hok := hx
  simp only [litOk, decide_eq_true_eq] at hok
  have hmm : (magI x - 1).toNat < (textsB cells lats).length := by unfold textsB; rw [List.length_map]; omega
  have ht : (textsB cells lats)[(magI x - 1).toNat] = (litB cells (rd_T94 lats (magI x - 1)).f3 (rd_T94 lats (magI x - 1)).f4).data.toList := by
    have hq : (magI x - 1).toNat < lats.length := by omega
    simp only [textsB, List.getElem_map]
    have : rd_T94 lats (magI x - 1) = lats[(magI x - 1).toNat] := by unfold rd_T94; rw [List.getD_eq_getElem?_getD, List.getElem?_eq_getElem hq]; rfl
    rw [this]
  have hi := lastIdx_at hnd _ hmm
  rw [ht] at hi
  have hwd : wordB cells lats x = if x < 0 then (⟨#[126]⟩ : ByteArray) ++ litB cells (rd_T94 lats (magI x - 1)).f3 (rd_T94 lats (magI x - 1)).f4 else litB cells (rd_T94 lats (magI x - 1)).f3 (rd_T94 lats (magI x - 1)).f4 := rfl
  generalize litB cells (rd_T94 lats (magI x - 1)).f3 (rd_T94 lats (magI x - 1)).f4 = t at hi hnot hwd
  have hi2 : ((lastIdx (textsB cells lats) t.data.toList : Nat) : Int) = magI x := by rw [hi]; omega
  by_cases hneg : x < 0
  · rw [if_pos hneg] at hwd
    have hd : (wordB cells lats x).data.toList = 126 :: t.data.toList := by rw [hwd, ByteArray.data_append]; simp
    have h1 : turnB (wordB cells lats x) = true := by unfold turnB Lib.hasPrefix; rw [hd]; simp [List.isPrefixOf]
    have h2 : restB (wordB cells lats x) = t.data.toList := by
      unfold restB Lib.trimPrefix
      rw [show Lib.hasPrefix (wordB cells lats x).data.toList [126] = true from h1, if_pos rfl, hd]
      rfl
    unfold pieceV pieceOk
    rw [h2, hi2, if_pos h1]
    refine ⟨?_, decide_eq_true (by omega)⟩
    unfold magI mx wrap64 at hok ⊢
    split at hok <;> split <;> omega
  · rw [if_neg hneg] at hwd
    have h1 : turnB (wordB cells lats x) = false := by unfold turnB; rw [hwd]; exact hnot
    have h2 : restB (wordB cells lats x) = t.data.toList := by
      unfold restB Lib.trimPrefix
      rw [show Lib.hasPrefix (wordB cells lats x).data.toList [126] = false from h1, if_neg (by simp), hwd]
    unfold pieceV pieceOk
    rw [h2, hi2, if_neg (by rw [h1]; simp)]
    refine ⟨?_, decide_eq_true (by omega)⟩
    unfold magI mx wrap64 at hok ⊢
    split at hok <;> split <;> omega
/-! ### a clause's text -/
theorem join_mem (s : List UInt8) : ∀ (l : List (List UInt8)), ∀ b ∈ Lib.join l s, (∃ w ∈ l, b ∈ w) ∨ b ∈ s
  | [], b, h => by rw [Lib.join_nil] at h; cases h
  | x :: r, b, h => by
    rw [Lib.join_cons] at h
    rcases List.mem_append.1 h with h | h
    · exact Or.inl ⟨x, by simp, h⟩
    · unfold Lib.joinTail at h
      obtain ⟨z, hz, hb⟩ := List.mem_flatten.1 h
      obtain ⟨y, hy, rfl⟩ := List.mem_map.1 hz
      rcases List.mem_append.1 hb with hb | hb
      · exact Or.inr hb
      · exact Or.inl ⟨y, List.mem_cons_of_mem _ hy, hb⟩
theorem clause_line (l1 : List S72) (l2 : List S114) (lats : List S94) (l : List Int) : (10 : UInt8) ∉ clauseB l1 l2 lats l := by
  unfold clauseB
  split
  · rename_i h
    simp only [Bool.and_eq_true] at h
    have hn := names_ok h.1.2
    split
    · decide
    · split
      · rename_i hall
        intro hb
        unfold joinB at hb
        rcases join_mem _ _ 10 hb with ⟨w, hw, hb⟩ | hb
        · obtain ⟨y, hy, rfl⟩ := List.mem_map.1 hw
          obtain ⟨x, hx, rfl⟩ := List.mem_map.1 hy
          exact (word_clean hn h.2 (List.all_eq_true.1 hall x hx) 10 hb).2 rfl
        · revert hb; decide
      · simp
  · simp
theorem join_last (s : List UInt8) (c : UInt8) : ∀ (w : List UInt8) (ws : List (List UInt8)), (∀ x ∈ w :: ws, x.getLast? = some c) → (Lib.join (w :: ws) s).getLast? = some c
  | w, [], h => by
    have e : Lib.join [w] s = w := by rw [Lib.join_cons]; simp [Lib.joinTail]
    rw [e]; exact h w (by simp)
  | w, w' :: ws, h => by
    have ih := join_last s c w' ws (fun x hx => h x (List.mem_cons_of_mem _ hx))
    have e : Lib.join (w :: w' :: ws) s = (w ++ s) ++ Lib.join (w' :: ws) s := by rw [Lib.join_cons, Lib.join_cons]; simp [Lib.joinTail]
    rw [e, List.getLast?_append, ih]
    rfl
theorem word_last (cells : List S114) (lats : List S94) (x : Int) : (wordB cells lats x).data.toList.getLast? = some 93 := by
  have h : ∀ c b, (litB cells c b).data.toList.getLast? = some 93 := fun c b => by
    rw [litB_data, List.getLast?_append]
    have : (91 :: (Lib.itoa b ++ [93])).getLast? = some (93 : UInt8) := by rw [← List.cons_append, List.getLast?_append]; rfl
    rw [this]; rfl
  unfold wordB
  split
  · rw [ByteArray.data_append, Array.toList_append, List.getLast?_append, h]; rfl
  · exact h _ _
theorem lits_back (l1 : List S72) (l2 : List S114) (lats : List S94) (l : List Int) (hl : lats.length ≤ 1000000) (hw : ∀ x ∈ l, (Lit.int .i64 x).wf = true) (s : ByteArray) (hs : s.data.toList = clauseB l1 l2 lats l) (hne : s.data.toList ≠ []) : litsB l1 l2 lats s = (l, true) := by
  unfold clauseB at hs
  unfold litsB
  by_cases hc : (unlikeB (namesP l1) && unlikeB (namesC l2)) = true ∧ goesB l2.length lats = true
  · rw [if_pos hc] at hs ⊢
    have hcc := hc
    simp only [Bool.and_eq_true] at hcc
    have hn := names_ok hcc.1.2
    cases l with
    | nil =>
      rw [if_pos rfl] at hs
      rw [if_pos hs]
    | cons x0 r =>
      rw [if_neg (by simp)] at hs
      by_cases hall : (x0 :: r).all (litOk lats.length) = true
      · rw [if_pos hall] at hs
        have hlast : s.data.toList.getLast? = some 93 := by
          rw [hs]
          exact join_last _ 93 _ _ (fun z hz => by
            have hz2 : z ∈ ((x0 :: r).map (wordB l2 lats)).map (·.data.toList) := hz
            obtain ⟨y, hy, rfl⟩ := List.mem_map.1 hz2
            obtain ⟨x, hx, rfl⟩ := List.mem_map.1 hy
            exact word_last l2 lats x)
        rw [if_neg (by intro e; rw [e] at hlast; exact absurd hlast (by decide))]
        have hp := pieces_join (wordB l2 lats x0) (r.map (wordB l2 lats)) s hs (fun z hz b hb => by
          have hz2 : z ∈ (x0 :: r).map (wordB l2 lats) := hz
          obtain ⟨x, hx, rfl⟩ := List.mem_map.1 hz2
          exact (word_clean hn hc.2 (List.all_eq_true.1 hall x hx) b hb).1)
        have hpm : piecesB s = (x0 :: r).map (wordB l2 lats) := hp
        rw [hpm]
        have hb : ∀ x ∈ x0 :: r, pieceV (textsB l2 lats) (wordB l2 lats x) = x ∧ pieceOk (textsB l2 lats) (wordB l2 lats x) = true := fun x hx => piece_word hn hc.2 hl (List.all_eq_true.1 hall x hx) (hw x hx)
        rw [readB_ok (List.all_eq_true.2 fun z hz => by obtain ⟨x, hx, rfl⟩ := List.mem_map.1 hz; exact (hb x hx).2), List.map_map]
        congr 1
        exact (List.map_congr_left (g := id) (fun x hx => (hb x hx).1)).trans (List.map_id _)
      · rw [if_neg hall] at hs; exact absurd hs hne
  · rw [if_neg hc] at hs; exact absurd hs hne
end Go.Proofs.YtmfekngjhiofaaaGreatDoor.Q
