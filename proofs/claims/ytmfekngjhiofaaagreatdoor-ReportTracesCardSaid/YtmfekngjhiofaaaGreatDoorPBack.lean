/-
  Plain: a trace's text, read back; what is told back of a text has that text.
-/
import Derived.Test.YtmfekngjhiofaaaGreatDoorPNumBack
import Derived.Test.YtmfekngjhiofaaaGreatDoorPCutOne
import Derived.Test.YtmfekngjhiofaaaGreatDoorPClause
set_option linter.unusedVariables false
set_option linter.unusedSimpArgs false
namespace Go.Proofs.YtmfekngjhiofaaaGreatDoor.Q
open Go.RowKit Go.Proofs.YtmfekngjhiofaaaGreatDoorW.PrintWords Go.Proofs.YtmfekngjhiofaaaGreatDoorW.PrintLast Go.Proofs.YtmfekngjhiofaaaGreatDoorW.PrintMore
theorem pre_app (a b : List UInt8) : Lib.hasPrefix (a ++ b) a = true := by unfold Lib.hasPrefix; simp
theorem pre_trim (a b : List UInt8) : Lib.trimPrefix (a ++ b) a = b := by unfold Lib.trimPrefix; rw [if_pos (pre_app a b), List.drop_left]
theorem pre_text {s p : List UInt8} (h : Lib.hasPrefix s p = true) : s = p ++ Lib.trimPrefix s p := by
  unfold Lib.trimPrefix
  rw [if_pos h]
  unfold Lib.hasPrefix at h
  obtain ⟨r, rfl⟩ := List.isPrefixOf_iff_prefix.1 h
  rw [List.drop_left]
/-! ### a pin's piece -/
def pieceOf (nm : ByteArray) (x : Int) : ByteArray := eqB nm ++ numB x
theorem numB_data (x : Int) : (numB x).data.toList = Lib.itoa x := by unfold numB; simp
theorem pieceOf_data (nm : ByteArray) (x : Int) : (pieceOf nm x).data.toList = (eqB nm).data.toList ++ Lib.itoa x := by unfold pieceOf; rw [ByteArray.data_append, Array.toList_append, numB_data]
theorem pinB_data (nm : ByteArray) (x : Int) : (pinB nm x).data.toList = 32 :: (pieceOf nm x).data.toList := by
  rw [pieceOf_data]; unfold pinB eqB; simp [ByteArray.data_append, numB_data]
theorem cell_of {names : List ByteArray} {k : Nat} {nm : ByteArray} {x : Int} (hk : names[k]? = some nm) (h0 : 0 ≤ x) (h1 : x ≤ 65535) : cellOk names k (pieceOf nm x) = true ∧ cellV names k (pieceOf nm x) = x := by
  have hp : cutOk (pieceOf nm x) (eqB nm) = true := by unfold cutOk; rw [pieceOf_data]; exact pre_app _ _
  have hr : (cutR' (pieceOf nm x) (eqB nm)).data.toList = Lib.itoa x := by
    show (Lib.trimPrefix (pieceOf nm x).data.toList (eqB nm).data.toList).toArray.toList = _
    rw [pieceOf_data, pre_trim]
  have hn := numOk_itoa h0 h1 hr
  unfold cellOk cellV
  rw [hk]
  simp only [hp, hn.1, hn.2, Bool.and_self, and_self]
theorem cell_text {names : List ByteArray} {k : Nat} {p : ByteArray} (h : cellOk names k p = true) : ∃ nm, names[k]? = some nm ∧ p = pieceOf nm (cellV names k p) ∧ 0 ≤ cellV names k p ∧ cellV names k p ≤ 65535 := by
  unfold cellOk at h
  unfold cellV
  split at h
  · rename_i nm hk
    rw [hk]
    simp only [Bool.and_eq_true] at h
    have hn := numOk_text h.2
    refine ⟨nm, rfl, ?_, hn.1, hn.2.1⟩
    apply ba_list
    rw [pieceOf_data, ← hn.2.2]
    exact pre_text h.1
  · cases h
/-! ### a row -/
def inR (x : Int) : Prop := 0 ≤ x ∧ x ≤ 65535
theorem row_read (names : List ByteArray) : ∀ (row : List Int) (k : Nat), row.length = (names.drop k).length → (∀ x ∈ row, inR x) → okFrom (cellOk names) k (List.zipWith pieceOf (names.drop k) row) = true ∧ valFrom (cellV names) k (List.zipWith pieceOf (names.drop k) row) = row
  | [], k, _, _ => by simp [okFrom, valFrom]
  | x :: row, k, hl, h => by
    have hk : k < names.length := by rw [List.length_drop] at hl; simp at hl; omega
    have hl2 : row.length = (names.drop (k + 1)).length := by rw [List.length_drop] at hl ⊢; simp at hl; omega
    rw [List.drop_eq_getElem_cons hk]
    have hx := h x (by simp)
    have hc := cell_of (List.getElem?_eq_getElem hk) hx.1 hx.2
    have ih := row_read names row (k + 1) hl2 (fun z hz => h z (List.mem_cons_of_mem _ hz))
    rw [List.zipWith_cons_cons]
    refine ⟨?_, ?_⟩
    · unfold okFrom; rw [hc.1, ih.1]; rfl
    · unfold valFrom; rw [hc.2, ih.2]
theorem row_text (names : List ByteArray) : ∀ (ps : List ByteArray) (k : Nat), okFrom (cellOk names) k ps = true → ps = List.zipWith pieceOf (names.drop k) (valFrom (cellV names) k ps) ∧ (∀ x ∈ valFrom (cellV names) k ps, inR x) ∧ (valFrom (cellV names) k ps).length = ps.length
  | [], k, _ => by simp [valFrom]
  | p :: ps, k, h => by
    unfold okFrom at h
    simp only [Bool.and_eq_true] at h
    obtain ⟨nm, hk, hp, h0, h1⟩ := cell_text h.1
    obtain ⟨i1, i2, i3⟩ := row_text names ps (k + 1) h.2
    obtain ⟨hkl, hke⟩ := List.getElem?_eq_some_iff.1 hk
    unfold valFrom
    rw [List.drop_eq_getElem_cons hkl, List.zipWith_cons_cons, hke]
    refine ⟨by rw [← hp, ← i1], ?_, by rw [List.length_cons, List.length_cons, i3]⟩
    intro x hx
    rcases List.mem_cons.1 hx with rfl | hx
    · exact ⟨h0, h1⟩
    · exact i2 x hx
theorem items_eq (names : List ByteArray) (row : List Int) : itemsB names row = (((List.zipWith pieceOf names row).map (·.data.toList)).map (32 :: ·)).flatten := by
  unfold itemsB
  rw [List.map_map, List.map_zipWith]
  refine congrArg (fun f => (List.zipWith f names row).flatten) ?_
  funext nm x
  exact pinB_data nm x
theorem items_join (names : List ByteArray) (row : List Int) (h : List.zipWith pieceOf names row ≠ []) : itemsB names row = 32 :: Lib.join ((List.zipWith pieceOf names row).map (·.data.toList)) [32] := by
  rw [items_eq]
  obtain ⟨w, ws, e⟩ := List.exists_cons_of_ne_nil h
  rw [e, List.map_cons, join_front]
/-! ### a line -/
def Clean (names : List ByteArray) : Prop := ∀ nm ∈ names, ∀ b ∈ nm.data.toList, b ≠ 32 ∧ b ≠ 10
theorem piece_clean {nm : ByteArray} (h : ∀ b ∈ nm.data.toList, b ≠ 32 ∧ b ≠ 10) (x : Int) : ∀ b ∈ (pieceOf nm x).data.toList, b ≠ 32 ∧ b ≠ 10 := by
  rw [pieceOf_data]
  intro b hb
  rcases List.mem_append.1 hb with hb | hb
  · unfold eqB at hb
    rw [ByteArray.data_append, Array.toList_append] at hb
    rcases List.mem_append.1 hb with hb | hb
    · exact h b hb
    · obtain rfl : b = 61 := by simpa using hb
      decide
  · have := num_ne (itoa_num x b hb); exact ⟨this.1, this.2.1⟩
theorem zip_mem : ∀ {names : List ByteArray} (hc : Clean names) {row : List Int}, ∀ p ∈ List.zipWith pieceOf names row, ∀ b ∈ p.data.toList, b ≠ 32 ∧ b ≠ 10
  | [], _, _, p, hp => by simp at hp
  | _ :: _, _, [], p, hp => by simp at hp
  | nm :: names, hc, x :: row, p, hp => by
    rw [List.zipWith_cons_cons] at hp
    rcases List.mem_cons.1 hp with rfl | hp
    · exact piece_clean (hc nm (by simp)) x
    · exact zip_mem (fun y hy => hc y (List.mem_cons_of_mem _ hy)) p hp
def lineOf (names : List ByteArray) (i : Nat) (row : List Int) : ByteArray := ⟨((firstB i).data.toList ++ itemsB names row).toArray⟩
theorem lineOf_data (names : List ByteArray) (i : Nat) (row : List Int) : (lineOf names i row).data.toList = (firstB i).data.toList ++ itemsB names row := rfl
theorem rowOk_iff {n : Nat} {row : List Int} : rowOk n row = true ↔ row.length = n ∧ ∀ x ∈ row, inR x := by
  unfold rowOk inR
  simp [Bool.and_eq_true]
theorem line_back {names : List ByteArray} (hc : Clean names) (i : Nat) {row : List Int} (h : rowOk names.length row = true) : lineRes names i (lineOf names i row) = (row, true) := by
  obtain ⟨hl, hr⟩ := rowOk_iff.1 h
  unfold lineRes
  by_cases hn : names.length = 0
  · obtain rfl : names = [] := List.eq_nil_of_length_eq_zero hn
    obtain rfl : row = [] := List.eq_nil_of_length_eq_zero hl
    rw [if_pos (by rw [ByteArray.toList_eq, ByteArray.toList_eq, lineOf_data]; simp [itemsB])]
    rfl
  · have hz : List.zipWith pieceOf names row ≠ [] := fun e => hn (by
      have := congrArg List.length e
      rw [List.length_zipWith, hl] at this
      simpa using this)
    have hit := items_join names row hz
    rw [if_neg (by
      rw [ByteArray.toList_eq, ByteArray.toList_eq, lineOf_data, hit]
      intro e
      have := congrArg List.length e
      rw [List.length_append, List.length_cons] at this
      omega)]
    have hd : (lineOf names i row).data.toList = (firstB i ++ (⟨#[32]⟩ : ByteArray)).data.toList ++ Lib.join ((List.zipWith pieceOf names row).map (·.data.toList)) [32] := by
      rw [lineOf_data, hit, ByteArray.data_append, Array.toList_append, List.append_assoc]; rfl
    rw [if_pos (by unfold cutOk; rw [hd]; exact pre_app _ _)]
    have hcut : (cutR' (lineOf names i row) (firstB i ++ (⟨#[32]⟩ : ByteArray))).data.toList = Lib.join ((List.zipWith pieceOf names row).map (·.data.toList)) [32] := by
      show (Lib.trimPrefix (lineOf names i row).data.toList (firstB i ++ (⟨#[32]⟩ : ByteArray)).data.toList).toArray.toList = _
      rw [hd, pre_trim]
    have hsp := splitS_join 32 _ hz _ hcut (fun p hp hb => (zip_mem hc p hp 32 hb).1 rfl)
    rw [hsp]
    have hrr := row_read names row 0 (by simpa using hl) hr
    rw [List.drop_zero] at hrr
    unfold readFrom
    rw [if_pos hrr.1, hrr.2]
    simp only [List.nil_append, hl, decide_true, Bool.and_self]
theorem line_text {names : List ByteArray} {i : Nat} {p : ByteArray} (h : (lineRes names i p).2 = true) : p.data.toList = (firstB i).data.toList ++ itemsB names (lineRes names i p).1 ∧ rowOk names.length (lineRes names i p).1 = true := by
  unfold lineRes at h ⊢
  by_cases h1 : p.toList = (firstB i).toList
  · rw [if_pos h1] at h ⊢
    have hn : names.length = 0 := of_decide_eq_true h
    obtain rfl : names = [] := List.eq_nil_of_length_eq_zero hn
    refine ⟨?_, rfl⟩
    rw [ByteArray.toList_eq, ByteArray.toList_eq] at h1
    simp [itemsB, h1]
  · rw [if_neg h1] at h ⊢
    by_cases h2 : cutOk p (firstB i ++ (⟨#[32]⟩ : ByteArray)) = true
    · rw [if_pos h2] at h ⊢
      simp only [Bool.and_eq_true, decide_eq_true_eq] at h
      have hp := pre_text h2
      rw [ByteArray.data_append, Array.toList_append] at hp
      have hq : (cutR' p (firstB i ++ (⟨#[32]⟩ : ByteArray))).data.toList = Lib.trimPrefix p.data.toList ((firstB i).data.toList ++ (⟨#[32]⟩ : ByteArray).data.toList) := by
        show (Lib.trimPrefix p.data.toList (firstB i ++ (⟨#[32]⟩ : ByteArray)).data.toList).toArray.toList = _
        rw [ByteArray.data_append, Array.toList_append]
      rw [← hq] at hp
      have hj := splitS_text 32 (cutR' p (firstB i ++ (⟨#[32]⟩ : ByteArray)))
      have hlen := splitS_len (cutR' p (firstB i ++ (⟨#[32]⟩ : ByteArray))) ⟨#[32]⟩ (by decide)
      rw [← hj] at hp
      generalize splitS (cutR' p (firstB i ++ (⟨#[32]⟩ : ByteArray))) ⟨#[32]⟩ = ps at h hp hlen ⊢
      by_cases ho : okFrom (cellOk names) 0 ps = true
      · have e : readFrom (cellOk names) (cellV names) [] 0 ps = (valFrom (cellV names) 0 ps, true) := by unfold readFrom; rw [if_pos ho]; rfl
        rw [e] at h ⊢
        obtain ⟨r1, r2, r3⟩ := row_text names ps 0 ho
        rw [List.drop_zero] at r1
        have hl := h.2
        refine ⟨?_, rowOk_iff.2 ⟨hl, r2⟩⟩
        have hz : List.zipWith pieceOf names (valFrom (cellV names) 0 ps) ≠ [] := by rw [← r1]; intro e; rw [e] at hlen; simp at hlen
        rw [items_join _ _ hz, ← r1]
        rw [hp]
        simp
      · have e : readFrom (cellOk names) (cellV names) [] 0 ps = ([], false) := by unfold readFrom; rw [if_neg ho]
        rw [e] at h; exact absurd h.1 (by decide)
    · rw [if_neg h2] at h; exact absurd h (by decide)
/-! ### all lines -/
def linesOf (names : List ByteArray) : Nat → List (List Int) → List ByteArray
  | _, [] => []
  | i, r :: rest => lineOf names i r :: linesOf names (i + 1) rest
theorem rowsB_lines (names : List ByteArray) : ∀ (tr : List (List Int)) (i : Nat), rowsB names i tr = (((linesOf names i tr).map (·.data.toList)).map (· ++ [10])).flatten
  | [], i => by simp [rowsB, linesOf]
  | r :: tr, i => by
    have ih := rowsB_lines names tr (i + 1)
    simp only [rowsB, linesOf, List.map_cons, List.flatten_cons, ih, lineOf_data, rowB]
theorem lines_read {names : List ByteArray} (hc : Clean names) : ∀ (tr : List (List Int)) (i : Nat), tr.all (rowOk names.length) = true → okFrom (lineOk names) i (linesOf names i tr) = true ∧ valFrom (lineV names) i (linesOf names i tr) = tr
  | [], i, _ => by simp [linesOf, okFrom, valFrom]
  | r :: tr, i, h => by
    simp only [List.all_cons, Bool.and_eq_true] at h
    have hb := line_back hc i h.1
    have ih := lines_read hc tr (i + 1) h.2
    unfold linesOf okFrom valFrom
    rw [ih.1, ih.2]
    unfold lineOk lineV
    rw [hb]
    exact ⟨rfl, rfl⟩
theorem lines_text (names : List ByteArray) : ∀ (ps : List ByteArray) (i : Nat), okFrom (lineOk names) i ps = true → linesOf names i (valFrom (lineV names) i ps) = ps ∧ (valFrom (lineV names) i ps).all (rowOk names.length) = true ∧ (valFrom (lineV names) i ps).length = ps.length
  | [], i, _ => by simp [linesOf, valFrom]
  | p :: ps, i, h => by
    unfold okFrom at h
    simp only [Bool.and_eq_true] at h
    have ht := line_text (names := names) (i := i) (p := p) h.1
    obtain ⟨i1, i2, i3⟩ := lines_text names ps (i + 1) h.2
    have e : lineOf names i (lineV names i p) = p := ba_list (by rw [lineOf_data]; exact ht.1.symm)
    unfold valFrom linesOf
    rw [i1, e]
    refine ⟨rfl, ?_, by rw [List.length_cons, List.length_cons, i3]⟩
    rw [List.all_cons, i2, Bool.and_true]
    exact ht.2
theorem lines_ne {names : List ByteArray} {tr : List (List Int)} {i : Nat} (h : tr ≠ []) : linesOf names i tr ≠ [] := by
  cases tr with
  | nil => exact absurd rfl h
  | cons r tr => simp [linesOf]
theorem firstB_line (i : Nat) : (10 : UInt8) ∉ (firstB i).data.toList := by
  unfold firstB
  rw [ByteArray.data_append, Array.toList_append, numB_data]
  intro h
  rcases List.mem_append.1 h with h | h
  · exact itoa_line _ h
  · revert h; decide
theorem lineOf_line {names : List ByteArray} (hc : Clean names) (i : Nat) (row : List Int) : (10 : UInt8) ∉ (lineOf names i row).data.toList := by
  rw [lineOf_data, items_eq]
  intro h
  rcases List.mem_append.1 h with h | h
  · exact firstB_line i h
  · obtain ⟨z, hz, hb⟩ := List.mem_flatten.1 h
    obtain ⟨y, hy, rfl⟩ := List.mem_map.1 hz
    obtain ⟨p, hp, rfl⟩ := List.mem_map.1 hy
    rcases List.mem_cons.1 hb with hb | hb
    · exact absurd hb (by decide)
    · exact (zip_mem hc p hp 10 hb).2 rfl
theorem lines_clean {names : List ByteArray} (hc : Clean names) : ∀ (tr : List (List Int)) (i : Nat), ∀ x ∈ linesOf names i tr, (10 : UInt8) ∉ x.data.toList
  | [], i, x, hx => by simp [linesOf] at hx
  | r :: tr, i, x, hx => by
    unfold linesOf at hx
    rcases List.mem_cons.1 hx with rfl | hx
    · exact lineOf_line hc i r
    · exact lines_clean hc tr (i + 1) x hx
/-! ### a trace -/
theorem suf_app (a b : List UInt8) : Lib.hasSuffix (a ++ b) b = true := by unfold Lib.hasSuffix; simp
theorem suf_trim (a b : List UInt8) : Lib.trimSuffix (a ++ b) b = a := by
  unfold Lib.trimSuffix
  rw [if_pos (suf_app a b), List.length_append, Nat.add_sub_cancel, List.take_left]
theorem suf_text {s p : List UInt8} (h : Lib.hasSuffix s p = true) : s = Lib.trimSuffix s p ++ p := by
  unfold Lib.trimSuffix
  rw [if_pos h]
  unfold Lib.hasSuffix at h
  obtain ⟨r, rfl⟩ := List.isSuffixOf_iff_suffix.1 h
  rw [List.length_append, Nat.add_sub_cancel, List.take_left]
theorem names_clean {l1 : List S72} (h : unlikeB (namesP l1) = true) : Clean (l1.map (·.f0)) := by
  unfold unlikeB at h
  simp only [Bool.and_eq_true, decide_eq_true_eq, List.all_eq_true, Bool.not_eq_true'] at h
  intro nm hnm b hb
  obtain ⟨x, hx, rfl⟩ := List.mem_map.1 hnm
  have := odd_ne (bad_no _ (h.2 _ (List.mem_map.2 ⟨x, hx, rfl⟩)) b hb)
  exact ⟨this.1, this.2.1⟩
theorem back_of (l1 : List S72) (l2 : List S114) (tr : List (List Int)) (s : ByteArray) (hs : s.data.toList = traceB l1 l2 tr) (hne : s.data.toList ≠ [] ∨ tr = [] ∧ (unlikeB (namesP l1) && unlikeB (namesC l2)) = true) : backB l1 l2 s = (tr, true) := by
  unfold traceB at hs
  unfold backB
  by_cases hc : (unlikeB (namesP l1) && unlikeB (namesC l2)) = true ∧ tr.all (rowOk l1.length) = true
  · rw [if_pos hc] at hs
    rw [if_pos hc.1]
    by_cases ht : tr = []
    · subst ht
      rw [if_pos (by rw [ByteArray.toList_eq, hs]; rfl)]
    · have hcl := names_clean (Bool.and_eq_true_iff.1 hc.1).1
      have hlen : (l1.map (·.f0)).length = l1.length := List.length_map ..
      have hne2 := lines_ne (names := l1.map (·.f0)) (i := 0) ht
      have hcln := lines_clean hcl tr 0
      have hrd := lines_read hcl tr 0 (by rw [hlen]; exact hc.2)
      rw [rowsB_lines] at hs
      generalize linesOf (l1.map (·.f0)) 0 tr = ls at hs hne2 hcln hrd
      have hjb : s.data.toList = Lib.join (ls.map (·.data.toList)) [10] ++ [10] := by
        rw [hs]
        obtain ⟨w, ws, e⟩ := List.exists_cons_of_ne_nil hne2
        rw [e, List.map_cons, join_back]
      rw [if_neg (by rw [ByteArray.toList_eq, hjb]; simp), if_pos (by unfold endsB; rw [hjb]; exact suf_app _ _)]
      have htr : (trimB s).data.toList = Lib.join (ls.map (·.data.toList)) [10] := by
        show (Lib.trimSuffix s.data.toList [10]).toArray.toList = _
        rw [hjb, suf_trim]
      rw [splitS_join 10 ls hne2 _ htr hcln]
      unfold readFrom
      rw [if_pos hrd.1, hrd.2]; rfl
  · rw [if_neg hc] at hs
    rcases hne with hne | ⟨rfl, h⟩
    · exact absurd hs hne
    · exact absurd ⟨h, rfl⟩ hc
set_option maxHeartbeats 4000000 in
theorem text_back (l1 : List S72) (l2 : List S114) (u : ByteArray) :
    ((backB l1 l2 u).2 = true → traceB l1 l2 (backB l1 l2 u).1 = u.data.toList ∧ (backB l1 l2 u).1.length ≤ u.size + 1) ∧ ((backB l1 l2 u).2 = false → (backB l1 l2 u).1 = []) := by
  unfold backB
  by_cases hc : (unlikeB (namesP l1) && unlikeB (namesC l2)) = true
  · rw [if_pos hc]
    by_cases h0 : u.toList = []
    · rw [if_pos h0]
      refine ⟨fun _ => ⟨?_, by simp⟩, fun h => absurd (show true = false from h) (by decide)⟩
      unfold traceB
      rw [if_pos ⟨hc, rfl⟩, ← ByteArray.toList_eq, h0]; rfl
    · rw [if_neg h0]
      by_cases he : endsB u = true
      · rw [if_pos he]
        have hu := suf_text he
        have htr : (trimB u).data.toList = Lib.trimSuffix u.data.toList [10] := rfl
        rw [← htr, ← splitS_text 10 (trimB u)] at hu
        have hlen := splitS_len (trimB u) ⟨#[10]⟩ (by decide)
        have hbd := splitS_bound (trimB u) ⟨#[10]⟩ (by decide)
        have hts := trimB_size u
        generalize splitS (trimB u) ⟨#[10]⟩ = ps at hu hlen hbd ⊢
        by_cases ho : okFrom (lineOk (l1.map (·.f0))) 0 ps = true
        · have e : readFrom (lineOk (l1.map (·.f0))) (lineV (l1.map (·.f0))) [] 0 ps = (valFrom (lineV (l1.map (·.f0))) 0 ps, true) := by unfold readFrom; rw [if_pos ho]; rfl
          rw [e]
          refine ⟨fun _ => ?_, fun h => absurd (show true = false from h) (by decide)⟩
          obtain ⟨r1, r2, r3⟩ := lines_text (l1.map (·.f0)) ps 0 ho
          have hl1 : (l1.map (·.f0)).length = l1.length := List.length_map ..
          rw [hl1] at r2
          refine ⟨?_, by show (valFrom (lineV (l1.map (·.f0))) 0 ps).length ≤ _; omega⟩
          unfold traceB
          rw [if_pos ⟨hc, r2⟩, rowsB_lines, r1]
          cases ps with
          | nil => simp at hlen
          | cons w ws => rw [hu, List.map_cons, join_back]
        · have e : readFrom (lineOk (l1.map (·.f0))) (lineV (l1.map (·.f0))) [] 0 ps = ([], false) := by unfold readFrom; rw [if_neg ho]
          rw [e]
          exact ⟨fun h => absurd (show false = true from h) (by decide), fun _ => rfl⟩
      · rw [if_neg he]
        exact ⟨fun h => absurd (show false = true from h) (by decide), fun _ => rfl⟩
  · rw [if_neg hc]
    exact ⟨fun h => absurd (show false = true from h) (by decide), fun _ => rfl⟩
end Go.Proofs.YtmfekngjhiofaaaGreatDoor.Q
