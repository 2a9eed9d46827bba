/-
  Plain: the document's number, line and Back (layer 27) tell what lift.Back tells.
-/
import Derived.Test.YtmfekngjhiofaaaGreatDoorQx13
import Derived.Test.YtmfekngjhiofaaaGreatDoorQx14
import Derived.Test.YtmfekngjhiofaaaGreatDoorQx15
import Derived.Test.YtmfekngjhiofaaaGreatDoorPRCut
import Derived.Test.YtmfekngjhiofaaaGreatDoorPRNum27
import Derived.Test.YtmfekngjhiofaaaGreatDoorPRNamed
import Derived.Test.YtmfekngjhiofaaaGreatDoorPBack
set_option linter.unusedVariables false
set_option linter.unusedSimpArgs false
namespace Go.Proofs.YtmfekngjhiofaaaGreatDoor.Q
open Go.RowKit Go.Proofs.YtmfekngjhiofaaaGreatDoorW.PrintWords Go.Proofs.YtmfekngjhiofaaaGreatDoorW.PrintLast Go.Proofs.YtmfekngjhiofaaaGreatDoorW.PrintMore
/-! ### numbers -/
abbrev Digs (l : List UInt8) : Prop := ∀ c ∈ l, 48 ≤ c.toNat ∧ c.toNat ≤ 57
theorem decVal_snoc (p : List UInt8) (c : UInt8) : decVal (p ++ [c]) = decVal p * 10 + (c.toNat - 48) := by unfold decVal; rw [List.foldl_append]; rfl
theorem dec_head : ∀ (n u : Nat), u ≤ n → (Lib.decDigits u).length = 1 ∨ (Lib.decDigits u).head? ≠ some 48 := by
  intro n
  induction n with
  | zero => intro u hu; exact .inl (by rw [digs_small (by omega)]; rfl)
  | succ n ih =>
    intro u hu
    by_cases h : u < 10
    · exact .inl (by rw [digs_small h]; rfl)
    · refine .inr ?_
      rw [digs_big h]
      by_cases h2 : u / 10 < 10
      · rw [digs_small h2]
        intro e
        have e2 : UInt8.ofNat (48 + u / 10) = 48 := Option.some.inj e
        have := congrArg UInt8.toNat e2
        rw [UInt8.toNat_ofNat_of_lt' (by show 48 + u / 10 < 256; omega)] at this
        have e3 : (48 : UInt8).toNat = 48 := rfl
        omega
      · rcases ih (u / 10) (by omega) with h3 | h3
        · rw [digs_big h2] at h3
          have h4 : (Lib.decDigits (u / 10 / 10)).length = 0 := by rw [List.length_append, List.length_singleton] at h3; omega
          have h5 := dec_digit (u / 10 / 10)
          have h6 : Lib.decDigits (u / 10 / 10) = [] := List.eq_nil_of_length_eq_zero h4
          by_cases h7 : u / 10 / 10 < 10
          · rw [digs_small h7] at h6; cases h6
          · rw [digs_big h7] at h6; simp at h6
        · cases hd : Lib.decDigits (u / 10) with
          | nil =>
            rw [digs_big h2] at hd; simp at hd
          | cons x xs => rw [hd] at h3; simpa using h3
theorem canon : ∀ (n : Nat) (l : List UInt8), l.length = n → l ≠ [] → Digs l → (l.length = 1 ∨ l.head? ≠ some 48) → Lib.decDigits (decVal l) = l ∧ (l.length ≠ 1 → 1 ≤ decVal l) := by
  intro n
  induction n with
  | zero => intro l h1 h2; exact absurd (List.eq_nil_of_length_eq_zero h1) h2
  | succ n ih =>
    intro l h1 h2 h3 h4
    obtain ⟨p, c, rfl⟩ : ∃ p c, l = p ++ [c] := ⟨l.dropLast, l.getLast h2, (List.dropLast_concat_getLast h2).symm⟩
    have hc := h3 c (by simp)
    have hx : UInt8.ofNat (48 + (c.toNat - 48)) = c := by rw [show 48 + (c.toNat - 48) = c.toNat by omega]; simp
    cases hp : p with
    | nil =>
      refine ⟨?_, fun h => absurd rfl h⟩
      show Lib.decDigits (0 * 10 + (c.toNat - 48)) = [c]
      rw [digs_small (by omega), show 0 * 10 + (c.toNat - 48) = c.toNat - 48 by omega, hx]
    | cons y ys =>
      rw [← hp]
      have hpl : p.length = n := by simpa using h1
      have hpn : p ≠ [] := by rw [hp]; simp
      have hh : p.head? ≠ some 48 := by
        rcases h4 with h4 | h4
        · rw [List.length_append, hp] at h4; simp at h4
        · rw [hp] at h4 ⊢; simpa using h4
      have hpd : Digs p := fun z hz => h3 z (by simp [hz])
      obtain ⟨i1, _⟩ := ih p hpl hpn hpd (.inr hh)
      have hpos : 1 ≤ decVal p := by
        rw [hp] at hh hpd ⊢
        have hy := hpd y (by simp)
        have hne : y ≠ 48 := fun e => hh (by rw [e]; rfl)
        have hy2 : y.toNat ≠ 48 := fun e => hne (UInt8.toNat_inj.1 e)
        have := fold_ge ys (stepD 0 y)
        unfold decVal
        rw [List.foldl_cons]
        have e0 : stepD 0 y = y.toNat - 48 := by unfold stepD; omega
        rw [e0] at this
        show 1 ≤ ys.foldl stepD (stepD 0 y)
        rw [e0]
        omega
      rw [decVal_snoc]
      refine ⟨?_, fun _ => by omega⟩
      rw [digs_big (by omega), show (decVal p * 10 + (c.toNat - 48)) / 10 = decVal p by omega, show (decVal p * 10 + (c.toNat - 48)) % 10 = c.toNat - 48 by omega, i1, hx]
/-- a number's text: digits, no 0 ahead, at most 65535 -/
def NumP (l : List UInt8) : Prop := Digs l ∧ decVal l ≤ 65535 ∧ l ≠ [] ∧ (l.length = 1 ∨ l.head? ≠ some 48)
theorem numP_ok (s : ByteArray) : (NumP s.data.toList ↔ numOk s = true) ∧ (NumP s.data.toList → numV s = (decVal s.data.toList : Int)) := by
  have h1 : NumP s.data.toList → numOk s = true ∧ numV s = (decVal s.data.toList : Int) := by
    rintro ⟨a, b, c, d⟩
    have := (canon _ _ rfl c a d).1
    refine numOk_itoa (by omega) (by omega) ?_
    unfold Lib.itoa
    rw [if_neg (by omega), Int.toNat_natCast, this]
  refine ⟨⟨fun h => (h1 h).1, fun h => ?_⟩, fun h => (h1 h).2⟩
  obtain ⟨a, b, c⟩ := numOk_text h
  unfold Lib.itoa at c
  rw [if_neg (by omega)] at c
  rw [c]
  refine ⟨dec_digit _, by rw [decVal_dec]; omega, ?_, dec_head _ _ (Nat.le_refl _)⟩
  intro e
  by_cases h7 : (numV s).toNat < 10
  · rw [digs_small h7] at e; cases e
  · rw [digs_big h7] at e; simp at e
theorem wrap_small (x : Int) (h1 : -4611686018427387904 ≤ x) (h2 : x ≤ 4611686018427387904) : wrap64 x = x := by unfold wrap64; omega
theorem step_wrap (n c : Nat) (h1 : n ≤ 65535) (h2 : 48 ≤ c) (h3 : c ≤ 57) : wrap64 (wrap64 (wrap64 (10 * (n : Int)) + wrap64 (c : Int)) - 48) = ((n * 10 + (c - 48) : Nat) : Int) := by
  rw [wrap_small (10 * (n : Int)) (by omega) (by omega), wrap_small (c : Int) (by omega) (by omega), wrap_small (10 * (n : Int) + c) (by omega) (by omega), wrap_small _ (by omega) (by omega)]
  omega
theorem number_l0 (s : ByteArray) (hs : s.size < 1000000) (d : Nat) : ∀ (k i n : Nat), s.size - i = d → i ≤ s.size → d < k → n ≤ 655369 → ∃ r b, proofmarkref27_number.l0 k s 65535 (n : Int) (i : Int) = some (r, b) ∧ ((b = true ↔ (Digs (s.data.toList.drop i) ∧ (s.data.toList.drop i).foldl stepD n ≤ 65535 ∧ s.data.toList ≠ [] ∧ (s.data.toList.length = 1 ∨ s.data.toList.head? ≠ some 48)))) ∧ (b = true → r = ((s.data.toList.drop i).foldl stepD n : Nat)) := by
  have hsl : s.data.toList.length = s.size := by simp
  induction d with
  | zero =>
    intro k i n h1 h2 h3 h4
    obtain ⟨k, rfl⟩ : ∃ q, k = q + 1 := ⟨k - 1, by omega⟩
    have hd : s.data.toList.drop i = [] := List.drop_eq_nil_of_le (by omega)
    rw [hd]
    simp only [proofmarkref27_number.l0, List.foldl_nil]
    rw [if_neg (by omega)]
    by_cases h0 : s.data.toList = []
    · rw [if_pos (by rw [ByteArray.toList_eq]; exact h0)]
      exact ⟨_, _, rfl, ⟨nofun, fun h => absurd h0 h.2.2.1⟩, nofun⟩
    · rw [if_neg (by rw [ByteArray.toList_eq]; exact h0)]
      by_cases hn : n ≤ 65535
      · rw [if_pos (by omega)]
        have hdn : Digs [] := fun c hc => by cases hc
        by_cases hz : (s.size : Int) = 1
        · rw [if_pos hz]
          exact ⟨_, _, rfl, ⟨fun _ => ⟨hdn, hn, h0, .inl (by omega)⟩, fun _ => rfl⟩, fun _ => rfl⟩
        · have hpos : 0 < s.data.toList.length := List.length_pos_iff.2 h0
          rw [if_neg hz, if_pos (by omega)]
          have hb := bt_list s 0 hpos
          refine ⟨_, _, rfl, ?_, fun _ => rfl⟩
          have hhd : s.data.toList.head? = some s.data.toList[0] := by rw [List.head?_eq_getElem?, List.getElem?_eq_getElem hpos]
          have e0 : ((0 : Nat) : Int) = 0 := rfl
          rw [e0] at hb
          rw [hb, hhd]
          constructor
          · intro h
            refine ⟨hdn, hn, h0, .inr fun e => ?_⟩
            rw [Option.some.inj e] at h
            exact absurd h (by decide)
          · rintro ⟨_, _, _, h | h⟩
            · omega
            · rw [bne_iff_ne]
              intro e
              apply h
              have : s.data.toList[0].toNat = 48 := by omega
              rw [show s.data.toList[0] = 48 from UInt8.toNat_inj.1 this]
      · rw [if_neg (by omega)]
        exact ⟨_, _, rfl, ⟨nofun, fun h => absurd h.2.1 hn⟩, nofun⟩
  | succ d ih =>
    intro k i n h1 h2 h3 h4
    obtain ⟨k, rfl⟩ : ∃ q, k = q + 1 := ⟨k - 1, by omega⟩
    have hi : i < s.data.toList.length := by omega
    have hb := bt_list s i hi
    have hdr : s.data.toList.drop i = s.data.toList[i] :: s.data.toList.drop (i + 1) := List.drop_eq_getElem_cons hi
    have h256 : s.data.toList[i].toNat < 256 := UInt8.toNat_lt _
    simp only [proofmarkref27_number.l0]
    rw [if_pos (by omega), if_pos (by omega), hb, hdr, List.foldl_cons]
    generalize s.data.toList[i] = c at h256 ⊢
    by_cases c1 : c.toNat < 48
    · rw [if_pos (by omega)]
      exact ⟨_, _, rfl, ⟨nofun, fun h => by have := h.1 c (by simp); omega⟩, nofun⟩
    rw [if_neg (by omega)]
    by_cases c2 : 57 < c.toNat
    · rw [if_pos (by omega)]
      exact ⟨_, _, rfl, ⟨nofun, fun h => by have := h.1 c (by simp); omega⟩, nofun⟩
    rw [if_neg (by omega)]
    by_cases c3 : 65535 < n
    · rw [if_pos (by omega)]
      refine ⟨_, _, rfl, ⟨nofun, fun h => ?_⟩, nofun⟩
      have h5 := fold_ge (s.data.toList.drop (i + 1)) (stepD n c)
      have h6 : n ≤ stepD n c := by unfold stepD; omega
      exact absurd h.2.1 (by omega)
    rw [if_neg (by omega)]
    have hn2 : stepD n c ≤ 655369 := by unfold stepD; omega
    have e1 : wrap64 (wrap64 (wrap64 (10 * (n : Int)) + wrap64 (c.toNat : Int)) - 48) = ((stepD n c : Nat) : Int) := step_wrap n c.toNat (by omega) (by omega) (by omega)
    rw [wrap_one i (by omega), e1]
    clear e1
    obtain ⟨r, b, q1, q2, q3⟩ := ih k (i + 1) (stepD n c) (by omega) (by omega) (by omega) hn2
    refine ⟨r, b, q1, ?_, q3⟩
    rw [q2]
    constructor
    · rintro ⟨a1, a2, a3⟩
      exact ⟨fun z hz => by rcases List.mem_cons.1 hz with rfl | hz; exact ⟨by omega, by omega⟩; exact a1 z hz, a2, a3⟩
    · rintro ⟨a1, a2, a3⟩
      exact ⟨fun z hz => a1 z (List.mem_cons_of_mem _ hz), a2, a3⟩
theorem number_f (s : ByteArray) (hs : s.size < 1000000) (k : Nat) (hk : s.size < k) : ∃ r, proofmarkref27_number.f k s 65535 = some (r, numOk s) ∧ (numOk s = true → r = numV s) := by
  obtain ⟨r, b, h1, h2, h3⟩ := number_l0 s hs s.size k 0 0 (by omega) (by omega) hk (by omega)
  rw [List.drop_zero] at h2 h3
  obtain ⟨p1, p2⟩ := numP_ok s
  have hb : b = numOk s := by
    rw [Bool.eq_iff_iff, h2]; exact p1
  refine ⟨r, ?_, fun h => ?_⟩
  · unfold proofmarkref27_number.f; rw [← hb]; exact h1
  · rw [p2 (p1.2 h)]
    exact h3 (hb.trans h)
/-! ### a pin's piece -/
theorem piece_ref {names : List ByteArray} {k : Nat} {nm p : ByteArray} (hk : names[k]? = some nm) (hn : (61 : UInt8) ∉ nm.data.toList) :
    (cellOk names k p = true ↔ ∃ q : ByteArray, splitS p ⟨#[61]⟩ = [nm, q] ∧ numOk q = true) ∧ ∀ q, splitS p ⟨#[61]⟩ = [nm, q] → cellV names k p = numV q := by
  have htr : ∀ q, splitS p ⟨#[61]⟩ = [nm, q] → cutOk p (eqB nm) = true ∧ cutR' p (eqB nm) = q := by
    intro q hq
    have ht := splitS_text 61 p
    rw [hq, List.map_cons, List.map_cons, List.map_nil, join_two, join_one] at ht
    have hp : p.data.toList = (eqB nm).data.toList ++ q.data.toList := by
      unfold eqB
      rw [ByteArray.data_append, Array.toList_append, List.append_assoc]
      exact ht.symm
    refine ⟨by unfold cutOk; rw [hp]; exact pre_app _ _, ?_⟩
    apply ba_list
    show (Lib.trimPrefix p.data.toList (eqB nm).data.toList).toArray.toList = _
    rw [hp, pre_trim]
  constructor
  · constructor
    · intro h
      unfold cellOk at h
      rw [hk] at h
      simp only [Bool.and_eq_true] at h
      refine ⟨cutR' p (eqB nm), ?_, h.2⟩
      have hp := pre_text h.1
      have hr := numOk_text h.2
      have hq : p = ⟨(nm.data.toList ++ ([61] ++ (cutR' p (eqB nm)).data.toList)).toArray⟩ := by
        apply ba_list
        conv => lhs; rw [hp]
        unfold eqB
        rw [ByteArray.data_append, Array.toList_append, List.append_assoc]
        rfl
      have hno : (61 : UInt8) ∉ (cutR' p (eqB nm)).data.toList := fun hm => by
        rw [hr.2.2] at hm
        have := itoa_num _ _ hm
        revert this; decide
      generalize cutR' p (eqB nm) = rest at hq hno
      rw [hq, splitS_front 61 nm.data.toList rest.data.toList hn]
      rw [splitS_miss _ _ (index1_clean 61 rest.data.toList hno)]
    · rintro ⟨q, hq, ho⟩
      have := htr q hq
      unfold cellOk
      rw [hk]
      simp only [Bool.and_eq_true]
      exact ⟨this.1, by rw [this.2]; exact ho⟩
  · intro q hq
    have := htr q hq
    unfold cellV
    rw [hk]
    show numV (cutR' p (eqB nm)) = numV q
    rw [this.2]
theorem cut_size (c : UInt8) {s : ByteArray} (hs : s.size ≤ 100000) : s.size + (⟨#[c]⟩ : ByteArray).size < 1000000000 := by
  have e : (⟨#[c]⟩ : ByteArray).size = 1 := rfl
  rw [e]; omega
/-! ### a line -/
section
variable (n0 : List S125) (n1 : List S72) (n2 : List S114) (n3 : List S105) (n4 : List S72)
/-- names without what cuts -/
abbrev CleanP (n1 : List S72) : Prop := ∀ x ∈ n1, ∀ b ∈ x.f0.data.toList, b ≠ 32 ∧ b ≠ 10 ∧ b ≠ 61
theorem line_l0 (hc : CleanP n1) (l : List ByteArray) (hl : l.length = n1.length + 1) (hn : n1.length ≤ 1000) (hz : ∀ p ∈ l, p.size ≤ 100000) (d : Nat) : ∀ (k j : Nat) (row : List Int), n1.length - j = d → j ≤ n1.length → 2 * d + 300000 < k → row.length ≤ j →
    proofmarkref27_line.l0 k row l (j : Int) n0 n1 n2 n3 n4 = some (readFrom (cellOk (n1.map (·.f0))) (cellV (n1.map (·.f0))) row j (l.drop (j + 1))) := by
  induction d with
  | zero =>
    intro k j row h1 h2 h3 h4
    obtain ⟨k, rfl⟩ : ∃ q, k = q + 1 := ⟨k - 1, by omega⟩
    simp only [proofmarkref27_line.l0]
    rw [if_neg (by omega), List.drop_eq_nil_of_le (by omega), readFrom_nil]
  | succ d ih =>
    intro k j row h1 h2 h3 h4
    obtain ⟨k, rfl⟩ : ∃ q, k = q + 2 := ⟨k - 2, by omega⟩
    have hj : j < n1.length := by omega
    have hj1 : j + 1 < l.length := by omega
    have hnm : (n1.map (·.f0))[j]? = some n1[j].f0 := by rw [List.getElem?_map, List.getElem?_eq_getElem hj]; rfl
    have hrd : rd_T72 n1 (j : Int) = n1[j] := by simp [rd_T72, hj]
    have hmem : l[j + 1] ∈ l := List.getElem_mem hj1
    have hp := piece_ref (p := l[j + 1]) hnm (fun hm => (hc _ (List.getElem_mem hj) 61 hm).2.2 rfl)
    have hsz := hz _ hmem
    have hss := splitS_sizes l[j + 1] ⟨#[61]⟩
    simp only [proofmarkref27_line.l0]
    rw [if_pos (by omega), wrap_one j (by omega), if_pos (by omega), if_pos (by omega), rdOf_at l (j + 1) hj1, cut_f l[j + 1] ⟨#[61]⟩ (by decide) (cut_size 61 hsz) (k + 1) (by omega)]
    simp only [Option.bind_some]
    rw [List.drop_eq_getElem_cons hj1]
    generalize l[j + 1] = p at hp hsz hss ⊢
    by_cases hok : cellOk (n1.map (·.f0)) j p = true
    · obtain ⟨q, hq, hnum⟩ := hp.1.1 hok
      have hv := hp.2 q hq
      have hqs := hss q (by rw [hq]; simp)
      obtain ⟨r, hr1, hr2⟩ := number_f q (by omega) k (by omega)
      rw [hq, if_pos (show ((([n1[j].f0, q] : List ByteArray).length : Nat) : Int) = 2 from rfl), if_pos (by simp), if_pos (by omega), hrd]
      have e0 : rdOf ByteArray.empty [n1[j].f0, q] 0 = n1[j].f0 := rfl
      have e1 : rdOf ByteArray.empty [n1[j].f0, q] 1 = q := rfl
      rw [e0]
      simp only [proofmarkref27_line.j2]
      rw [if_neg (by simp), if_pos (by simp), e1, hr1]
      simp only [Option.bind_some]
      rw [if_pos hnum, if_pos (by omega)]
      rw [wrap_one j (by omega), ih k (j + 1) (row ++ [r]) (by omega) (by omega) (by omega) (by rw [List.length_append]; simp; omega), readFrom_ok hok, hv, hr2 hnum]
    · have hbad := Bool.eq_false_iff.2 hok
      rw [readFrom_bad hbad]
      by_cases h2l : ((splitS p ⟨#[61]⟩).length : Int) = 2
      · obtain ⟨x, q, hq⟩ : ∃ x q, splitS p ⟨#[61]⟩ = [x, q] := by
          cases hs : splitS p ⟨#[61]⟩ with
          | nil => rw [hs] at h2l; simp at h2l
          | cons x xs =>
            cases xs with
            | nil => rw [hs] at h2l; simp at h2l
            | cons y ys =>
              cases ys with
              | nil => exact ⟨x, y, rfl⟩
              | cons z zs => rw [hs] at h2l; simp at h2l; omega
        have hqs := hss q (by rw [hq]; simp)
        rw [if_pos h2l, hq, if_pos (by simp), if_pos (by omega), hrd]
        have e0 : rdOf ByteArray.empty [x, q] 0 = x := rfl
        have e1 : rdOf ByteArray.empty [x, q] 1 = q := rfl
        rw [e0]
        simp only [proofmarkref27_line.j2]
        by_cases hx : x.toList = n1[j].f0.toList
        · have hxe : x = n1[j].f0 := ba_list (by rw [ByteArray.toList_eq, ByteArray.toList_eq] at hx; exact hx)
          obtain ⟨r, hr1, hr2⟩ := number_f q (by omega) k (by omega)
          have hnum : numOk q = false := by
            cases hh : numOk q with
            | false => rfl
            | true => exact absurd (hp.1.2 ⟨q, by rw [hq, hxe], hh⟩) hok
          rw [if_neg (by rw [hx]; simp), if_pos (by simp), e1, hr1]
          simp only [Option.bind_some]
          rw [if_neg (by rw [hnum]; simp)]
        · rw [if_pos (by rw [bne_iff_ne]; exact hx)]
      · rw [if_neg h2l]
        simp only [proofmarkref27_line.j2]
        rw [if_pos trivial]
/-- what is told of a line -/
def lineOut (names : List ByteArray) (i : Nat) (s : ByteArray) : List Int × Bool := if lineOk names i s = true then (lineV names i s, true) else ([], false)
theorem num_any (i : Nat) (hi : i ≤ 4000000000) (k : Nat) (hk : 30 ≤ k) : proofmarkref27_Num.f k (i : Int) = some (numB (i : Int)) := by
  have h30 := num27_f (i : Int) (by omega) (by omega)
  obtain ⟨q, rfl⟩ : ∃ q, k = 30 + q := ⟨k - 30, by omega⟩
  clear hk
  induction q with
  | zero => exact h30
  | succ q ih => exact proofmarkref27_Num.mono _ _ _ ih
theorem first_clean (i : Nat) : (32 : UInt8) ∉ (firstB i).data.toList := by
  unfold firstB
  rw [ByteArray.data_append, Array.toList_append, numB_data]
  intro h
  rcases List.mem_append.1 h with h | h
  · have := itoa_num _ _ h; revert this; decide
  · revert h; decide
theorem first_size (i : Nat) (hi : i ≤ 4000000000) : (numB (i : Int)).size + 1 ≤ 9223372036854775807 := by
  have hfz : (firstB i).size ≤ 22 := firstB_size i (by omega)
  have e : (firstB i).size = (numB (i : Int)).size + 1 := by unfold firstB; rw [ByteArray.size_append]; rfl
  omega
theorem line_open (hn : n1.length ≤ 1000) (i : Nat) (hi : i ≤ 4000000000) (s : ByteArray) (hs : s.size ≤ 100000) (k : Nat) (hk : 400000 < k) :
    proofmarkref27_line.f k n0 n1 n2 n3 n4 (i : Int) s = if (splitS s ⟨#[32]⟩).length = n1.length + 1 then proofmarkref27_line.j0 k [] (splitS s ⟨#[32]⟩) ((rdOf ByteArray.empty (splitS s ⟨#[32]⟩) 0).toList != (firstB i).toList) n0 n1 n2 n3 n4 else some (([] : List Int), false) := by
  have hnum := num_any i hi k (by omega)
  have hnz := first_size i hi
  unfold proofmarkref27_line.f
  rw [Option.bind_some, cut_f s ⟨#[32]⟩ (by decide) (cut_size 32 hs) k (by omega), Option.bind_some, wrap_one n1.length (by omega)]
  generalize splitS s ⟨#[32]⟩ = l
  by_cases hl : l.length = n1.length + 1
  · rw [if_pos hl, if_pos (by rw [hl]), if_pos (by omega), hnum, Option.bind_some, if_pos hnz, show (numB (i : Int) ++ (⟨#[58]⟩ : ByteArray)) = firstB i from rfl]
  · rw [if_neg hl, if_neg (by omega)]
    obtain ⟨k, rfl⟩ : ∃ q, k = q + 1 := ⟨k - 1, by omega⟩
    simp only [proofmarkref27_line.j0]
    rw [if_pos trivial]
theorem line_go (hc : CleanP n1) (hn : n1.length ≤ 1000) (i : Nat) (s : ByteArray) (hs : s.size ≤ 100000) (k : Nat) (hk : 400000 < k) (hl : (splitS s ⟨#[32]⟩).length = n1.length + 1) :
    proofmarkref27_line.j0 k [] (splitS s ⟨#[32]⟩) ((rdOf ByteArray.empty (splitS s ⟨#[32]⟩) 0).toList != (firstB i).toList) n0 n1 n2 n3 n4 = some (if (rdOf ByteArray.empty (splitS s ⟨#[32]⟩) 0).toList = (firstB i).toList then readFrom (cellOk (n1.map (·.f0))) (cellV (n1.map (·.f0))) [] 0 ((splitS s ⟨#[32]⟩).drop 1) else ([], false)) := by
  have hsz := splitS_sizes s ⟨#[32]⟩
  obtain ⟨k, rfl⟩ : ∃ q, k = q + 1 := ⟨k - 1, by omega⟩
  generalize splitS s ⟨#[32]⟩ = l at hl hsz ⊢
  simp only [proofmarkref27_line.j0]
  by_cases he : (rdOf ByteArray.empty l 0).toList = (firstB i).toList
  · rw [if_pos he, if_neg (by rw [he]; simp)]
    exact line_l0 n0 n1 n2 n3 n4 hc l hl hn (fun p hp => by have := hsz p hp; omega) n1.length k 0 [] (by omega) (by omega) (by omega) (by simp)
  · rw [if_neg he, if_pos (by rw [bne_iff_ne]; exact he)]
set_option maxHeartbeats 1000000 in
theorem line_f (hc : CleanP n1) (hn : n1.length ≤ 1000) (i : Nat) (hi : i ≤ 4000000000) (s : ByteArray) (hs : s.size ≤ 100000) (k : Nat) (hk : 400000 < k) :
    proofmarkref27_line.f k n0 n1 n2 n3 n4 (i : Int) s = some (lineOut (n1.map (·.f0)) i s) := by
  have hlen := splitS_len s ⟨#[32]⟩ (by decide)
  have hnm : (n1.map (·.f0)).length = n1.length := List.length_map ..
  have hfb := first_clean i
  rw [line_open n0 n1 n2 n3 n4 hn i hi s hs k hk]
  have hgo := line_go n0 n1 n2 n3 n4 hc hn i s hs k hk
  generalize proofmarkref27_line.j0 k [] (splitS s ⟨#[32]⟩) ((rdOf ByteArray.empty (splitS s ⟨#[32]⟩) 0).toList != (firstB i).toList) n0 n1 n2 n3 n4 = J at hgo ⊢
  clear hs hk hi hc hn
  by_cases hf : s.toList = (firstB i).toList
  · -- the first word alone
    have hse : s = firstB i := ba_list (by rw [ByteArray.toList_eq, ByteArray.toList_eq] at hf; exact hf)
    have hsp : splitS s ⟨#[32]⟩ = [s] := splitS_miss _ _ (index1_clean 32 s.data.toList (by rw [hse]; exact hfb))
    have hlr : lineRes (n1.map (·.f0)) i s = ([], decide (n1.length = 0)) := by unfold lineRes; rw [if_pos hf, hnm]
    rw [hsp] at hgo ⊢
    by_cases h0 : n1.length = 0
    · have hout : lineOut (n1.map (·.f0)) i s = ([], true) := by
        unfold lineOut lineOk lineV
        rw [hlr, if_pos (decide_eq_true h0)]
      have hl1 : ([s] : List ByteArray).length = n1.length + 1 := by rw [h0]; rfl
      have e0 : rdOf ByteArray.empty [s] 0 = s := rfl
      rw [e0] at hgo
      rw [if_pos hl1, hgo hl1, if_pos hf, hout]
      rfl
    · have hout : lineOut (n1.map (·.f0)) i s = ([], false) := by
        unfold lineOut lineOk lineV
        rw [hlr, if_neg (by simp [h0])]
      rw [if_neg (show ¬ (([s] : List ByteArray).length = n1.length + 1) from by rw [List.length_singleton]; omega), hout]
  · by_cases hp : cutOk s (firstB i ++ (⟨#[32]⟩ : ByteArray)) = true
    · -- the first word, a blank, and what follows
      have hcut : splitS s ⟨#[32]⟩ = firstB i :: splitS (cutR' s (firstB i ++ (⟨#[32]⟩ : ByteArray))) ⟨#[32]⟩ := by
        have ht := pre_text hp
        rw [ByteArray.data_append, Array.toList_append] at ht
        have hq : (cutR' s (firstB i ++ (⟨#[32]⟩ : ByteArray))).data.toList = Lib.trimPrefix s.data.toList ((firstB i).data.toList ++ (⟨#[32]⟩ : ByteArray).data.toList) := by
          show (Lib.trimPrefix s.data.toList (firstB i ++ (⟨#[32]⟩ : ByteArray)).data.toList).toArray.toList = _
          rw [ByteArray.data_append, Array.toList_append]
        rw [← hq] at ht
        generalize cutR' s (firstB i ++ (⟨#[32]⟩ : ByteArray)) = rest at ht ⊢
        have hse : s = ⟨((firstB i).data.toList ++ ([32] ++ rest.data.toList)).toArray⟩ := ba_list (by rw [ht, List.append_assoc])
        rw [hse, splitS_front 32 _ _ hfb]
      have hlr : lineRes (n1.map (·.f0)) i s = ((readFrom (cellOk (n1.map (·.f0))) (cellV (n1.map (·.f0))) [] 0 (splitS (cutR' s (firstB i ++ (⟨#[32]⟩ : ByteArray))) ⟨#[32]⟩)).1, (readFrom (cellOk (n1.map (·.f0))) (cellV (n1.map (·.f0))) [] 0 (splitS (cutR' s (firstB i ++ (⟨#[32]⟩ : ByteArray))) ⟨#[32]⟩)).2 && decide ((readFrom (cellOk (n1.map (·.f0))) (cellV (n1.map (·.f0))) [] 0 (splitS (cutR' s (firstB i ++ (⟨#[32]⟩ : ByteArray))) ⟨#[32]⟩)).1.length = n1.length)) := by
        unfold lineRes; rw [if_neg hf, if_pos hp, hnm]
      generalize splitS (cutR' s (firstB i ++ (⟨#[32]⟩ : ByteArray))) ⟨#[32]⟩ = ps at hcut hlr
      rw [hcut] at hgo ⊢
      have e0 : rdOf ByteArray.empty (firstB i :: ps) 0 = firstB i := rfl
      rw [e0] at hgo
      have hres : (if ps.length = n1.length then readFrom (cellOk (n1.map (·.f0))) (cellV (n1.map (·.f0))) [] 0 ps else ([], false)) = lineOut (n1.map (·.f0)) i s := by
        unfold lineOut lineOk lineV
        rw [hlr]
        by_cases ho : okFrom (cellOk (n1.map (·.f0))) 0 ps = true
        · have e : readFrom (cellOk (n1.map (·.f0))) (cellV (n1.map (·.f0))) [] 0 ps = (valFrom (cellV (n1.map (·.f0))) 0 ps, true) := by unfold readFrom; rw [if_pos ho]; rfl
          have h3 := (row_text (n1.map (·.f0)) ps 0 ho).2.2
          rw [e]
          by_cases hl : ps.length = n1.length
          · simp [h3, hl]
          · simp [h3, hl]
        · have e : readFrom (cellOk (n1.map (·.f0))) (cellV (n1.map (·.f0))) [] 0 ps = ([], false) := by unfold readFrom; rw [if_neg ho]
          rw [e]
          simp
      rw [← hres]
      by_cases hl : ps.length = n1.length
      · have hl1 : (firstB i :: ps).length = n1.length + 1 := by rw [List.length_cons, hl]
        rw [if_pos hl1, if_pos hl, hgo hl1, if_pos rfl]
        rfl
      · rw [if_neg (by rw [List.length_cons]; omega), if_neg hl]
    · -- another first word
      have hout : lineOut (n1.map (·.f0)) i s = ([], false) := by
        unfold lineOut lineOk lineV lineRes
        rw [if_neg hf, if_neg hp]
        simp
      rw [hout]
      by_cases hl : (splitS s ⟨#[32]⟩).length = n1.length + 1
      · rw [if_pos hl, hgo hl]
        obtain ⟨x, xs, hx⟩ : ∃ x xs, splitS s ⟨#[32]⟩ = x :: xs := by
          cases hq : splitS s ⟨#[32]⟩ with
          | nil => rw [hq] at hl; simp at hl
          | cons x xs => exact ⟨x, xs, rfl⟩
        have e0 : rdOf ByteArray.empty (splitS s ⟨#[32]⟩) 0 = x := by rw [hx]; rfl
        have hxne : x.toList ≠ (firstB i).toList := by
          intro e
          have hxe : x = firstB i := ba_list (by rw [ByteArray.toList_eq, ByteArray.toList_eq] at e; exact e)
          have ht := splitS_text 32 s
          rw [hx, hxe, List.map_cons] at ht
          cases xs with
          | nil =>
            rw [List.map_nil, join_one] at ht
            exact hf (by rw [ByteArray.toList_eq, ByteArray.toList_eq, ht])
          | cons y ys =>
            rw [List.map_cons, join_two] at ht
            apply hp
            unfold cutOk
            rw [← ht, ByteArray.data_append, Array.toList_append, ← List.append_assoc]
            exact pre_app _ _
        rw [e0, if_neg hxne]
      · rw [if_neg hl]
/-! ### all lines -/
theorem back_l0 (hc : CleanP n1) (hn : n1.length ≤ 1000) (l : List ByteArray) (last : ByteArray) (hl : l.length ≤ 1000000) (hz : ∀ p ∈ l, p.size ≤ 100000) (d : Nat) : ∀ (k j : Nat) (out : List (List Int)), l.length - j = d → j ≤ l.length → d + 400001 < k → out.length ≤ j →
    proofmarkref27_Back.l0 k (l ++ [last]) out (j : Int) n0 n1 n2 n3 n4 = some (readFrom (lineOk (n1.map (·.f0))) (lineV (n1.map (·.f0))) out j (l.drop j)) := by
  have hw : wrap64 (((l ++ [last]).length : Int) - 1) = (l.length : Int) := by rw [List.length_append, List.length_singleton]; unfold wrap64; omega
  induction d with
  | zero =>
    intro k j out h1 h2 h3 h4
    obtain ⟨k, rfl⟩ : ∃ q, k = q + 1 := ⟨k - 1, by omega⟩
    simp only [proofmarkref27_Back.l0]
    rw [hw, if_neg (by omega), List.drop_eq_nil_of_le (by omega), readFrom_nil]
  | succ d ih =>
    intro k j out h1 h2 h3 h4
    obtain ⟨k, rfl⟩ : ∃ q, k = q + 1 := ⟨k - 1, by omega⟩
    have hj : j < l.length := by omega
    have hj' : j < (l ++ [last]).length := by rw [List.length_append, List.length_singleton]; omega
    have hrd : rdOf ByteArray.empty (l ++ [last]) (j : Int) = l[j] := by rw [rdOf_at _ j hj', List.getElem_append_left hj]
    simp only [proofmarkref27_Back.l0]
    rw [hw, if_pos (by omega), if_pos (by omega), if_pos (Int.ofNat_lt.2 hj'), hrd, line_f n0 n1 n2 n3 n4 hc hn j (by omega) l[j] (hz _ (List.getElem_mem hj)) k (by omega)]
    simp only [Option.bind_some]
    rw [List.drop_eq_getElem_cons hj]
    generalize l[j] = p
    by_cases ho : lineOk (n1.map (·.f0)) j p = true
    · have e : lineOut (n1.map (·.f0)) j p = (lineV (n1.map (·.f0)) j p, true) := by unfold lineOut; rw [if_pos ho]
      have hout : (out ++ [lineV (n1.map (·.f0)) j p]).length = out.length + 1 := by rw [List.length_append]; rfl
      rw [e, if_pos rfl, if_pos (by omega), wrap_one j (by omega), readFrom_ok ho]
      exact ih k (j + 1) _ (by omega) (by omega) (by omega) (by rw [hout]; omega)
    · have hb := Bool.eq_false_iff.2 ho
      have e : lineOut (n1.map (·.f0)) j p = ([], false) := by unfold lineOut; rw [if_neg ho]
      rw [e, if_neg (by simp), readFrom_bad hb]
theorem clean_names {n1 : List S72} (h : unlikeB (namesP n1) = true) : CleanP n1 := by
  unfold unlikeB at h
  simp only [Bool.and_eq_true, decide_eq_true_eq, List.all_eq_true, Bool.not_eq_true'] at h
  intro x hx b hb
  have := bad_no _ (h.2 _ (List.mem_map.2 ⟨x, hx, rfl⟩)) b hb
  simp only [oddC, Bool.or_eq_false_iff, beq_eq_false_iff_ne] at this
  exact ⟨this.1.1.1.1.1, this.1.1.1.1.2, this.1.1.1.2⟩
theorem refBack_f (h1l : n1.length ≤ 1000) (h1z : ∀ x ∈ n1, x.f0.size ≤ 1000) (h2 : n2.length ≤ 1000) (hz : ∀ x ∈ n2, x.f0.size ≤ 1000) (s : ByteArray) (hs : s.size ≤ 100000) (k : Nat) (hk : 2000000 ≤ k) :
    proofmarkref27_Back.f k n0 n1 n2 n3 n4 s = some (backB n1 n2 s) := by
  have hlen := splitS_len s ⟨#[10]⟩ (by decide)
  have hbd := splitS_bound s ⟨#[10]⟩ (by decide)
  have hsz := splitS_sizes s ⟨#[10]⟩
  obtain ⟨k, rfl⟩ : ∃ q, k = q + 1 := ⟨k - 1, by omega⟩
  unfold proofmarkref27_Back.f
  rw [cut_f s ⟨#[10]⟩ (by decide) (cut_size 10 hs) (k + 1) (by omega)]
  simp only [Option.bind_some]
  rw [named_f n0 n1 n2 n3 n4 h1l h1z h2 hz (k + 1) (by omega)]
  simp only [Option.bind_some]
  have hjt : proofmarkref27_Back.j0 (k + 1) (splitS s ⟨#[10]⟩) [] true n0 n1 n2 n3 n4 = some (([] : List (List Int)), false) := by
    simp only [proofmarkref27_Back.j0]; rw [if_pos trivial]
  unfold backB
  by_cases hN : (unlikeB (namesP n1) && unlikeB (namesC n2)) = true
  · rw [if_pos hN, if_pos hN]
    have hcl := clean_names (Bool.and_eq_true_iff.1 hN).1
    obtain ⟨l, last, hll⟩ : ∃ l last, splitS s ⟨#[10]⟩ = l ++ [last] := by
      have hne : splitS s ⟨#[10]⟩ ≠ [] := by intro e; rw [e] at hlen; simp at hlen
      exact ⟨_, _, (List.dropLast_concat_getLast hne).symm⟩
    have hlz : ∀ p ∈ l, p.size ≤ 100000 := fun p hp => by have := hsz p (by rw [hll]; simp [hp]); omega
    have hln : l.length ≤ 1000000 := by rw [hll, List.length_append] at hbd; simp at hbd; omega
    have hll2 : (l ++ [last]).length = l.length + 1 := by rw [List.length_append]; rfl
    have hw : wrap64 (((splitS s ⟨#[10]⟩).length : Int) - 1) = (l.length : Int) := by rw [hll, hll2]; unfold wrap64; omega
    rw [hw, if_pos (by omega), if_pos (by rw [hll, hll2]; omega)]
    have hrd : rdOf ByteArray.empty (splitS s ⟨#[10]⟩) (l.length : Int) = last := by
      rw [hll, rdOf_at _ l.length (by omega), List.getElem_append_right (Nat.le_refl _)]
      simp
    rw [hrd]
    by_cases hlast : last.data.toList = []
    · have e1 : (last.toList != ([] : List UInt8)) = false := by rw [ByteArray.toList_eq, hlast]; rfl
      have hle : last = ⟨#[]⟩ := ba_list hlast
      rw [e1]
      simp only [proofmarkref27_Back.j0]
      rw [if_neg (by simp), hll]
      have hl0 := back_l0 n0 n1 n2 n3 n4 hcl h1l l last hln hlz l.length k 0 [] (by omega) (by omega) (by omega) (by simp)
      have e2 : ((0 : Nat) : Int) = 0 := rfl
      rw [e2, List.drop_zero] at hl0
      rw [hl0]
      have ht := splitS_text 10 s
      rw [hll, hle] at ht
      cases hl : l with
      | nil =>
        rw [hl, List.nil_append, List.map_cons, List.map_nil, join_one] at ht
        rw [if_pos (by rw [ByteArray.toList_eq, ← ht]), readFrom_nil]
      | cons w ws =>
        have hclean := split_clean 10 s.size s (Nat.le_refl _)
        rw [← hl]
        have hjoin : s.data.toList = Lib.join (l.map (·.data.toList)) [10] ++ [10] := by
          rw [← ht, hl]
          clear ht hclean hl0 hrd hw hlz hll hl
          rw [List.map_append, List.map_cons, List.map_cons, List.map_nil]
          have go : ∀ (w : List UInt8) (ws : List (List UInt8)), Lib.join (w :: ws ++ [[]]) [10] = Lib.join (w :: ws) [10] ++ [10] := by
            intro w ws
            induction ws generalizing w with
            | nil => show Lib.join (w :: [[]]) [10] = _; rw [join_two, join_one, join_one]; simp
            | cons w' ws ih => rw [List.cons_append, List.cons_append, join_two, join_two]; have ih' := ih w'; rw [List.cons_append] at ih'; rw [ih']; simp
          exact go w.data.toList (ws.map (·.data.toList))
        have hends : endsB s = true := by unfold endsB; rw [hjoin]; exact suf_app _ _
        have htrim : (trimB s).data.toList = Lib.join (l.map (·.data.toList)) [10] := by
          show (Lib.trimSuffix s.data.toList [10]).toArray.toList = _
          rw [hjoin, suf_trim]
        have hsp : splitS (trimB s) ⟨#[10]⟩ = l := splitS_join 10 l (by rw [hl]; simp) _ htrim (fun x hx => hclean x (by rw [hll]; simp [hx]))
        rw [if_neg (by rw [ByteArray.toList_eq, hjoin]; simp), if_pos hends, hsp]
    · have e1 : (last.toList != ([] : List UInt8)) = true := by rw [bne_iff_ne, ByteArray.toList_eq]; exact hlast
      rw [e1, hjt]
      have hne : ¬ s.toList = [] := by
        rw [ByteArray.toList_eq]
        intro e
        have hsp : splitS s ⟨#[10]⟩ = [s] := splitS_miss _ _ (index1_clean 10 s.data.toList (by rw [e]; simp))
        rw [hll] at hsp
        have : last = s := by
          have := congrArg List.getLast? hsp
          simpa using this
        rw [this] at hlast
        exact hlast e
      have hend : ¬ endsB s = true := by
        intro he
        have ht := suf_text he
        have hse : s = trimB s ++ ⟨#[10]⟩ := ba_list (by rw [ByteArray.data_append, Array.toList_append]; exact ht)
        have hsp := splitS_end 10 (trimB s)
        rw [← hse, hll] at hsp
        have : last = ⟨#[]⟩ := by
          have := congrArg List.getLast? hsp
          simpa using this
        rw [this] at hlast
        exact hlast rfl
      rw [if_neg hne, if_neg hend]
  · rw [if_neg hN, if_neg hN]
    exact hjt
end
end Go.Proofs.YtmfekngjhiofaaaGreatDoor.Q
