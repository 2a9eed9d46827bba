/-
  Plain: the document's Lex and Text tell what the plain lexer tells.
-/
import Derived.Test.YthegiggpkphieaaDoorPBase2
import Derived.Test.YthegiggpkphieaaDoorPureLexPlaces
import Derived.Test.YthegiggpkphieaaDoorPureLexBack
import Derived.Test.YthegiggpkphieaaDoorQx5
import Derived.Test.YthegiggpkphieaaDoorQx5
set_option linter.unusedVariables false
set_option linter.unusedSimpArgs false
namespace Go.Proofs.YthegiggpkphieaaDoor.Q
open Go.NumPure Go.RowKit Go.Proofs.YthegiggpkphieaaDoorW.PrintWords Go.Proofs.YthegiggpkphieaaDoorW.PrintLast Go.Proofs.YthegiggpkphieaaDoorW.PrintMore

theorem bt_drop (t : ByteArray) (p : Nat) (h : p < t.size) : ∃ c, t.data.toList.drop p = c :: t.data.toList.drop (p + 1) ∧ bt t (p : Int) = (c.toNat : Int) := by
  have hl : p < t.data.toList.length := by simpa using h
  refine ⟨t.data.toList[p], List.drop_eq_getElem_cons hl, ?_⟩
  rw [bt_toNat t p h, getb]
theorem drop_end (t : ByteArray) (p : Nat) (h : t.size ≤ p) : t.data.toList.drop p = [] := List.drop_eq_nil_of_le (by simpa using h)
theorem begins_f (t w : ByteArray) (p : Nat) (hp : p ≤ t.size) (ht : t.size ≤ 2000) (hw : w.size ≤ 1000) : proofmarkref01_begins.f t (p : Int) w = some (w.data.toList.isPrefixOf (t.data.toList.drop p)) := by
  unfold proofmarkref01_begins.f
  rw [wrap_add _ _ (by omega)]
  have hlt : t.data.toList.length = t.size := by simp
  have hlw : w.data.toList.length = w.size := by simp
  by_cases h : p + w.size ≤ t.size
  · rw [if_pos (by omega), if_pos (by omega), if_pos (by omega), Int.toNat_natCast, Int.toNat_natCast, ByteArray.toList_eq, ByteArray.toList_eq, cut_mid, Nat.add_sub_cancel_left]
    congr 1
    rw [Bool.eq_iff_iff, beq_iff_eq, List.isPrefixOf_iff_prefix, List.prefix_iff_eq_take, hlw]
    exact eq_comm
  · rw [if_neg (by omega)]
    congr 1
    refine (Bool.eq_false_iff.mpr fun hh => ?_).symm
    have := (List.isPrefixOf_iff_prefix.1 hh).length_le
    rw [List.length_drop] at this; omega
theorem word_l0 (t : ByteArray) (ht : t.size ≤ 2000) (d : Nat) : ∀ (k p : Nat), p ≤ t.size → t.size - p = d → d < k → proofmarkref01_word.l0 k t (p : Int) = some ((p + ((t.data.toList.drop p).takeWhile LexP.wrd).length : Nat) : Int) := by
  induction d with
  | zero =>
    intro k p h1 h2 h3
    obtain ⟨k, rfl⟩ : ∃ m, k = m + 1 := ⟨k - 1, by omega⟩
    simp only [proofmarkref01_word.l0]
    rw [if_neg (by omega), drop_end t p (by omega)]; rfl
  | succ d ih =>
    intro k p h1 h2 h3
    obtain ⟨k, rfl⟩ : ∃ m, k = m + 1 := ⟨k - 1, by omega⟩
    obtain ⟨c, hd, hb⟩ := bt_drop t p (by omega)
    simp only [proofmarkref01_word.l0]
    rw [if_pos (by omega), if_pos (by omega), hb, Letter_f, Option.bind_some, Digit_f, Option.bind_some, wrap_nat _ (by omega), ih k (p + 1) (by omega) (by omega) (by omega), hd, List.takeWhile_cons]
    by_cases hl : LexP.ltr c = true
    · rw [if_pos hl, if_pos (by simp [LexP.wrd, hl])]; simp; omega
    · rw [if_neg hl]
      by_cases hg : LexP.dig c = true
      · rw [if_pos hg, if_pos (by simp [LexP.wrd, hg])]; simp; omega
      · rw [if_neg hg, if_neg (by simp [LexP.wrd, hl, hg])]; simp
/-- the document's number: it stops growing beyond 65535 -/
def nsat (v : Nat) : List UInt8 → Nat
  | [] => v
  | c :: r => nsat (if v ≤ 65535 then LexP.push v c else v) r
theorem nsat_nil (v : Nat) : nsat v [] = v := id rfl
theorem nsat_cons (v : Nat) (c : UInt8) (r : List UInt8) : nsat v (c :: r) = nsat (if v ≤ 65535 then LexP.push v c else v) r := id rfl
theorem nsat_big : ∀ (l : List UInt8) (v : Nat), 65535 < v → nsat v l = v
  | [], v, _ => nsat_nil v
  | c :: r, v, h => by rw [nsat_cons, if_neg (by omega)]; exact nsat_big r v h
theorem nsat_numv : ∀ (l : List UInt8) (v : Nat), (nsat v l ≤ 65535 ↔ LexP.numv v l ≤ 65535) ∧ (LexP.numv v l ≤ 65535 → nsat v l = LexP.numv v l)
  | [], v => by rw [nsat_nil, LexP.numv_nil]; exact ⟨Iff.rfl, fun _ => rfl⟩
  | c :: r, v => by
    rw [nsat_cons, LexP.numv_cons]
    by_cases h : v ≤ 65535
    · rw [if_pos h]; exact nsat_numv r _
    · rw [if_neg h, nsat_big r v (by omega)]
      have h1 : v ≤ LexP.push v c := by unfold LexP.push; omega
      have h2 := numv_le r (LexP.push v c)
      exact ⟨by omega, by omega⟩
theorem push_wrap (v c : Nat) (h : v ≤ 65535) (hc : 48 ≤ c ∧ c ≤ 57) : wrap64 (wrap64 (wrap64 (10 * (v : Int)) + wrap64 (c : Int)) - 48) = ((10 * v + (c - 48) : Nat) : Int) := by
  have h1 : wrap64 (10 * (v : Int)) = 10 * (v : Int) := by unfold wrap64; omega
  have h2 : wrap64 (c : Int) = (c : Int) := by unfold wrap64; omega
  rw [h1, h2]
  clear h1 h2
  have h3 : wrap64 (10 * (v : Int) + (c : Int)) = 10 * (v : Int) + (c : Int) := by unfold wrap64; omega
  rw [h3]
  clear h3
  have h4 : wrap64 (10 * (v : Int) + (c : Int) - 48) = 10 * (v : Int) + (c : Int) - 48 := by unfold wrap64; omega
  rw [h4]
  clear h4
  omega
def numRes (t : ByteArray) (p0 p v : Nat) : Option (Int × ByteArray × Int × Int × Bool) :=
  if v ≤ 65535 ∧ (p ≤ p0 + 1 ∨ bt t (p0 : Int) ≠ 48) then some (2, t.extract p0 p, (v : Int), (p0 : Int), true) else some (0, (⟨#[]⟩ : ByteArray), 0, 0, false)
theorem number_l0 (t : ByteArray) (ht : t.size ≤ 2000) (p0 : Nat) (d : Nat) : ∀ (k p v : Nat), p0 ≤ p → p0 < t.size → p ≤ t.size → t.size - p = d → 2 * d + 2 < k → v < 655360 →
    proofmarkref01_number.l0 k t (p0 : Int) (p : Int) (v : Int) = numRes t p0 (p + ((t.data.toList.drop p).takeWhile LexP.dig).length) (nsat v ((t.data.toList.drop p).takeWhile LexP.dig)) := by
  have stop : ∀ (k p v : Nat), p0 ≤ p → p0 < t.size → p ≤ t.size → v < 655360 → proofmarkref01_number.j1 (k + 1) t (p0 : Int) (p : Int) (v : Int) false = numRes t p0 p v := by
    intro k p v h1 h2 h3 h4
    simp only [proofmarkref01_number.j1]
    unfold numRes
    rw [if_neg (by decide), wrap_nat _ (by omega), Int.toNat_natCast, Int.toNat_natCast]
    by_cases a1 : v ≤ 65535
    · rw [if_neg (by omega)]
      by_cases a2 : p ≤ p0 + 1
      · rw [if_neg (by omega), if_pos (by omega), if_pos (by omega), if_pos (by omega), if_pos ⟨a1, .inl a2⟩]
      · rw [if_pos (by omega), if_pos (by omega), if_pos (by omega)]
        by_cases a3 : bt t (p0 : Int) = 48
        · rw [if_pos a3, if_neg (fun hh => hh.2.elim (fun z => a2 z) (fun z => z a3))]
        · rw [if_neg a3, if_pos (by omega), if_pos (by omega), if_pos ⟨a1, .inr a3⟩]
    · rw [if_pos (by omega), if_neg (fun hh => a1 hh.1)]
  induction d with
  | zero =>
    intro k p v h1 h2 h3 h4 h5 h6
    obtain ⟨k, rfl⟩ : ∃ m, k = m + 2 := ⟨k - 2, by omega⟩
    simp only [proofmarkref01_number.l0]
    rw [if_neg (by omega), drop_end t p (by omega)]
    exact stop k p v h1 h2 h3 h6
  | succ d ih =>
    intro k p v h1 h2 h3 h4 h5 h6
    obtain ⟨k, rfl⟩ : ∃ m, k = m + 2 := ⟨k - 2, by omega⟩
    obtain ⟨c, hd, hb⟩ := bt_drop t p (by omega)
    simp only [proofmarkref01_number.l0]
    rw [if_pos (by omega), if_pos (by omega), hb, Digit_f, Option.bind_some, hd, List.takeWhile_cons]
    by_cases hg : LexP.dig c = true
    · have hc : 48 ≤ c.toNat ∧ c.toNat ≤ 57 := by simpa [LexP.dig] using hg
      rw [hg, if_pos rfl, nsat_cons]
      simp only [proofmarkref01_number.j1]
      rw [if_pos trivial, wrap_nat _ (by omega), hb]
      by_cases a1 : v ≤ 65535
      · have e : wrap64 (wrap64 (wrap64 (10 * (v : Int)) + wrap64 (c.toNat : Int)) - 48) = ((LexP.push v c : Nat) : Int) := push_wrap v c.toNat a1 hc
        rw [if_pos (by omega), if_pos (by omega), if_pos (by omega), e, if_pos a1, ih k (p + 1) (LexP.push v c) (by omega) h2 (by omega) (by omega) (by omega) (by unfold LexP.push; omega)]
        rw [List.length_cons]; congr 1; omega
      · rw [if_neg (by omega), if_neg a1, ih k (p + 1) v (by omega) h2 (by omega) (by omega) (by omega) h6]
        rw [List.length_cons]; congr 1; omega
    · have hg' : LexP.dig c = false := Bool.eq_false_iff.mpr hg
      rw [hg', if_neg (by decide)]
      exact stop k p v h1 h2 h3 h6
/-- what 'one' tells of a step -/
def oneR (p : Nat) : LexP.Step → Int × ByteArray × Int × Int × Bool
  | .tok k x v => ((k : Int), ⟨x.toArray⟩, (v : Int), (p : Int), true)
  | _ => (0, (⟨#[]⟩ : ByteArray), 0, 0, false)
theorem ext_eq (t : ByteArray) (p n : Nat) : t.extract p (p + n) = ⟨((t.data.toList.drop p).take n).toArray⟩ := by
  have h := cut_mid t p (p + n)
  rw [Nat.add_sub_cancel_left] at h
  cases hx : t.extract p (p + n) with
  | mk a => rw [hx] at h; simp only at h; rw [← h]
theorem number_f (t : ByteArray) (ht : t.size ≤ 2000) (p k : Nat) (c : UInt8) (hp : p < t.size) (hk : 5000 < k) (hc : (t.data.toList.drop p).head? = some c) (hg : LexP.dig c = true) :
    proofmarkref01_number.f k t (p : Int) = some (oneR p (LexP.number (t.data.toList.drop p))) := by
  obtain ⟨c', hd, hb⟩ := bt_drop t p hp
  have hcc : c' = c := by rw [hd] at hc; exact Option.some.inj hc
  subst hcc
  unfold proofmarkref01_number.f
  rw [show (0 : Int) = ((0 : Nat) : Int) from rfl, number_l0 t ht p (t.size - p) k p 0 (Nat.le_refl _) hp (by omega) rfl (by omega) (by omega)]
  unfold numRes LexP.number
  have hn := nsat_numv ((t.data.toList.drop p).takeWhile LexP.dig) 0
  obtain ⟨L, hL⟩ : ∃ L, L = (t.data.toList.drop p).takeWhile LexP.dig := ⟨_, rfl⟩
  have hL1 : L = c' :: (t.data.toList.drop (p + 1)).takeWhile LexP.dig := by rw [hL, hd, List.takeWhile_cons, if_pos hg]
  have hLt : (t.data.toList.drop p).take L.length = L := by rw [hL]; exact (LexP.takeWhile_eq_take _ _).symm
  rw [← hL] at hn ⊢
  have hlen : 1 ≤ L.length := by rw [hL1]; simp
  have hhd : (L.head? ≠ some 48) ↔ bt t (p : Int) ≠ 48 := by
    rw [hL1, hb, List.head?_cons]
    constructor
    · intro h hh; exact h (by congr 1; exact UInt8.toNat_inj.1 (show c'.toNat = 48 by omega))
    · intro h hh; have := Option.some.inj hh; subst this; exact h rfl
  dsimp only
  by_cases h1 : LexP.numv 0 L ≤ 65535
  · rw [hn.2 h1]
    by_cases h2 : L.length = 1 ∨ L.head? ≠ some 48
    · rw [if_pos ⟨h1, h2.elim (fun z => .inl (by omega)) (fun z => .inr (hhd.1 z))⟩, if_pos ⟨h1, h2⟩, ext_eq, hLt]; rfl
    · rw [if_neg (fun z => h2 (z.2.elim (fun y => .inl (by omega)) (fun y => .inr (hhd.2 y)))), if_neg (fun z => h2 z.2)]; rfl
  · rw [if_neg (fun z => h1 (hn.1.1 z.1)), if_neg (fun z => h1 z.1)]; rfl
theorem sign_l0 (t : ByteArray) (ht : t.size ≤ 2000) (p : Nat) (hp : p ≤ t.size) (S : List ByteArray) (hS : ∀ x ∈ S, x.size ≤ 1000) (hn : S.length ≤ 1000) (d : Nat) : ∀ (k i : Nat), i ≤ S.length → S.length - i = d → d < k →
    proofmarkref01_one.l0 k t (p : Int) S (i : Int) = some (oneR p (match ((S.drop i).map (·.data.toList)).find? (fun x => x.isPrefixOf (t.data.toList.drop p)) with | some x => .tok 3 x 0 | none => .err)) := by
  induction d with
  | zero =>
    intro k i h1 h2 h3
    obtain ⟨k, rfl⟩ : ∃ m, k = m + 1 := ⟨k - 1, by omega⟩
    simp only [proofmarkref01_one.l0]
    rw [if_neg (by omega), (List.drop_eq_nil_of_le (by omega) : S.drop i = [])]; rfl
  | succ d ih =>
    intro k i h1 h2 h3
    obtain ⟨k, rfl⟩ : ∃ m, k = m + 1 := ⟨k - 1, by omega⟩
    have hi : i < S.length := by omega
    have e : rdOf ByteArray.empty S (i : Int) = S[i] := by simp [rdOf, hi]
    simp only [proofmarkref01_one.l0]
    rw [if_pos (by omega), if_pos (by omega), e, begins_f t S[i] p hp ht (hS _ (List.getElem_mem hi)), Option.bind_some, List.drop_eq_getElem_cons hi, List.map_cons, List.find?_cons]
    cases hb : S[i].data.toList.isPrefixOf (t.data.toList.drop p) with
    | true => rw [if_pos rfl]; rfl
    | false => rw [if_neg (by decide), wrap_nat _ (by omega), ih k (i + 1) (by omega) (by omega) (by omega)]
theorem one_f (t : ByteArray) (ht : t.size ≤ 2000) (p k : Nat) (hp : p < t.size) (hk : 5001 < k) : proofmarkref01_one.f k t (p : Int) = some (oneR p (LexP.one (t.data.toList.drop p))) := by
  obtain ⟨c, hd, hb⟩ := bt_drop t p hp
  unfold proofmarkref01_one.f
  rw [if_pos (by omega), if_pos (by omega), hb, Letter_f, Option.bind_some, Digit_f, Option.bind_some]
  have e : LexP.one (t.data.toList.drop p) = if LexP.ltr c then .tok 1 ((t.data.toList.drop p).takeWhile LexP.wrd) 0 else if LexP.dig c then LexP.number (t.data.toList.drop p) else LexP.sgn (t.data.toList.drop p) := by rw [hd]; rfl
  rw [e]
  by_cases hl : LexP.ltr c = true
  · have hw := LexP.takeWhile_le LexP.wrd (t.data.toList.drop p)
    have hlt : t.data.toList.length = t.size := by simp
    rw [List.length_drop] at hw
    unfold proofmarkref01_word.f
    rw [if_pos hl, if_pos hl, word_l0 t ht (t.size - p) k p (by omega) rfl (by omega), Option.bind_some, if_pos (by omega), if_pos (by omega), Int.toNat_natCast, Int.toNat_natCast, ext_eq, ← LexP.takeWhile_eq_take]
    rfl
  · rw [if_neg hl, if_neg hl]
    by_cases hg : LexP.dig c = true
    · rw [if_pos hg, if_pos hg, number_f t ht p k c hp (by omega) (by rw [hd]; rfl) hg]; rfl
    · rw [if_neg hg, if_neg hg]
      unfold proofmarkref01_Signs.f
      rw [Option.bind_some]
      obtain ⟨S, hS⟩ : ∃ S, proofmarkref01_Signs.f = some S := ⟨_, rfl⟩
      have h1 : ∀ x ∈ S, x.size ≤ 1000 := by
        unfold proofmarkref01_Signs.f at hS; obtain rfl := Option.some.inj hS; decide
      have h2 : S.length = 25 := by unfold proofmarkref01_Signs.f at hS; obtain rfl := Option.some.inj hS; rfl
      have h3 : S.map (·.data.toList) = LexP.signs := by unfold proofmarkref01_Signs.f at hS; obtain rfl := Option.some.inj hS; rfl
      unfold proofmarkref01_Signs.f at hS
      rw [Option.some.inj hS]
      have := sign_l0 t ht p (by omega) S h1 (by omega) S.length k 0 (by omega) (by omega) (by omega)
      rw [List.drop_zero, h3] at this
      exact this
theorem lex_l1 (t : ByteArray) (ht : t.size ≤ 2000) (acc : List S33) (q N : Nat) (R : Option (List S33 × Int × Int)) (hq : q ≤ t.size) (h0 : ∀ k, N < k → proofmarkref01_Lex.l0 k t acc (q : Int) = R) (m : Nat) :
    ∀ (k p : Nat), p + ((t.data.toList.drop p).takeWhile LexP.noEol).length = q → ((t.data.toList.drop p).takeWhile LexP.noEol).length = m → N + m + 1 < k → proofmarkref01_Lex.l1 k t acc (p : Int) = R := by
  induction m with
  | zero =>
    intro k p h1 h2 h3
    obtain ⟨k, rfl⟩ : ∃ j, k = j + 1 := ⟨k - 1, by omega⟩
    obtain rfl : p = q := by omega
    simp only [proofmarkref01_Lex.l1]
    by_cases hp : p < t.size
    · obtain ⟨c, hd, hb⟩ := bt_drop t p hp
      have hc : c.toNat = 10 := by
        rw [hd, List.takeWhile_cons] at h2
        by_cases hn : LexP.noEol c = true
        · rw [if_pos hn] at h2; simp at h2
        · simpa [LexP.noEol] using hn
      rw [if_pos (by omega), if_pos (by omega), hb, if_pos (by omega)]
      exact h0 k (by omega)
    · rw [if_neg (by omega)]; exact h0 k (by omega)
  | succ m ih =>
    intro k p h1 h2 h3
    obtain ⟨k, rfl⟩ : ∃ j, k = j + 1 := ⟨k - 1, by omega⟩
    have hp : p < t.size := by omega
    obtain ⟨c, hd, hb⟩ := bt_drop t p hp
    rw [hd, List.takeWhile_cons] at h1 h2
    by_cases hn : LexP.noEol c = true
    · rw [if_pos hn, List.length_cons] at h1 h2
      simp only [proofmarkref01_Lex.l1]
      have hc : ¬ c.toNat = 10 := by simpa [LexP.noEol] using hn
      rw [if_pos (by omega), if_pos (by omega), hb, if_neg (by omega), wrap_nat _ (by omega)]
      exact ih k (p + 1) (by omega) (by omega) (by omega)
    · rw [if_neg hn] at h2; simp at h2
theorem lex_l0 (t : ByteArray) (ht : t.size ≤ 2000) (d : Nat) : ∀ (k p : Nat) (acc : List S33), p ≤ t.size → t.size - p = d → 4 * d + 6000 < k → acc.length + d ≤ 4000 →
    proofmarkref01_Lex.l0 k t acc (p : Int) = some (lexF acc (t.data.toList.drop p) p) := by
  induction d using Nat.strongRecOn with
  | _ d ih =>
    intro k p acc h1 h2 h3 h4
    obtain ⟨k, rfl⟩ : ∃ j, k = j + 2 := ⟨k - 2, by omega⟩
    by_cases hp : p < t.size
    · obtain ⟨c, hd, hb⟩ := bt_drop t p hp
      have hne : t.data.toList.drop p ≠ [] := by rw [hd]; simp
      have hst := LexP.step_cons c (t.data.toList.drop (p + 1))
      rw [← hd] at hst
      have hlt : (t.data.toList.drop p).length = t.size - p := by rw [List.length_drop]; simp
      have key : proofmarkref01_Lex.j1 (k + 1) t acc (p : Int) (LexP.blk c) = some (lexF acc (t.data.toList.drop p) p) := by
        simp only [proofmarkref01_Lex.j1]
        by_cases hbl : LexP.blk c = true
        · rw [if_pos hbl] at hst
          rw [if_pos hbl, wrap_nat _ (by omega), ih (d - 1) (by omega) k (p + 1) acc (by omega) (by omega) (by omega) (by omega), lexF_skip acc _ p 1 hne hst, List.drop_drop]
        · rw [if_neg hbl] at hst
          rw [if_neg hbl, begins_f t _ p (by omega) ht (by decide), Option.bind_some]
          by_cases hr : [47, 47].isPrefixOf (t.data.toList.drop p) = true
          · rw [if_pos hr] at hst
            rw [if_pos hr, lexF_skip acc _ p _ hne hst, List.drop_drop]
            have hn2 := (LexP.step_skip hst)
            refine lex_l1 t ht acc (p + ((t.data.toList.drop p).takeWhile LexP.noEol).length) (4 * (d - ((t.data.toList.drop p).takeWhile LexP.noEol).length) + 6000) _ (by omega) (fun k' hk' => ?_) _ k p rfl rfl (by omega)
            exact ih (d - ((t.data.toList.drop p).takeWhile LexP.noEol).length) (by omega) k' _ acc (by omega) (by omega) (by omega) (by omega)
          · rw [if_neg hr] at hst
            rw [if_neg hr, one_f t ht p k hp (by omega), Option.bind_some]
            cases ho : LexP.one (t.data.toList.drop p) with
            | skip n => exact absurd ho (LexP.one_ne_skip _ n)
            | err =>
              rw [ho] at hst
              rw [lexF_err acc _ p hne hst]
              rfl
            | tok kd x v =>
              rw [ho] at hst
              obtain ⟨q1, q2⟩ := LexP.one_tok ho
              have q3 := q1.length_le
              rw [lexF_tok acc _ p hne kd x v hst]
              show (if true = true then (if acc.length < 3518437208883 then proofmarkref01_Lex.l0 k t (acc ++ [toS ⟨kd, x, v, p⟩]) (wrap64 ((p : Int) + (x.length : Int))) else none) else _) = _
              rw [if_pos rfl, if_pos (by omega), wrap_add _ _ (by omega), ih (d - x.length) (by omega) k (p + x.length) _ (by omega) (by omega) (by omega) (by rw [List.length_append]; simp; omega), List.drop_drop]
      simp only [proofmarkref01_Lex.l0]
      rw [if_pos (by omega), if_pos (by omega), hb]
      by_cases a1 : c.toNat = 32
      · rw [if_pos (by omega)]; rw [show LexP.blk c = true by simp [LexP.blk, a1]] at key; exact key
      · rw [if_neg (by omega)]
        by_cases a2 : c.toNat = 9
        · rw [if_pos (by omega)]; rw [show LexP.blk c = true by simp [LexP.blk, a2]] at key; exact key
        · rw [if_neg (by omega)]
          rw [show LexP.blk c = ((c.toNat : Int) == 10) by
            rw [Bool.eq_iff_iff]; simp [LexP.blk, a1, a2]; omega] at key
          exact key
    · obtain ⟨k, rfl⟩ : ∃ j, k = j + 0 := ⟨k, rfl⟩
      simp only [proofmarkref01_Lex.l0]
      rw [if_neg (by omega), drop_end t p (by omega), lexF_nil]
theorem ref_lex (t : ByteArray) (ht : t.size ≤ 2000) (k : Nat) (hk : 20000 ≤ k) : proofmarkref01_Lex.f k t = some (lexF [] t.data.toList 0) := by
  unfold proofmarkref01_Lex.f
  rw [if_neg (by omega), show (0 : Int) = ((0 : Nat) : Int) from rfl, lex_l0 t ht t.size k 0 [] (by omega) (by omega) (by omega) (by simp; omega)]
  rfl
end Go.Proofs.YthegiggpkphieaaDoor.Q
