/-
  Plain: LexPlaces.
-/
import Derived.Test.YthegiggpkphieaaDoorPBase
import Derived.Test.YthegiggpkphieaaDoorQx7
set_option linter.unusedVariables false
set_option linter.unusedSimpArgs false
namespace Go.Proofs.YthegiggpkphieaaDoor.Q
open Go.NumPure Go.RowKit Go.Proofs.YthegiggpkphieaaDoorW.PrintWords Go.Proofs.YthegiggpkphieaaDoorW.PrintLast Go.Proofs.YthegiggpkphieaaDoorW.PrintMore

theorem Letter_f (c : UInt8) : proofmarkref01_Letter.f (c.toNat : Int) = some (LexP.ltr c) := by
  have h : ∀ n : Fin 256, proofmarkref01_Letter.f (n.val : Int) = some (LexP.ltr (UInt8.ofNat n.val)) := by decide +kernel
  have := h ⟨c.toNat, c.toNat_lt⟩
  simpa using this
theorem Digit_f (c : UInt8) : proofmarkref01_Digit.f (c.toNat : Int) = some (LexP.dig c) := by
  have h : ∀ n : Fin 256, proofmarkref01_Digit.f (n.val : Int) = some (LexP.dig (UInt8.ofNat n.val)) := by decide +kernel
  have := h ⟨c.toNat, c.toNat_lt⟩
  simpa using this
/-- a token is of the kind that its first byte says; its number is one -/
theorem kind_of {l : List UInt8} {k : Nat} {t : List UInt8} {v : Nat} (h : LexP.one l = .tok k t v) : ∃ c r, t = c :: r ∧ (k = 1 ↔ LexP.ltr c = true) ∧ (k = 2 ↔ LexP.dig c = true) ∧ (k ≠ 2 → v = 0) ∧ v ≤ 65535 := by
  cases l with
  | nil => simp [LexP.one] at h
  | cons c r =>
    have e : LexP.one (c :: r) = if LexP.ltr c then .tok 1 ((c :: r).takeWhile LexP.wrd) 0 else if LexP.dig c then LexP.number (c :: r) else LexP.sgn (c :: r) := rfl
    rw [e] at h
    by_cases hl : LexP.ltr c = true
    · rw [if_pos hl] at h
      have hd : LexP.dig c = false := by
        cases hd : LexP.dig c with
        | false => rfl
        | true => have := (LexP.dig_plain hd).2.2; rw [hl] at this; cases this
      cases h
      refine ⟨c, r.takeWhile LexP.wrd, by rw [List.takeWhile_cons, if_pos (by simp [LexP.wrd, hl])], by simp [hl], by simp [hd], fun _ => rfl, by omega⟩
    · rw [if_neg hl] at h
      by_cases hd : LexP.dig c = true
      · rw [if_pos hd] at h
        obtain ⟨rfl, rfl, rfl, hv⟩ := LexP.number_tok h
        exact ⟨c, r.takeWhile LexP.dig, by rw [List.takeWhile_cons, if_pos hd], by simp [hl], by simp [hd], fun hh => absurd rfl hh, hv⟩
      · rw [if_neg hd] at h
        obtain ⟨rfl, rfl, hm, hp⟩ := LexP.sgn_tok h
        cases t with
        | nil => exact absurd (LexP.signs_pos _ hm).1 (by simp)
        | cons x y =>
          have hpl := LexP.signs_plain _ hm x (by simp)
          exact ⟨x, y, rfl, by simp [hpl.2.2.1], by simp [hpl.2.2.2.1], fun _ => rfl, by omega⟩
theorem wrap_eq (x : Int) (h1 : 0 ≤ x) (h2 : x < 4611686018427387904) : wrap64 x = x := by unfold wrap64; omega
theorem cut_mid (s : ByteArray) (a b : Nat) : (s.extract a b).data.toList = (s.data.toList.drop a).take (b - a) := by
  simp only [ByteArray.data_extract, Array.toList_extract, List.extract_eq_take_drop]
theorem places_l0 (s : ByteArray) (hs : s.size ≤ 2000) (T : List LexP.Tok) (hT : (LexP.lxA s.data.toList 0).1 = T) (hn : T.length ≤ 2000) (e : Int) (he : e = 0 ∨ T = []) (d : Nat) :
    ∀ (k i : Nat) (p : Nat), i ≤ T.length → T.length - i = d → 2 * d < k → p ≤ 2000 → (∀ t, T[i]? = some t → p ≤ t.pos) → proofmarklaw01_LexPlaces.l0 k true s (T.map toS) e (p : Int) (i : Int) = some true := by
  induction d with
  | zero =>
    intro k i p h1 h2 h3 _ _
    obtain ⟨k, rfl⟩ : ∃ m, k = m + 1 := ⟨k - 1, by omega⟩
    simp only [proofmarklaw01_LexPlaces.l0]
    rw [if_neg (by simp; omega), if_pos trivial]
    rcases he with rfl | rfl
    · rw [if_pos rfl]
    · by_cases h0 : e = 0
      · rw [if_pos h0]
      · rw [if_neg h0]; rfl
  | succ d ih =>
    intro k i p h1 h2 h3 hp2 hp
    obtain ⟨k, rfl⟩ : ∃ m, k = m + 2 := ⟨k - 2, by omega⟩
    have hi : i < T.length := by omega
    obtain ⟨x, hx⟩ : ∃ x, T[i]? = some x := ⟨_, List.getElem?_eq_getElem hi⟩
    have hxe : T[i] = x := by rw [List.getElem?_eq_getElem hi] at hx; exact Option.some.inj hx
    obtain ⟨q1, q2, q3, q4, q5, q6, q7⟩ := LexP.lxA_places s.data.toList.length s.data.toList 0 (Nat.le_refl _) i x (by rw [hT]; exact hx)
    simp only [Nat.sub_zero, Nat.zero_add] at q4 q5 q2
    have hsl : s.data.toList.length = s.size := by simp
    obtain ⟨c, r, ht, k1, k2, k3, k4⟩ := kind_of q5
    have e1 : rd_T33 (T.map toS) (i : Int) = toS x := by rw [rd_at _ _ (by simp; omega)]; simp [hxe]
    have hpx := hp x hx
    have hsz : (toS x).f1.size = x.text.length := rfl
    have hcut : (s.extract x.pos (x.pos + x.text.length)).toList = x.text := by
      rw [ByteArray.toList_eq, cut_mid, Nat.add_sub_cancel_left]
      exact (List.prefix_iff_eq_take.1 q4).symm
    have w1 : Aside0 (wrap64 ((s.size : Int) - (x.text.length : Int)) = ((s.size - x.text.length : Nat) : Int)) := ⟨by rw [wrap_eq _ (by omega) (by omega)]; omega⟩
    have w2 : Aside0 (wrap64 ((x.pos : Int) + (x.text.length : Int)) = ((x.pos + x.text.length : Nat) : Int)) := ⟨by rw [wrap_eq _ (by omega) (by omega)]; omega⟩
    simp only [proofmarklaw01_LexPlaces.l0]
    have hf3 : (toS x).f3 = (x.pos : Int) := rfl
    have hne : ¬ ((toS x).f1.toList = ([] : List UInt8)) := by rw [ByteArray.toList_eq]; show ¬ x.text.toArray.toList = []; rw [ht]; simp
    have hc1 : (i : Int) < ((T.map toS).length : Int) := by rw [List.length_map]; omega
    have hc2 : (0 : Int) ≤ (i : Int) := by omega
    have hc3 : ¬ ((x.pos : Int) < (p : Int)) := by omega
    rw [e1, hsz, hf3, if_pos hc1, if_pos hc2, if_neg hc3, if_neg hne]
    rw [w1.out, if_neg (by omega), if_pos (by omega), w2.out, if_pos (by omega), if_pos (by omega)]
    have hb : ((s.extract ((x.pos : Int)).toNat (((x.pos + x.text.length : Nat) : Int)).toNat).toList != (toS x).f1.toList) = false := by
      rw [show ((x.pos : Int)).toNat = x.pos by omega, show (((x.pos + x.text.length : Nat) : Int)).toNat = x.pos + x.text.length by omega, hcut, ByteArray.toList_eq]
      show (x.text != x.text.toArray.toList) = false
      simp
    rw [hb]
    simp only [proofmarklaw01_LexPlaces.j1]
    rw [if_neg (by simp), hsz, if_pos (by omega)]
    have hbt : bt (toS x).f1 0 = (c.toNat : Int) := by
      have hz : 0 < (toS x).f1.size := by rw [hsz]; omega
      have := bt_toNat (toS x).f1 0 hz
      rw [show ((0 : Nat) : Int) = 0 from rfl] at this
      rw [this, getb]
      have : ∀ (l : List UInt8) (h : 0 < l.length), l = c :: r → l[0]'h = c := by intro l h e; subst e; rfl
      rw [this _ _ (by show x.text.toArray.toList = c :: r; rw [ht])]
    rw [hbt, Letter_f, Digit_f]
    simp only [Option.bind_some]
    have hk1 : ((toS x).f0 == 1) = LexP.ltr c := by
      show ((x.kind : Int) == 1) = _
      cases hl : LexP.ltr c with
      | true => rw [k1.2 hl]; rfl
      | false => rw [beq_eq_false_iff_ne]; intro hh; have := k1.1 (by omega); rw [hl] at this; cases this
    have hk2 : ((toS x).f0 == 2) = LexP.dig c := by
      show ((x.kind : Int) == 2) = _
      cases hl : LexP.dig c with
      | true => rw [k2.2 hl]; rfl
      | false => rw [beq_eq_false_iff_ne]; intro hh; have := k2.1 (by omega); rw [hl] at this; cases this
    rw [hk1, hk2, if_neg (by simp), if_neg (by simp)]
    have hnx : ∀ t, T[i + 1]? = some t → x.pos + x.text.length ≤ t.pos := by
      intro t ht2
      obtain ⟨_, _, _, _, _, _, z7⟩ := LexP.lxA_places s.data.toList.length s.data.toList 0 (Nat.le_refl _) (i + 1) t (by rw [hT]; exact ht2)
      exact z7 i x (by omega) (by rw [hT]; exact hx)
    have hgo := ih k (i + 1) (x.pos + x.text.length) (by omega) (by omega) (by omega) (by omega) hnx
    have hf2 : (toS x).f2 = (x.n : Int) := rfl
    have hf0 : (toS x).f0 = (x.kind : Int) := rfl
    by_cases h2 : x.kind = 2
    · rw [if_pos (by rw [hf0]; omega), hf2, if_neg (by omega), if_neg (by omega), w2.out, wrap_nat i (by omega)]
      exact hgo
    · have := k3 h2
      rw [if_neg (by rw [hf0]; omega), hf2, if_pos (by omega), if_neg (by omega), if_neg (by omega), w2.out, wrap_nat i (by omega)]
      exact hgo
theorem LexPlaces : proofmarklaw01_LexPlaces.Pure := by
  intro a0 _
  obtain ⟨t, ht, hsz⟩ := few_cut a0
  refine ⟨5000, ?_⟩
  unfold proofmarklaw01_LexPlaces.f
  rw [head_true _ (by omega), ht]
  simp only [Option.bind_some]
  rw [lex_small t (by omega)]
  simp only [Option.bind_some]
  have hlen : t.data.toList.length ≤ 2000 := by simpa using hsz
  cases hr : (LexP.lxA t.data.toList 0).2 with
  | some q =>
    rw [lexF_bad _ _ q hr]
    simp only [proofmarklaw01_LexPlaces.l0]
    rw [if_neg (by simp), if_pos trivial, if_neg (by decide)]
    rfl
  | none =>
    rw [lexF_ok _ _ hr]
    exact places_l0 t hsz _ rfl (Nat.le_trans (lxA_count _ _ _ (Nat.le_refl _)) hlen) 0 (.inl rfl) _ 5000 0 0 (by omega) rfl (by have := lxA_count _ _ 0 (Nat.le_refl t.data.toList.length); omega) (by omega) (fun _ _ => by omega)
end Go.Proofs.YthegiggpkphieaaDoor.Q
