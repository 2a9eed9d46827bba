/-
  strings.ContainsAny at any text and ASCII chars of two bytes or more, over any program: the library's rune loop walked for texts that are no valid UTF-8 too.
-/
import Derived.Test.YtmfekngjhiofaaaGreatDoorShelf
import Derived.Shelf.Strings.IndexAnyAll
import Derived.Shelf.Small.Utf8
import Derived.Laws.RangeAny
import Derived.Lib.Hide
import Derived.Lib.OthersKept
import Derived.Test.YtmfekngjhiofaaaGreatDoorWords
import Derived.IntWalk
import Derived.Laws.Runes
import Derived.Deep.QuietTactic
import Derived.BigQuiet
set_option linter.unusedVariables false
set_option linter.unusedSimpArgs false
namespace Go.Proofs.YtmfekngjhiofaaaGreatDoor.Q
open Go.Proofs Go.Shelf Go.RowKit Go.Lib Go.Proofs.YtmfekngjhiofaaaGreatDoorW.PrintWords Go.Proofs.YtmfekngjhiofaaaGreatDoorW.PrintLast Go.Proofs.YtmfekngjhiofaaaGreatDoorW.PrintMore
variable {P : Program} {ρ : Ren}

/-- the six bytes that no name has -/
def badC : ByteArray := ⟨#[32, 10, 61, 124, 126, 58]⟩
theorem badC_at : ∀ j : Nat, j < 6 → ∃ b : UInt8, badC.data.toList[j]? = some b ∧ b.toNat < 128 := by
  intro j hj
  match j, hj with
  | 0, _ => exact ⟨_, rfl, by decide⟩
  | 1, _ => exact ⟨_, rfl, by decide⟩
  | 2, _ => exact ⟨_, rfl, by decide⟩
  | 3, _ => exact ⟨_, rfl, by decide⟩
  | 4, _ => exact ⟨_, rfl, by decide⟩
  | 5, _ => exact ⟨_, rfl, by decide⟩
theorem badC_not (x : UInt8) (h : 128 ≤ x.toNat) : badC.data.toList.contains x = false := by
  have : ¬ x ∈ badC.data.toList := by
    intro hm
    obtain ⟨j, hj⟩ := List.getElem?_of_mem hm
    have hl : j < 6 := (List.getElem?_eq_some_iff.1 hj).1
    obtain ⟨b, hb, hlt⟩ := badC_at j hl
    rw [hj] at hb
    cases hb
    omega
  simpa using this
theorem get_in (s : ByteArray) (k : Nat) (h : k < s.size) (hb : 128 ≤ (s.get! k).toNat) : ∃ x : UInt8, s.data.toList[k]? = some x ∧ 128 ≤ x.toNat := by
  have e : s.get! k = s[k]'h := by simp [ByteArray.get!, getElem!_pos, h]; rfl
  rw [e] at hb
  exact ⟨s[k]'h, Lib.data_getElem? s k h, hb⟩
theorem cont_high {s : ByteArray} {i k : Nat} (h : (decide (i + k < s.size) && (s.get! (i + k)).toNat / 64 == 2) = true) : i + k < s.size ∧ 128 ≤ (s.get! (i + k)).toNat := by
  simp only [Bool.and_eq_true, decide_eq_true_eq, beq_iff_eq] at h
  exact ⟨h.1, by omega⟩
/-- the bytes of a rune that begins with no ASCII byte are none -/
theorem decode_bytes (s : ByteArray) (i : Nat) (h : i < s.size) (hb : 128 ≤ (s[i]'h).toNat) :
    i + (Utf8.decode s i).2 ≤ s.size ∧ ∀ j, i ≤ j → j < i + (Utf8.decode s i).2 → ∃ x : UInt8, s.data.toList[j]? = some x ∧ 128 ≤ x.toNat := by
  have e : s.get! (i + 0) = s[i]'h := Go.get_at s i h
  have h0 : 128 ≤ (s.get! i).toNat := by have := e; rw [Nat.add_zero] at this; rw [this]; exact hb
  have one : ∀ j, i ≤ j → j < i + 1 → ∃ x : UInt8, s.data.toList[j]? = some x ∧ 128 ≤ x.toNat := fun j a b => by
    obtain rfl : j = i := by omega
    exact get_in s _ h h0
  unfold Utf8.decode
  dsimp only
  have hn : ¬ (s.get! (i + 0)).toNat < 128 := by rw [e]; omega
  rw [if_neg hn]
  split
  · rename_i hc
    simp only [Bool.and_eq_true] at hc
    have c1 := cont_high (k := 1) (by simp only [Bool.and_eq_true]; exact hc.2)
    split
    · refine ⟨by omega, fun j a b => ?_⟩
      rcases (show j = i ∨ j = i + 1 by omega) with rfl | rfl
      · exact get_in s _ h h0
      · exact get_in s _ c1.1 c1.2
    · exact ⟨by omega, one⟩
  · split
    · rename_i hc
      simp only [Bool.and_eq_true] at hc
      have c1 := cont_high (k := 1) (by simp only [Bool.and_eq_true]; exact hc.1.2)
      have c2 := cont_high (k := 2) (by simp only [Bool.and_eq_true]; exact hc.2)
      split
      · refine ⟨by omega, fun j a b => ?_⟩
        rcases (show j = i ∨ j = i + 1 ∨ j = i + 2 by omega) with rfl | rfl | rfl
        · exact get_in s _ h h0
        · exact get_in s _ c1.1 c1.2
        · exact get_in s _ c2.1 c2.2
      · exact ⟨by omega, one⟩
    · split
      · rename_i hc
        simp only [Bool.and_eq_true] at hc
        have c1 := cont_high (k := 1) (by simp only [Bool.and_eq_true]; exact hc.1.1.2)
        have c2 := cont_high (k := 2) (by simp only [Bool.and_eq_true]; exact hc.1.2)
        have c3 := cont_high (k := 3) (by simp only [Bool.and_eq_true]; exact hc.2)
        split
        · refine ⟨by omega, fun j a b => ?_⟩
          rcases (show j = i ∨ j = i + 1 ∨ j = i + 2 ∨ j = i + 3 by omega) with rfl | rfl | rfl | rfl
          · exact get_in s _ h h0
          · exact get_in s _ c1.1 c1.2
          · exact get_in s _ c2.1 c2.2
          · exact get_in s _ c3.1 c3.2
        · exact ⟨by omega, one⟩
      · exact ⟨by omega, one⟩
/-- a rune from 128 on, as text: two bytes or more, none of them ASCII -/
theorem encode_high (r : Int) (h : 128 ≤ r) : 2 ≤ (Utf8.encode r).size ∧ (Utf8.encode r).size ≤ 4 ∧ ∀ (j : Nat) (hj : j < (Utf8.encode r).size), 128 ≤ ((Utf8.encode r)[j]'hj).toNat := by
  have hc : 128 ≤ (if Utf8.valid r then r.toNat else Utf8.runeError) ∧ (if Utf8.valid r then r.toNat else Utf8.runeError) ≤ 1114111 := by
    split
    · rename_i hv
      simp only [Utf8.valid, Bool.and_eq_true, Bool.or_eq_true, decide_eq_true_eq] at hv
      omega
    · decide
  unfold Utf8.encode
  dsimp only
  generalize (if Utf8.valid r then r.toNat else Utf8.runeError) = c at hc
  have tb : ∀ n, n < 256 → (UInt8.ofNat n).toNat = n := fun n hn => by simp [UInt8.toNat_ofNat]; omega
  rw [if_neg (by omega)]
  split
  · refine ⟨(by show 2 ≤ 2; omega), (by show 2 ≤ 4; omega), fun j hj => ?_⟩
    have hj' : j < 2 := hj
    match j, hj' with
    | 0, _ => show 128 ≤ (UInt8.ofNat _).toNat; rw [tb _ (by omega)]; omega
    | 1, _ => show 128 ≤ (UInt8.ofNat _).toNat; rw [tb _ (by omega)]; omega
  · split
    · refine ⟨(by show 2 ≤ 3; omega), (by show 3 ≤ 4; omega), fun j hj => ?_⟩
      have hj' : j < 3 := hj
      match j, hj' with
      | 0, _ => show 128 ≤ (UInt8.ofNat _).toNat; rw [tb _ (by omega)]; omega
      | 1, _ => show 128 ≤ (UInt8.ofNat _).toNat; rw [tb _ (by omega)]; omega
      | 2, _ => show 128 ≤ (UInt8.ofNat _).toNat; rw [tb _ (by omega)]; omega
    · refine ⟨(by show 2 ≤ 4; omega), (by show 4 ≤ 4; omega), fun j hj => ?_⟩
      have hj' : j < 4 := hj
      match j, hj' with
      | 0, _ => show 128 ≤ (UInt8.ofNat _).toNat; rw [tb _ (by omega)]; omega
      | 1, _ => show 128 ≤ (UInt8.ofNat _).toNat; rw [tb _ (by omega)]; omega
      | 2, _ => show 128 ≤ (UInt8.ofNat _).toNat; rw [tb _ (by omega)]; omega
      | 3, _ => show 128 ≤ (UInt8.ofNat _).toNat; rw [tb _ (by omega)]; omega

set_option maxHeartbeats 2000000 in
set_option maxRecDepth 1000000 in
theorem IndexRune_err (L : Lays.n152 P ρ) (w : World) :
    Calls P (ρ.f 152) #[.string badC, .int .i32 65533] w fun e w' => e = .returned (.int .i64 (-1)) ∧ Below w.heap.size w w' := by
  have t3 := L.t3; have a3 := L.a3; have z3 := L.z3; have v3 := L.v3
  have t4 := L.t4; have a4 := L.a4; have z4 := L.z4; have v4 := L.v4
  have t5 := L.t5; have a5 := L.a5; have z5 := L.z5; have v5 := L.v5
  have t9 := L.t9; have a9 := L.a9; have z9 := L.z9; have v9 := L.v9
  have t21 := L.t21; have a21 := L.a21; have z21 := L.z21; have v21 := L.v21
  go_enter L.f152, Body.n152_ntmps ρ
  go_wp2
  go_loopg [5, 6] 6 (fun g _ _ wx => ∃ i : Nat, i + g = 6 ∧ wx = w.iter badC i)
  case atStart => exact ⟨0, by omega, rfl⟩
  case round =>
    obtain ⟨i, hig, rfl⟩ := hrel
    cases gk with
    | zero =>
      obtain rfl : i = 6 := by omega
      have hnx := fun ty => run_next_end (P := P) w badC 6 ty (by decide)
      go_wp2
      go_ret
      exact ⟨rfl, (Below.refl _ _).alloc (Nat.le_refl _) _⟩
    | succ g =>
      have hi : i < 6 := by omega
      obtain ⟨x, hx, hx128⟩ : ∃ x : UInt8, badC[i]'hi = x ∧ x.toNat < 128 := by
        obtain ⟨b, h1, h2⟩ := badC_at i hi
        refine ⟨badC[i]'hi, rfl, ?_⟩
        have := Lib.data_getElem? badC i hi
        rw [this] at h1
        cases h1
        exact h2
      have hnx := fun ty => run_next_ascii (P := P) w badC i ty hi (by rw [hx]; exact hx128)
      rw [hx] at hnx
      have hne : ((x.toNat : Int) == 65533) = false := beq_eq_false_iff_ne.2 (by omega)
      clear hx
      go_wp2
      go_roundg g
      case measure => omega
      case rel => exact ⟨i + 1, by omega, rfl⟩
theorem below_dn (w : World) (n : Nat) : Below w.heap.size w (w.drewN n) := ⟨rfl, rfl, rfl, Nat.le_refl _, fun _ _ => rfl⟩
set_option maxHeartbeats 2000000 in
set_option maxRecDepth 1000000 in
theorem IndexRune_bad (L : Lays.n152 P ρ) (r : Int) (w : World) (h1 : 128 ≤ r) (h2 : (r == 65533) = false) (hv : Lib.validRune r = false) :
    Calls P (ρ.f 152) #[.string badC, .int .i32 r] w fun e w' => e = .returned (.int .i64 (-1)) ∧ Below w.heap.size w w' := by
  have t3 := L.t3; have a3 := L.a3; have z3 := L.z3; have v3 := L.v3
  have t4 := L.t4; have a4 := L.a4; have z4 := L.z4; have v4 := L.v4
  have t5 := L.t5; have a5 := L.a5; have z5 := L.z5; have v5 := L.v5
  have t9 := L.t9; have a9 := L.a9; have z9 := L.z9; have v9 := L.v9
  have t21 := L.t21; have a21 := L.a21; have z21 := L.z21; have v21 := L.v21
  have hn : ¬ r < 128 := by omega
  have h0 : 0 ≤ r := by omega
  have e119 : ∀ args w, (callFunc (ρ.f 119) args).run P w = .ok (.enter (ρ.f 119) args) w := enters_of L.f119 (by kernel_rfl) rfl
  go_enter L.f152, Body.n152_ntmps ρ
  go_wp2_with (go_at_fn (ρ.f 119); refine (Any.utf8_ValidRune { L with } _ _).mono ?_; rintro e w' ⟨rfl, hw⟩; rw [hw, hv])
  go_ret
  exact ⟨rfl, Below.refl _ _⟩
set_option maxHeartbeats 4000000 in
set_option maxRecDepth 1000000 in
theorem IndexRune_good (s : ByteArray) (r : Int) (w : World) (hs6 : 4 ≤ s.size) (hs7 : s.size ≤ 100) (hA : ∀ (j : Nat) b, s.data.toList[j]? = some b → b.toNat < 128) (h1 : 128 ≤ r) (h2 : (r == 65533) = false) (hv : Lib.validRune r = true) :
    Calls Tryz.prog 98 #[.string s, .int .i32 r] w fun e w' => e = .returned (.int .i64 (-1)) ∧ Below w.heap.size w w' := by
  have hn : ¬ r < 128 := by omega
  have h0 : 0 ≤ r := by omega
  have hcv := run_convert_int_string (P := Tryz.prog) w 21 9 .i32 r (by rw [Tryz.underlying21]; rfl) Tryz.underlying9
  obtain ⟨q1, q2, q3⟩ := encode_high r h1
  generalize Utf8.encode r = rs at hcv q1 q2 q3
  obtain ⟨l, hl⟩ : ∃ l : Nat, rs.size = l + 1 := ⟨rs.size - 1, by omega⟩
  have hll : l < rs.size := by omega
  have q4 := q3 l hll
  obtain ⟨x, hx⟩ : ∃ x : UInt8, rs[l]'hll = x := ⟨_, rfl⟩
  rw [hx] at q4
  have hls : l < s.size := by omega
  obtain ⟨y, hy⟩ : ∃ y : UInt8, s[l]'hls = y := ⟨_, rfl⟩
  have q5 := hA l y (by rw [← hy]; exact Lib.data_getElem? s l hls)
  have hne : ((y.toNat : Int) != (x.toNat : Int)) = true := by simp; omega
  have hneg : Lib.indexByte (List.take (s.size - (l + 1)) (List.drop (l + 1) s.data.toList)) x < 0 := by
    have h := Lib.contains_iff_indexByte (List.take (s.size - (l + 1)) (List.drop (l + 1) s.data.toList)) x
    have hc : (List.take (s.size - (l + 1)) (List.drop (l + 1) s.data.toList)).contains x = false := by
      have : ¬ x ∈ List.take (s.size - (l + 1)) (List.drop (l + 1) s.data.toList) := fun hm => by
        obtain ⟨j, hj⟩ := List.getElem?_of_mem (List.mem_of_mem_drop (List.mem_of_mem_take hm))
        have := hA j x hj
        omega
      simpa using this
    rw [hc] at h
    have := of_decide_eq_false h.symm
    omega
  have HA := Lib.hid hA
  clear hA q3
  go_enter Tryz.func98, Tryz.ntmps98
  go_wp2_with (first | (go_at_call 115; refine (Any.utf8_ValidRune { Tryz.lays153 with } _ _).mono ?_; rintro e w' ⟨rfl, hw⟩; rw [hw, hv]))
  go_step3
  go_wp2
  refine wp_loop_rounds 1 ?_
  rw [rounds_succ]
  go_wp2
  go_step3
  go_wp2
  have hw1 : IntKind.i64.wrap ((l : Int) + 1) = (l : Int) + 1 := IntWalk.i64_in _ ⟨by omega, by omega⟩
  have hi0 : 0 ≤ (l : Int) := by omega
  have hi1 : (l : Int) < s.size := by omega
  have hi2 : (l : Int) < rs.size := by omega
  have hi3 : (l : Int) + 1 ≤ s.size := by omega
  have hi4 : 0 ≤ (l : Int) + 1 := by omega
  have hi5 : ((l : Int) + 1).toNat = l + 1 := by omega
  go_quiet (fail)
  generalize hwx : World.drewN w _ = w1
  have HX := Lib.hid (show Below w.heap.size w w1 by rw [← hwx]; exact below_dn _ _)
  clear hwx hcv
  go_wp2
  go_quiet ((go_at_call 114; exact Calls.quiet_of_same (Any.strings_IndexByte { Tryz.lays153 with } _ _ _)))
  go_wp2
  generalize hwx : World.drewN w1 _ = w2
  have HX2 := Lib.hid (show Below w1.heap.size w1 w2 by rw [← hwx]; exact below_dn _ _)
  clear hwx
  simp only [Exit.noGoto_ret, Exit.inBlock, Exit.then]
  go_ret
  exact ⟨rfl, HX.out.trans (HX2.out.mono HX.out.size)⟩
theorem badC_ascii (j : Nat) (b : UInt8) (h : badC.data.toList[j]? = some b) : b.toNat < 128 := by
  have hl : j < 6 := (List.getElem?_eq_some_iff.1 h).1
  obtain ⟨c, h1, h2⟩ := badC_at j hl
  rw [h] at h1; cases h1; exact h2
/-- a rune that is no ASCII byte is none of the six -/
theorem IndexRune_high (r : Int) (w : World) (h1 : 128 ≤ r) :
    Calls Tryz.prog 98 #[.string badC, .int .i32 r] w fun e w' => e = .returned (.int .i64 (-1)) ∧ Below w.heap.size w w' := by
  by_cases h2 : r = 65533
  · subst h2; exact IndexRune_err { Tryz.lays153 with } w
  · cases hv : Lib.validRune r
    · exact IndexRune_bad { Tryz.lays153 with } r w h1 (beq_eq_false_iff_ne.2 h2) hv
    · exact IndexRune_good badC r w (by decide) (by decide) badC_ascii h1 (beq_eq_false_iff_ne.2 h2) hv
/-- is one of the six bytes in a text? -/
def badB (s : ByteArray) : Bool := Lib.containsAny s.data.toList badC.data.toList
theorem noAny_more {s c : List UInt8} {i n : Nat} (h : Lib.NoAny s c i) (hn : ∀ j, i ≤ j → j < i + n → ∃ x : UInt8, s[j]? = some x ∧ c.contains x = false) : Lib.NoAny s c (i + n) := fun j b hj hb => by
  by_cases e : j < i
  · exact h j b e hb
  · obtain ⟨x, hx, hc⟩ := hn j (by omega) hj
    rw [hx] at hb; cases hb; exact hc
set_option maxHeartbeats 8000000 in
set_option maxRecDepth 1000000 in
theorem IndexAny_short (s : ByteArray) (w : World) (h8 : s.size ≤ 8) :
    Calls Tryz.prog 84 #[.string s, .string badC] w fun e w' => e = .returned (.int .i64 (Lib.indexAny s.data.toList badC.data.toList)) ∧ Below w.heap.size w w' := by
  have h8z : decide ((8 : Int) < (s.size : Int)) = false := decide_eq_false (by omega)
  have hemp : badC.toList.isEmpty = false := by rw [Lib.toList_data]; rfl
  have hn1 : ((badC.size : Int) == 1) = false := rfl
  go_enter Tryz.func84, Tryz.ntmps84
  go_wp2_with (go_at_call 99; refine (Any.strings_shouldUseASCIISet { Tryz.lays153 with } _ _).mono ?_; rintro e w' ⟨rfl, hw⟩; rw [hw, h8z])
  go_loopg [9, 10] s.size (fun g _ _ wx => ∃ i : Nat, i ≤ s.size ∧ s.size ≤ i + g ∧ wx.heap[w.heap.size]? = some (.stringIter s i) ∧ Aside0 (Below w.heap.size w wx) ∧ Aside0 (Lib.NoAny s.data.toList badC.data.toList i))
  case atStart => exact ⟨0, by omega, by omega, World.iter_heap _ _ _, ⟨(Below.refl _ _).alloc (Nat.le_refl _) _⟩, ⟨Lib.NoAny.zero _ _⟩⟩
  case round =>
    obtain ⟨i, hi1, hig, hit, HB, HN⟩ := hrel
    by_cases hi : i < s.size
    · obtain ⟨g, rfl⟩ : ∃ g, gk = g + 1 := ⟨gk - 1, by omega⟩
      have hnx := fun ty => run_next_any_at (P := Tryz.prog) wr w.heap.size s i ty hit hi
      have HIT := Lib.hid hit
      have HB2 := Lib.hid (show Below w.heap.size w (wr.iterAt w.heap.size s (i + (Utf8.decode s i).2)) from Lib.below_iterAt HB.out (Nat.le_refl _) _ _)
      have HIT2 := Lib.hid (iterAt_heap wr w.heap.size s i (i + (Utf8.decode s i).2) hit)
      clear hit
      obtain ⟨x, hx⟩ : ∃ x : UInt8, s[i]'hi = x := ⟨_, rfl⟩
      have hxl : s.data.toList[i]? = some x := by rw [← hx]; exact Lib.data_getElem? s i hi
      have Hx := Lib.hid hxl
      clear hxl
      by_cases hx128 : x.toNat < 128
      · have hdec : Utf8.decode s i = (x.toNat, 1) := by rw [← hx]; exact decode_ascii s i hi (by rw [hx]; exact hx128)
        rw [hdec] at hnx HB2 HIT2
        dsimp only at hnx HB2 HIT2
        clear hdec hx
        have hcon := Lib.contains_iff_indexByte badC.data.toList x
        have hback : ((x.toNat : Int)).toNat.toUInt8 = x := by simp
        cases hin : badC.data.toList.contains x
        · rw [hin] at hcon
          have hlt : ¬ ((0 : Int) ≤ Lib.indexByte badC.data.toList x) := of_decide_eq_false hcon.symm
          have HIN := Lib.hid hin
          clear hcon hin
          go_wp2_with (go_at_call 98; refine (Any.strings_IndexRune_ascii { Tryz.lays153 with } _ _ _ (by omega) (by omega)).mono ?_; rintro e w' ⟨rfl, hw⟩; rw [hw, hback])
          go_roundg g
          case measure => omega
          case rel => exact ⟨i + 1, by omega, by omega, HIT2.out, ⟨HB2.out⟩, ⟨HN.out.succ Hx.out HIN.out⟩⟩
        · rw [hin] at hcon
          have hge : (0 : Int) ≤ Lib.indexByte badC.data.toList x := of_decide_eq_true hcon.symm
          have HIN := Lib.hid hin
          clear hcon hin
          go_wp2_with (go_at_call 98; refine (Any.strings_IndexRune_ascii { Tryz.lays153 with } _ _ _ (by omega) (by omega)).mono ?_; rintro e w' ⟨rfl, hw⟩; rw [hw, hback])
          go_ret
          exact ⟨by rw [Lib.indexAny_hit HN.out Hx.out HIN.out]; rfl, HB2.out⟩
      · have hd := Go.decode_high s i hi (by rw [hx]; omega)
        have hb := decode_bytes s i hi (by rw [hx]; omega)
        have HN2 := Lib.hid (noAny_more HN.out (fun j h1 h2 => (hb.2 j h1 h2).imp fun z hz => ⟨hz.1, badC_not z hz.2⟩))
        have hb1 := hb.1
        clear hb hx
        generalize Utf8.decode s i = q at hnx HB2 HIT2 hd hb1 HN2
        obtain ⟨c, n⟩ := q
        dsimp only at hnx HB2 HIT2 hd hb1 HN2
        go_wp2_with (go_at_call 98; refine (IndexRune_high _ _ (by omega)).mono ?_; rintro e w' ⟨rfl, hw⟩; have HW := Lib.hid hw; clear hw)
        go_roundg g
        case measure => omega
        case rel => exact ⟨i + n, by omega, by omega, by rw [HW.out.block _ (Array.getElem?_eq_some_iff.1 HIT2.out).1]; exact HIT2.out, ⟨below_step HB2.out HW.out⟩, ⟨HN2.out⟩⟩
    · obtain rfl : i = s.size := by omega
      have hnx := fun ty => run_next_end_at (P := Tryz.prog) wr w.heap.size s s.size ty hit (by omega)
      go_wp2
      go_ret
      exact ⟨by rw [Lib.indexAny_none (by rw [← Lib.size_eq]; exact HN.out)]; rfl, HB.out⟩
theorem infoSet : (Tryz.prog.info? 149).map (fun i => (i.zero, i.size)) = some (some (.agg (Array.replicate 256 (.bool false))), 256) := by kernel_rfl
set_option maxRecDepth 100000 in
theorem IndexAny_bad (s : ByteArray) (w : World) (hs : s.size < 4294967281) :
    Calls Tryz.prog 84 #[.string s, .string badC] w fun e w' => e = .returned (.int .i64 (Lib.indexAny s.data.toList badC.data.toList)) ∧ Below w.heap.size w w' := by
  by_cases h8 : s.size ≤ 8
  · exact IndexAny_short s w h8
  · refine (Tryz.strings_IndexAny_long (zero_of_info infoSet).1 s badC w (by decide) (by omega) hs (by decide) badC_ascii).mono fun e w' ⟨h1, h2⟩ => ⟨h1, ?_⟩
    rw [h2]
    exact below_alloc (below_alloc (Below.refl _ _) _) _
set_option maxHeartbeats 1000000 in
/-- strings.ContainsAny(s, " \n=|~:") -/
theorem containsAny_any (s : ByteArray) (b : Bool) (w : World) (hs : s.size < 4294967281) (hb : badB s = b) :
    Calls Tryz.prog 76 #[.string s, .string (⟨#[32, 10, 61, 124, 126, 58]⟩ : ByteArray)] w fun e w' => e = .returned (.bool b) ∧ Below w.heap.size w w' := by
  subst hb
  go_enter Tryz.func76, Tryz.ntmps76
  go_wp2_with (go_at_call 84; refine (IndexAny_bad s _ hs).mono ?_; rintro e w' ⟨rfl, hw⟩)
  go_ret
  exact ⟨rfl, hw⟩
end Go.Proofs.YtmfekngjhiofaaaGreatDoor.Q
