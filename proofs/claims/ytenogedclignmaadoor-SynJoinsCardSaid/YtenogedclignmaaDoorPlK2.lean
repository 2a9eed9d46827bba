/-
  HELPER.
-/
import Derived.Test.YtenogedclignmaaDoorPlKA
import Derived.Test.YtenogedclignmaaDoorPlShelf
import Derived.BigRegion
import Derived.Test.YtenogedclignmaaDoorPlK1
set_option linter.unusedVariables false
set_option linter.unusedSimpArgs false
namespace Go.Proofs.YtenogedclignmaaDoor.Q
open Go.NumPure Go.RowKit Go.Proofs.YtenogedclignmaaDoorW.PrintWords Go.Proofs.YtenogedclignmaaDoorW.PrintLast Go.Proofs.YtenogedclignmaaDoorW.PrintMore
theorem takeWhile_all {α} (p : α → Bool) : ∀ l : List α, ∀ x ∈ l.takeWhile p, p x = true
 | [], x, h => by simp at h
 | c :: r, x, h => by
  by_cases hp : p c = true
  ·rw [List.takeWhile_cons, if_pos hp] at h
   rcases List.mem_cons.1 h with rfl | h
   ·exact hp
   ·exact takeWhile_all p r x h
  ·rw [List.takeWhile_cons, if_neg hp] at h; simp at h
theorem digits_cut (s : ByteArray) (p : UInt8 → Bool) : (s.extract 0 (s.data.toList.takeWhile p).length).data.toList = s.data.toList.takeWhile p := by
 simp only [ByteArray.data_extract, Array.toList_extract]
 rw [List.extract_eq_take_drop, List.drop_zero, Nat.sub_zero]
 exact (LexP.takeWhile_eq_take p _).symm
theorem span_digit_n (s : ByteArray) (n : Nat) (hn : (s.data.toList.takeWhile LexP.dig).length = n) (w : World) (hs : s.size ≤ 9223372036854775807) :
  Calls Tryd.prog 27 #[.string s, .func (.func 46) #[] #[]] w fun e w' => e = .returned (.int .i64 n) ∧ Drawn0 w w' := by
 subst hn; exact span_digit s w hs
theorem number_below {w w1 : World} {nd : Nat} {c : Array Value} {v0 v1 v2 v3 : Value} (hb : Below (w.heap.size + 1) ((w.alloc (.cells c 37)).drewN nd) w1) :
  Below w.heap.size w (((((w1.setCell ⟨w.heap.size, 0, none⟩ v0).setCell ⟨w.heap.size, 1, none⟩ v1).setCell ⟨w.heap.size, 2, none⟩ v2).setCell ⟨w.heap.size, 3, none⟩ v3).drew) := by
 have h0 : Below w.heap.size w w1 := (pw_below_drewN (below_alloc (bR _ _) _) nd).trans (hb.mono (by omega))
 exact ((((h0.setCell (by simp) _).setCell (by simp) _).setCell (by simp) _).setCell (by simp) _).drew
set_option maxHeartbeats 1000000 in
set_option maxRecDepth 100000 in
theorem number_A (s : ByteArray) (w : World) (hG : LTab w) (hs : s.size ≤ 281474976710656) (n : Nat) (hn : (s.data.toList.takeWhile LexP.dig).length = n) (hle : n ≤ s.size) (v : Int) (hv : Lib.atoiAll (s.extract 0 n).data.toList = .ok v) (h0 : 0 ≤ v) (h1 : v ≤ 65535) (hl : n = 1) :
  Calls Tryd.prog 47 #[.string s] w fun e w' => e = .returned (.tuple #[.agg #[.int .i64 2, .string (s.extract 0 n), .int .i64 v, .int .i64 0], .bool true]) ∧ Below w.heap.size w w' := by
 have HG := aS hG
 clear hG
 have HT := aS hn
 clear hn
 have HV := aS hv
 clear hv
 have HL := aS hl
 clear hl
 go_enter Tryd.func47, Tryd.ntmps47
 go_wp2_with fail
 refine (span_digit_n _ n HT.out _ (by omega)).mono ?_
 rintro e w' ⟨rfl, ⟨nd, rfl⟩⟩
 go_wp2_with fail
 refine (Tryd.strconv_Atoi_ok _ (by simp; omega) v HV.out _).mono ?_
 rintro e w1 ⟨rfl, hw⟩
 have hb : Below (w.heap.size + 1) ((w.alloc (.cells #[.int .i64 0, .string ⟨#[]⟩, .int .i64 0, .int .i64 0] 37)).drewN nd) w1 := by
  rcases hw with rfl | ⟨t, rfl⟩
  ·exact bR _ _
  ·have := Lib.bytesWorld_below ((w.alloc (.cells #[.int .i64 0, .string ⟨#[]⟩, .int .i64 0, .int .i64 0] 37)).drewN nd) 5 t
   simpa using this
 clear hw
 have c0 : w1.cell? ⟨w.heap.size, 0, none⟩ = some (.int .i64 0) := (hb.cell (p := ⟨w.heap.size, 0, none⟩) (by simp)).trans (by simp)
 have f0 : w1.frozen? ⟨w.heap.size, 0, none⟩ = false := (hb.frozen (p := ⟨w.heap.size, 0, none⟩) (by simp)).trans (by simp)
 have c1 : w1.cell? ⟨w.heap.size, 1, none⟩ = some (.string ⟨#[]⟩) := (hb.cell (p := ⟨w.heap.size, 1, none⟩) (by simp)).trans (by simp)
 have f1 : w1.frozen? ⟨w.heap.size, 1, none⟩ = false := (hb.frozen (p := ⟨w.heap.size, 1, none⟩) (by simp)).trans (by simp)
 have c2 : w1.cell? ⟨w.heap.size, 2, none⟩ = some (.int .i64 0) := (hb.cell (p := ⟨w.heap.size, 2, none⟩) (by simp)).trans (by simp)
 have f2 : w1.frozen? ⟨w.heap.size, 2, none⟩ = false := (hb.frozen (p := ⟨w.heap.size, 2, none⟩) (by simp)).trans (by simp)
 have c3 : w1.cell? ⟨w.heap.size, 3, none⟩ = some (.int .i64 0) := (hb.cell (p := ⟨w.heap.size, 3, none⟩) (by simp)).trans (by simp)
 have f3 : w1.frozen? ⟨w.heap.size, 3, none⟩ = false := (hb.frozen (p := ⟨w.heap.size, 3, none⟩) (by simp)).trans (by simp)
 have HB := aS hb
 clear hb
 have g1 : decide (v ≤ 65535) = true := decide_eq_true h1
 have g2 : ((n : Int) == 1) = true := by rw [beq_iff_eq]; have := HL.out; omega
 go_wp2
 go_region
 all_goals go_wp2
 all_goals refine bodyPost_ret (v := .tuple #[.agg #[.int .i64 2, .string (s.extract 0 n), .int .i64 v, .int .i64 0], .bool true]) (by simp [results, Tryd.results47, go_sem, c0, c1, c2, c3]) rfl ⟨rfl, ?_⟩
 all_goals exact number_below HB.out
set_option maxHeartbeats 1000000 in
set_option maxRecDepth 100000 in
theorem number_B (s : ByteArray) (w : World) (hG : LTab w) (hs : s.size ≤ 281474976710656) (n : Nat) (hn : (s.data.toList.takeWhile LexP.dig).length = n) (hle : n ≤ s.size) (v : Int) (hv : Lib.atoiAll (s.extract 0 n).data.toList = .ok v) (h0 : 0 ≤ v) (h1 : v ≤ 65535) (hl : 1 < n) (hz : 0 < (s.extract 0 n).size) :
  Calls Tryd.prog 47 #[.string s] w fun e w' => e = .returned (.tuple #[.agg #[.int .i64 2, .string (s.extract 0 n), .int .i64 v, .int .i64 0], .bool ((((s.extract 0 n)[0]'hz).toNat : Int) != 48)]) ∧ Below w.heap.size w w' := by
 have HG := aS hG
 clear hG
 have HT := aS hn
 clear hn
 have HV := aS hv
 clear hv
 go_enter Tryd.func47, Tryd.ntmps47
 go_wp2_with fail
 refine (span_digit_n _ n HT.out _ (by omega)).mono ?_
 rintro e w' ⟨rfl, ⟨nd, rfl⟩⟩
 go_wp2_with fail
 refine (Tryd.strconv_Atoi_ok _ (by simp; omega) v HV.out _).mono ?_
 rintro e w1 ⟨rfl, hw⟩
 have hb : Below (w.heap.size + 1) ((w.alloc (.cells #[.int .i64 0, .string ⟨#[]⟩, .int .i64 0, .int .i64 0] 37)).drewN nd) w1 := by
  rcases hw with rfl | ⟨t, rfl⟩
  ·exact bR _ _
  ·have := Lib.bytesWorld_below ((w.alloc (.cells #[.int .i64 0, .string ⟨#[]⟩, .int .i64 0, .int .i64 0] 37)).drewN nd) 5 t
   simpa using this
 clear hw
 have c0 : w1.cell? ⟨w.heap.size, 0, none⟩ = some (.int .i64 0) := (hb.cell (p := ⟨w.heap.size, 0, none⟩) (by simp)).trans (by simp)
 have f0 : w1.frozen? ⟨w.heap.size, 0, none⟩ = false := (hb.frozen (p := ⟨w.heap.size, 0, none⟩) (by simp)).trans (by simp)
 have c1 : w1.cell? ⟨w.heap.size, 1, none⟩ = some (.string ⟨#[]⟩) := (hb.cell (p := ⟨w.heap.size, 1, none⟩) (by simp)).trans (by simp)
 have f1 : w1.frozen? ⟨w.heap.size, 1, none⟩ = false := (hb.frozen (p := ⟨w.heap.size, 1, none⟩) (by simp)).trans (by simp)
 have c2 : w1.cell? ⟨w.heap.size, 2, none⟩ = some (.int .i64 0) := (hb.cell (p := ⟨w.heap.size, 2, none⟩) (by simp)).trans (by simp)
 have f2 : w1.frozen? ⟨w.heap.size, 2, none⟩ = false := (hb.frozen (p := ⟨w.heap.size, 2, none⟩) (by simp)).trans (by simp)
 have c3 : w1.cell? ⟨w.heap.size, 3, none⟩ = some (.int .i64 0) := (hb.cell (p := ⟨w.heap.size, 3, none⟩) (by simp)).trans (by simp)
 have f3 : w1.frozen? ⟨w.heap.size, 3, none⟩ = false := (hb.frozen (p := ⟨w.heap.size, 3, none⟩) (by simp)).trans (by simp)
 have HB := aS hb
 clear hb
 have g1 : decide (v ≤ 65535) = true := decide_eq_true h1
 have g2 : ((n : Int) == 1) = false := by rw [beq_eq_false_iff_ne]; omega
 have g5 : 0 < n := by omega
 go_wp2
 go_region
 all_goals go_wp2
 all_goals refine bodyPost_ret (v := .tuple #[.agg #[.int .i64 2, .string (s.extract 0 n), .int .i64 v, .int .i64 0], .bool ((((s.extract 0 n)[0]'hz).toNat : Int) != 48)]) (by simp [results, Tryd.results47, go_sem, c0, c1, c2, c3]) rfl ⟨rfl, ?_⟩
 all_goals exact number_below HB.out
set_option maxHeartbeats 1000000 in
set_option maxRecDepth 100000 in
theorem number_D (s : ByteArray) (w : World) (hG : LTab w) (hs : s.size ≤ 281474976710656) (n : Nat) (hn : (s.data.toList.takeWhile LexP.dig).length = n) (hle : n ≤ s.size) (v : Int) (hv : Lib.atoiAll (s.extract 0 n).data.toList = .ok v) (h0 : 0 ≤ v) (h1 : 65535 < v) :
  Calls Tryd.prog 47 #[.string s] w fun e w' => e = .returned (.tuple #[.agg #[.int .i64 2, .string (s.extract 0 n), .int .i64 v, .int .i64 0], .bool false]) ∧ Below w.heap.size w w' := by
 have HG := aS hG
 clear hG
 have HT := aS hn
 clear hn
 have HV := aS hv
 clear hv
 go_enter Tryd.func47, Tryd.ntmps47
 go_wp2_with fail
 refine (span_digit_n _ n HT.out _ (by omega)).mono ?_
 rintro e w' ⟨rfl, ⟨nd, rfl⟩⟩
 go_wp2_with fail
 refine (Tryd.strconv_Atoi_ok _ (by simp; omega) v HV.out _).mono ?_
 rintro e w1 ⟨rfl, hw⟩
 have hb : Below (w.heap.size + 1) ((w.alloc (.cells #[.int .i64 0, .string ⟨#[]⟩, .int .i64 0, .int .i64 0] 37)).drewN nd) w1 := by
  rcases hw with rfl | ⟨t, rfl⟩
  ·exact bR _ _
  ·have := Lib.bytesWorld_below ((w.alloc (.cells #[.int .i64 0, .string ⟨#[]⟩, .int .i64 0, .int .i64 0] 37)).drewN nd) 5 t
   simpa using this
 clear hw
 have c0 : w1.cell? ⟨w.heap.size, 0, none⟩ = some (.int .i64 0) := (hb.cell (p := ⟨w.heap.size, 0, none⟩) (by simp)).trans (by simp)
 have f0 : w1.frozen? ⟨w.heap.size, 0, none⟩ = false := (hb.frozen (p := ⟨w.heap.size, 0, none⟩) (by simp)).trans (by simp)
 have c1 : w1.cell? ⟨w.heap.size, 1, none⟩ = some (.string ⟨#[]⟩) := (hb.cell (p := ⟨w.heap.size, 1, none⟩) (by simp)).trans (by simp)
 have f1 : w1.frozen? ⟨w.heap.size, 1, none⟩ = false := (hb.frozen (p := ⟨w.heap.size, 1, none⟩) (by simp)).trans (by simp)
 have c2 : w1.cell? ⟨w.heap.size, 2, none⟩ = some (.int .i64 0) := (hb.cell (p := ⟨w.heap.size, 2, none⟩) (by simp)).trans (by simp)
 have f2 : w1.frozen? ⟨w.heap.size, 2, none⟩ = false := (hb.frozen (p := ⟨w.heap.size, 2, none⟩) (by simp)).trans (by simp)
 have c3 : w1.cell? ⟨w.heap.size, 3, none⟩ = some (.int .i64 0) := (hb.cell (p := ⟨w.heap.size, 3, none⟩) (by simp)).trans (by simp)
 have f3 : w1.frozen? ⟨w.heap.size, 3, none⟩ = false := (hb.frozen (p := ⟨w.heap.size, 3, none⟩) (by simp)).trans (by simp)
 have HB := aS hb
 clear hb
 have g1 : decide (v ≤ 65535) = false := decide_eq_false (by omega)
 go_wp2
 go_region
 all_goals go_wp2
 all_goals refine bodyPost_ret (v := .tuple #[.agg #[.int .i64 2, .string (s.extract 0 n), .int .i64 v, .int .i64 0], .bool false]) (by simp [results, Tryd.results47, go_sem, c0, c1, c2, c3]) rfl ⟨rfl, ?_⟩
 all_goals exact number_below HB.out
set_option maxHeartbeats 1000000 in
set_option maxRecDepth 100000 in
theorem number_E (s : ByteArray) (w : World) (hG : LTab w) (hs : s.size ≤ 281474976710656) (n : Nat) (hn : (s.data.toList.takeWhile LexP.dig).length = n) (hle : n ≤ s.size) (hv : Lib.atoiAll (s.extract 0 n).data.toList = .range)  :
  Calls Tryd.prog 47 #[.string s] w fun e w' => e = .returned (.tuple #[.agg #[.int .i64 2, .string (s.extract 0 n), .int .i64 (Lib.atoiSat (s.extract 0 n).data.toList), .int .i64 0], .bool false]) ∧ Below w.heap.size w w' := by
 have HG := aS hG
 clear hG
 have HT := aS hn
 clear hn
 have HV := aS hv
 clear hv
 go_enter Tryd.func47, Tryd.ntmps47
 go_wp2_with fail
 refine (span_digit_n _ n HT.out _ (by omega)).mono ?_
 rintro e w' ⟨rfl, ⟨nd, rfl⟩⟩
 go_wp2_with fail
 obtain ⟨ev, hev, hev2⟩ := (ltab_below HG.out (pw_below_drewN (below_alloc (bR _ _) (.cells #[.int .i64 0, .string ⟨#[]⟩, .int .i64 0, .int .i64 0] 37)) nd)).2.2
 have HE1 := aS hev
 clear hev
 refine (Tryd.strconv_Atoi_range _ (by simp; omega) HV.out ev _ HE1.out hev2).mono ?_
 clear HE1 hev2
 rintro e w1 ⟨N, rfl, hN, hcell, hb0⟩
 clear hN hcell
 have hb : Below (w.heap.size + 1) ((w.alloc (.cells #[.int .i64 0, .string ⟨#[]⟩, .int .i64 0, .int .i64 0] 37)).drewN nd) w1 := by simpa using hb0
 clear hb0
 have c0 : w1.cell? ⟨w.heap.size, 0, none⟩ = some (.int .i64 0) := (hb.cell (p := ⟨w.heap.size, 0, none⟩) (by simp)).trans (by simp)
 have f0 : w1.frozen? ⟨w.heap.size, 0, none⟩ = false := (hb.frozen (p := ⟨w.heap.size, 0, none⟩) (by simp)).trans (by simp)
 have c1 : w1.cell? ⟨w.heap.size, 1, none⟩ = some (.string ⟨#[]⟩) := (hb.cell (p := ⟨w.heap.size, 1, none⟩) (by simp)).trans (by simp)
 have f1 : w1.frozen? ⟨w.heap.size, 1, none⟩ = false := (hb.frozen (p := ⟨w.heap.size, 1, none⟩) (by simp)).trans (by simp)
 have c2 : w1.cell? ⟨w.heap.size, 2, none⟩ = some (.int .i64 0) := (hb.cell (p := ⟨w.heap.size, 2, none⟩) (by simp)).trans (by simp)
 have f2 : w1.frozen? ⟨w.heap.size, 2, none⟩ = false := (hb.frozen (p := ⟨w.heap.size, 2, none⟩) (by simp)).trans (by simp)
 have c3 : w1.cell? ⟨w.heap.size, 3, none⟩ = some (.int .i64 0) := (hb.cell (p := ⟨w.heap.size, 3, none⟩) (by simp)).trans (by simp)
 have f3 : w1.frozen? ⟨w.heap.size, 3, none⟩ = false := (hb.frozen (p := ⟨w.heap.size, 3, none⟩) (by simp)).trans (by simp)
 have HB := aS hb
 clear hb
 go_wp2
 go_region
 all_goals go_wp2
 all_goals refine bodyPost_ret (v := .tuple #[.agg #[.int .i64 2, .string (s.extract 0 n), .int .i64 (Lib.atoiSat (s.extract 0 n).data.toList), .int .i64 0], .bool false]) (by simp [results, Tryd.results47, go_sem, c0, c1, c2, c3]) rfl ⟨rfl, ?_⟩
 all_goals exact number_below HB.out
theorem getb (t : ByteArray) (i : Nat) (h : i < t.size) : t[i]'h = t.data.toList[i]'(by simpa using h) := by simp; rfl
theorem cut_eq (s : ByteArray) (p : UInt8 → Bool) : s.extract 0 (s.data.toList.takeWhile p).length = ⟨(s.data.toList.takeWhile p).toArray⟩ := by
 have h := digits_cut s p
 cases hx : s.extract 0 (s.data.toList.takeWhile p).length with
 | mk d =>
  rw [hx] at h
  have h2 : d.toList = s.data.toList.takeWhile p := h
  rw [← h2, Array.toArray_toList]
theorem lnumber_calls (s : ByteArray) (w : World) (hG : LTab w) (hs : s.size ≤ 281474976710656) (c : UInt8) (r : List UInt8) (hl : s.data.toList = c :: r) (hd : LexP.dig c = true) :
  Calls Tryd.prog 47 #[.string s] w fun e w' => OnePost (LexP.number s.data.toList) e ∧ Below w.heap.size w w' := by
 have hne : s.data.toList.takeWhile LexP.dig = c :: r.takeWhile LexP.dig := by rw [hl, List.takeWhile_cons, if_pos hd]
 have h1n : 1 ≤ (s.data.toList.takeWhile LexP.dig).length := by rw [hne]; simp
 have hle : (s.data.toList.takeWhile LexP.dig).length ≤ s.size := by
  have := LexP.takeWhile_le LexP.dig s.data.toList
  simpa using this
 have hcut := digits_cut s LexP.dig
 have hat : Lib.atoiAll (s.extract 0 (s.data.toList.takeWhile LexP.dig).length).data.toList = if LexP.numv 0 (s.data.toList.takeWhile LexP.dig) < 9223372036854775808 then .ok (LexP.numv 0 (s.data.toList.takeWhile LexP.dig) : Int) else .range := by
  rw [hcut, hne]
  exact atoi_digits c _ (fun x hx => takeWhile_all LexP.dig s.data.toList x (by rw [hne]; exact hx))
 have hnum : LexP.number s.data.toList = if LexP.numv 0 (s.data.toList.takeWhile LexP.dig) ≤ 65535 ∧ ((s.data.toList.takeWhile LexP.dig).length = 1 ∨ (s.data.toList.takeWhile LexP.dig).head? ≠ some 48) then .tok 2 (s.data.toList.takeWhile LexP.dig) (LexP.numv 0 (s.data.toList.takeWhile LexP.dig)) else .err := rfl
 have hce := cut_eq s LexP.dig
 generalize hm : LexP.numv 0 (s.data.toList.takeWhile LexP.dig) = m at hat hnum
 by_cases hbig : m < 9223372036854775808
 ·rw [if_pos hbig] at hat
  by_cases hsm : m ≤ 65535
  ·by_cases h1 : (s.data.toList.takeWhile LexP.dig).length = 1
   ·refine (number_A s w hG hs _ rfl hle m hat (by omega) (by omega) h1).mono ?_
    rintro e w' ⟨rfl, hb⟩
    refine ⟨?_, hb⟩
    rw [hnum, if_pos ⟨hsm, .inl h1⟩, hce]
    rfl
   ·have hz : 0 < (s.extract 0 (s.data.toList.takeWhile LexP.dig).length).size := by simp; omega
    refine (number_B s w hG hs _ rfl hle m hat (by omega) (by omega) (by omega) hz).mono ?_
    rintro e w' ⟨rfl, hb⟩
    refine ⟨?_, hb⟩
    have h0 : (s.extract 0 (s.data.toList.takeWhile LexP.dig).length)[0]'hz = c := by
     rw [getb]
     have : ∀ (l : List UInt8) (h : 0 < l.length), l = s.data.toList.takeWhile LexP.dig → l[0]'h = c := by
      intro l h e
      subst e
      simp only [hne]
      rfl
     exact this _ _ hcut
    rw [h0]
    by_cases h48 : c = 48
    ·have e1 : ((c.toNat : Int) != 48) = false := by rw [h48]; rfl
     rw [e1, hnum, if_neg (by rw [hne] at h1 ⊢; simp [h48] at h1 ⊢; intro _; exact h1)]
     exact ⟨_, _, _, _, rfl⟩
    ·have hcn : c.toNat ≠ 48 := fun hh => h48 (by rw [← UInt8.toNat_inj, hh]; rfl)
     have e1 : ((c.toNat : Int) != 48) = true := by rw [bne_iff_ne]; omega
     rw [e1, hnum, if_pos ⟨hsm, .inr (by rw [hne]; simpa using h48)⟩, hce]
     rfl
  ·refine (number_D s w hG hs _ rfl hle m hat (by omega) (by omega)).mono ?_
   rintro e w' ⟨rfl, hb⟩
   refine ⟨?_, hb⟩
   rw [hnum, if_neg (by omega)]
   exact ⟨_, _, _, _, rfl⟩
 ·rw [if_neg hbig] at hat
  refine (number_E s w hG hs _ rfl hle hat).mono ?_
  rintro e w' ⟨rfl, hb⟩
  refine ⟨?_, hb⟩
  rw [hnum, if_neg (by omega)]
  exact ⟨_, _, _, _, rfl⟩
theorem span_word_n (s : ByteArray) (n : Nat) (hn : (s.data.toList.takeWhile LexP.wrd).length = n) (w : World) (hs : s.size ≤ 9223372036854775807) :
  Calls Tryd.prog 27 #[.string s, .func (.func 45) #[] #[]] w fun e w' => e = .returned (.int .i64 n) ∧ Drawn0 w w' := by
 subst hn; exact span_word s w hs
set_option maxHeartbeats 1000000 in
set_option maxRecDepth 100000 in
theorem one_letter (s : ByteArray) (w : World) (hs : s.size ≤ 281474976710656) (hz : 0 < s.size) (hl : LexP.ltr (s[0]'hz) = true) (n : Nat) (hn : (s.data.toList.takeWhile LexP.wrd).length = n) (hle : n ≤ s.size) :
  Calls Tryd.prog 29 #[.string s] w fun e w' => e = .returned (.tuple #[.agg #[.int .i64 1, .string (s.extract 0 n), .int .i64 0, .int .i64 0], .bool true]) ∧ Below w.heap.size w w' := by
 have HL := aS hl
 clear hl
 have HN := aS hn
 clear hn
 have HC := aS (let_f (s[0]'hz))
 go_enter Tryd.func29, Tryd.ntmps29
 go_wp2_with (first | (go_at_call 44; refine (lex_letter.calls _ _ _ HC.out).mono ?_; rintro e w' ⟨rfl, ⟨nd, rfl⟩⟩; rw [HL.out]) | (go_at_call 27; refine (span_word_n _ n HN.out _ (by omega)).mono ?_; rintro e w' ⟨rfl, ⟨nd2, rfl⟩⟩))
 refine bodyPost_ret (v := .tuple #[.agg #[.int .i64 1, .string (s.extract 0 n), .int .i64 0, .int .i64 0], .bool true]) (by simp [results, Tryd.results29, go_sem]) rfl ⟨rfl, ?_⟩
 exact ((((pw_below_drewN (below_alloc (bR _ _) _) _).setCell (by simp) _).setCell (by simp) _).setCell (by simp) _).setCell (by simp) _
theorem OnePost.form {o : LexP.Step} {e : Ending} (h : OnePost o e) : ∃ (k : Int) (t : ByteArray) (n p : Int) (ok : Bool), e = .returned (.tuple #[.agg #[.int .i64 k, .string t, .int .i64 n, .int .i64 p], .bool ok]) := by
 cases o with
 | tok k t v => exact ⟨_, _, _, _, _, h⟩
 | skip n => obtain ⟨k, t, n, p, h⟩ := h; exact ⟨_, _, _, _, _, h⟩
 | err => obtain ⟨k, t, n, p, h⟩ := h; exact ⟨_, _, _, _, _, h⟩
theorem one_below {w w1 : World} {nd : Nat} {c : Array Value} {v0 v1 v2 v3 : Value} (hb : Below (w.heap.size + 1) ((w.alloc (.cells c 37)).drewN nd) w1) :
  Below w.heap.size w (((((w1.setCell ⟨w.heap.size, 0, none⟩ v0).setCell ⟨w.heap.size, 1, none⟩ v1).setCell ⟨w.heap.size, 2, none⟩ v2).setCell ⟨w.heap.size, 3, none⟩ v3)) := by
 have h0 : Below w.heap.size w w1 := (pw_below_drewN (below_alloc (bR _ _) _) nd).trans (hb.mono (by omega))
 exact ((((h0.setCell (by simp) _).setCell (by simp) _).setCell (by simp) _).setCell (by simp) _)
set_option maxHeartbeats 2000000 in
set_option maxRecDepth 100000 in
theorem one_digit (s : ByteArray) (w : World) (hG : LTab w) (hs : s.size ≤ 281474976710656) (hz : 0 < s.size) (hl : LexP.ltr (s[0]'hz) = false) (hd : LexP.dig (s[0]'hz) = true) (c : UInt8) (r : List UInt8) (hc : s.data.toList = c :: r) (hcd : LexP.dig c = true) :
  Calls Tryd.prog 29 #[.string s] w fun e w' => OnePost (LexP.number s.data.toList) e ∧ Below w.heap.size w w' := by
 have HG := aS hG
 clear hG
 have HL := aS hl
 clear hl
 have HD := aS hd
 clear hd
 have HS := aS hc
 clear hc
 have HC := aS (let_f (s[0]'hz))
 have HE := aS (dig_f (s[0]'hz))
 go_enter Tryd.func29, Tryd.ntmps29
 go_wp2_with (first | (go_at_call 44; refine (lex_letter.calls _ _ _ HC.out).mono ?_; rintro e w' ⟨rfl, ⟨nd, rfl⟩⟩; rw [HL.out]) | (go_at_call 46; refine (lex_digit.calls _ _ _ HE.out).mono ?_; rintro e w' ⟨rfl, ⟨nd2, rfl⟩⟩; rw [HD.out]))
 refine (lnumber_calls s _ (ltab_below HG.out (pw_below_drewN (below_alloc (bR _ _) _) _)) hs c r HS.out hcd).mono ?_
 rintro e w1 ⟨hP, hb0⟩
 obtain ⟨k, t, n, p, ok, rfl⟩ := hP.form
 have HP := aS hP
 clear hP
 have hb : Below (w.heap.size + 1) ((w.alloc (.cells #[.int .i64 0, .string ⟨#[]⟩, .int .i64 0, .int .i64 0] 37)).drewN (nd + nd2)) w1 := by simpa using hb0
 clear hb0
 have c0 : w1.cell? ⟨w.heap.size, 0, none⟩ = some (.int .i64 0) := (hb.cell (p := ⟨w.heap.size, 0, none⟩) (by simp)).trans (by simp)
 have f0 : w1.frozen? ⟨w.heap.size, 0, none⟩ = false := (hb.frozen (p := ⟨w.heap.size, 0, none⟩) (by simp)).trans (by simp)
 have c1 : w1.cell? ⟨w.heap.size, 1, none⟩ = some (.string ⟨#[]⟩) := (hb.cell (p := ⟨w.heap.size, 1, none⟩) (by simp)).trans (by simp)
 have f1 : w1.frozen? ⟨w.heap.size, 1, none⟩ = false := (hb.frozen (p := ⟨w.heap.size, 1, none⟩) (by simp)).trans (by simp)
 have c2 : w1.cell? ⟨w.heap.size, 2, none⟩ = some (.int .i64 0) := (hb.cell (p := ⟨w.heap.size, 2, none⟩) (by simp)).trans (by simp)
 have f2 : w1.frozen? ⟨w.heap.size, 2, none⟩ = false := (hb.frozen (p := ⟨w.heap.size, 2, none⟩) (by simp)).trans (by simp)
 have c3 : w1.cell? ⟨w.heap.size, 3, none⟩ = some (.int .i64 0) := (hb.cell (p := ⟨w.heap.size, 3, none⟩) (by simp)).trans (by simp)
 have f3 : w1.frozen? ⟨w.heap.size, 3, none⟩ = false := (hb.frozen (p := ⟨w.heap.size, 3, none⟩) (by simp)).trans (by simp)
 have HB := aS hb
 clear hb
 go_wp2
 refine bodyPost_ret (v := .tuple #[.agg #[.int .i64 k, .string t, .int .i64 n, .int .i64 p], .bool ok]) (by simp [results, Tryd.results29, go_sem, c0, c1, c2, c3]) rfl ⟨HP.out, ?_⟩
 exact one_below HB.out
set_option maxHeartbeats 2000000 in
set_option maxRecDepth 100000 in
theorem one_sign (s : ByteArray) (w : World) (hG : LTab w) (hs : s.size ≤ 281474976710656) (hz : 0 < s.size) (hl : LexP.ltr (s[0]'hz) = false) (hd : LexP.dig (s[0]'hz) = false) :
  Calls Tryd.prog 29 #[.string s] w fun e w' => OnePost (LexP.sgn s.data.toList) e ∧ Below w.heap.size w w' := by
 have HG := aS hG
 clear hG
 have HL := aS hl
 clear hl
 have HD := aS hd
 clear hd
 have HC := aS (let_f (s[0]'hz))
 have HE := aS (dig_f (s[0]'hz))
 go_enter Tryd.func29, Tryd.ntmps29
 go_wp2_with (first | (go_at_call 44; refine (lex_letter.calls _ _ _ HC.out).mono ?_; rintro e w' ⟨rfl, ⟨nd, rfl⟩⟩; rw [HL.out]) | (go_at_call 46; refine (lex_digit.calls _ _ _ HE.out).mono ?_; rintro e w' ⟨rfl, ⟨nd2, rfl⟩⟩; rw [HD.out]))
 refine (sign_calls s _ (ltab_below HG.out (pw_below_drewN (below_alloc (bR _ _) _) _))).mono ?_
 rintro e w1 ⟨hP, hb0⟩
 obtain ⟨k, t, n, p, ok, rfl⟩ := hP.form
 have HP := aS hP
 clear hP
 have hb : Below (w.heap.size + 1) ((w.alloc (.cells #[.int .i64 0, .string ⟨#[]⟩, .int .i64 0, .int .i64 0] 37)).drewN (nd + nd2)) w1 := by simpa using hb0
 clear hb0
 have c0 : w1.cell? ⟨w.heap.size, 0, none⟩ = some (.int .i64 0) := (hb.cell (p := ⟨w.heap.size, 0, none⟩) (by simp)).trans (by simp)
 have f0 : w1.frozen? ⟨w.heap.size, 0, none⟩ = false := (hb.frozen (p := ⟨w.heap.size, 0, none⟩) (by simp)).trans (by simp)
 have c1 : w1.cell? ⟨w.heap.size, 1, none⟩ = some (.string ⟨#[]⟩) := (hb.cell (p := ⟨w.heap.size, 1, none⟩) (by simp)).trans (by simp)
 have f1 : w1.frozen? ⟨w.heap.size, 1, none⟩ = false := (hb.frozen (p := ⟨w.heap.size, 1, none⟩) (by simp)).trans (by simp)
 have c2 : w1.cell? ⟨w.heap.size, 2, none⟩ = some (.int .i64 0) := (hb.cell (p := ⟨w.heap.size, 2, none⟩) (by simp)).trans (by simp)
 have f2 : w1.frozen? ⟨w.heap.size, 2, none⟩ = false := (hb.frozen (p := ⟨w.heap.size, 2, none⟩) (by simp)).trans (by simp)
 have c3 : w1.cell? ⟨w.heap.size, 3, none⟩ = some (.int .i64 0) := (hb.cell (p := ⟨w.heap.size, 3, none⟩) (by simp)).trans (by simp)
 have f3 : w1.frozen? ⟨w.heap.size, 3, none⟩ = false := (hb.frozen (p := ⟨w.heap.size, 3, none⟩) (by simp)).trans (by simp)
 have HB := aS hb
 clear hb
 go_wp2
 refine bodyPost_ret (v := .tuple #[.agg #[.int .i64 k, .string t, .int .i64 n, .int .i64 p], .bool ok]) (by simp [results, Tryd.results29, go_sem, c0, c1, c2, c3]) rfl ⟨HP.out, ?_⟩
 exact one_below HB.out
theorem one_calls (s : ByteArray) (w : World) (hG : LTab w) (hs : s.size ≤ 281474976710656) (hz : 0 < s.size) :
  Calls Tryd.prog 29 #[.string s] w fun e w' => OnePost (LexP.one s.data.toList) e ∧ Below w.heap.size w w' := by
 have hlen : 0 < s.data.toList.length := by simpa using hz
 obtain ⟨c, r, hl⟩ : ∃ c r, s.data.toList = c :: r := by
  cases h : s.data.toList with
  | nil => rw [h] at hlen; simp at hlen
  | cons c r => exact ⟨c, r, rfl⟩
 have h0 : s[0]'hz = c := by
  rw [getb]
  have : ∀ (l : List UInt8) (h : 0 < l.length), l = c :: r → l[0]'h = c := by intro l h e; subst e; rfl
  exact this _ _ hl
 have e : LexP.one s.data.toList = if LexP.ltr c then .tok 1 (s.data.toList.takeWhile LexP.wrd) 0 else if LexP.dig c then LexP.number s.data.toList else LexP.sgn s.data.toList := by rw [hl]; rfl
 by_cases h1 : LexP.ltr c = true
 ·rw [e, if_pos h1]
  refine (one_letter s w hs hz (by rw [h0]; exact h1) _ rfl (by have := LexP.takeWhile_le LexP.wrd s.data.toList; simpa using this)).mono ?_
  rintro e w' ⟨rfl, hb⟩
  refine ⟨?_, hb⟩
  rw [cut_eq]
  rfl
 ·rw [e, if_neg h1]
  have h1' : LexP.ltr (s[0]'hz) = false := by rw [h0]; simpa using h1
  by_cases h2 : LexP.dig c = true
  ·rw [if_pos h2]
   exact one_digit s w hG hs hz h1' (by rw [h0]; exact h2) c r hl h2
  ·rw [if_neg h2]
   exact one_sign s w hG hs hz h1' (by rw [h0]; simpa using h2)
def toS (t : LexP.Tok) : S37 := ⟨(t.kind : Int), ⟨t.text.toArray⟩, (t.n : Int), (t.pos : Int)⟩
def lexF (acc : List S37) (l : List UInt8) (p : Nat) : List S37 × Int × Int :=
 match (LexP.lxA l p).2 with
 | none => (acc ++ (LexP.lxA l p).1.map toS, 0, 0)
 | some q => ([], 10, (q : Int))
def lex_Lex.f (a0 : ByteArray) : Option ((List (S37)) × Int × Int) := if 20000 < a0.size then some ([], 2, 0) else some (lexF [] a0.data.toList 0)
theorem lexF_nil (acc : List S37) (p : Nat) : lexF acc [] p = (acc, 0, 0) := by simp [lexF, LexP.lxA_nil]
theorem lexF_skip (acc : List S37) (l : List UInt8) (p n : Nat) (hl : l ≠ []) (h : LexP.step l = .skip n) : lexF acc l p = lexF acc (l.drop n) (p + n) := by
 unfold lexF; rw [LexP.lxA_step l p hl, h]
theorem lexF_err (acc : List S37) (l : List UInt8) (p : Nat) (hl : l ≠ []) (h : LexP.step l = .err) : lexF acc l p = ([], 10, (p : Int)) := by
 unfold lexF; rw [LexP.lxA_step l p hl, h]
theorem lexF_tok (acc : List S37) (l : List UInt8) (p : Nat) (hl : l ≠ []) (k : Nat) (t : List UInt8) (v : Nat) (h : LexP.step l = .tok k t v) : lexF acc l p = lexF (acc ++ [toS ⟨k, t, v, p⟩]) (l.drop t.length) (p + t.length) := by
 unfold lexF; rw [LexP.lxA_step l p hl, h]
 simp only
 cases (LexP.lxA (l.drop t.length) (p + t.length)).2 <;> simp
theorem rest_data (s : ByteArray) (k : Nat) : (s.extract k s.size).data.toList = s.data.toList.drop k := by
 simp only [ByteArray.data_extract, Array.toList_extract]
 rw [List.extract_eq_take_drop, List.take_of_length_le (by simp)]
theorem rest_cons (s : ByteArray) (k : Nat) (hz : 0 < (s.extract k s.size).size) : s.data.toList.drop k = ((s.extract k s.size)[0]'hz) :: s.data.toList.drop (k + 1) := by
 have hk : k < s.data.toList.length := by simp at hz; simp; omega
 have e : (s.extract k s.size)[0]'hz = s.data.toList[k] := by
  rw [getb]
  have : ∀ (l : List UInt8) (h : 0 < l.length), l = s.data.toList.drop k → l[0]'h = s.data.toList[k] := by intro l h e; subst e; simp
  exact this _ _ (rest_data s k)
 rw [e, ← List.drop_eq_getElem_cons hk]
theorem step_blank (s : ByteArray) (k : Nat) (hz : 0 < (s.extract k s.size).size) (h : ((s.extract k s.size)[0]'hz).toNat = 32 ∨ ((s.extract k s.size)[0]'hz).toNat = 9 ∨ ((s.extract k s.size)[0]'hz).toNat = 10) : LexP.step (s.data.toList.drop k) = .skip 1 := by
 rw [rest_cons s k hz, LexP.step_cons, if_pos]
 rcases h with h | h | h <;> simp [LexP.blk, h]
theorem step_other (s : ByteArray) (k : Nat) (hz : 0 < (s.extract k s.size).size) (h1 : ((s.extract k s.size)[0]'hz).toNat ≠ 32) (h2 : ((s.extract k s.size)[0]'hz).toNat ≠ 9) (h3 : ((s.extract k s.size)[0]'hz).toNat ≠ 10) :
  LexP.step (s.data.toList.drop k) = if [47, 47].isPrefixOf (s.data.toList.drop k) then .skip ((s.data.toList.drop k).takeWhile LexP.noEol).length else LexP.one (s.data.toList.drop k) := by
 rw [rest_cons s k hz, LexP.step_cons, if_neg]
 simp [LexP.blk, h1, h2, h3]
theorem span_eol_n (s : ByteArray) (n : Nat) (hn : (s.data.toList.takeWhile LexP.noEol).length = n) (w : World) (hs : s.size ≤ 9223372036854775807) :
  Calls Tryd.prog 27 #[.string s, .func (.func 28) #[] #[]] w fun e w' => e = .returned (.int .i64 n) ∧ Drawn0 w w' := by
 subst hn; exact span_eol s w hs
theorem slash_f (s : ByteArray) (k : Nat) (b : Bool) (h : [47, 47].isPrefixOf (s.data.toList.drop k) = b) : strings_HasPrefix.f (s.extract k s.size) (⟨#[47, 47]⟩ : ByteArray) = some b := by
 rw [hasPrefix_f, rest_data]
 exact congrArg some h
theorem drop_ne (s : ByteArray) (k : Nat) (hlt : k < s.size) : s.data.toList.drop k ≠ [] := by
 intro h
 have := congrArg List.length h
 simp at this
 omega
theorem infoTok : (Tryd.prog.info? 37).map (fun i => (i.zero, i.size, i.bytes)) = some (some (.agg #[.int .i64 0, .string ⟨#[]⟩, .int .i64 0, .int .i64 0]), 4, 40) := by kernel_rfl
set_option maxHeartbeats 8000000 in
set_option maxRecDepth 100000 in
theorem lex_walk (s : ByteArray) (w : World) (hG : LTab w) (hs : s.size ≤ 20000) (R : List S37 × Int × Int) (hR : lexF [] s.data.toList 0 = R) :
  Calls Tryd.prog 12 #[.string s] w fun e w' => ∃ v : Value, e = .returned (.tuple #[v, .int .i64 R.2.1, .int .i64 R.2.2]) ∧ Kd.R k37 37 w' w.heap.size (fun _ => True) v R.1 ∧ Below w.heap.size w w' := by
 have HG := aS hG
 clear hG
 have HR := aS hR
 clear hR
 have d1 : decide (20000 < (s.size : Int)) = false := decide_eq_false (by omega)
 have d2 : decide (20000 < s.size) = false := decide_eq_false (by omega)
 go_enter Tryd.func12, Tryd.ntmps12
 go_wp2
 go_step3
 go_wp2
 go_step3
 go_wp2
 clear d1 d2
 go_loopg [5, 6] s.size (fun kq v5 v6 w' => ∃ (k : Nat) (acc : List S37), v6 = .int .i64 k ∧ k ≤ s.size ∧ Aside0 (kq = s.size - k) ∧ Aside0 (lexF acc (s.data.toList.drop k) k = R) ∧ Aside0 (Kd.R k37 37 w' w.heap.size (fun _ => True) v5 acc) ∧ Aside0 (acc.length ≤ k) ∧ Aside0 (Below w.heap.size w w'))
 case atStart => exact ⟨0, [], rfl, by omega, ⟨by omega⟩, ⟨by simpa using HR.out⟩, ⟨Kd.R_nil _ _ _ _ _⟩, ⟨by simp⟩, ⟨bR _ _⟩⟩
 case round =>
  clear HR
  obtain ⟨k, acc, rfl, hk, HQ, HR, HO, HA, HB⟩ := hrel
  by_cases hlt : k < s.size
  ·have hz : 0 < (s.extract k s.size).size := by simp; omega
   have hk1 : 0 ≤ (k : Int) := by omega
   have hk2 : (k : Int) < s.size := by omega
   have hz1 : 0 < s.size - k := by omega
   by_cases h32 : ((s.extract k s.size)[0]'hz).toNat = 32
   ·have b1 : ((((s.extract k s.size)[0]'hz).toNat : Int) == 32) = true := by rw [h32]; rfl
    have H32 := aS h32
    clear h32
    go_wp2
    refine wp_loop_rounds 4 ?_
    rw [rounds_succ]
    go_wp2
    go_roundg (s.size - (k + 1))
    case measure => have := HQ.out; omega
    case rel => exact ⟨k + 1, acc, by go_num, by omega, ⟨rfl⟩, ⟨by have h1 := HR.out; rw [lexF_skip _ _ _ 1 (drop_ne s k hlt) (step_blank s k hz (.inl H32.out))] at h1; rw [← h1, List.drop_drop]⟩, ⟨by (with_reducible repeat (first | apply Kd.R_alloc | apply Kd.R_drewN | apply Kd.R_drew)); exact HO.out⟩, ⟨by have := HA.out; omega⟩, ⟨by repeat (first | (with_reducible first | exact HB.out | apply below_alloc | apply pw_below_drewN | apply below_drew1) | exact HB.out)⟩⟩
   ·have b1 : ((((s.extract k s.size)[0]'hz).toNat : Int) == 32) = false := by rw [beq_eq_false_iff_ne]; omega
    have H32 := aS h32
    clear h32
    by_cases h9 : ((s.extract k s.size)[0]'hz).toNat = 9
    ·have b2 : ((((s.extract k s.size)[0]'hz).toNat : Int) == 9) = true := by rw [h9]; rfl
     have H9 := aS h9
     clear h9
     go_wp2
     refine wp_loop_rounds 4 ?_
     rw [rounds_succ]
     go_wp2
     rw [rounds_succ]
     go_wp2
     go_roundg (s.size - (k + 1))
     case measure => have := HQ.out; omega
     case rel => exact ⟨k + 1, acc, by go_num, by omega, ⟨rfl⟩, ⟨by have h1 := HR.out; rw [lexF_skip _ _ _ 1 (drop_ne s k hlt) (step_blank s k hz (.inr (.inl H9.out)))] at h1; rw [← h1, List.drop_drop]⟩, ⟨by (with_reducible repeat (first | apply Kd.R_alloc | apply Kd.R_drewN | apply Kd.R_drew)); exact HO.out⟩, ⟨by have := HA.out; omega⟩, ⟨by repeat (first | (with_reducible first | exact HB.out | apply below_alloc | apply pw_below_drewN | apply below_drew1) | exact HB.out)⟩⟩
    ·have b2 : ((((s.extract k s.size)[0]'hz).toNat : Int) == 9) = false := by rw [beq_eq_false_iff_ne]; omega
     have H9 := aS h9
     clear h9
     by_cases h10 : ((s.extract k s.size)[0]'hz).toNat = 10
     ·have b3 : ((((s.extract k s.size)[0]'hz).toNat : Int) == 10) = true := by rw [h10]; rfl
      have H10 := aS h10
      clear h10
      go_wp2
      refine wp_loop_rounds 4 ?_
      rw [rounds_succ]
      go_wp2
      rw [rounds_succ]
      go_wp2
      rw [rounds_succ]
      go_wp2
      go_roundg (s.size - (k + 1))
      case measure => have := HQ.out; omega
      case rel => exact ⟨k + 1, acc, by go_num, by omega, ⟨rfl⟩, ⟨by have h1 := HR.out; rw [lexF_skip _ _ _ 1 (drop_ne s k hlt) (step_blank s k hz (.inr (.inr H10.out)))] at h1; rw [← h1, List.drop_drop]⟩, ⟨by (with_reducible repeat (first | apply Kd.R_alloc | apply Kd.R_drewN | apply Kd.R_drew)); exact HO.out⟩, ⟨by have := HA.out; omega⟩, ⟨by repeat (first | (with_reducible first | exact HB.out | apply below_alloc | apply pw_below_drewN | apply below_drew1) | exact HB.out)⟩⟩
     ·have b3 : ((((s.extract k s.size)[0]'hz).toNat : Int) == 10) = false := by rw [beq_eq_false_iff_ne]; omega
      have H10 := aS h10
      clear h10
      have HST := aS (step_other s k hz H32.out H9.out H10.out)
      go_wp2
      refine wp_loop_rounds 4 ?_
      rw [rounds_succ]
      go_wp2
      rw [rounds_succ]
      go_wp2
      rw [rounds_succ]
      go_wp2
      rw [rounds_succ]
      by_cases hp : [47, 47].isPrefixOf (s.data.toList.drop k) = true
      ·have HP := aS hp
       have HC := aS (slash_f s k true hp)
       clear hp
       obtain ⟨n, hn⟩ : ∃ n, ((s.extract k s.size).data.toList.takeWhile LexP.noEol).length = n := ⟨_, rfl⟩
       have hle : n ≤ s.size - k := by rw [← hn]; have := LexP.takeWhile_le LexP.noEol (s.extract k s.size).data.toList; rw [rest_data] at this ⊢; simpa using this
       have hn1 : 1 ≤ n := by
        rw [← hn, rest_data, rest_cons s k hz]
        exact LexP.takeWhile_pos _ _ _ (by have := H10.out; simpa [LexP.noEol] using this)
       have HS2 := aS (show LexP.step (s.data.toList.drop k) = .skip n by rw [HST.out, if_pos HP.out, ← hn, rest_data])
       have HN := aS hn
       clear hn
       go_wp2_with (first | (go_at_call 26; refine (strings_HasPrefix.calls _ _ _ _ HC.out).mono ?_; rintro e w' ⟨rfl, ⟨nd, rfl⟩⟩) | (go_at_call 27; refine (span_eol_n _ n HN.out _ (by simp; omega)).mono ?_; rintro e w' ⟨rfl, ⟨nd2, rfl⟩⟩))
       go_roundg (s.size - (k + n))
       case measure => have := HQ.out; omega
       case rel => exact ⟨k + n, acc, by go_num, by omega, ⟨rfl⟩, ⟨by have h1 := HR.out; rw [lexF_skip _ _ _ n (drop_ne s k hlt) HS2.out] at h1; rw [← h1, List.drop_drop]⟩, ⟨by (with_reducible repeat (first | apply Kd.R_alloc | apply Kd.R_drewN | apply Kd.R_drew)); exact HO.out⟩, ⟨by have := HA.out; omega⟩, ⟨by repeat (first | (with_reducible first | exact HB.out | apply below_alloc | apply pw_below_drewN | apply below_drew1) | exact HB.out)⟩⟩
      ·have hp' : [47, 47].isPrefixOf (s.data.toList.drop k) = false := Bool.eq_false_iff.2 hp
       have HP := aS hp
       have HC := aS (slash_f s k false hp')
       clear hp hp'
       have HS2 := aS (show LexP.step (s.data.toList.drop k) = LexP.one (s.extract k s.size).data.toList by rw [HST.out, if_neg HP.out, rest_data])
       go_wp2_with (first | (go_at_call 26; refine (strings_HasPrefix.calls _ _ _ _ HC.out).mono ?_; rintro e w' ⟨rfl, ⟨nd, rfl⟩⟩))
       refine (one_calls _ _ (ltab_below HG.out (by repeat (first | (with_reducible first | exact HB.out | apply below_alloc | apply pw_below_drewN | apply below_drew1) | exact HB.out))) (by simp; omega) hz).mono ?_
       rintro e w1 ⟨hP, hb0⟩
       have HO1 := aS (Kd.R_below (by (with_reducible repeat (first | apply Kd.R_alloc | apply Kd.R_drewN | apply Kd.R_drew)); exact HO.out) hb0)
       have HB1 := aS (below_step (by repeat (first | (with_reducible first | exact HB.out | apply below_alloc | apply pw_below_drewN | apply below_drew1) | exact HB.out)) hb0)
       clear hb0
       cases hst : LexP.one (s.extract k s.size).data.toList with
       | skip n => exact absurd hst (LexP.one_ne_skip _ _)
       | err =>
        rw [hst] at hP HS2
        obtain ⟨tk, tt, tn, tp, rfl⟩ := hP
        have HE := aS (show R = ([], 10, (k : Int)) by rw [← HR.out, lexF_err _ _ _ (drop_ne s k hlt) HS2.out])
        clear hst
        go_wp2
        rw [Exit.noGoto_ret]
        go_ret3
        rw [HE.out]
        exact ⟨_, rfl, Kd.R_nil _ _ _ _ _, below_alloc HB1.out _⟩
       | tok tk tt tv =>
        rw [hst] at hP HS2
        have he : _ = _ := hP
        subst he
        clear hP
        have hone := LexP.one_tok hst
        have hlen : tt.length ≤ s.size - k := by have := hone.1.length_le; rw [rest_data] at this; simpa using this
        have hpos : 1 ≤ tt.length := hone.2
        clear hst hone
        have HL := aS (show acc.length ≤ 20000 by have := HA.out; omega)
        have hsz : (⟨tt.toArray⟩ : ByteArray).size = tt.length := rfl
        go_wp2_with (first | ((with_reducible refine gate_dst (N := 54) rfl ?_); refine Kd.R_append k37 (w0 := w) w.heap.size rfl (.tmp 51) (.tmp 53) 30 37 (.agg #[(.int .i64 0), (.string ⟨#[]⟩), (.int .i64 0), (.int .i64 0)]) 40 rfl Tryd.underlying30 infoTok rfl (by decide) (by omega) u5 acc (⟨(tk : Int), ⟨tt.toArray⟩, (tv : Int), (k : Int)⟩ : S37) [.int .i64 tk, .string ⟨tt.toArray⟩, .int .i64 tv, .int .i64 k] (fun _ => True) (fun _ => False) rfl (by first | (go_simp; done) | (go_simp; rfl)) ?aP (fun _ hk => hk.elim) (fun _ _ => trivial) ?aO ?aB ?aS ?aL ?_; (case aP => exact k37_mkM _ _ _ (⟨(tk : Int), ⟨tt.toArray⟩, (tv : Int), (k : Int)⟩ : S37)); (case aO => exact Kd.R_alloc HO1.out _); (case aB => exact below_alloc HB1.out _); (case aS => exact below_size (below_alloc HB1.out _)); (case aL => have := HL.out; omega); intro v2 w2 hR hB hg hat; have HO2 := aS hR; have HB2 := aS hB; have q1 : w2.cell? ⟨w1.heap.size, 1, none⟩ = some (.string ⟨tt.toArray⟩) := (blk_cell (blk_grown (heap_alloc_new w1 (.cells #[.int .i64 tk, .string ⟨tt.toArray⟩, .int .i64 tv, .int .i64 k] 37)) hg (Kd.R_ne_new HO1.out 0)) 1).trans rfl; clear hR hB hg hat))
        go_roundg (s.size - (k + tt.length))
        case measure => have := HQ.out; omega
        case rel => exact ⟨k + tt.length, acc ++ [toS ⟨tk, tt, tv, k⟩], by go_num, by omega, ⟨rfl⟩, ⟨by have h1 := HR.out; rw [lexF_tok _ _ _ (drop_ne s k hlt) _ _ _ HS2.out, List.drop_drop] at h1; exact h1⟩, HO2, ⟨by have := HA.out; simp; omega⟩, HB2⟩
  ·obtain rfl : k = s.size := by omega
   have HE := aS (show R = (acc, 0, 0) by rw [← HR.out, List.drop_eq_nil_of_le (by simp), lexF_nil])
   go_wp2
   rw [Exit.noGoto_ret]
   go_ret3
   rw [HE.out]
   exact ⟨_, rfl, HO.out, HB.out⟩
set_option maxHeartbeats 1000000 in
set_option maxRecDepth 100000 in
theorem lex_big (s : ByteArray) (w : World) (hs : 20000 < s.size) :
  Calls Tryd.prog 12 #[.string s] w fun e w' => e = .returned (.tuple #[.slice none 0 0, .int .i64 2, .int .i64 0]) ∧ w' = w := by
 have d1 : decide (20000 < (s.size : Int)) = true := decide_eq_true (by omega)
 have d2 : decide (20000 < s.size) = true := decide_eq_true (by omega)
 go_enter Tryd.func12, Tryd.ntmps12
 go_wp2
 go_step3
 go_wp2
 rw [Exit.noGoto_ret]
 go_ret3
 exact ⟨rfl, rfl⟩
theorem lex_Lex.callsL (a0 : ByteArray) (r1 : List (S37)) (r2 : Int) (r3 : Int) (w : World) (hG : LTab w) (h : lex_Lex.f a0 = some (r1, r2, r3)) :
  Calls Tryd.prog 12 #[.string a0] w fun e w' => ∃ v0_ : Value, e = .returned (.tuple #[v0_, .int .i64 r2, .int .i64 r3]) ∧ Kd.R k37 37 w' w.heap.size (fun _ => True) v0_ r1 ∧ Below w.heap.size w w' := by
 unfold lex_Lex.f at h
 by_cases hs : 20000 < a0.size
 ·rw [if_pos hs] at h
  simp only [Option.some.injEq, Prod.mk.injEq] at h
  obtain ⟨rfl, rfl, rfl⟩ := h
  refine (lex_big a0 w hs).mono ?_
  rintro e w' ⟨he, rfl⟩
  exact ⟨_, he, Kd.R_nil _ _ _ _ _, bR _ _⟩
 ·rw [if_neg hs] at h
  refine (lex_walk a0 w hG (by omega) (r1, r2, r3) (Option.some.inj h)).mono ?_
  rintro e w' ⟨v, he, hR, hB⟩
  exact ⟨v, he, hR, hB⟩
end Go.Proofs.YtenogedclignmaaDoor.Q
