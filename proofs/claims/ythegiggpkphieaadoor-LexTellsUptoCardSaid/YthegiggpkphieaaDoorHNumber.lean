/-
  HAND: lex.number: a number's token.
-/
import Derived.Test.YthegiggpkphieaaDoorHSign
import Derived.Test.YthegiggpkphieaaDoorShelf
import Derived.Test.YthegiggpkphieaaDoorHNumPure
import Derived.BigRegion
set_option linter.unusedVariables false
set_option linter.unusedSimpArgs false
namespace Go.Proofs.YthegiggpkphieaaDoor.Q
open Go.NumPure Go.RowKit Go.Proofs.YthegiggpkphieaaDoorW.PrintWords Go.Proofs.YthegiggpkphieaaDoorW.PrintLast Go.Proofs.YthegiggpkphieaaDoorW.PrintMore

theorem takeWhile_all {α} (p : α → Bool) : ∀ l : List α, ∀ x ∈ l.takeWhile p, p x = true
  | [], x, h => by simp at h
  | c :: r, x, h => by
    by_cases hp : p c = true
    · rw [List.takeWhile_cons, if_pos hp] at h
      rcases List.mem_cons.1 h with rfl | h
      · exact hp
      · exact takeWhile_all p r x h
    · rw [List.takeWhile_cons, if_neg hp] at h; simp at h
/-- the digits that a text begins with, cut off it -/
theorem digits_cut (s : ByteArray) (p : UInt8 → Bool) : (s.extract 0 (s.data.toList.takeWhile p).length).data.toList = s.data.toList.takeWhile p := by
  simp only [ByteArray.data_extract, Array.toList_extract]
  rw [List.extract_eq_take_drop, List.drop_zero, Nat.sub_zero]
  exact (LexP.takeWhile_eq_take p _).symm

theorem span_digit_n (s : ByteArray) (n : Nat) (hn : (s.data.toList.takeWhile LexP.dig).length = n) (w : World) (hs : s.size ≤ 9223372036854775807) :
    Calls Tryd.prog 22 #[.string s, .func (.func 31) #[] #[]] w fun e w' => e = .returned (.int .i64 n) ∧ Drawn0 w w' := by
  subst hn; exact span_digit s w hs

theorem number_below {w w1 : World} {nd : Nat} {c : Array Value} {v0 v1 v2 v3 : Value} (hb : Below (w.heap.size + 1) ((w.alloc (.cells c 33)).drewN nd) w1) :
    Below w.heap.size w (((((w1.setCell ⟨w.heap.size, 0, none⟩ v0).setCell ⟨w.heap.size, 1, none⟩ v1).setCell ⟨w.heap.size, 2, none⟩ v2).setCell ⟨w.heap.size, 3, none⟩ v3).drew) := by
  have h0 : Below w.heap.size w w1 := (pw_below_drewN (below_alloc (Below.refl _ _) _) nd).trans (hb.mono (by omega))
  exact ((((h0.setCell (by simp) _).setCell (by simp) _).setCell (by simp) _).setCell (by simp) _).drew
set_option maxHeartbeats 1000000 in
set_option maxRecDepth 100000 in
theorem number_A (s : ByteArray) (w : World) (hG : Tab w) (hs : s.size ≤ 281474976710656) (n : Nat) (hn : (s.data.toList.takeWhile LexP.dig).length = n) (hle : n ≤ s.size) (v : Int) (hv : Lib.atoiAll (s.extract 0 n).data.toList = .ok v) (h0 : 0 ≤ v) (h1 : v ≤ 65535) (hl : n = 1) :
    Calls Tryd.prog 32 #[.string s] w fun e w' => e = .returned (.tuple #[.agg #[.int .i64 2, .string (s.extract 0 n), .int .i64 v, .int .i64 0], .bool true]) ∧ Below w.heap.size w w' := by
  have HG := Aside0.mk hG
  clear hG
  have HT := Aside0.mk hn
  clear hn
  have HV := Aside0.mk hv
  clear hv
  have HL := Aside0.mk hl
  clear hl
  go_enter Tryd.func32, Tryd.ntmps32
  go_wp2_with fail
  refine (span_digit_n _ n HT.out _ (by omega)).mono ?_
  rintro e w' ⟨rfl, ⟨nd, rfl⟩⟩
  go_wp2_with fail
  refine (Tryd.strconv_Atoi_ok _ (by simp; omega) v HV.out _).mono ?_
  rintro e w1 ⟨rfl, hw⟩
  have hb : Below (w.heap.size + 1) ((w.alloc (.cells #[.int .i64 0, .string ⟨#[]⟩, .int .i64 0, .int .i64 0] 33)).drewN nd) w1 := by
    rcases hw with rfl | ⟨t, rfl⟩
    · exact Below.refl _ _
    · have := Lib.bytesWorld_below ((w.alloc (.cells #[.int .i64 0, .string ⟨#[]⟩, .int .i64 0, .int .i64 0] 33)).drewN nd) 5 t
      simpa using this
  clear hw
  have c0 : w1.cell? ⟨w.heap.size, 0, none⟩ = some (.int .i64 0) := (hb.cell (p := ⟨w.heap.size, 0, none⟩) (by simp)).trans (by simp)
  have f0 : w1.frozen? ⟨w.heap.size, 0, none⟩ = false := (hb.frozen (p := ⟨w.heap.size, 0, none⟩) (by simp)).trans (by simp)
  have c1 : w1.cell? ⟨w.heap.size, 1, none⟩ = some (.string ⟨#[]⟩) := (hb.cell (p := ⟨w.heap.size, 1, none⟩) (by simp)).trans (by simp)
  have f1 : w1.frozen? ⟨w.heap.size, 1, none⟩ = false := (hb.frozen (p := ⟨w.heap.size, 1, none⟩) (by simp)).trans (by simp)
  have c2 : w1.cell? ⟨w.heap.size, 2, none⟩ = some (.int .i64 0) := (hb.cell (p := ⟨w.heap.size, 2, none⟩) (by simp)).trans (by simp)
  have f2 : w1.frozen? ⟨w.heap.size, 2, none⟩ = false := (hb.frozen (p := ⟨w.heap.size, 2, none⟩) (by simp)).trans (by simp)
  have c3 : w1.cell? ⟨w.heap.size, 3, none⟩ = some (.int .i64 0) := (hb.cell (p := ⟨w.heap.size, 3, none⟩) (by simp)).trans (by simp)
  have f3 : w1.frozen? ⟨w.heap.size, 3, none⟩ = false := (hb.frozen (p := ⟨w.heap.size, 3, none⟩) (by simp)).trans (by simp)
  have HB := Aside0.mk hb
  clear hb
  have g1 : decide (v ≤ 65535) = true := decide_eq_true h1
  have g2 : ((n : Int) == 1) = true := by rw [beq_iff_eq]; have := HL.out; omega
  go_wp2
  go_region
  all_goals go_wp2
  all_goals refine bodyPost_ret (v := .tuple #[.agg #[.int .i64 2, .string (s.extract 0 n), .int .i64 v, .int .i64 0], .bool true]) (by simp [results, Tryd.results32, go_sem, c0, c1, c2, c3]) rfl ⟨rfl, ?_⟩
  all_goals exact number_below HB.out
set_option maxHeartbeats 1000000 in
set_option maxRecDepth 100000 in
theorem number_B (s : ByteArray) (w : World) (hG : Tab w) (hs : s.size ≤ 281474976710656) (n : Nat) (hn : (s.data.toList.takeWhile LexP.dig).length = n) (hle : n ≤ s.size) (v : Int) (hv : Lib.atoiAll (s.extract 0 n).data.toList = .ok v) (h0 : 0 ≤ v) (h1 : v ≤ 65535) (hl : 1 < n) (hz : 0 < (s.extract 0 n).size) :
    Calls Tryd.prog 32 #[.string s] w fun e w' => e = .returned (.tuple #[.agg #[.int .i64 2, .string (s.extract 0 n), .int .i64 v, .int .i64 0], .bool ((((s.extract 0 n)[0]'hz).toNat : Int) != 48)]) ∧ Below w.heap.size w w' := by
  have HG := Aside0.mk hG
  clear hG
  have HT := Aside0.mk hn
  clear hn
  have HV := Aside0.mk hv
  clear hv
  go_enter Tryd.func32, Tryd.ntmps32
  go_wp2_with fail
  refine (span_digit_n _ n HT.out _ (by omega)).mono ?_
  rintro e w' ⟨rfl, ⟨nd, rfl⟩⟩
  go_wp2_with fail
  refine (Tryd.strconv_Atoi_ok _ (by simp; omega) v HV.out _).mono ?_
  rintro e w1 ⟨rfl, hw⟩
  have hb : Below (w.heap.size + 1) ((w.alloc (.cells #[.int .i64 0, .string ⟨#[]⟩, .int .i64 0, .int .i64 0] 33)).drewN nd) w1 := by
    rcases hw with rfl | ⟨t, rfl⟩
    · exact Below.refl _ _
    · have := Lib.bytesWorld_below ((w.alloc (.cells #[.int .i64 0, .string ⟨#[]⟩, .int .i64 0, .int .i64 0] 33)).drewN nd) 5 t
      simpa using this
  clear hw
  have c0 : w1.cell? ⟨w.heap.size, 0, none⟩ = some (.int .i64 0) := (hb.cell (p := ⟨w.heap.size, 0, none⟩) (by simp)).trans (by simp)
  have f0 : w1.frozen? ⟨w.heap.size, 0, none⟩ = false := (hb.frozen (p := ⟨w.heap.size, 0, none⟩) (by simp)).trans (by simp)
  have c1 : w1.cell? ⟨w.heap.size, 1, none⟩ = some (.string ⟨#[]⟩) := (hb.cell (p := ⟨w.heap.size, 1, none⟩) (by simp)).trans (by simp)
  have f1 : w1.frozen? ⟨w.heap.size, 1, none⟩ = false := (hb.frozen (p := ⟨w.heap.size, 1, none⟩) (by simp)).trans (by simp)
  have c2 : w1.cell? ⟨w.heap.size, 2, none⟩ = some (.int .i64 0) := (hb.cell (p := ⟨w.heap.size, 2, none⟩) (by simp)).trans (by simp)
  have f2 : w1.frozen? ⟨w.heap.size, 2, none⟩ = false := (hb.frozen (p := ⟨w.heap.size, 2, none⟩) (by simp)).trans (by simp)
  have c3 : w1.cell? ⟨w.heap.size, 3, none⟩ = some (.int .i64 0) := (hb.cell (p := ⟨w.heap.size, 3, none⟩) (by simp)).trans (by simp)
  have f3 : w1.frozen? ⟨w.heap.size, 3, none⟩ = false := (hb.frozen (p := ⟨w.heap.size, 3, none⟩) (by simp)).trans (by simp)
  have HB := Aside0.mk hb
  clear hb
  have g1 : decide (v ≤ 65535) = true := decide_eq_true h1
  have g2 : ((n : Int) == 1) = false := by rw [beq_eq_false_iff_ne]; omega
  have g5 : 0 < n := by omega
  go_wp2
  go_region
  all_goals go_wp2
  all_goals refine bodyPost_ret (v := .tuple #[.agg #[.int .i64 2, .string (s.extract 0 n), .int .i64 v, .int .i64 0], .bool ((((s.extract 0 n)[0]'hz).toNat : Int) != 48)]) (by simp [results, Tryd.results32, go_sem, c0, c1, c2, c3]) rfl ⟨rfl, ?_⟩
  all_goals exact number_below HB.out
set_option maxHeartbeats 1000000 in
set_option maxRecDepth 100000 in
theorem number_D (s : ByteArray) (w : World) (hG : Tab w) (hs : s.size ≤ 281474976710656) (n : Nat) (hn : (s.data.toList.takeWhile LexP.dig).length = n) (hle : n ≤ s.size) (v : Int) (hv : Lib.atoiAll (s.extract 0 n).data.toList = .ok v) (h0 : 0 ≤ v) (h1 : 65535 < v) :
    Calls Tryd.prog 32 #[.string s] w fun e w' => e = .returned (.tuple #[.agg #[.int .i64 2, .string (s.extract 0 n), .int .i64 v, .int .i64 0], .bool false]) ∧ Below w.heap.size w w' := by
  have HG := Aside0.mk hG
  clear hG
  have HT := Aside0.mk hn
  clear hn
  have HV := Aside0.mk hv
  clear hv
  go_enter Tryd.func32, Tryd.ntmps32
  go_wp2_with fail
  refine (span_digit_n _ n HT.out _ (by omega)).mono ?_
  rintro e w' ⟨rfl, ⟨nd, rfl⟩⟩
  go_wp2_with fail
  refine (Tryd.strconv_Atoi_ok _ (by simp; omega) v HV.out _).mono ?_
  rintro e w1 ⟨rfl, hw⟩
  have hb : Below (w.heap.size + 1) ((w.alloc (.cells #[.int .i64 0, .string ⟨#[]⟩, .int .i64 0, .int .i64 0] 33)).drewN nd) w1 := by
    rcases hw with rfl | ⟨t, rfl⟩
    · exact Below.refl _ _
    · have := Lib.bytesWorld_below ((w.alloc (.cells #[.int .i64 0, .string ⟨#[]⟩, .int .i64 0, .int .i64 0] 33)).drewN nd) 5 t
      simpa using this
  clear hw
  have c0 : w1.cell? ⟨w.heap.size, 0, none⟩ = some (.int .i64 0) := (hb.cell (p := ⟨w.heap.size, 0, none⟩) (by simp)).trans (by simp)
  have f0 : w1.frozen? ⟨w.heap.size, 0, none⟩ = false := (hb.frozen (p := ⟨w.heap.size, 0, none⟩) (by simp)).trans (by simp)
  have c1 : w1.cell? ⟨w.heap.size, 1, none⟩ = some (.string ⟨#[]⟩) := (hb.cell (p := ⟨w.heap.size, 1, none⟩) (by simp)).trans (by simp)
  have f1 : w1.frozen? ⟨w.heap.size, 1, none⟩ = false := (hb.frozen (p := ⟨w.heap.size, 1, none⟩) (by simp)).trans (by simp)
  have c2 : w1.cell? ⟨w.heap.size, 2, none⟩ = some (.int .i64 0) := (hb.cell (p := ⟨w.heap.size, 2, none⟩) (by simp)).trans (by simp)
  have f2 : w1.frozen? ⟨w.heap.size, 2, none⟩ = false := (hb.frozen (p := ⟨w.heap.size, 2, none⟩) (by simp)).trans (by simp)
  have c3 : w1.cell? ⟨w.heap.size, 3, none⟩ = some (.int .i64 0) := (hb.cell (p := ⟨w.heap.size, 3, none⟩) (by simp)).trans (by simp)
  have f3 : w1.frozen? ⟨w.heap.size, 3, none⟩ = false := (hb.frozen (p := ⟨w.heap.size, 3, none⟩) (by simp)).trans (by simp)
  have HB := Aside0.mk hb
  clear hb
  have g1 : decide (v ≤ 65535) = false := decide_eq_false (by omega)
  go_wp2
  go_region
  all_goals go_wp2
  all_goals refine bodyPost_ret (v := .tuple #[.agg #[.int .i64 2, .string (s.extract 0 n), .int .i64 v, .int .i64 0], .bool false]) (by simp [results, Tryd.results32, go_sem, c0, c1, c2, c3]) rfl ⟨rfl, ?_⟩
  all_goals exact number_below HB.out
set_option maxHeartbeats 1000000 in
set_option maxRecDepth 100000 in
theorem number_E (s : ByteArray) (w : World) (hG : Tab w) (hs : s.size ≤ 281474976710656) (n : Nat) (hn : (s.data.toList.takeWhile LexP.dig).length = n) (hle : n ≤ s.size) (hv : Lib.atoiAll (s.extract 0 n).data.toList = .range)  :
    Calls Tryd.prog 32 #[.string s] w fun e w' => e = .returned (.tuple #[.agg #[.int .i64 2, .string (s.extract 0 n), .int .i64 (Lib.atoiSat (s.extract 0 n).data.toList), .int .i64 0], .bool false]) ∧ Below w.heap.size w w' := by
  have HG := Aside0.mk hG
  clear hG
  have HT := Aside0.mk hn
  clear hn
  have HV := Aside0.mk hv
  clear hv
  go_enter Tryd.func32, Tryd.ntmps32
  go_wp2_with fail
  refine (span_digit_n _ n HT.out _ (by omega)).mono ?_
  rintro e w' ⟨rfl, ⟨nd, rfl⟩⟩
  go_wp2_with fail
  obtain ⟨ev, hev, hev2⟩ := (tab_below HG.out (pw_below_drewN (below_alloc (Below.refl _ _) (.cells #[.int .i64 0, .string ⟨#[]⟩, .int .i64 0, .int .i64 0] 33)) nd)).2.2
  have HE1 := Aside0.mk hev
  clear hev
  refine (Tryd.strconv_Atoi_range _ (by simp; omega) HV.out ev _ HE1.out hev2).mono ?_
  clear HE1 hev2
  rintro e w1 ⟨N, rfl, hN, hcell, hb0⟩
  clear hN hcell
  have hb : Below (w.heap.size + 1) ((w.alloc (.cells #[.int .i64 0, .string ⟨#[]⟩, .int .i64 0, .int .i64 0] 33)).drewN nd) w1 := by simpa using hb0
  clear hb0
  have c0 : w1.cell? ⟨w.heap.size, 0, none⟩ = some (.int .i64 0) := (hb.cell (p := ⟨w.heap.size, 0, none⟩) (by simp)).trans (by simp)
  have f0 : w1.frozen? ⟨w.heap.size, 0, none⟩ = false := (hb.frozen (p := ⟨w.heap.size, 0, none⟩) (by simp)).trans (by simp)
  have c1 : w1.cell? ⟨w.heap.size, 1, none⟩ = some (.string ⟨#[]⟩) := (hb.cell (p := ⟨w.heap.size, 1, none⟩) (by simp)).trans (by simp)
  have f1 : w1.frozen? ⟨w.heap.size, 1, none⟩ = false := (hb.frozen (p := ⟨w.heap.size, 1, none⟩) (by simp)).trans (by simp)
  have c2 : w1.cell? ⟨w.heap.size, 2, none⟩ = some (.int .i64 0) := (hb.cell (p := ⟨w.heap.size, 2, none⟩) (by simp)).trans (by simp)
  have f2 : w1.frozen? ⟨w.heap.size, 2, none⟩ = false := (hb.frozen (p := ⟨w.heap.size, 2, none⟩) (by simp)).trans (by simp)
  have c3 : w1.cell? ⟨w.heap.size, 3, none⟩ = some (.int .i64 0) := (hb.cell (p := ⟨w.heap.size, 3, none⟩) (by simp)).trans (by simp)
  have f3 : w1.frozen? ⟨w.heap.size, 3, none⟩ = false := (hb.frozen (p := ⟨w.heap.size, 3, none⟩) (by simp)).trans (by simp)
  have HB := Aside0.mk hb
  clear hb
  go_wp2
  go_region
  all_goals go_wp2
  all_goals refine bodyPost_ret (v := .tuple #[.agg #[.int .i64 2, .string (s.extract 0 n), .int .i64 (Lib.atoiSat (s.extract 0 n).data.toList), .int .i64 0], .bool false]) (by simp [results, Tryd.results32, go_sem, c0, c1, c2, c3]) rfl ⟨rfl, ?_⟩
  all_goals exact number_below HB.out
end Go.Proofs.YthegiggpkphieaaDoor.Q
