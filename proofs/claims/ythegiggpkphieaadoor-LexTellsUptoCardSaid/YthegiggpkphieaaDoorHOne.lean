/-
  HAND: lex.one: the token that a text begins with.
-/
import Derived.Test.YthegiggpkphieaaDoorHNumber
set_option linter.unusedVariables false
set_option linter.unusedSimpArgs false
namespace Go.Proofs.YthegiggpkphieaaDoor.Q
open Go.NumPure Go.RowKit Go.Proofs.YthegiggpkphieaaDoorW.PrintWords Go.Proofs.YthegiggpkphieaaDoorW.PrintLast Go.Proofs.YthegiggpkphieaaDoorW.PrintMore

theorem getb (t : ByteArray) (i : Nat) (h : i < t.size) : t[i]'h = t.data.toList[i]'(by simpa using h) := by simp; rfl
theorem cut_eq (s : ByteArray) (p : UInt8 → Bool) : s.extract 0 (s.data.toList.takeWhile p).length = ⟨(s.data.toList.takeWhile p).toArray⟩ := by
  have h := digits_cut s p
  cases hx : s.extract 0 (s.data.toList.takeWhile p).length with
  | mk d =>
    rw [hx] at h
    have h2 : d.toList = s.data.toList.takeWhile p := h
    rw [← h2, Array.toArray_toList]
theorem number_calls (s : ByteArray) (w : World) (hG : Tab w) (hs : s.size ≤ 281474976710656) (c : UInt8) (r : List UInt8) (hl : s.data.toList = c :: r) (hd : LexP.dig c = true) :
    Calls Tryd.prog 32 #[.string s] w fun e w' => OnePost (LexP.number s.data.toList) e ∧ Below w.heap.size w w' := by
  have hne : s.data.toList.takeWhile LexP.dig = c :: r.takeWhile LexP.dig := by rw [hl, List.takeWhile_cons, if_pos hd]
  have h1n : 1 ≤ (s.data.toList.takeWhile LexP.dig).length := by rw [hne]; simp
  have hle : (s.data.toList.takeWhile LexP.dig).length ≤ s.size := by
    have := LexP.takeWhile_le LexP.dig s.data.toList
    simpa using this
  have hcut := digits_cut s LexP.dig
  have hat : Lib.atoiAll (s.extract 0 (s.data.toList.takeWhile LexP.dig).length).data.toList = if LexP.numv 0 (s.data.toList.takeWhile LexP.dig) < 9223372036854775808 then .ok (LexP.numv 0 (s.data.toList.takeWhile LexP.dig) : Int) else .range := by
    rw [hcut, hne]
    exact atoi_digits c _ (fun x hx => takeWhile_all LexP.dig s.data.toList x (by rw [hne]; exact hx))
  have hnum : LexP.number s.data.toList = if LexP.numv 0 (s.data.toList.takeWhile LexP.dig) ≤ 65535 ∧ ((s.data.toList.takeWhile LexP.dig).length = 1 ∨ (s.data.toList.takeWhile LexP.dig).head? ≠ some 48) then .tok 2 (s.data.toList.takeWhile LexP.dig) (LexP.numv 0 (s.data.toList.takeWhile LexP.dig)) else .err := rfl
  have hce := cut_eq s LexP.dig
  generalize hm : LexP.numv 0 (s.data.toList.takeWhile LexP.dig) = m at hat hnum
  by_cases hbig : m < 9223372036854775808
  · rw [if_pos hbig] at hat
    by_cases hsm : m ≤ 65535
    · by_cases h1 : (s.data.toList.takeWhile LexP.dig).length = 1
      · refine (number_A s w hG hs _ rfl hle m hat (by omega) (by omega) h1).mono ?_
        rintro e w' ⟨rfl, hb⟩
        refine ⟨?_, hb⟩
        rw [hnum, if_pos ⟨hsm, .inl h1⟩, hce]
        rfl
      · have hz : 0 < (s.extract 0 (s.data.toList.takeWhile LexP.dig).length).size := by simp; omega
        refine (number_B s w hG hs _ rfl hle m hat (by omega) (by omega) (by omega) hz).mono ?_
        rintro e w' ⟨rfl, hb⟩
        refine ⟨?_, hb⟩
        have h0 : (s.extract 0 (s.data.toList.takeWhile LexP.dig).length)[0]'hz = c := by
          rw [getb]
          have : ∀ (l : List UInt8) (h : 0 < l.length), l = s.data.toList.takeWhile LexP.dig → l[0]'h = c := by
            intro l h e
            subst e
            simp only [hne]
            rfl
          exact this _ _ hcut
        rw [h0]
        by_cases h48 : c = 48
        · have e1 : ((c.toNat : Int) != 48) = false := by rw [h48]; rfl
          rw [e1, hnum, if_neg (by rw [hne] at h1 ⊢; simp [h48] at h1 ⊢; intro _; exact h1)]
          exact ⟨_, _, _, _, rfl⟩
        · have hcn : c.toNat ≠ 48 := fun hh => h48 (by rw [← UInt8.toNat_inj, hh]; rfl)
          have e1 : ((c.toNat : Int) != 48) = true := by rw [bne_iff_ne]; omega
          rw [e1, hnum, if_pos ⟨hsm, .inr (by rw [hne]; simpa using h48)⟩, hce]
          rfl
    · refine (number_D s w hG hs _ rfl hle m hat (by omega) (by omega)).mono ?_
      rintro e w' ⟨rfl, hb⟩
      refine ⟨?_, hb⟩
      rw [hnum, if_neg (by omega)]
      exact ⟨_, _, _, _, rfl⟩
  · rw [if_neg hbig] at hat
    refine (number_E s w hG hs _ rfl hle hat).mono ?_
    rintro e w' ⟨rfl, hb⟩
    refine ⟨?_, hb⟩
    rw [hnum, if_neg (by omega)]
    exact ⟨_, _, _, _, rfl⟩
theorem span_word_n (s : ByteArray) (n : Nat) (hn : (s.data.toList.takeWhile LexP.wrd).length = n) (w : World) (hs : s.size ≤ 9223372036854775807) :
    Calls Tryd.prog 22 #[.string s, .func (.func 30) #[] #[]] w fun e w' => e = .returned (.int .i64 n) ∧ Drawn0 w w' := by
  subst hn; exact span_word s w hs

set_option maxHeartbeats 1000000 in
set_option maxRecDepth 100000 in
theorem one_letter (s : ByteArray) (w : World) (hs : s.size ≤ 281474976710656) (hz : 0 < s.size) (hl : LexP.ltr (s[0]'hz) = true) (n : Nat) (hn : (s.data.toList.takeWhile LexP.wrd).length = n) (hle : n ≤ s.size) :
    Calls Tryd.prog 24 #[.string s] w fun e w' => e = .returned (.tuple #[.agg #[.int .i64 1, .string (s.extract 0 n), .int .i64 0, .int .i64 0], .bool true]) ∧ Below w.heap.size w w' := by
  have HL := Aside0.mk hl
  clear hl
  have HN := Aside0.mk hn
  clear hn
  have HC := Aside0.mk (let_f (s[0]'hz))
  go_enter Tryd.func24, Tryd.ntmps24
  go_wp2_with (first | (go_at_call 29; refine (lex_letter.calls _ _ _ HC.out).mono ?_; rintro e w' ⟨rfl, ⟨nd, rfl⟩⟩; rw [HL.out]) | (go_at_call 22; refine (span_word_n _ n HN.out _ (by omega)).mono ?_; rintro e w' ⟨rfl, ⟨nd2, rfl⟩⟩))
  refine bodyPost_ret (v := .tuple #[.agg #[.int .i64 1, .string (s.extract 0 n), .int .i64 0, .int .i64 0], .bool true]) (by simp [results, Tryd.results24, go_sem]) rfl ⟨rfl, ?_⟩
  exact ((((pw_below_drewN (below_alloc (Below.refl _ _) _) _).setCell (by simp) _).setCell (by simp) _).setCell (by simp) _).setCell (by simp) _
theorem OnePost.form {o : LexP.Step} {e : Ending} (h : OnePost o e) : ∃ (k : Int) (t : ByteArray) (n p : Int) (ok : Bool), e = .returned (.tuple #[.agg #[.int .i64 k, .string t, .int .i64 n, .int .i64 p], .bool ok]) := by
  cases o with
  | tok k t v => exact ⟨_, _, _, _, _, h⟩
  | skip n => obtain ⟨k, t, n, p, h⟩ := h; exact ⟨_, _, _, _, _, h⟩
  | err => obtain ⟨k, t, n, p, h⟩ := h; exact ⟨_, _, _, _, _, h⟩
theorem one_below {w w1 : World} {nd : Nat} {c : Array Value} {v0 v1 v2 v3 : Value} (hb : Below (w.heap.size + 1) ((w.alloc (.cells c 33)).drewN nd) w1) :
    Below w.heap.size w (((((w1.setCell ⟨w.heap.size, 0, none⟩ v0).setCell ⟨w.heap.size, 1, none⟩ v1).setCell ⟨w.heap.size, 2, none⟩ v2).setCell ⟨w.heap.size, 3, none⟩ v3)) := by
  have h0 : Below w.heap.size w w1 := (pw_below_drewN (below_alloc (Below.refl _ _) _) nd).trans (hb.mono (by omega))
  exact ((((h0.setCell (by simp) _).setCell (by simp) _).setCell (by simp) _).setCell (by simp) _)

set_option maxHeartbeats 2000000 in
set_option maxRecDepth 100000 in
theorem one_digit (s : ByteArray) (w : World) (hG : Tab w) (hs : s.size ≤ 281474976710656) (hz : 0 < s.size) (hl : LexP.ltr (s[0]'hz) = false) (hd : LexP.dig (s[0]'hz) = true) (c : UInt8) (r : List UInt8) (hc : s.data.toList = c :: r) (hcd : LexP.dig c = true) :
    Calls Tryd.prog 24 #[.string s] w fun e w' => OnePost (LexP.number s.data.toList) e ∧ Below w.heap.size w w' := by
  have HG := Aside0.mk hG
  clear hG
  have HL := Aside0.mk hl
  clear hl
  have HD := Aside0.mk hd
  clear hd
  have HS := Aside0.mk hc
  clear hc
  have HC := Aside0.mk (let_f (s[0]'hz))
  have HE := Aside0.mk (dig_f (s[0]'hz))
  go_enter Tryd.func24, Tryd.ntmps24
  go_wp2_with (first | (go_at_call 29; refine (lex_letter.calls _ _ _ HC.out).mono ?_; rintro e w' ⟨rfl, ⟨nd, rfl⟩⟩; rw [HL.out]) | (go_at_call 31; refine (lex_digit.calls _ _ _ HE.out).mono ?_; rintro e w' ⟨rfl, ⟨nd2, rfl⟩⟩; rw [HD.out]))
  refine (number_calls s _ (tab_below HG.out (pw_below_drewN (below_alloc (Below.refl _ _) _) _)) hs c r HS.out hcd).mono ?_
  rintro e w1 ⟨hP, hb0⟩
  obtain ⟨k, t, n, p, ok, rfl⟩ := hP.form
  have HP := Aside0.mk hP
  clear hP
  have hb : Below (w.heap.size + 1) ((w.alloc (.cells #[.int .i64 0, .string ⟨#[]⟩, .int .i64 0, .int .i64 0] 33)).drewN (nd + nd2)) w1 := by simpa using hb0
  clear hb0
  have c0 : w1.cell? ⟨w.heap.size, 0, none⟩ = some (.int .i64 0) := (hb.cell (p := ⟨w.heap.size, 0, none⟩) (by simp)).trans (by simp)
  have f0 : w1.frozen? ⟨w.heap.size, 0, none⟩ = false := (hb.frozen (p := ⟨w.heap.size, 0, none⟩) (by simp)).trans (by simp)
  have c1 : w1.cell? ⟨w.heap.size, 1, none⟩ = some (.string ⟨#[]⟩) := (hb.cell (p := ⟨w.heap.size, 1, none⟩) (by simp)).trans (by simp)
  have f1 : w1.frozen? ⟨w.heap.size, 1, none⟩ = false := (hb.frozen (p := ⟨w.heap.size, 1, none⟩) (by simp)).trans (by simp)
  have c2 : w1.cell? ⟨w.heap.size, 2, none⟩ = some (.int .i64 0) := (hb.cell (p := ⟨w.heap.size, 2, none⟩) (by simp)).trans (by simp)
  have f2 : w1.frozen? ⟨w.heap.size, 2, none⟩ = false := (hb.frozen (p := ⟨w.heap.size, 2, none⟩) (by simp)).trans (by simp)
  have c3 : w1.cell? ⟨w.heap.size, 3, none⟩ = some (.int .i64 0) := (hb.cell (p := ⟨w.heap.size, 3, none⟩) (by simp)).trans (by simp)
  have f3 : w1.frozen? ⟨w.heap.size, 3, none⟩ = false := (hb.frozen (p := ⟨w.heap.size, 3, none⟩) (by simp)).trans (by simp)
  have HB := Aside0.mk hb
  clear hb
  go_wp2
  refine bodyPost_ret (v := .tuple #[.agg #[.int .i64 k, .string t, .int .i64 n, .int .i64 p], .bool ok]) (by simp [results, Tryd.results24, go_sem, c0, c1, c2, c3]) rfl ⟨HP.out, ?_⟩
  exact one_below HB.out

set_option maxHeartbeats 2000000 in
set_option maxRecDepth 100000 in
theorem one_sign (s : ByteArray) (w : World) (hG : Tab w) (hs : s.size ≤ 281474976710656) (hz : 0 < s.size) (hl : LexP.ltr (s[0]'hz) = false) (hd : LexP.dig (s[0]'hz) = false) :
    Calls Tryd.prog 24 #[.string s] w fun e w' => OnePost (LexP.sgn s.data.toList) e ∧ Below w.heap.size w w' := by
  have HG := Aside0.mk hG
  clear hG
  have HL := Aside0.mk hl
  clear hl
  have HD := Aside0.mk hd
  clear hd
  have HC := Aside0.mk (let_f (s[0]'hz))
  have HE := Aside0.mk (dig_f (s[0]'hz))
  go_enter Tryd.func24, Tryd.ntmps24
  go_wp2_with (first | (go_at_call 29; refine (lex_letter.calls _ _ _ HC.out).mono ?_; rintro e w' ⟨rfl, ⟨nd, rfl⟩⟩; rw [HL.out]) | (go_at_call 31; refine (lex_digit.calls _ _ _ HE.out).mono ?_; rintro e w' ⟨rfl, ⟨nd2, rfl⟩⟩; rw [HD.out]))
  refine (sign_calls s _ (tab_below HG.out (pw_below_drewN (below_alloc (Below.refl _ _) _) _))).mono ?_
  rintro e w1 ⟨hP, hb0⟩
  obtain ⟨k, t, n, p, ok, rfl⟩ := hP.form
  have HP := Aside0.mk hP
  clear hP
  have hb : Below (w.heap.size + 1) ((w.alloc (.cells #[.int .i64 0, .string ⟨#[]⟩, .int .i64 0, .int .i64 0] 33)).drewN (nd + nd2)) w1 := by simpa using hb0
  clear hb0
  have c0 : w1.cell? ⟨w.heap.size, 0, none⟩ = some (.int .i64 0) := (hb.cell (p := ⟨w.heap.size, 0, none⟩) (by simp)).trans (by simp)
  have f0 : w1.frozen? ⟨w.heap.size, 0, none⟩ = false := (hb.frozen (p := ⟨w.heap.size, 0, none⟩) (by simp)).trans (by simp)
  have c1 : w1.cell? ⟨w.heap.size, 1, none⟩ = some (.string ⟨#[]⟩) := (hb.cell (p := ⟨w.heap.size, 1, none⟩) (by simp)).trans (by simp)
  have f1 : w1.frozen? ⟨w.heap.size, 1, none⟩ = false := (hb.frozen (p := ⟨w.heap.size, 1, none⟩) (by simp)).trans (by simp)
  have c2 : w1.cell? ⟨w.heap.size, 2, none⟩ = some (.int .i64 0) := (hb.cell (p := ⟨w.heap.size, 2, none⟩) (by simp)).trans (by simp)
  have f2 : w1.frozen? ⟨w.heap.size, 2, none⟩ = false := (hb.frozen (p := ⟨w.heap.size, 2, none⟩) (by simp)).trans (by simp)
  have c3 : w1.cell? ⟨w.heap.size, 3, none⟩ = some (.int .i64 0) := (hb.cell (p := ⟨w.heap.size, 3, none⟩) (by simp)).trans (by simp)
  have f3 : w1.frozen? ⟨w.heap.size, 3, none⟩ = false := (hb.frozen (p := ⟨w.heap.size, 3, none⟩) (by simp)).trans (by simp)
  have HB := Aside0.mk hb
  clear hb
  go_wp2
  refine bodyPost_ret (v := .tuple #[.agg #[.int .i64 k, .string t, .int .i64 n, .int .i64 p], .bool ok]) (by simp [results, Tryd.results24, go_sem, c0, c1, c2, c3]) rfl ⟨HP.out, ?_⟩
  exact one_below HB.out
/-- lex.one at a text that is not empty. -/
theorem one_calls (s : ByteArray) (w : World) (hG : Tab w) (hs : s.size ≤ 281474976710656) (hz : 0 < s.size) :
    Calls Tryd.prog 24 #[.string s] w fun e w' => OnePost (LexP.one s.data.toList) e ∧ Below w.heap.size w w' := by
  have hlen : 0 < s.data.toList.length := by simpa using hz
  obtain ⟨c, r, hl⟩ : ∃ c r, s.data.toList = c :: r := by
    cases h : s.data.toList with
    | nil => rw [h] at hlen; simp at hlen
    | cons c r => exact ⟨c, r, rfl⟩
  have h0 : s[0]'hz = c := by
    rw [getb]
    have : ∀ (l : List UInt8) (h : 0 < l.length), l = c :: r → l[0]'h = c := by intro l h e; subst e; rfl
    exact this _ _ hl
  have e : LexP.one s.data.toList = if LexP.ltr c then .tok 1 (s.data.toList.takeWhile LexP.wrd) 0 else if LexP.dig c then LexP.number s.data.toList else LexP.sgn s.data.toList := by rw [hl]; rfl
  by_cases h1 : LexP.ltr c = true
  · rw [e, if_pos h1]
    refine (one_letter s w hs hz (by rw [h0]; exact h1) _ rfl (by have := LexP.takeWhile_le LexP.wrd s.data.toList; simpa using this)).mono ?_
    rintro e w' ⟨rfl, hb⟩
    refine ⟨?_, hb⟩
    rw [cut_eq]
    rfl
  · rw [e, if_neg h1]
    have h1' : LexP.ltr (s[0]'hz) = false := by rw [h0]; simpa using h1
    by_cases h2 : LexP.dig c = true
    · rw [if_pos h2]
      exact one_digit s w hG hs hz h1' (by rw [h0]; exact h2) c r hl h2
    · rw [if_neg h2]
      exact one_sign s w hG hs hz h1' (by rw [h0]; simpa using h2)
end Go.Proofs.YthegiggpkphieaaDoor.Q
