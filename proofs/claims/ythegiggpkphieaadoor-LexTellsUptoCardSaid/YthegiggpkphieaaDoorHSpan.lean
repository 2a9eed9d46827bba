/-
  HAND: lex.span at its three function values: how many bytes a text begins with that are so.
-/
import Derived.Test.YthegiggpkphieaaDoorQx2
import Derived.Test.YthegiggpkphieaaDoorQx2
import Derived.Test.YthegiggpkphieaaDoorHLexPure
set_option linter.unusedVariables false
set_option linter.unusedSimpArgs false
namespace Go.Proofs.YthegiggpkphieaaDoor.Q
open Go.RowKit Go.Proofs.YthegiggpkphieaaDoorW.PrintWords Go.Proofs.YthegiggpkphieaaDoorW.PrintLast Go.Proofs.YthegiggpkphieaaDoorW.PrintMore

theorem bt_toNat (s : ByteArray) (k : Nat) (h : k < s.size) : bt s k = ((s[k]'h).toNat : Int) := by simp [bt, h]
theorem dig_f (c : UInt8) : lex_digit.f (c.toNat : Int) = some (LexP.dig c) := by
  unfold lex_digit.f LexP.dig
  by_cases h : 48 ≤ c.toNat
  · rw [if_pos (show ((c.toNat : Int)) ≥ 48 by omega)]
    simp [h]; omega
  · rw [if_neg (show ¬ ((c.toNat : Int)) ≥ 48 by omega)]
    simp [h]

theorem let_f (c : UInt8) : lex_letter.f (c.toNat : Int) = some (LexP.ltr c) := by
  have h : ∀ n : Fin 256, lex_letter.f (n.val : Int) = some (LexP.ltr (UInt8.ofNat n.val)) := by decide +kernel
  have := h ⟨c.toNat, c.toNat_lt⟩
  simpa using this
/-- where a run of bytes ends: one step -/
theorem tw_step (p : UInt8 → Bool) (s : ByteArray) (k : Nat) (h : k < s.size) (hp : p (s[k]'h) = true) : ((s.data.toList.drop k).takeWhile p).length = ((s.data.toList.drop (k + 1)).takeWhile p).length + 1 := by
  have hk : k < s.data.toList.length := by simpa using h
  rw [List.drop_eq_getElem_cons hk]
  have e : s.data.toList[k] = s[k]'h := by simp; rfl
  rw [List.takeWhile_cons, e, if_pos hp]; simp
theorem tw_stop (p : UInt8 → Bool) (s : ByteArray) (k : Nat) (h : k < s.size) (hp : p (s[k]'h) = false) : ((s.data.toList.drop k).takeWhile p).length = 0 := by
  have hk : k < s.data.toList.length := by simpa using h
  rw [List.drop_eq_getElem_cons hk]
  have e : s.data.toList[k] = s[k]'h := by simp; rfl
  rw [List.takeWhile_cons, e, hp]; simp
theorem tw_end (p : UInt8 → Bool) (s : ByteArray) (k : Nat) (h : s.size ≤ k) : ((s.data.toList.drop k).takeWhile p).length = 0 := by
  rw [List.drop_eq_nil_of_le (by simpa using h)]; rfl

set_option maxHeartbeats 4000000 in
set_option maxRecDepth 100000 in
theorem word_calls (c : UInt8) (w : World) :
    Calls Tryd.prog 30 #[.int .u8 c.toNat] w fun e w' => e = .returned (.bool (LexP.wrd c)) ∧ Drawn0 w w' := by
  have HC := Aside0.mk (let_f c)
  have HD := Aside0.mk (dig_f c)
  by_cases hl : LexP.ltr c = true
  · go_enter Tryd.func30, Tryd.ntmps30
    go_wp2_with (first | (go_at_call 29; refine (lex_letter.calls _ _ _ HC.out).mono ?_; rintro e w' ⟨rfl, ⟨nd, rfl⟩⟩; rw [hl]))
    go_ret
    exact ⟨by simp [LexP.wrd, hl], ⟨⟨_, rfl⟩⟩⟩
  · have hl' : LexP.ltr c = false := by simpa using hl
    clear hl
    have e : LexP.wrd c = LexP.dig c := by simp [LexP.wrd, hl']
    rw [e]
    go_enter Tryd.func30, Tryd.ntmps30
    go_wp2_with (first | (go_at_call 29; refine (lex_letter.calls _ _ _ HC.out).mono ?_; rintro e w' ⟨rfl, ⟨nd, rfl⟩⟩; rw [hl']) | (go_at_call 31; refine (lex_digit.calls _ _ _ HD.out).mono ?_; rintro e w' ⟨rfl, ⟨nd2, rfl⟩⟩))
    go_ret
    exact ⟨rfl, ⟨⟨_, rfl⟩⟩⟩
set_option maxHeartbeats 4000000 in
set_option maxRecDepth 100000 in
theorem eol_calls (c : UInt8) (w : World) :
    Calls Tryd.prog 23 #[.int .u8 c.toNat] w fun e w' => e = .returned (.bool (LexP.noEol c)) ∧ Drawn0 w w' := by
  have e : LexP.noEol c = ((c.toNat : Int) != 10) := by
    unfold LexP.noEol
    by_cases h : c.toNat = 10
    · rw [h]; rfl
    · have h2 : (c.toNat == 10) = false := by simpa using h
      have h3 : ((c.toNat : Int) == 10) = false := by rw [beq_eq_false_iff_ne]; omega
      simp [bne, h2, h3]
  rw [e]
  go_enter Tryd.func23, Tryd.ntmps23
  go_wp2
  go_ret
  exact ⟨rfl, Drawn0.refl _⟩
set_option maxHeartbeats 4000000 in
set_option maxRecDepth 100000 in
theorem span_digit (s : ByteArray) (w : World) (hs : s.size ≤ 9223372036854775807) :
    Calls Tryd.prog 22 #[.string s, .func (.func 31) #[] #[]] w fun e w' => e = .returned (.int .i64 (s.data.toList.takeWhile LexP.dig).length) ∧ Drawn0 w w' := by
  go_enter Tryd.func22, Tryd.ntmps22
  go_wp2
  go_loopg [5] s.size (fun kq v5 w' => ∃ k : Nat, v5 = .int .i64 k ∧ k ≤ s.size ∧ kq = s.size - k ∧ Aside0 (k + ((s.data.toList.drop k).takeWhile LexP.dig).length = (s.data.toList.takeWhile LexP.dig).length) ∧ Aside0 (Drawn0 w w'))
  case atStart => exact ⟨0, rfl, by omega, by omega, ⟨by simp⟩, ⟨Drawn0.refl w⟩⟩
  case round =>
    obtain ⟨k, rfl, hk, hq, HE, HD⟩ := hrel
    have HQ := Aside0.mk hq
    clear hq
    by_cases hlt : k < s.size
    · by_cases hp : LexP.dig (s[k]'hlt) = true
      · have HS := Aside0.mk (tw_step LexP.dig s k hlt hp)
        go_wp2_with (first | (go_at_call 31; refine (lex_digit.calls _ _ _ (dig_f _)).mono ?_; rintro e w' ⟨rfl, ⟨nd, rfl⟩⟩; rw [hp]))
        go_roundg (s.size - (k + 1))
        case measure => have := HQ.out; omega
        case rel => exact ⟨k + 1, by go_num, by omega, rfl, ⟨by have := HE.out; have := HS.out; omega⟩, ⟨HD.out.step nd⟩⟩
      · have hp' : LexP.dig (s[k]'hlt) = false := by simpa using hp
        clear hp
        have HS := Aside0.mk (tw_stop LexP.dig s k hlt hp')
        go_wp2_with (first | (go_at_call 31; refine (lex_digit.calls _ _ _ (dig_f _)).mono ?_; rintro e w' ⟨rfl, ⟨nd, rfl⟩⟩; rw [hp']))
        go_ret
        exact ⟨by have h1 := HE.out; have h2 := HS.out; rw [← h1, h2]; rfl, HD.out.step nd⟩
    · have HS := Aside0.mk (tw_end LexP.dig s k (by omega))
      go_wp2
      go_ret
      exact ⟨by have h1 := HE.out; have h2 := HS.out; rw [← h1, h2]; rfl, HD.out⟩
set_option maxHeartbeats 4000000 in
set_option maxRecDepth 100000 in
theorem span_word (s : ByteArray) (w : World) (hs : s.size ≤ 9223372036854775807) :
    Calls Tryd.prog 22 #[.string s, .func (.func 30) #[] #[]] w fun e w' => e = .returned (.int .i64 (s.data.toList.takeWhile LexP.wrd).length) ∧ Drawn0 w w' := by
  go_enter Tryd.func22, Tryd.ntmps22
  go_wp2
  go_loopg [5] s.size (fun kq v5 w' => ∃ k : Nat, v5 = .int .i64 k ∧ k ≤ s.size ∧ kq = s.size - k ∧ Aside0 (k + ((s.data.toList.drop k).takeWhile LexP.wrd).length = (s.data.toList.takeWhile LexP.wrd).length) ∧ Aside0 (Drawn0 w w'))
  case atStart => exact ⟨0, rfl, by omega, by omega, ⟨by simp⟩, ⟨Drawn0.refl w⟩⟩
  case round =>
    obtain ⟨k, rfl, hk, hq, HE, HD⟩ := hrel
    have HQ := Aside0.mk hq
    clear hq
    by_cases hlt : k < s.size
    · by_cases hp : LexP.wrd (s[k]'hlt) = true
      · have HS := Aside0.mk (tw_step LexP.wrd s k hlt hp)
        go_wp2_with (first | (go_at_call 30; refine (word_calls _ _).mono ?_; rintro e w' ⟨rfl, ⟨nd, rfl⟩⟩; rw [hp]))
        go_roundg (s.size - (k + 1))
        case measure => have := HQ.out; omega
        case rel => exact ⟨k + 1, by go_num, by omega, rfl, ⟨by have := HE.out; have := HS.out; omega⟩, ⟨HD.out.step nd⟩⟩
      · have hp' : LexP.wrd (s[k]'hlt) = false := by simpa using hp
        clear hp
        have HS := Aside0.mk (tw_stop LexP.wrd s k hlt hp')
        go_wp2_with (first | (go_at_call 30; refine (word_calls _ _).mono ?_; rintro e w' ⟨rfl, ⟨nd, rfl⟩⟩; rw [hp']))
        go_ret
        exact ⟨by have h1 := HE.out; have h2 := HS.out; rw [← h1, h2]; rfl, HD.out.step nd⟩
    · have HS := Aside0.mk (tw_end LexP.wrd s k (by omega))
      go_wp2
      go_ret
      exact ⟨by have h1 := HE.out; have h2 := HS.out; rw [← h1, h2]; rfl, HD.out⟩
set_option maxHeartbeats 4000000 in
set_option maxRecDepth 100000 in
theorem span_eol (s : ByteArray) (w : World) (hs : s.size ≤ 9223372036854775807) :
    Calls Tryd.prog 22 #[.string s, .func (.func 23) #[] #[]] w fun e w' => e = .returned (.int .i64 (s.data.toList.takeWhile LexP.noEol).length) ∧ Drawn0 w w' := by
  go_enter Tryd.func22, Tryd.ntmps22
  go_wp2
  go_loopg [5] s.size (fun kq v5 w' => ∃ k : Nat, v5 = .int .i64 k ∧ k ≤ s.size ∧ kq = s.size - k ∧ Aside0 (k + ((s.data.toList.drop k).takeWhile LexP.noEol).length = (s.data.toList.takeWhile LexP.noEol).length) ∧ Aside0 (Drawn0 w w'))
  case atStart => exact ⟨0, rfl, by omega, by omega, ⟨by simp⟩, ⟨Drawn0.refl w⟩⟩
  case round =>
    obtain ⟨k, rfl, hk, hq, HE, HD⟩ := hrel
    have HQ := Aside0.mk hq
    clear hq
    by_cases hlt : k < s.size
    · by_cases hp : LexP.noEol (s[k]'hlt) = true
      · have HS := Aside0.mk (tw_step LexP.noEol s k hlt hp)
        go_wp2_with (first | (go_at_call 23; refine (eol_calls _ _).mono ?_; rintro e w' ⟨rfl, ⟨nd, rfl⟩⟩; rw [hp]))
        go_roundg (s.size - (k + 1))
        case measure => have := HQ.out; omega
        case rel => exact ⟨k + 1, by go_num, by omega, rfl, ⟨by have := HE.out; have := HS.out; omega⟩, ⟨HD.out.step nd⟩⟩
      · have hp' : LexP.noEol (s[k]'hlt) = false := by simpa using hp
        clear hp
        have HS := Aside0.mk (tw_stop LexP.noEol s k hlt hp')
        go_wp2_with (first | (go_at_call 23; refine (eol_calls _ _).mono ?_; rintro e w' ⟨rfl, ⟨nd, rfl⟩⟩; rw [hp']))
        go_ret
        exact ⟨by have h1 := HE.out; have h2 := HS.out; rw [← h1, h2]; rfl, HD.out.step nd⟩
    · have HS := Aside0.mk (tw_end LexP.noEol s k (by omega))
      go_wp2
      go_ret
      exact ⟨by have h1 := HE.out; have h2 := HS.out; rw [← h1, h2]; rfl, HD.out⟩
end Go.Proofs.YthegiggpkphieaaDoor.Q
