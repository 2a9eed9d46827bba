/-
  HAND: lex.Lex: a text's tokens, or the error and its place.
-/
import Derived.Test.YthegiggpkphieaaDoorHOne
set_option linter.unusedVariables false
set_option linter.unusedSimpArgs false
namespace Go.Proofs.YthegiggpkphieaaDoor.Q
open Go.NumPure Go.RowKit Go.Proofs.YthegiggpkphieaaDoorW.PrintWords Go.Proofs.YthegiggpkphieaaDoorW.PrintLast Go.Proofs.YthegiggpkphieaaDoorW.PrintMore

def toS (t : LexP.Tok) : S33 := ⟨(t.kind : Int), ⟨t.text.toArray⟩, (t.n : Int), (t.pos : Int)⟩
/-- what Lex hands back, the tokens so far being known -/
def lexF (acc : List S33) (l : List UInt8) (p : Nat) : List S33 × Int × Int :=
  match (LexP.lxA l p).2 with
  | none => (acc ++ (LexP.lxA l p).1.map toS, 0, 0)
  | some q => ([], 10, (q : Int))
def lex_Lex.f (a0 : ByteArray) : Option ((List (S33)) × Int × Int) := if 20000 < a0.size then some ([], 2, 0) else some (lexF [] a0.data.toList 0)
theorem lexF_nil (acc : List S33) (p : Nat) : lexF acc [] p = (acc, 0, 0) := by simp [lexF, LexP.lxA_nil]
theorem lexF_skip (acc : List S33) (l : List UInt8) (p n : Nat) (hl : l ≠ []) (h : LexP.step l = .skip n) : lexF acc l p = lexF acc (l.drop n) (p + n) := by
  unfold lexF; rw [LexP.lxA_step l p hl, h]
theorem lexF_err (acc : List S33) (l : List UInt8) (p : Nat) (hl : l ≠ []) (h : LexP.step l = .err) : lexF acc l p = ([], 10, (p : Int)) := by
  unfold lexF; rw [LexP.lxA_step l p hl, h]
theorem lexF_tok (acc : List S33) (l : List UInt8) (p : Nat) (hl : l ≠ []) (k : Nat) (t : List UInt8) (v : Nat) (h : LexP.step l = .tok k t v) : lexF acc l p = lexF (acc ++ [toS ⟨k, t, v, p⟩]) (l.drop t.length) (p + t.length) := by
  unfold lexF; rw [LexP.lxA_step l p hl, h]
  simp only
  cases (LexP.lxA (l.drop t.length) (p + t.length)).2 <;> simp

theorem rest_data (s : ByteArray) (k : Nat) : (s.extract k s.size).data.toList = s.data.toList.drop k := by
  simp only [ByteArray.data_extract, Array.toList_extract]
  rw [List.extract_eq_take_drop, List.take_of_length_le (by simp)]
theorem rest_cons (s : ByteArray) (k : Nat) (hz : 0 < (s.extract k s.size).size) : s.data.toList.drop k = ((s.extract k s.size)[0]'hz) :: s.data.toList.drop (k + 1) := by
  have hk : k < s.data.toList.length := by simp at hz; simp; omega
  have e : (s.extract k s.size)[0]'hz = s.data.toList[k] := by
    rw [getb]
    have : ∀ (l : List UInt8) (h : 0 < l.length), l = s.data.toList.drop k → l[0]'h = s.data.toList[k] := by intro l h e; subst e; simp
    exact this _ _ (rest_data s k)
  rw [e, ← List.drop_eq_getElem_cons hk]
theorem step_blank (s : ByteArray) (k : Nat) (hz : 0 < (s.extract k s.size).size) (h : ((s.extract k s.size)[0]'hz).toNat = 32 ∨ ((s.extract k s.size)[0]'hz).toNat = 9 ∨ ((s.extract k s.size)[0]'hz).toNat = 10) : LexP.step (s.data.toList.drop k) = .skip 1 := by
  rw [rest_cons s k hz, LexP.step_cons, if_pos]
  rcases h with h | h | h <;> simp [LexP.blk, h]
theorem step_other (s : ByteArray) (k : Nat) (hz : 0 < (s.extract k s.size).size) (h1 : ((s.extract k s.size)[0]'hz).toNat ≠ 32) (h2 : ((s.extract k s.size)[0]'hz).toNat ≠ 9) (h3 : ((s.extract k s.size)[0]'hz).toNat ≠ 10) :
    LexP.step (s.data.toList.drop k) = if [47, 47].isPrefixOf (s.data.toList.drop k) then .skip ((s.data.toList.drop k).takeWhile LexP.noEol).length else LexP.one (s.data.toList.drop k) := by
  rw [rest_cons s k hz, LexP.step_cons, if_neg]
  simp [LexP.blk, h1, h2, h3]
theorem span_eol_n (s : ByteArray) (n : Nat) (hn : (s.data.toList.takeWhile LexP.noEol).length = n) (w : World) (hs : s.size ≤ 9223372036854775807) :
    Calls Tryd.prog 22 #[.string s, .func (.func 23) #[] #[]] w fun e w' => e = .returned (.int .i64 n) ∧ Drawn0 w w' := by
  subst hn; exact span_eol s w hs
theorem slash_f (s : ByteArray) (k : Nat) (b : Bool) (h : [47, 47].isPrefixOf (s.data.toList.drop k) = b) : strings_HasPrefix.f (s.extract k s.size) (⟨#[47, 47]⟩ : ByteArray) = some b := by
  rw [hasPrefix_f, rest_data]
  exact congrArg some h
theorem drop_ne (s : ByteArray) (k : Nat) (hlt : k < s.size) : s.data.toList.drop k ≠ [] := by
  intro h
  have := congrArg List.length h
  simp at this
  omega

set_option maxHeartbeats 8000000 in
set_option maxRecDepth 100000 in
theorem lex_walk (s : ByteArray) (w : World) (hG : Tab w) (hs : s.size ≤ 20000) (R : List S33 × Int × Int) (hR : lexF [] s.data.toList 0 = R) :
    Calls Tryd.prog 12 #[.string s] w fun e w' => ∃ v : Value, e = .returned (.tuple #[v, .int .i64 R.2.1, .int .i64 R.2.2]) ∧ Kd.R k33 33 w' w.heap.size (fun _ => True) v R.1 ∧ Below w.heap.size w w' := by
  have HG := Aside0.mk hG
  clear hG
  have HR := Aside0.mk hR
  clear hR
  have d1 : decide (20000 < (s.size : Int)) = false := decide_eq_false (by omega)
  have d2 : decide (20000 < s.size) = false := decide_eq_false (by omega)
  go_enter Tryd.func12, Tryd.ntmps12
  go_wp2
  go_step3
  go_wp2
  go_step3
  go_wp2
  clear d1 d2
  go_loopg [5, 6] s.size (fun kq v5 v6 w' => ∃ (k : Nat) (acc : List S33), v6 = .int .i64 k ∧ k ≤ s.size ∧ Aside0 (kq = s.size - k) ∧ Aside0 (lexF acc (s.data.toList.drop k) k = R) ∧ Aside0 (Kd.R k33 33 w' w.heap.size (fun _ => True) v5 acc) ∧ Aside0 (acc.length ≤ k) ∧ Aside0 (Below w.heap.size w w'))
  case atStart => exact ⟨0, [], rfl, by omega, ⟨by omega⟩, ⟨by simpa using HR.out⟩, ⟨Kd.R_nil _ _ _ _ _⟩, ⟨by simp⟩, ⟨Below.refl _ _⟩⟩
  case round =>
    clear HR
    obtain ⟨k, acc, rfl, hk, HQ, HR, HO, HA, HB⟩ := hrel
    by_cases hlt : k < s.size
    · have hz : 0 < (s.extract k s.size).size := by simp; omega
      have hk1 : 0 ≤ (k : Int) := by omega
      have hk2 : (k : Int) < s.size := by omega
      have hz1 : 0 < s.size - k := by omega
      by_cases h32 : ((s.extract k s.size)[0]'hz).toNat = 32
      · have b1 : ((((s.extract k s.size)[0]'hz).toNat : Int) == 32) = true := by rw [h32]; rfl
        have H32 := Aside0.mk h32
        clear h32
        go_wp2
        refine wp_loop_rounds 4 ?_
        rw [rounds_succ]
        go_wp2
        go_roundg (s.size - (k + 1))
        case measure => have := HQ.out; omega
        case rel => exact ⟨k + 1, acc, by go_num, by omega, ⟨rfl⟩, ⟨by have h1 := HR.out; rw [lexF_skip _ _ _ 1 (drop_ne s k hlt) (step_blank s k hz (.inl H32.out))] at h1; rw [← h1, List.drop_drop]⟩, ⟨by (with_reducible repeat (first | apply Kd.R_alloc | apply Kd.R_drewN | apply Kd.R_drew)); exact HO.out⟩, ⟨by have := HA.out; omega⟩, ⟨by repeat (first | (with_reducible first | exact HB.out | apply below_alloc | apply pw_below_drewN | apply below_drew1) | exact HB.out)⟩⟩
      · have b1 : ((((s.extract k s.size)[0]'hz).toNat : Int) == 32) = false := by rw [beq_eq_false_iff_ne]; omega
        have H32 := Aside0.mk h32
        clear h32
        by_cases h9 : ((s.extract k s.size)[0]'hz).toNat = 9
        · have b2 : ((((s.extract k s.size)[0]'hz).toNat : Int) == 9) = true := by rw [h9]; rfl
          have H9 := Aside0.mk h9
          clear h9
          go_wp2
          refine wp_loop_rounds 4 ?_
          rw [rounds_succ]
          go_wp2
          rw [rounds_succ]
          go_wp2
          go_roundg (s.size - (k + 1))
          case measure => have := HQ.out; omega
          case rel => exact ⟨k + 1, acc, by go_num, by omega, ⟨rfl⟩, ⟨by have h1 := HR.out; rw [lexF_skip _ _ _ 1 (drop_ne s k hlt) (step_blank s k hz (.inr (.inl H9.out)))] at h1; rw [← h1, List.drop_drop]⟩, ⟨by (with_reducible repeat (first | apply Kd.R_alloc | apply Kd.R_drewN | apply Kd.R_drew)); exact HO.out⟩, ⟨by have := HA.out; omega⟩, ⟨by repeat (first | (with_reducible first | exact HB.out | apply below_alloc | apply pw_below_drewN | apply below_drew1) | exact HB.out)⟩⟩
        · have b2 : ((((s.extract k s.size)[0]'hz).toNat : Int) == 9) = false := by rw [beq_eq_false_iff_ne]; omega
          have H9 := Aside0.mk h9
          clear h9
          by_cases h10 : ((s.extract k s.size)[0]'hz).toNat = 10
          · have b3 : ((((s.extract k s.size)[0]'hz).toNat : Int) == 10) = true := by rw [h10]; rfl
            have H10 := Aside0.mk h10
            clear h10
            go_wp2
            refine wp_loop_rounds 4 ?_
            rw [rounds_succ]
            go_wp2
            rw [rounds_succ]
            go_wp2
            rw [rounds_succ]
            go_wp2
            go_roundg (s.size - (k + 1))
            case measure => have := HQ.out; omega
            case rel => exact ⟨k + 1, acc, by go_num, by omega, ⟨rfl⟩, ⟨by have h1 := HR.out; rw [lexF_skip _ _ _ 1 (drop_ne s k hlt) (step_blank s k hz (.inr (.inr H10.out)))] at h1; rw [← h1, List.drop_drop]⟩, ⟨by (with_reducible repeat (first | apply Kd.R_alloc | apply Kd.R_drewN | apply Kd.R_drew)); exact HO.out⟩, ⟨by have := HA.out; omega⟩, ⟨by repeat (first | (with_reducible first | exact HB.out | apply below_alloc | apply pw_below_drewN | apply below_drew1) | exact HB.out)⟩⟩
          · have b3 : ((((s.extract k s.size)[0]'hz).toNat : Int) == 10) = false := by rw [beq_eq_false_iff_ne]; omega
            have H10 := Aside0.mk h10
            clear h10
            have HST := Aside0.mk (step_other s k hz H32.out H9.out H10.out)
            go_wp2
            refine wp_loop_rounds 4 ?_
            rw [rounds_succ]
            go_wp2
            rw [rounds_succ]
            go_wp2
            rw [rounds_succ]
            go_wp2
            rw [rounds_succ]
            by_cases hp : [47, 47].isPrefixOf (s.data.toList.drop k) = true
            · have HP := Aside0.mk hp
              have HC := Aside0.mk (slash_f s k true hp)
              clear hp
              obtain ⟨n, hn⟩ : ∃ n, ((s.extract k s.size).data.toList.takeWhile LexP.noEol).length = n := ⟨_, rfl⟩
              have hle : n ≤ s.size - k := by rw [← hn]; have := LexP.takeWhile_le LexP.noEol (s.extract k s.size).data.toList; rw [rest_data] at this ⊢; simpa using this
              have hn1 : 1 ≤ n := by
                rw [← hn, rest_data, rest_cons s k hz]
                exact LexP.takeWhile_pos _ _ _ (by have := H10.out; simpa [LexP.noEol] using this)
              have HS2 := Aside0.mk (show LexP.step (s.data.toList.drop k) = .skip n by rw [HST.out, if_pos HP.out, ← hn, rest_data])
              have HN := Aside0.mk hn
              clear hn
              go_wp2_with (first | (go_at_call 21; refine (strings_HasPrefix.calls _ _ _ _ HC.out).mono ?_; rintro e w' ⟨rfl, ⟨nd, rfl⟩⟩) | (go_at_call 22; refine (span_eol_n _ n HN.out _ (by simp; omega)).mono ?_; rintro e w' ⟨rfl, ⟨nd2, rfl⟩⟩))
              go_roundg (s.size - (k + n))
              case measure => have := HQ.out; omega
              case rel => exact ⟨k + n, acc, by go_num, by omega, ⟨rfl⟩, ⟨by have h1 := HR.out; rw [lexF_skip _ _ _ n (drop_ne s k hlt) HS2.out] at h1; rw [← h1, List.drop_drop]⟩, ⟨by (with_reducible repeat (first | apply Kd.R_alloc | apply Kd.R_drewN | apply Kd.R_drew)); exact HO.out⟩, ⟨by have := HA.out; omega⟩, ⟨by repeat (first | (with_reducible first | exact HB.out | apply below_alloc | apply pw_below_drewN | apply below_drew1) | exact HB.out)⟩⟩
            · have hp' : [47, 47].isPrefixOf (s.data.toList.drop k) = false := Bool.eq_false_iff.2 hp
              have HP := Aside0.mk hp
              have HC := Aside0.mk (slash_f s k false hp')
              clear hp hp'
              have HS2 := Aside0.mk (show LexP.step (s.data.toList.drop k) = LexP.one (s.extract k s.size).data.toList by rw [HST.out, if_neg HP.out, rest_data])
              go_wp2_with (first | (go_at_call 21; refine (strings_HasPrefix.calls _ _ _ _ HC.out).mono ?_; rintro e w' ⟨rfl, ⟨nd, rfl⟩⟩))
              refine (one_calls _ _ (tab_below HG.out (by repeat (first | (with_reducible first | exact HB.out | apply below_alloc | apply pw_below_drewN | apply below_drew1) | exact HB.out))) (by simp; omega) hz).mono ?_
              rintro e w1 ⟨hP, hb0⟩
              have HO1 := Aside0.mk (Kd.R_below (by (with_reducible repeat (first | apply Kd.R_alloc | apply Kd.R_drewN | apply Kd.R_drew)); exact HO.out) hb0)
              have HB1 := Aside0.mk (below_step (by repeat (first | (with_reducible first | exact HB.out | apply below_alloc | apply pw_below_drewN | apply below_drew1) | exact HB.out)) hb0)
              clear hb0
              cases hst : LexP.one (s.extract k s.size).data.toList with
              | skip n => exact absurd hst (LexP.one_ne_skip _ _)
              | err =>
                rw [hst] at hP HS2
                obtain ⟨tk, tt, tn, tp, rfl⟩ := hP
                have HE := Aside0.mk (show R = ([], 10, (k : Int)) by rw [← HR.out, lexF_err _ _ _ (drop_ne s k hlt) HS2.out])
                clear hst
                go_wp2
                rw [Exit.noGoto_ret]
                go_ret3
                rw [HE.out]
                exact ⟨_, rfl, Kd.R_nil _ _ _ _ _, below_alloc HB1.out _⟩
              | tok tk tt tv =>
                rw [hst] at hP HS2
                have he : _ = _ := hP
                subst he
                clear hP
                have hone := LexP.one_tok hst
                have hlen : tt.length ≤ s.size - k := by have := hone.1.length_le; rw [rest_data] at this; simpa using this
                have hpos : 1 ≤ tt.length := hone.2
                clear hst hone
                have HL := Aside0.mk (show acc.length ≤ 20000 by have := HA.out; omega)
                have hsz : (⟨tt.toArray⟩ : ByteArray).size = tt.length := rfl
                go_wp2_with (first | ((with_reducible refine gate_dst (N := 54) rfl ?_); refine Kd.R_append k33 (w0 := w) w.heap.size rfl (.tmp 51) (.tmp 53) 22 33 (.agg #[(.int .i64 0), (.string ⟨#[]⟩), (.int .i64 0), (.int .i64 0)]) 40 rfl Tryd.underlying22 info33 rfl (by decide) (by omega) u5 acc (⟨(tk : Int), ⟨tt.toArray⟩, (tv : Int), (k : Int)⟩ : S33) [.int .i64 tk, .string ⟨tt.toArray⟩, .int .i64 tv, .int .i64 k] (fun _ => True) (fun _ => False) rfl (by first | (go_simp; done) | (go_simp; rfl)) ?aP (fun _ hk => hk.elim) (fun _ _ => trivial) ?aO ?aB ?aS ?aL ?_; (case aP => exact k33_mkM _ _ _ (⟨(tk : Int), ⟨tt.toArray⟩, (tv : Int), (k : Int)⟩ : S33)); (case aO => exact Kd.R_alloc HO1.out _); (case aB => exact below_alloc HB1.out _); (case aS => exact below_size (below_alloc HB1.out _)); (case aL => have := HL.out; omega); intro v2 w2 hR hB hg hat; have HO2 := Aside0.mk hR; have HB2 := Aside0.mk hB; have q1 : w2.cell? ⟨w1.heap.size, 1, none⟩ = some (.string ⟨tt.toArray⟩) := (blk_cell (blk_grown (heap_alloc_new w1 (.cells #[.int .i64 tk, .string ⟨tt.toArray⟩, .int .i64 tv, .int .i64 k] 33)) hg (Kd.R_ne_new HO1.out 0)) 1).trans rfl; clear hR hB hg hat))
                go_roundg (s.size - (k + tt.length))
                case measure => have := HQ.out; omega
                case rel => exact ⟨k + tt.length, acc ++ [toS ⟨tk, tt, tv, k⟩], by go_num, by omega, ⟨rfl⟩, ⟨by have h1 := HR.out; rw [lexF_tok _ _ _ (drop_ne s k hlt) _ _ _ HS2.out, List.drop_drop] at h1; exact h1⟩, HO2, ⟨by have := HA.out; simp; omega⟩, HB2⟩
    · obtain rfl : k = s.size := by omega
      have HE := Aside0.mk (show R = (acc, 0, 0) by rw [← HR.out, List.drop_eq_nil_of_le (by simp), lexF_nil])
      go_wp2
      rw [Exit.noGoto_ret]
      go_ret3
      rw [HE.out]
      exact ⟨_, rfl, HO.out, HB.out⟩
set_option maxHeartbeats 1000000 in
set_option maxRecDepth 100000 in
theorem lex_big (s : ByteArray) (w : World) (hs : 20000 < s.size) :
    Calls Tryd.prog 12 #[.string s] w fun e w' => e = .returned (.tuple #[.slice none 0 0, .int .i64 2, .int .i64 0]) ∧ w' = w := by
  have d1 : decide (20000 < (s.size : Int)) = true := decide_eq_true (by omega)
  have d2 : decide (20000 < s.size) = true := decide_eq_true (by omega)
  go_enter Tryd.func12, Tryd.ntmps12
  go_wp2
  go_step3
  go_wp2
  rw [Exit.noGoto_ret]
  go_ret3
  exact ⟨rfl, rfl⟩
theorem lex_Lex.calls (a0 : ByteArray) (r1 : List (S33)) (r2 : Int) (r3 : Int) (w : World) (hG : Tab w) (h : lex_Lex.f a0 = some (r1, r2, r3)) :
    Calls Tryd.prog 12 #[.string a0] w fun e w' => ∃ v0_ : Value, e = .returned (.tuple #[v0_, .int .i64 r2, .int .i64 r3]) ∧ Kd.R k33 33 w' w.heap.size (fun _ => True) v0_ r1 ∧ Below w.heap.size w w' := by
  unfold lex_Lex.f at h
  by_cases hs : 20000 < a0.size
  · rw [if_pos hs] at h
    simp only [Option.some.injEq, Prod.mk.injEq] at h
    obtain ⟨rfl, rfl, rfl⟩ := h
    refine (lex_big a0 w hs).mono ?_
    rintro e w' ⟨he, rfl⟩
    exact ⟨_, he, Kd.R_nil _ _ _ _ _, Below.refl _ _⟩
  · rw [if_neg hs] at h
    refine (lex_walk a0 w hG (by omega) (r1, r2, r3) (Option.some.inj h)).mono ?_
    rintro e w' ⟨v, he, hR, hB⟩
    exact ⟨v, he, hR, hB⟩
end Go.Proofs.YthegiggpkphieaaDoor.Q
