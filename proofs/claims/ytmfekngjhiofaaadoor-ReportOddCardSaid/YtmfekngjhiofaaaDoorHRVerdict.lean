/-
  HAND: the document's what and Verdict tell what report.Verdict tells.
-/
import Derived.Test.YtmfekngjhiofaaaDoorQx0
import Derived.Test.YtmfekngjhiofaaaDoorQx14
import Derived.Test.YtmfekngjhiofaaaDoorQx14
import Derived.Test.YtmfekngjhiofaaaDoorHVerdict
import Derived.Test.YtmfekngjhiofaaaDoorHRClause
import Derived.Test.YtmfekngjhiofaaaDoorPRBits
set_option linter.unusedVariables false
set_option linter.unusedSimpArgs false
namespace Go.Proofs.YtmfekngjhiofaaaDoor.Q
open Go.RowKit Go.Proofs.YtmfekngjhiofaaaDoorW.PrintWords Go.Proofs.YtmfekngjhiofaaaDoorW.PrintLast Go.Proofs.YtmfekngjhiofaaaDoorW.PrintMore
theorem kind_f (k : Int) : proofmarkref30_kind.f k = some (kindB k) := by
  unfold proofmarkref30_kind.f kindB
  split
  · rfl
  · split
    · rfl
    · split <;> rfl
def proofmarkref30_what.f (a0 : Int) (a1_0 : Int) (a1_1 : Int) (l1_2 : List (List Int)) (l1_3 : List (List Int)) : Option (ByteArray) := if (Lit.int .i64 a1_1).wf = true then some (saysB a0 a1_0 a1_1 l1_3.length) else none
set_option maxHeartbeats 8000000 in
set_option maxRecDepth 100000 in
theorem proofmarkref30_what.calls (a0 : Int) (a1_0 : Int) (a1_1 : Int) (A1_2 : Option Addr) (c1_2 : Nat) (l1_2 : List (List Int)) (A1_3 : Option Addr) (c1_3 : Nat) (l1_3 : List (List Int)) (r : ByteArray) (w : World) (hr1_2 : Kd.C (Kd.slice 3 (Kd.int .i64)) w A1_2 l1_2.length l1_2) (hc1_2 : l1_2.length ≤ c1_2) (hr1_3 : Kd.C (Kd.slice 3 (Kd.int .i64)) w A1_3 l1_3.length l1_3) (hc1_3 : l1_3.length ≤ c1_3) (h : proofmarkref30_what.f a0 a1_0 a1_1 l1_2 l1_3 = some r) :
    Calls Tryd.prog 41 #[.int .i64 a0, .agg #[.int .i64 a1_0, .int .i64 a1_1, .slice A1_2 l1_2.length c1_2, .slice A1_3 l1_3.length c1_3]] w fun e w' => e = .returned (.string r) ∧ Below w.heap.size w w' := by
  unfold proofmarkref30_what.f at h
  by_cases hwf : (Lit.int .i64 a1_1).wf = true
  · rw [if_pos hwf] at h
    have HF := Aside0.mk (Option.some.inj h)
    have hlen : l1_3.length ≤ 9223372036854775807 := hr1_3.2.1
    have HNK := Aside0.mk (num30_f a1_1 hwf)
    have HNN := Aside0.mk (num30_f (l1_3.length : Int) (wf_nat _ hlen))
    have s0 := numB_size a1_1 hwf
    have s1 := numB_size (l1_3.length : Int) (wf_nat _ hlen)
    clear h hwf hr1_2 hc1_2 hr1_3 hc1_3
    have HB := Aside0.mk (below_alloc (Below.refl w.heap.size w) (.cells #[.int .i64 a1_0, .int .i64 a1_1, .slice A1_2 l1_2.length c1_2, .slice A1_3 l1_3.length c1_3] 30))
    unfold saysB at HF
    by_cases v1 : a1_0 = 1
    · subst v1
      have z1 : (9223372036854775807 < 12 + (numB a1_1).size) = False := eq_false (by omega)
      have z2 : (9223372036854775807 < 12 + (numB a1_1).size + 7) = False := eq_false (by omega)
      have z3 : (9223372036854775807 < 11 + (numB a1_1).size) = False := eq_false (by omega)
      have z4 : (9223372036854775807 < 11 + (numB a1_1).size + 7) = False := eq_false (by omega)
      by_cases hk : a0 = 10
      · subst hk
        have HR := Aside0.mk (show ((((⟨#[114, 101, 97, 99, 104, 101, 100]⟩ : ByteArray) ++ (⟨#[32, 105, 110, 32]⟩ : ByteArray)) ++ numB a1_1) ++ (⟨#[32, 99, 121, 99, 108, 101, 115]⟩ : ByteArray)) = r by rw [← HF.out, if_pos rfl, if_pos rfl])
        clear s0 s1
        go_enter Tryd.func41, Tryd.ntmps41
        go_wp2_with (first | (go_at_call 45; refine (proofmarkref30_Num.calls 30 a1_1 (numB a1_1) _ HNK.out).mono ?_; rintro e w2 ⟨rfl, hb⟩; have n2 := Aside0.mk (below_step HB.out hb); clear HB hb; have HB := n2; clear n2))
        go_ret
        exact ⟨by rw [← HR.out]; rfl, HB.out⟩
      · have kb : (a0 == 10) = false := beq_eq_false_iff_ne.mpr hk
        have HR := Aside0.mk (show ((((⟨#[118, 105, 111, 108, 97, 116, 101, 100]⟩ : ByteArray) ++ (⟨#[32, 105, 110, 32]⟩ : ByteArray)) ++ numB a1_1) ++ (⟨#[32, 99, 121, 99, 108, 101, 115]⟩ : ByteArray)) = r by rw [← HF.out, if_pos rfl, if_neg hk])
        clear s0 s1 hk
        go_enter Tryd.func41, Tryd.ntmps41
        go_wp2_with (first | (go_at_call 45; refine (proofmarkref30_Num.calls 30 a1_1 (numB a1_1) _ HNK.out).mono ?_; rintro e w2 ⟨rfl, hb⟩; have n2 := Aside0.mk (below_step HB.out hb); clear HB hb; have HB := n2; clear n2))
        go_ret
        exact ⟨by rw [← HR.out]; rfl, HB.out⟩
    · have vb1 : (a1_0 == 1) = false := beq_eq_false_iff_ne.mpr v1
      by_cases v2 : a1_0 = 2
      · subst v2
        clear vb1 v1
        have z1 : (9223372036854775807 < 17 + (numB (l1_3.length : Int)).size) = False := eq_false (by omega)
        have z2 : (9223372036854775807 < 17 + (numB (l1_3.length : Int)).size + 8) = False := eq_false (by omega)
        have z3 : (9223372036854775807 < 10 + (numB (l1_3.length : Int)).size) = False := eq_false (by omega)
        have z4 : (9223372036854775807 < 10 + (numB (l1_3.length : Int)).size + 8) = False := eq_false (by omega)
        have z5 : (9223372036854775807 < 23 + (numB a1_1).size) = False := eq_false (by omega)
        have z6 : (9223372036854775807 < 16 + (numB a1_1).size) = False := eq_false (by omega)
        by_cases hc : a1_1 = 0 ∨ 0 < l1_3.length
        · have HR := Aside0.mk (show (((if a0 = 10 then (⟨#[110, 101, 118, 101, 114, 32, 114, 101, 97, 99, 104, 101, 100]⟩ : ByteArray) else (⟨#[112, 114, 111, 118, 101, 100]⟩ : ByteArray)) ++ (⟨#[32, 98, 121, 32]⟩ : ByteArray)) ++ numB (l1_3.length : Int)) ++ (⟨#[32, 99, 108, 97, 117, 115, 101, 115]⟩ : ByteArray) = r by rw [← HF.out, if_neg (show ¬ (2 : Int) = 1 by decide), if_pos (show (2 : Int) = 2 from rfl), if_pos hc])
          have hcase : a1_1 = 0 ∨ (¬ a1_1 = 0 ∧ 0 < (l1_3.length : Int)) := by omega
          clear hc s0 s1
          rcases hcase with rfl | ⟨hz, hp⟩
          · by_cases hk : a0 = 10
            · subst hk
              go_enter Tryd.func41, Tryd.ntmps41
              go_wp2_with (first | (go_at_call 45; refine (proofmarkref30_Num.calls 30 (l1_3.length : Int) (numB (l1_3.length : Int)) _ HNN.out).mono ?_; rintro e w2 ⟨rfl, hb⟩; have n2 := Aside0.mk (below_step HB.out hb); clear HB hb; have HB := n2; clear n2))
              go_ret
              exact ⟨by rw [← HR.out]; rfl, HB.out⟩
            · have kb : (a0 == 10) = false := beq_eq_false_iff_ne.mpr hk
              have HK := Aside0.mk hk
              clear hk
              go_enter Tryd.func41, Tryd.ntmps41
              go_wp2_with (first | (go_at_call 45; refine (proofmarkref30_Num.calls 30 (l1_3.length : Int) (numB (l1_3.length : Int)) _ HNN.out).mono ?_; rintro e w2 ⟨rfl, hb⟩; have n2 := Aside0.mk (below_step HB.out hb); clear HB hb; have HB := n2; clear n2))
              go_ret
              exact ⟨by rw [← HR.out, if_neg HK.out]; rfl, HB.out⟩
          · have zb : (a1_1 == 0) = false := beq_eq_false_iff_ne.mpr hz
            clear hz
            by_cases hk : a0 = 10
            · subst hk
              go_enter Tryd.func41, Tryd.ntmps41
              go_wp2_with (first | (go_at_call 45; refine (proofmarkref30_Num.calls 30 (l1_3.length : Int) (numB (l1_3.length : Int)) _ HNN.out).mono ?_; rintro e w2 ⟨rfl, hb⟩; have n2 := Aside0.mk (below_step HB.out hb); clear HB hb; have HB := n2; clear n2))
              go_ret
              exact ⟨by rw [← HR.out]; rfl, HB.out⟩
            · have kb : (a0 == 10) = false := beq_eq_false_iff_ne.mpr hk
              have HK := Aside0.mk hk
              clear hk
              go_enter Tryd.func41, Tryd.ntmps41
              go_wp2_with (first | (go_at_call 45; refine (proofmarkref30_Num.calls 30 (l1_3.length : Int) (numB (l1_3.length : Int)) _ HNN.out).mono ?_; rintro e w2 ⟨rfl, hb⟩; have n2 := Aside0.mk (below_step HB.out hb); clear HB hb; have HB := n2; clear n2))
              go_ret
              exact ⟨by rw [← HR.out, if_neg HK.out]; rfl, HB.out⟩
        · have HR := Aside0.mk (show ((if a0 = 10 then (⟨#[110, 101, 118, 101, 114, 32, 114, 101, 97, 99, 104, 101, 100]⟩ : ByteArray) else (⟨#[112, 114, 111, 118, 101, 100]⟩ : ByteArray)) ++ (⟨#[32, 97, 116, 32, 100, 101, 112, 116, 104, 32]⟩ : ByteArray)) ++ numB a1_1 = r by rw [← HF.out, if_neg (show ¬ (2 : Int) = 1 by decide), if_pos (show (2 : Int) = 2 from rfl), if_neg hc])
          have zb : (a1_1 == 0) = false := beq_eq_false_iff_ne.mpr (fun q => hc (Or.inl q))
          have hp : ¬ 0 < (l1_3.length : Int) := fun q => hc (Or.inr (by omega))
          have hd0 : decide (0 < (l1_3.length : Int)) = false := decide_eq_false hp
          have hd1 : decide (0 < l1_3.length) = false := decide_eq_false (by omega)
          clear hc s0 s1
          by_cases hk : a0 = 10
          · subst hk
            go_enter Tryd.func41, Tryd.ntmps41
            go_wp2_with (first | (go_at_call 45; refine (proofmarkref30_Num.calls 30 a1_1 (numB a1_1) _ HNK.out).mono ?_; rintro e w2 ⟨rfl, hb⟩; have n2 := Aside0.mk (below_step HB.out hb); clear HB hb; have HB := n2; clear n2))
            go_ret
            exact ⟨by rw [← HR.out]; rfl, HB.out⟩
          · have kb : (a0 == 10) = false := beq_eq_false_iff_ne.mpr hk
            have HK := Aside0.mk hk
            clear hk
            go_enter Tryd.func41, Tryd.ntmps41
            go_wp2_with (first | (go_at_call 45; refine (proofmarkref30_Num.calls 30 a1_1 (numB a1_1) _ HNK.out).mono ?_; rintro e w2 ⟨rfl, hb⟩; have n2 := Aside0.mk (below_step HB.out hb); clear HB hb; have HB := n2; clear n2))
            go_ret
            exact ⟨by rw [← HR.out, if_neg HK.out]; rfl, HB.out⟩
      · have vb2 : (a1_0 == 2) = false := beq_eq_false_iff_ne.mpr v2
        rw [if_neg v1, if_neg v2] at HF
        clear s0 s1
        by_cases v3 : a1_0 = 3
        · subst v3
          rw [if_pos rfl] at HF
          clear v1 v2 vb1 vb2
          go_enter Tryd.func41, Tryd.ntmps41
          go_wp2
          go_ret
          exact ⟨by rw [← HF.out]; rfl, HB.out⟩
        · have vb3 : (a1_0 == 3) = false := beq_eq_false_iff_ne.mpr v3
          rw [if_neg v3] at HF
          by_cases hk : a0 = 9
          · subst hk
            rw [if_pos rfl] at HF
            clear v1 v2 v3
            go_enter Tryd.func41, Tryd.ntmps41
            go_wp2
            go_ret
            exact ⟨by rw [← HF.out]; rfl, HB.out⟩
          · have kb : (a0 == 9) = false := beq_eq_false_iff_ne.mpr hk
            rw [if_neg hk] at HF
            clear v1 v2 v3 hk
            go_enter Tryd.func41, Tryd.ntmps41
            go_wp2
            go_ret
            exact ⟨by rw [← HF.out]; rfl, HB.out⟩
  · rw [if_neg hwf] at h; exact absurd h (by simp)
def proofmarkref30_Verdict.f (k : Nat) (l0_0 : List (S96)) (l0_1 : List (S111)) (l0_2 : List (S94)) (l0_3 : List (S73)) (l0_4 : List (S111)) (a1 : Int) (a2_0 : Int) (a2_1 : Int) (l2_2 : List (List Int)) (l2_3 : List (List Int)) : Option (ByteArray) := if (namesFit l0_1 && cellsFit l0_2 && l2_3.all (fun l => l.all (fun x => (Lit.int .i64 x).wf))) = true then report_Verdict.f k l0_0 l0_1 l0_2 l0_3 l0_4 a1 a2_0 a2_1 l2_2 l2_3 else none
theorem proofmarkref30_Verdict.mono : ∀ l0_0 l0_1 l0_2 l0_3 l0_4 a1 a2_0 a2_1 l2_2 l2_3 k, LeO (proofmarkref30_Verdict.f k l0_0 l0_1 l0_2 l0_3 l0_4 a1 a2_0 a2_1 l2_2 l2_3) (proofmarkref30_Verdict.f (k + 1) l0_0 l0_1 l0_2 l0_3 l0_4 a1 a2_0 a2_1 l2_2 l2_3) := by
  intro l0_0 l0_1 l0_2 l0_3 l0_4 a1 a2_0 a2_1 l2_2 l2_3 k
  unfold proofmarkref30_Verdict.f
  exact LeO.ite (report_Verdict.mono _ _ _ _ _ _ _ _ _ _ _) (LeO.refl _)
set_option maxHeartbeats 16000000 in
set_option maxRecDepth 100000 in
theorem proofmarkref30_Verdict.calls (k : Nat) (A0_0 : Option Addr) (c0_0 : Nat) (l0_0 : List (S96)) (A0_1 : Option Addr) (c0_1 : Nat) (l0_1 : List (S111)) (A0_2 : Option Addr) (c0_2 : Nat) (l0_2 : List (S94)) (A0_3 : Option Addr) (c0_3 : Nat) (l0_3 : List (S73)) (A0_4 : Option Addr) (c0_4 : Nat) (l0_4 : List (S111)) (a1 : Int) (a2_0 : Int) (a2_1 : Int) (A2_2 : Option Addr) (c2_2 : Nat) (l2_2 : List (List Int)) (A2_3 : Option Addr) (c2_3 : Nat) (l2_3 : List (List Int)) (r : ByteArray) (w : World) (hr0_0 : Kd.C k96 w A0_0 l0_0.length l0_0) (hc0_0 : l0_0.length ≤ c0_0) (hr0_1 : Kd.C k111 w A0_1 l0_1.length l0_1) (hc0_1 : l0_1.length ≤ c0_1) (hr0_2 : Kd.C k94 w A0_2 l0_2.length l0_2) (hc0_2 : l0_2.length ≤ c0_2) (hr0_3 : Kd.C k73 w A0_3 l0_3.length l0_3) (hc0_3 : l0_3.length ≤ c0_3) (hr0_4 : Kd.C k111 w A0_4 l0_4.length l0_4) (hc0_4 : l0_4.length ≤ c0_4) (hr2_2 : Kd.C (Kd.slice 3 (Kd.int .i64)) w A2_2 l2_2.length l2_2) (hc2_2 : l2_2.length ≤ c2_2) (hr2_3 : Kd.C (Kd.slice 3 (Kd.int .i64)) w A2_3 l2_3.length l2_3) (hc2_3 : l2_3.length ≤ c2_3) (h : proofmarkref30_Verdict.f k l0_0 l0_1 l0_2 l0_3 l0_4 a1 a2_0 a2_1 l2_2 l2_3 = some r) :
    Calls Tryd.prog 17 #[.agg #[.slice A0_0 l0_0.length c0_0, .slice A0_1 l0_1.length c0_1, .slice A0_2 l0_2.length c0_2, .slice A0_3 l0_3.length c0_3, .slice A0_4 l0_4.length c0_4], .int .i64 a1, .agg #[.int .i64 a2_0, .int .i64 a2_1, .slice A2_2 l2_2.length c2_2, .slice A2_3 l2_3.length c2_3]] w fun e w' => e = .returned (.string r) ∧ Below w.heap.size w w' := by
  unfold proofmarkref30_Verdict.f at h
  by_cases hg : (namesFit l0_1 && cellsFit l0_2 && l2_3.all (fun l => l.all (fun x => (Lit.int .i64 x).wf))) = true
  · rw [if_pos hg] at h
    simp only [Bool.and_eq_true] at hg
    obtain ⟨⟨g1, g2⟩, g3⟩ := hg
    have HG1 := Aside0.mk (And.intro g1 (And.intro g2 g3))
    clear g1 g2 g3
    have H0 := Aside0.mk (And.intro hr0_0 hc0_0)
    have H1 := Aside0.mk (And.intro hr0_1 hc0_1)
    have H2 := Aside0.mk (And.intro hr0_2 hc0_2)
    have H3 := Aside0.mk (And.intro hr0_3 hc0_3)
    have H4 := Aside0.mk (And.intro hr0_4 hc0_4)
    have J2 := Aside0.mk (And.intro hr2_2 hc2_2)
    have J3 := Aside0.mk (And.intro hr2_3 hc2_3)
    have hpl : l0_3.length ≤ 9223372036854775807 := hr0_3.2.1
    have hvl : l2_3.length ≤ 9223372036854775807 := hr2_3.2.1
    have HF := Aside0.mk h
    clear h hr0_0 hc0_0 hr0_1 hc0_1 hr0_2 hc0_2 hr0_3 hc0_3 hr0_4 hc0_4 hr2_2 hc2_2 hr2_3 hc2_3
    have HBB := Aside0.mk (below_alloc (below_alloc (Below.refl w.heap.size w) (.cells #[.slice A0_0 l0_0.length c0_0, .slice A0_1 l0_1.length c0_1, .slice A0_2 l0_2.length c0_2, .slice A0_3 l0_3.length c0_3, .slice A0_4 l0_4.length c0_4] 27)) (.cells #[.int .i64 a2_0, .int .i64 a2_1, .slice A2_2 l2_2.length c2_2, .slice A2_3 l2_3.length c2_3] 30))
    by_cases h1 : a1 < 0
    · have HR := Aside0.mk (show r = ⟨#[]⟩ by have := HF.out; unfold report_Verdict.f at this; rw [if_pos (Or.inl h1)] at this; exact (Option.some.inj this).symm)
      go_enter Tryd.func17, Tryd.ntmps17
      go_wp2
      go_ret
      exact ⟨by rw [HR.out]; rfl, HBB.out⟩
    · by_cases h2 : (l0_3.length : Int) ≤ a1
      · have HR := Aside0.mk (show r = ⟨#[]⟩ by have := HF.out; unfold report_Verdict.f at this; rw [if_pos (Or.inr h2)] at this; exact (Option.some.inj this).symm)
        go_enter Tryd.func17, Tryd.ntmps17
        go_wp2
        go_ret
        exact ⟨by rw [HR.out]; rfl, HBB.out⟩
      · have h := HF.out
        unfold report_Verdict.f at h
        rw [if_neg (by omega)] at h
        by_cases hb : (rd_T73 l0_3 a1).f1.size ≤ 10000 ∧ (Lit.int .i64 (rd_T73 l0_3 a1).f0).wf = true ∧ (Lit.int .i64 a2_1).wf = true ∧ l2_3.length ≤ 10000
        · rw [if_pos hb] at h
          obtain ⟨ad, e, x0, x1, x2⟩ := at_T73 (Kd.C_below H3.out.1 HBB.out) a1 (by omega) (by omega)
          cases e
          obtain ⟨j, rfl⟩ : ∃ j : Nat, a1 = j := ⟨a1.toNat, by omega⟩
          have hto : (j : Int).toNat = j := by omega
          simp only [hto] at x0 x1 x2
          clear hto HF
          generalize rd_T73 l0_3 (j : Int) = y at x0 x1 x2 hb h
          obtain ⟨b1, b2, b3, b4⟩ := hb
          have hj1 : (j : Int) < l0_3.length := by omega
          have HF := Aside0.mk h
          have HKD := Aside0.mk (kind_f y.f0)
          have HWH := Aside0.mk (show proofmarkref30_what.f y.f0 a2_0 a2_1 l2_2 l2_3 = some (saysB y.f0 a2_0 a2_1 l2_3.length) by unfold proofmarkref30_what.f; rw [if_pos b3])
          have s0 := kindB_size y.f0
          have s1 := saysB_size y.f0 a2_0 a2_1 l2_3.length b3 hvl
          have HHD := Aside0.mk (show headL y a2_0 a2_1 l2_3.length = (((((kindB y.f0 ++ (⟨#[32]⟩ : ByteArray)) ++ y.f1) ++ (⟨#[58, 32]⟩ : ByteArray)) ++ saysB y.f0 a2_0 a2_1 l2_3.length) ++ (⟨#[10]⟩ : ByteArray)).data.toList by unfold headL headB; rw [ByteArray.data_append (l' := ⟨#[10]⟩), Array.toList_append])
          clear h h1 h2 b2 b3
          generalize hkb : kindB y.f0 = kb at HKD s0 HHD
          generalize hsb : saysB y.f0 a2_0 a2_1 l2_3.length = sb at HWH s1 HHD
          clear hkb hsb
          have z0 : (9223372036854775807 < kb.size + 1) = False := eq_false (by omega)
          have z1 : (9223372036854775807 < kb.size + 1 + y.f1.size) = False := eq_false (by omega)
          have z2 : (9223372036854775807 < kb.size + 1 + y.f1.size + 2) = False := eq_false (by omega)
          have z3 : (9223372036854775807 < kb.size + 1 + y.f1.size + 2 + sb.size) = False := eq_false (by omega)
          have z4 : (9223372036854775807 < kb.size + 1 + y.f1.size + 2 + sb.size + 1) = False := eq_false (by omega)
          have HHZ := Aside0.mk (show (((((kb ++ (⟨#[32]⟩ : ByteArray)) ++ y.f1) ++ (⟨#[58, 32]⟩ : ByteArray)) ++ sb) ++ (⟨#[10]⟩ : ByteArray)).size ≤ 11000 by
            simp only [ByteArray.size_append]
            have e1 : (⟨#[32]⟩ : ByteArray).size = 1 := rfl
            have e2 : (⟨#[58, 32]⟩ : ByteArray).size = 2 := rfl
            have e3 : (⟨#[10]⟩ : ByteArray).size = 1 := rfl
            omega)
          clear s0 s1 b1
          have HB3A := Aside0.mk (below_alloc HBB.out (.cells #[.int .i64 y.f0, .string y.f1, .int .i64 y.f2] 73))
          have HO3 := Aside0.mk (three_boxes w (.cells #[.slice A0_0 l0_0.length c0_0, .slice A0_1 l0_1.length c0_1, .slice A0_2 l0_2.length c0_2, .slice (some ad) l0_3.length c0_3, .slice A0_4 l0_4.length c0_4] 27) (.cells #[.int .i64 a2_0, .int .i64 a2_1, .slice A2_2 l2_2.length c2_2, .slice A2_3 l2_3.length c2_3] 30) (.cells #[.int .i64 y.f0, .string y.f1, .int .i64 y.f2] 73))
          have TS := Aside0.mk (show ∀ w' : World, Below (((w.alloc (.cells #[.slice A0_0 l0_0.length c0_0, .slice A0_1 l0_1.length c0_1, .slice A0_2 l0_2.length c0_2, .slice (some ad) l0_3.length c0_3, .slice A0_4 l0_4.length c0_4] 27)).alloc (.cells #[.int .i64 a2_0, .int .i64 a2_1, .slice A2_2 l2_2.length c2_2, .slice A2_3 l2_3.length c2_3] 30)).alloc (.cells #[.int .i64 y.f0, .string y.f1, .int .i64 y.f2] 73)).heap.size (((w.alloc (.cells #[.slice A0_0 l0_0.length c0_0, .slice A0_1 l0_1.length c0_1, .slice A0_2 l0_2.length c0_2, .slice (some ad) l0_3.length c0_3, .slice A0_4 l0_4.length c0_4] 27)).alloc (.cells #[.int .i64 a2_0, .int .i64 a2_1, .slice A2_2 l2_2.length c2_2, .slice A2_3 l2_3.length c2_3] 30)).alloc (.cells #[.int .i64 y.f0, .string y.f1, .int .i64 y.f2] 73)) w' → (((w'.cell? ⟨w.heap.size + 1, 0, none⟩ = some (.int .i64 a2_0) ∧ w'.cell? ⟨w.heap.size + 1, 1, none⟩ = some (.int .i64 a2_1) ∧ w'.cell? ⟨w.heap.size + 1, 2, none⟩ = some (.slice A2_2 l2_2.length c2_2) ∧ w'.cell? ⟨w.heap.size + 1, 3, none⟩ = some (.slice A2_3 l2_3.length c2_3)) ∧ w'.cell? ⟨w.heap.size + 1 + 1, 0, none⟩ = some (.int .i64 y.f0) ∧ w'.cell? ⟨w.heap.size + 1 + 1, 1, none⟩ = some (.string y.f1)) ∧ (w'.cell? ⟨w.heap.size, 0, none⟩ = some (.slice A0_0 l0_0.length c0_0) ∧ w'.cell? ⟨w.heap.size, 1, none⟩ = some (.slice A0_1 l0_1.length c0_1) ∧ w'.cell? ⟨w.heap.size, 2, none⟩ = some (.slice A0_2 l0_2.length c0_2) ∧ w'.cell? ⟨w.heap.size, 3, none⟩ = some (.slice (some ad) l0_3.length c0_3) ∧ w'.cell? ⟨w.heap.size, 4, none⟩ = some (.slice A0_4 l0_4.length c0_4)) ∧ True) from fun w' q => by
            have g0 := (q.block _ (Array.getElem?_eq_some_iff.1 HO3.out.1).1).trans HO3.out.1
            have g1 := (q.block _ (Array.getElem?_eq_some_iff.1 HO3.out.2.1).1).trans HO3.out.2.1
            have g2 := (q.block _ (Array.getElem?_eq_some_iff.1 HO3.out.2.2).1).trans HO3.out.2.2
            exact ⟨⟨⟨Lib.cell_of_heap g1 0, Lib.cell_of_heap g1 1, Lib.cell_of_heap g1 2, Lib.cell_of_heap g1 3⟩, Lib.cell_of_heap g2 0, Lib.cell_of_heap g2 1⟩, ⟨Lib.cell_of_heap g0 0, Lib.cell_of_heap g0 1, Lib.cell_of_heap g0 2, Lib.cell_of_heap g0 3, Lib.cell_of_heap g0 4⟩, trivial⟩)
          go_enter Tryd.func17, Tryd.ntmps17
          go_wp2
          have HB3 := Aside0.mk (below_drew (Below.refl (((w.alloc (.cells #[.slice A0_0 l0_0.length c0_0, .slice A0_1 l0_1.length c0_1, .slice A0_2 l0_2.length c0_2, .slice (some ad) l0_3.length c0_3, .slice A0_4 l0_4.length c0_4] 27)).alloc (.cells #[.int .i64 a2_0, .int .i64 a2_1, .slice A2_2 l2_2.length c2_2, .slice A2_3 l2_3.length c2_3] 30)).alloc (.cells #[.int .i64 y.f0, .string y.f1, .int .i64 y.f2] 73)).heap.size (((w.alloc (.cells #[.slice A0_0 l0_0.length c0_0, .slice A0_1 l0_1.length c0_1, .slice A0_2 l0_2.length c0_2, .slice (some ad) l0_3.length c0_3, .slice A0_4 l0_4.length c0_4] 27)).alloc (.cells #[.int .i64 a2_0, .int .i64 a2_1, .slice A2_2 l2_2.length c2_2, .slice A2_3 l2_3.length c2_3] 30)).alloc (.cells #[.int .i64 y.f0, .string y.f1, .int .i64 y.f2] 73))))
          go_region_held3 (fun w' => (w'.cell? ⟨w.heap.size + 1, 0, none⟩ = some (.int .i64 a2_0) ∧ w'.cell? ⟨w.heap.size + 1, 1, none⟩ = some (.int .i64 a2_1) ∧ w'.cell? ⟨w.heap.size + 1, 2, none⟩ = some (.slice A2_2 l2_2.length c2_2) ∧ w'.cell? ⟨w.heap.size + 1, 3, none⟩ = some (.slice A2_3 l2_3.length c2_3)) ∧ w'.cell? ⟨w.heap.size + 1 + 1, 0, none⟩ = some (.int .i64 y.f0) ∧ w'.cell? ⟨w.heap.size + 1 + 1, 1, none⟩ = some (.string y.f1)) (exact (TS.out _ HB3.out).1) (first | (go_at_call 40; refine (proofmarkref30_kind.calls y.f0 kb _ HKD.out).mono ?_; rintro e w' ⟨rfl, hd⟩; have n2 := Aside0.mk (below_step HB3.out hd.below); clear HB3 hd; have HB3 := n2; clear n2) | (go_at_call 41; refine (proofmarkref30_what.calls y.f0 a2_0 a2_1 A2_2 c2_2 l2_2 A2_3 c2_3 l2_3 sb _ (Kd.C_below J2.out.1 (below_step HB3A.out HB3.out)) J2.out.2 (Kd.C_below J3.out.1 (below_step HB3A.out HB3.out)) J3.out.2 HWH.out).mono ?_; rintro e w' ⟨rfl, hb⟩; have n2 := Aside0.mk (below_step HB3.out hb); clear HB3 hb; have HB3 := n2; clear n2))
          all_goals (
            clear x0 x1 x2 z0 z1 z2 z3 z4
            generalize (((((kb ++ (⟨#[32]⟩ : ByteArray)) ++ y.f1) ++ (⟨#[58, 32]⟩ : ByteArray)) ++ sb) ++ (⟨#[10]⟩ : ByteArray)) = hs at HHD HHZ ⊢
            have HB := Aside0.mk (below_step HB3A.out HB3.out)
            by_cases v1 : a2_0 = 1
            · subst v1
              have h := HF.out
              rw [if_pos rfl] at h
              obtain ⟨t, ht, h⟩ := Option.bind_eq_some_iff.1 h
              by_cases htz : t.size ≤ 10000000000000
              · rw [if_pos htz] at h
                have HTF := Aside0.mk (show proofmarkref27_Trace.f l0_0 l0_1 l0_2 l0_3 l0_4 l2_2 = some t by unfold proofmarkref27_Trace.f; rw [if_pos ⟨HG1.out.1, HG1.out.2.1⟩]; exact ht)
                have z5 : (9223372036854775807 < hs.size + t.size) = False := eq_false (by have := HHZ.out; omega)
                have HR := Aside0.mk (show r = hs ++ t by
                  rw [← Option.some.inj h, HHD.out]
                  exact (ba_of (by simp)).symm)
                clear h ht htz
                have n3 := Aside0.mk (TS.out _ HB3.out); have m0 := n3.out.2.1.1; have m1 := n3.out.2.1.2.1; have m2 := n3.out.2.1.2.2.1; have m3 := n3.out.2.1.2.2.2.1; have m4 := n3.out.2.1.2.2.2.2; have u0 := n3.out.1.1.1; have u1 := n3.out.1.1.2.1; have u2 := n3.out.1.1.2.2.1; have u3 := n3.out.1.1.2.2.2; clear n3
                go_wp2_with (first | (go_at_call 42; refine (proofmarkref27_Trace.calls A0_0 c0_0 l0_0 A0_1 c0_1 l0_1 A0_2 c0_2 l0_2 (some ad) c0_3 l0_3 A0_4 c0_4 l0_4 A2_2 c2_2 l2_2 t _ (Kd.C_below H0.out.1 HB.out) H0.out.2 (Kd.C_below H1.out.1 HB.out) H1.out.2 (Kd.C_below H2.out.1 HB.out) H2.out.2 (Kd.C_below H3.out.1 HB.out) H3.out.2 (Kd.C_below H4.out.1 HB.out) H4.out.2 (Kd.C_below J2.out.1 HB.out) J2.out.2 HTF.out).mono ?_; rintro e w2 ⟨rfl, hb⟩; have n2 := Aside0.mk (below_step HB.out hb); clear HB hb; have HB := n2; clear n2))
                go_ret
                exact ⟨by rw [HR.out]; rfl, HB.out⟩
              · rw [if_neg htz] at h; exact absurd h (by simp)
            · have vb1 : (a2_0 == 1) = false := beq_eq_false_iff_ne.mpr v1
              by_cases v2 : a2_0 = 2
              · subst v2
                clear vb1 v1
                have h := HF.out
                rw [if_neg (by decide), if_pos rfl] at h
                obtain ⟨c, hc, h⟩ := Option.bind_eq_some_iff.1 h
                obtain ⟨t, ht, h⟩ := Option.bind_eq_some_iff.1 h
                obtain ⟨kb2, hkb⟩ := bits_same _ _ _ _ _ _ _ hc
                have HBF := Aside0.mk hkb
                have HTT := Aside0.mk ht
                have HR := Aside0.mk (show r = ⟨(hs.data.toList ++ t).toArray⟩ by rw [← Option.some.inj h, HHD.out])
                clear h hc ht hkb
                obtain ⟨c1, c2, c3, c4, c5⟩ := c
                have n3 := Aside0.mk (TS.out _ HB3.out); have m0 := n3.out.2.1.1; have m1 := n3.out.2.1.2.1; have m2 := n3.out.2.1.2.2.1; have m3 := n3.out.2.1.2.2.2.1; have m4 := n3.out.2.1.2.2.2.2; have u0 := n3.out.1.1.1; have u1 := n3.out.1.1.2.1; have u2 := n3.out.1.1.2.2.1; have u3 := n3.out.1.1.2.2.2; clear n3
                go_wp2
                clear m0 m1 m2 m3 m4 u0 u1 u2 u3
                try simp only [Act.put, List.setIfInBounds_toArray, List.set_cons_succ, List.set_cons_zero]
                rename World => w3
                go_loopg [8, 9] l2_3.length (fun kq v8 v9 wr => ∃ (i : Nat) (cs : ByteArray) (t' : List UInt8), v8 = .string cs ∧ v9 = .int .i64 i ∧ i ≤ l2_3.length ∧ Aside0 (kq = l2_3.length - i) ∧ Aside0 (clauseLines k l0_0 l0_1 l0_2 l0_3 l0_4 (c1, c2, c3, c4, c5) (l2_3.take i) = some t') ∧ Aside0 (cs.data.toList = hs.data.toList ++ t') ∧ Aside0 (Below w3.heap.size w3 wr))
                case atStart => exact ⟨0, _, [], rfl, rfl, by omega, ⟨by omega⟩, ⟨rfl⟩, ⟨by simp⟩, ⟨Below.refl _ _⟩⟩
                case round =>
                  obtain ⟨i, cs, t', rfl, rfl, hi, HQ, HTL, HCS, HB2⟩ := hrel
                  have n2 := Aside0.mk (below_step HB3.out HB2.out)
                  clear HB3
                  have HB3 := n2
                  clear n2 HB
                  have HB := Aside0.mk (below_step HB3A.out HB3.out)
                  by_cases hlt : i < l2_3.length
                  · have hi0 : 0 ≤ (i : Int) := by omega
                    have hi1 : (i : Int) < l2_3.length := by omega
                    obtain ⟨adr, A, cc, e, x0, hcl, hC⟩ := at_L23 J3.out.1 i hi0 hi1
                    cases e
                    have hto : (i : Int).toNat = i := by omega
                    simp only [hto] at x0
                    clear hto
                    generalize hrow : rd_L23 l2_3 (i : Int) = row at x0 hcl hC
                    have HROW := Aside0.mk (show l2_3[i] = row by rw [← hrow]; simp [rd_L23, hlt])
                    have HC := Aside0.mk (And.intro hC hcl)
                    clear hrow hC hcl
                    obtain ⟨t2, s, g1, g2, g3, g4⟩ := clauseLines_at k l0_0 l0_1 l0_2 l0_3 l0_4 (c1, c2, c3, c4, c5) l2_3 t HTT.out i hlt
                    obtain rfl : t' = t2 := by have := HTL.out; rw [g1] at this; exact (Option.some.inj this).symm
                    rw [HROW.out] at g2
                    have HCF := Aside0.mk (show proofmarkref27_Clause.f l0_0 l0_1 l0_2 l0_3 l0_4 c1 c2 c3 c4 c5 row = some s by
                      have hw : row.all (fun x => (Lit.int .i64 x).wf) = true := by rw [← HROW.out]; exact List.all_eq_true.1 HG1.out.2.2 _ (List.getElem_mem hlt)
                      unfold proofmarkref27_Clause.f
                      rw [HG1.out.1, HG1.out.2.1, hw]
                      exact g2)
                    have HTN := Aside0.mk g4
                    have hcz : cs.size ≤ 10000021000 := by
                      have h1 := clauseLines_len k l0_0 l0_1 l0_2 l0_3 l0_4 (c1, c2, c3, c4, c5) _ _ HTL.out
                      rw [List.length_take] at h1
                      have e3 : cs.data.toList.length = cs.size := by simp
                      rw [HCS.out, List.length_append] at e3
                      have e4 : hs.data.toList.length = hs.size := by simp
                      have := HHZ.out
                      omega
                    have z5 : (9223372036854775807 < cs.size + s.size) = False := eq_false (by omega)
                    have z6 : (9223372036854775807 < cs.size + s.size + 1) = False := eq_false (by omega)
                    have TSR := Aside0.mk (show ∀ w' : World, Below (((w.alloc (.cells #[.slice A0_0 l0_0.length c0_0, .slice A0_1 l0_1.length c0_1, .slice A0_2 l0_2.length c0_2, .slice (some ad) l0_3.length c0_3, .slice A0_4 l0_4.length c0_4] 27)).alloc (.cells #[.int .i64 2, .int .i64 a2_1, .slice A2_2 l2_2.length c2_2, .slice (some adr) l2_3.length c2_3] 30)).alloc (.cells #[.int .i64 y.f0, .string y.f1, .int .i64 y.f2] 73)).heap.size (((w.alloc (.cells #[.slice A0_0 l0_0.length c0_0, .slice A0_1 l0_1.length c0_1, .slice A0_2 l0_2.length c0_2, .slice (some ad) l0_3.length c0_3, .slice A0_4 l0_4.length c0_4] 27)).alloc (.cells #[.int .i64 2, .int .i64 a2_1, .slice A2_2 l2_2.length c2_2, .slice (some adr) l2_3.length c2_3] 30)).alloc (.cells #[.int .i64 y.f0, .string y.f1, .int .i64 y.f2] 73)) w' → Below w.heap.size w w' → ((w'.cell? ⟨w.heap.size, 0, none⟩ = some (.slice A0_0 l0_0.length c0_0) ∧ w'.cell? ⟨w.heap.size, 1, none⟩ = some (.slice A0_1 l0_1.length c0_1) ∧ w'.cell? ⟨w.heap.size, 2, none⟩ = some (.slice A0_2 l0_2.length c0_2) ∧ w'.cell? ⟨w.heap.size, 3, none⟩ = some (.slice (some ad) l0_3.length c0_3) ∧ w'.cell? ⟨w.heap.size, 4, none⟩ = some (.slice A0_4 l0_4.length c0_4)) ∧ w'.cell? ⟨w.heap.size + 1, 3, none⟩ = some (.slice (some adr) l2_3.length c2_3) ∧ w'.cell? (adr.add i) = some (.slice A row.length cc)) from fun w' q1 q2 => ⟨(TS.out _ q1).2.1, (TS.out _ q1).1.1.2.2.2, pw_cell_below q2 x0⟩)
                    clear x0 g1 g2 g3 g4 hcz
                    have n3 := Aside0.mk (TS.out _ HB3.out); have m0 := n3.out.2.1.1; have m1 := n3.out.2.1.2.1; have m2 := n3.out.2.1.2.2.1; have m3 := n3.out.2.1.2.2.2.1; have m4 := n3.out.2.1.2.2.2.2; have u0 := n3.out.1.1.1; have u1 := n3.out.1.1.2.1; have u2 := n3.out.1.1.2.2.1; have u3 := n3.out.1.1.2.2.2; clear n3
                    go_wp2
                    clear m0 m1 m2 m3 m4 u0 u1 u2 u3
                    have n1 := Aside0.mk (below_drew HB.out)
                    have n2 := Aside0.mk (below_drew HB3.out)
                    have n3 := Aside0.mk (below_drew HB2.out)
                    clear HB HB2 HB3
                    have HB := n1
                    have HB3 := n2
                    have HB2 := n3
                    clear n1 n2 n3
                    go_region_held3 (fun w' => (w'.cell? ⟨w.heap.size, 0, none⟩ = some (.slice A0_0 l0_0.length c0_0) ∧ w'.cell? ⟨w.heap.size, 1, none⟩ = some (.slice A0_1 l0_1.length c0_1) ∧ w'.cell? ⟨w.heap.size, 2, none⟩ = some (.slice A0_2 l0_2.length c0_2) ∧ w'.cell? ⟨w.heap.size, 3, none⟩ = some (.slice (some ad) l0_3.length c0_3) ∧ w'.cell? ⟨w.heap.size, 4, none⟩ = some (.slice A0_4 l0_4.length c0_4)) ∧ w'.cell? ⟨w.heap.size + 1, 3, none⟩ = some (.slice (some adr) l2_3.length c2_3) ∧ w'.cell? (adr.add i) = some (.slice A row.length cc)) (exact TSR.out _ HB3.out HB.out) (first | (go_at_call 22; refine (proofmarkref30_Bits.calls kb2 A0_0 c0_0 l0_0 A0_1 c0_1 l0_1 A0_2 c0_2 l0_2 (some ad) c0_3 l0_3 A0_4 c0_4 l0_4 c1 c2 c3 c4 c5 _ (Kd.C_below H0.out.1 HB.out) H0.out.2 (Kd.C_below H1.out.1 HB.out) H1.out.2 (Kd.C_below H2.out.1 HB.out) H2.out.2 (Kd.C_below H3.out.1 HB.out) H3.out.2 (Kd.C_below H4.out.1 HB.out) H4.out.2 HBF.out).mono ?_; rintro e w' ⟨v1_, v2_, v3_, v4_, rfl, q1, q2, q3, q4, hb⟩; obtain ⟨X1, d1, hv1⟩ := Kd.R_slice q1; subst hv1; obtain ⟨X2, d2, hv2⟩ := Kd.R_slice q2; subst hv2; obtain ⟨X3, d3, hv3⟩ := Kd.R_slice q3; subst hv3; obtain ⟨X4, d4, hv4⟩ := Kd.R_slice q4; subst hv4; have k1 := Aside0.mk (R_C q1); have k2 := Aside0.mk (R_C q2); have k3 := Aside0.mk (R_C q3); have k4 := Aside0.mk (R_C q4); clear q1 q2 q3 q4; have n1 := Aside0.mk (below_step HB.out hb); have n2 := Aside0.mk (below_step HB3.out hb); have n3 := Aside0.mk (below_step HB2.out hb); clear HB HB2 HB3 hb; have HB := n1; have HB3 := n2; have HB2 := n3; clear n1 n2 n3) | (go_at_call 43; refine (proofmarkref27_Clause.calls A0_0 c0_0 l0_0 A0_1 c0_1 l0_1 A0_2 c0_2 l0_2 (some ad) c0_3 l0_3 A0_4 c0_4 l0_4 c1 X1 d1 c2 X2 d2 c3 X3 d3 c4 X4 d4 c5 A cc row s _ (Kd.C_below H0.out.1 HB.out) H0.out.2 (Kd.C_below H1.out.1 HB.out) H1.out.2 (Kd.C_below H2.out.1 HB.out) H2.out.2 (Kd.C_below H3.out.1 HB.out) H3.out.2 (Kd.C_below H4.out.1 HB.out) H4.out.2 k1.out.2 k1.out.1 k2.out.2 k2.out.1 k3.out.2 k3.out.1 k4.out.2 k4.out.1 (Kd.C_below HC.out.1 HB.out) HC.out.2 HCF.out).mono ?_; rintro e w' ⟨rfl, hb⟩; have n1 := Aside0.mk (below_step HB.out hb); have n2 := Aside0.mk (below_step HB3.out hb); have n3 := Aside0.mk (below_step HB2.out hb); clear HB HB2 HB3 hb; have HB := n1; have HB3 := n2; have HB2 := n3; clear n1 n2 n3))
                    all_goals (
                      go_wp2
                      go_roundg (l2_3.length - (i + 1))
                      case measure => have h8 := HQ.out; clear z5 z6; omega
                      case rel => exact ⟨i + 1, _, _, rfl, by go_num, by omega, ⟨rfl⟩, ⟨HTN.out⟩, ⟨by rw [← List.append_assoc, ← HCS.out]; simp⟩, HB2⟩)
                  · obtain rfl : i = l2_3.length := by omega
                    have HRC := Aside0.mk (show r = cs by
                      have e := HTL.out
                      rw [List.take_length, HTT.out] at e
                      rw [HR.out, Option.some.inj e]
                      exact (ba_of HCS.out).symm)
                    have n3 := Aside0.mk (TS.out _ HB3.out); have m0 := n3.out.2.1.1; have m1 := n3.out.2.1.2.1; have m2 := n3.out.2.1.2.2.1; have m3 := n3.out.2.1.2.2.2.1; have m4 := n3.out.2.1.2.2.2.2; have u0 := n3.out.1.1.1; have u1 := n3.out.1.1.2.1; have u2 := n3.out.1.1.2.2.1; have u3 := n3.out.1.1.2.2.2; clear n3
                    go_wp2
                    go_ret
                    exact ⟨by rw [HRC.out]; rfl, HB.out⟩
              · have vb2 : (a2_0 == 2) = false := beq_eq_false_iff_ne.mpr v2
                have h := HF.out
                rw [if_neg v1, if_neg v2] at h
                have HR := Aside0.mk (show r = hs by rw [← Option.some.inj h, HHD.out])
                clear h v1 v2
                have n3 := Aside0.mk (TS.out _ HB3.out); have m0 := n3.out.2.1.1; have m1 := n3.out.2.1.2.1; have m2 := n3.out.2.1.2.2.1; have m3 := n3.out.2.1.2.2.2.1; have m4 := n3.out.2.1.2.2.2.2; have u0 := n3.out.1.1.1; have u1 := n3.out.1.1.2.1; have u2 := n3.out.1.1.2.2.1; have u3 := n3.out.1.1.2.2.2; clear n3
                go_wp2
                clear m0 m1 m2 m3 m4 u0 u1 u2 u3
                try simp only [Act.put, List.setIfInBounds_toArray, List.set_cons_succ, List.set_cons_zero]
                rename World => w3
                go_loopg [8, 9] 1 (fun kq v8 v9 wr => v8 = .string hs ∧ v9 = .int .i64 0 ∧ Aside0 (Below w3.heap.size w3 wr))
                case atStart => exact ⟨rfl, rfl, ⟨Below.refl _ _⟩⟩
                case round =>
                  obtain ⟨rfl, rfl, HB2⟩ := hrel
                  have n2 := Aside0.mk (below_step HB3.out HB2.out)
                  clear HB3
                  have HB3 := n2
                  clear n2 HB
                  have HB := Aside0.mk (below_step HB3A.out HB3.out)
                  have n3 := Aside0.mk (TS.out _ HB3.out); have m0 := n3.out.2.1.1; have m1 := n3.out.2.1.2.1; have m2 := n3.out.2.1.2.2.1; have m3 := n3.out.2.1.2.2.2.1; have m4 := n3.out.2.1.2.2.2.2; have u0 := n3.out.1.1.1; have u1 := n3.out.1.1.2.1; have u2 := n3.out.1.1.2.2.1; have u3 := n3.out.1.1.2.2.2; clear n3
                  by_cases hz : 0 < (l2_3.length : Int)
                  · go_wp2
                    go_ret
                    exact ⟨by rw [HR.out]; rfl, HB.out⟩
                  · have hz0 : l2_3.length = 0 := by omega
                    go_wp2
                    go_ret
                    exact ⟨by rw [HR.out]; rfl, HB.out⟩)
        · rw [if_neg hb] at h; exact absurd h (by simp)
  · rw [if_neg hg] at h; exact absurd h (by simp)
end Go.Proofs.YtmfekngjhiofaaaDoor.Q
