-- Written by the session's own programs (wip/tools/ownprint.py, prune.py) for this claim: one function of the translation, the ways on which it answers true.
import Derived.Test.YtmfekngjhiofaaaDoorQx0
import Derived.Test.YtmfekngjhiofaaaDoorHTidy
import Derived.Test.YtmfekngjhiofaaaDoorHBehind
import Derived.Test.YtmfekngjhiofaaaDoorQx13
import Derived.Test.YtmfekngjhiofaaaDoorQx14
import Derived.Test.YtmfekngjhiofaaaDoorQx27
import Derived.Test.YtmfekngjhiofaaaDoorHVerdict
import Derived.Test.YtmfekngjhiofaaaDoorHHead
import Derived.Test.YtmfekngjhiofaaaDoorHLits
import Derived.Test.YtmfekngjhiofaaaDoorHTab
namespace Go.Proofs.YtmfekngjhiofaaaDoor.Q
open Go.RowKit Go.Proofs.YtmfekngjhiofaaaDoorW.PrintWords Go.Proofs.YtmfekngjhiofaaaDoorW.PrintLast Go.Proofs.YtmfekngjhiofaaaDoorW.PrintMore
attribute [local go_sem] max2_int min2_int max_two min_two max_three min_three max_four min_four   -- for this text's walks alone
set_option linter.unusedVariables false
set_option linter.unusedSimpArgs false

/-! ### proofmarklaw30_ReportClauses: function 8 -/
mutual
def proofmarklaw30_ReportClauses.j0 : Nat → Bool → ByteArray → Bool → List (S96) → List (S111) → List (S94) → List (S73) → List (S111) → Int → Int → List (List Int) → List (List Int) → Option (Bool)
  | 0, _, _, _, _, _, _, _, _, _, _, _, _ => none
  | k + 1, x7, x10, x37, x244000, x244001, x244002, x244003, x244004, x253000, x253001, x253002, x253003 => if x37 = true then (if x7 = true then (some (x10.toList == ([] : List UInt8))) else (some false)) else ((proofmarklaw30_behind.f k x10).bind fun bt254 => ((proofmarkref30_Bits.f k x244000 x244001 x244002 x244003 x244004).bind fun bt256 => (proofmarklaw30_ReportClauses.l0 k x7 bt254.1 bt254.2 0 x244000 x244001 x244002 x244003 x244004 x253000 x253001 x253002 x253003 bt256.1 bt256.2.1 bt256.2.2.1 bt256.2.2.2.1 bt256.2.2.2.2)))
def proofmarklaw30_ReportClauses.l0 : Nat → Bool → ByteArray → Bool → Int → List (S96) → List (S111) → List (S94) → List (S73) → List (S111) → Int → Int → List (List Int) → List (List Int) → Int → List (S201) → List (S202) → List (S98) → List (S204) → Option (Bool)
  | 0, _, _, _, _, _, _, _, _, _, _, _, _, _, _, _, _, _, _ => none
  | k + 1, x7, x11, x12, x14, x244000, x244001, x244002, x244003, x244004, x253000, x253001, x253002, x253003, x270000, x270001, x270002, x270003, x270004 => if x14 < (x253003.length : Int) then (proofmarklaw30_ReportClauses.l1 k x7 x11 x14 (⟨#[]⟩ : ByteArray) 0 x244000 x244001 x244002 x244003 x244004 x253000 x253001 x253002 x253003 x270000 x270001 x270002 x270003 x270004) else (if x7 = true then (if x12 = true then (some (x11.toList == ([] : List UInt8))) else (some false)) else (some false))
def proofmarklaw30_ReportClauses.j3 : Nat → Bool → ByteArray → Int → ByteArray → List (S96) → List (S111) → List (S94) → List (S73) → List (S111) → Int → Int → List (List Int) → List (List Int) → Int → List (S201) → List (S202) → List (S98) → List (S204) → Option (Bool)
  | 0, _, _, _, _, _, _, _, _, _, _, _, _, _, _, _, _, _, _ => none
  | k + 1, x7, x11, x14, x15, x244000, x244001, x244002, x244003, x244004, x253000, x253001, x253002, x253003, x270000, x270001, x270002, x270003, x270004 => (lift_Lits.f x244000 x244001 x244002 x244003 x244004 x270000 x270001 x270002 x270003 x270004 x15).bind fun bt270 => (if 0 ≤ x14 then (if x14 < (x253003.length : Int) then ((lift_Clause.f x244000 x244001 x244002 x244003 x244004 x270000 x270001 x270002 x270003 x270004 (rd_L23 x253003 x14)).bind fun t275 => (if x15.toList = t275.toList then (if x15.toList = ([] : List UInt8) then (proofmarklaw30_ReportClauses.j4 k x7 x11 x14 false x244000 x244001 x244002 x244003 x244004 x253000 x253001 x253002 x253003 x270000 x270001 x270002 x270003 x270004) else (if bt270.2 = true then ((proofmarkref27_SameInts.f k bt270.1 (rd_L23 x253003 x14)).bind fun t277 => (proofmarklaw30_ReportClauses.j4 k x7 x11 x14 (!t277) x244000 x244001 x244002 x244003 x244004 x253000 x253001 x253002 x253003 x270000 x270001 x270002 x270003 x270004)) else (proofmarklaw30_ReportClauses.j4 k x7 x11 x14 true x244000 x244001 x244002 x244003 x244004 x253000 x253001 x253002 x253003 x270000 x270001 x270002 x270003 x270004))) else (proofmarklaw30_ReportClauses.j4 k x7 x11 x14 true x244000 x244001 x244002 x244003 x244004 x253000 x253001 x253002 x253003 x270000 x270001 x270002 x270003 x270004))) else (none)) else (none))
def proofmarklaw30_ReportClauses.j4 : Nat → Bool → ByteArray → Int → Bool → List (S96) → List (S111) → List (S94) → List (S73) → List (S111) → Int → Int → List (List Int) → List (List Int) → Int → List (S201) → List (S202) → List (S98) → List (S204) → Option (Bool)
  | 0, _, _, _, _, _, _, _, _, _, _, _, _, _, _, _, _, _, _ => none
  | k + 1, x7, x11, x14, x107, x244000, x244001, x244002, x244003, x244004, x253000, x253001, x253002, x253003, x270000, x270001, x270002, x270003, x270004 => if x107 = true then (some false) else ((proofmarklaw30_behind.f k x11).bind fun bt278 => (if bt278.2 = true then (proofmarklaw30_ReportClauses.l0 k x7 bt278.1 bt278.2 (wrap64 (x14 + 1)) x244000 x244001 x244002 x244003 x244004 x253000 x253001 x253002 x253003 x270000 x270001 x270002 x270003 x270004) else (some false)))
def proofmarklaw30_ReportClauses.l1 : Nat → Bool → ByteArray → Int → ByteArray → Int → List (S96) → List (S111) → List (S94) → List (S73) → List (S111) → Int → Int → List (List Int) → List (List Int) → Int → List (S201) → List (S202) → List (S98) → List (S204) → Option (Bool)
  | 0, _, _, _, _, _, _, _, _, _, _, _, _, _, _, _, _, _, _, _ => none
  | k + 1, x7, x11, x14, x15, x16, x244000, x244001, x244002, x244003, x244004, x253000, x253001, x253002, x253003, x270000, x270001, x270002, x270003, x270004 => if x16 < (x11.size : Int) then (if 0 ≤ x16 then (if (bt x11 x16) = 10 then (proofmarklaw30_ReportClauses.j3 k x7 x11 x14 x15 x244000 x244001 x244002 x244003 x244004 x253000 x253001 x253002 x253003 x270000 x270001 x270002 x270003 x270004) else (if 0 ≤ (wrap64 (x16 + 1)) then (if (wrap64 (x16 + 1)) ≤ (x11.size : Int) then (proofmarklaw30_ReportClauses.l1 k x7 x11 x14 (x11.extract 0 ((wrap64 (x16 + 1)) : Int).toNat) (wrap64 (x16 + 1)) x244000 x244001 x244002 x244003 x244004 x253000 x253001 x253002 x253003 x270000 x270001 x270002 x270003 x270004) else (none)) else (none))) else (none)) else (proofmarklaw30_ReportClauses.j3 k x7 x11 x14 x15 x244000 x244001 x244002 x244003 x244004 x253000 x253001 x253002 x253003 x270000 x270001 x270002 x270003 x270004)
end
def proofmarklaw30_ReportClauses.f (k : Nat) (l0_0 : List (S96)) (l0_1 : List (S111)) (l0_2 : List (S94)) (l0_3 : List (S73)) (l0_4 : List (S111)) (a1_0 : Int) (a1_1 : Int) (l1_2 : List (List Int)) (l1_3 : List (List Int)) (a2 : Int) : Option (Bool) := (proofmarklaw30_head.f k).bind fun t227 => ((proofmarklaw30_tidy.f k l0_0 l0_1 l0_2 l0_3 l0_4).bind fun bt228 => ((proofmarkref30_Fit.f k a1_0 a1_1 l1_2 l1_3).bind fun bt244 => ((report_Verdict.f k bt228.1 bt228.2.1 bt228.2.2.1 bt228.2.2.2.1 bt228.2.2.2.2 a2 2 bt244.2.1 bt244.2.2.1 bt244.2.2.2).bind fun t253 => (if a2 < 0 then (proofmarklaw30_ReportClauses.j0 k t227 t253 true bt228.1 bt228.2.1 bt228.2.2.1 bt228.2.2.2.1 bt228.2.2.2.2 2 bt244.2.1 bt244.2.2.1 bt244.2.2.2) else (proofmarklaw30_ReportClauses.j0 k t227 t253 (decide (a2 ≥ (bt228.2.2.2.1.length : Int))) bt228.1 bt228.2.1 bt228.2.2.1 bt228.2.2.2.1 bt228.2.2.2.2 2 bt244.2.1 bt244.2.2.1 bt244.2.2.2)))))
theorem proofmarklaw30_ReportClauses.mono_l : ∀ k, (∀ y0 y1 y2 y3 y4 y5 y6 y7 y8 y9 y10 y11, LeO (proofmarklaw30_ReportClauses.j0 k y0 y1 y2 y3 y4 y5 y6 y7 y8 y9 y10 y11) (proofmarklaw30_ReportClauses.j0 (k + 1) y0 y1 y2 y3 y4 y5 y6 y7 y8 y9 y10 y11)) ∧ (∀ y0 y1 y2 y3 y4 y5 y6 y7 y8 y9 y10 y11 y12 y13 y14 y15 y16 y17, LeO (proofmarklaw30_ReportClauses.l0 k y0 y1 y2 y3 y4 y5 y6 y7 y8 y9 y10 y11 y12 y13 y14 y15 y16 y17) (proofmarklaw30_ReportClauses.l0 (k + 1) y0 y1 y2 y3 y4 y5 y6 y7 y8 y9 y10 y11 y12 y13 y14 y15 y16 y17)) ∧ (∀ y0 y1 y2 y3 y4 y5 y6 y7 y8 y9 y10 y11 y12 y13 y14 y15 y16 y17, LeO (proofmarklaw30_ReportClauses.j3 k y0 y1 y2 y3 y4 y5 y6 y7 y8 y9 y10 y11 y12 y13 y14 y15 y16 y17) (proofmarklaw30_ReportClauses.j3 (k + 1) y0 y1 y2 y3 y4 y5 y6 y7 y8 y9 y10 y11 y12 y13 y14 y15 y16 y17)) ∧ (∀ y0 y1 y2 y3 y4 y5 y6 y7 y8 y9 y10 y11 y12 y13 y14 y15 y16 y17, LeO (proofmarklaw30_ReportClauses.j4 k y0 y1 y2 y3 y4 y5 y6 y7 y8 y9 y10 y11 y12 y13 y14 y15 y16 y17) (proofmarklaw30_ReportClauses.j4 (k + 1) y0 y1 y2 y3 y4 y5 y6 y7 y8 y9 y10 y11 y12 y13 y14 y15 y16 y17)) ∧ (∀ y0 y1 y2 y3 y4 y5 y6 y7 y8 y9 y10 y11 y12 y13 y14 y15 y16 y17 y18, LeO (proofmarklaw30_ReportClauses.l1 k y0 y1 y2 y3 y4 y5 y6 y7 y8 y9 y10 y11 y12 y13 y14 y15 y16 y17 y18) (proofmarklaw30_ReportClauses.l1 (k + 1) y0 y1 y2 y3 y4 y5 y6 y7 y8 y9 y10 y11 y12 y13 y14 y15 y16 y17 y18))
  | 0 => ⟨fun _ _ _ _ _ _ _ _ _ _ _ _ r h => by simp [proofmarklaw30_ReportClauses.j0] at h, fun _ _ _ _ _ _ _ _ _ _ _ _ _ _ _ _ _ _ r h => by simp [proofmarklaw30_ReportClauses.l0] at h, fun _ _ _ _ _ _ _ _ _ _ _ _ _ _ _ _ _ _ r h => by simp [proofmarklaw30_ReportClauses.j3] at h, fun _ _ _ _ _ _ _ _ _ _ _ _ _ _ _ _ _ _ r h => by simp [proofmarklaw30_ReportClauses.j4] at h, fun _ _ _ _ _ _ _ _ _ _ _ _ _ _ _ _ _ _ _ r h => by simp [proofmarklaw30_ReportClauses.l1] at h⟩
  | k + 1 => by
    obtain ⟨ih0, ih1, ih2, ih3, ih4⟩ := proofmarklaw30_ReportClauses.mono_l k
    refine ⟨?_, ?_, ?_, ?_, ?_⟩
    · intro y0 y1 y2 y3 y4 y5 y6 y7 y8 y9 y10 y11
      unfold proofmarklaw30_ReportClauses.j0
      repeat' first
      | (with_reducible exact ih0 _ _ _ _ _ _ _ _ _ _ _ _)
      | (with_reducible exact ih1 _ _ _ _ _ _ _ _ _ _ _ _ _ _ _ _ _ _)
      | (with_reducible exact ih2 _ _ _ _ _ _ _ _ _ _ _ _ _ _ _ _ _ _)
      | (with_reducible exact ih3 _ _ _ _ _ _ _ _ _ _ _ _ _ _ _ _ _ _)
      | (with_reducible exact ih4 _ _ _ _ _ _ _ _ _ _ _ _ _ _ _ _ _ _ _)
      | (with_reducible exact proofmarklaw30_behind.mono _ _)
      | (with_reducible exact proofmarklaw30_head.mono _)
      | (with_reducible exact proofmarklaw30_tidy.mono _ _ _ _ _ _)
      | (with_reducible exact proofmarkref27_SameInts.mono _ _ _)
      | (with_reducible exact proofmarkref30_Bits.mono _ _ _ _ _ _)
      | (with_reducible exact proofmarkref30_Fit.mono _ _ _ _ _)
      | (with_reducible exact report_Verdict.mono _ _ _ _ _ _ _ _ _ _ _)
      | (with_reducible exact LeO.refl _)
      | (with_reducible exact LeO.none _)
      | (with_reducible refine LeO.ite ?_ ?_)
      | (with_reducible refine LeO.bind ?_ (fun _ => ?_))
      | exact ih0 _ _ _ _ _ _ _ _ _ _ _ _
      | exact ih1 _ _ _ _ _ _ _ _ _ _ _ _ _ _ _ _ _ _
      | exact ih2 _ _ _ _ _ _ _ _ _ _ _ _ _ _ _ _ _ _
      | exact ih3 _ _ _ _ _ _ _ _ _ _ _ _ _ _ _ _ _ _
      | exact ih4 _ _ _ _ _ _ _ _ _ _ _ _ _ _ _ _ _ _ _
      | exact proofmarklaw30_behind.mono _ _
      | exact proofmarklaw30_head.mono _
      | exact proofmarklaw30_tidy.mono _ _ _ _ _ _
      | exact proofmarkref27_SameInts.mono _ _ _
      | exact proofmarkref30_Bits.mono _ _ _ _ _ _
      | exact proofmarkref30_Fit.mono _ _ _ _ _
      | exact report_Verdict.mono _ _ _ _ _ _ _ _ _ _ _
      | exact LeO.none _
      | refine LeO.ite ?_ ?_
      | refine LeO.bind ?_ (fun _ => ?_)
    · intro y0 y1 y2 y3 y4 y5 y6 y7 y8 y9 y10 y11 y12 y13 y14 y15 y16 y17
      unfold proofmarklaw30_ReportClauses.l0
      repeat' first
      | (with_reducible exact ih0 _ _ _ _ _ _ _ _ _ _ _ _)
      | (with_reducible exact ih1 _ _ _ _ _ _ _ _ _ _ _ _ _ _ _ _ _ _)
      | (with_reducible exact ih2 _ _ _ _ _ _ _ _ _ _ _ _ _ _ _ _ _ _)
      | (with_reducible exact ih3 _ _ _ _ _ _ _ _ _ _ _ _ _ _ _ _ _ _)
      | (with_reducible exact ih4 _ _ _ _ _ _ _ _ _ _ _ _ _ _ _ _ _ _ _)
      | (with_reducible exact proofmarklaw30_behind.mono _ _)
      | (with_reducible exact proofmarklaw30_head.mono _)
      | (with_reducible exact proofmarklaw30_tidy.mono _ _ _ _ _ _)
      | (with_reducible exact proofmarkref27_SameInts.mono _ _ _)
      | (with_reducible exact proofmarkref30_Bits.mono _ _ _ _ _ _)
      | (with_reducible exact proofmarkref30_Fit.mono _ _ _ _ _)
      | (with_reducible exact report_Verdict.mono _ _ _ _ _ _ _ _ _ _ _)
      | (with_reducible exact LeO.refl _)
      | (with_reducible exact LeO.none _)
      | (with_reducible refine LeO.ite ?_ ?_)
      | (with_reducible refine LeO.bind ?_ (fun _ => ?_))
      | exact ih0 _ _ _ _ _ _ _ _ _ _ _ _
      | exact ih1 _ _ _ _ _ _ _ _ _ _ _ _ _ _ _ _ _ _
      | exact ih2 _ _ _ _ _ _ _ _ _ _ _ _ _ _ _ _ _ _
      | exact ih3 _ _ _ _ _ _ _ _ _ _ _ _ _ _ _ _ _ _
      | exact ih4 _ _ _ _ _ _ _ _ _ _ _ _ _ _ _ _ _ _ _
      | exact proofmarklaw30_behind.mono _ _
      | exact proofmarklaw30_head.mono _
      | exact proofmarklaw30_tidy.mono _ _ _ _ _ _
      | exact proofmarkref27_SameInts.mono _ _ _
      | exact proofmarkref30_Bits.mono _ _ _ _ _ _
      | exact proofmarkref30_Fit.mono _ _ _ _ _
      | exact report_Verdict.mono _ _ _ _ _ _ _ _ _ _ _
      | exact LeO.none _
      | refine LeO.ite ?_ ?_
      | refine LeO.bind ?_ (fun _ => ?_)
    · intro y0 y1 y2 y3 y4 y5 y6 y7 y8 y9 y10 y11 y12 y13 y14 y15 y16 y17
      unfold proofmarklaw30_ReportClauses.j3
      repeat' first
      | (with_reducible exact ih0 _ _ _ _ _ _ _ _ _ _ _ _)
      | (with_reducible exact ih1 _ _ _ _ _ _ _ _ _ _ _ _ _ _ _ _ _ _)
      | (with_reducible exact ih2 _ _ _ _ _ _ _ _ _ _ _ _ _ _ _ _ _ _)
      | (with_reducible exact ih3 _ _ _ _ _ _ _ _ _ _ _ _ _ _ _ _ _ _)
      | (with_reducible exact ih4 _ _ _ _ _ _ _ _ _ _ _ _ _ _ _ _ _ _ _)
      | (with_reducible exact proofmarklaw30_behind.mono _ _)
      | (with_reducible exact proofmarklaw30_head.mono _)
      | (with_reducible exact proofmarklaw30_tidy.mono _ _ _ _ _ _)
      | (with_reducible exact proofmarkref27_SameInts.mono _ _ _)
      | (with_reducible exact proofmarkref30_Bits.mono _ _ _ _ _ _)
      | (with_reducible exact proofmarkref30_Fit.mono _ _ _ _ _)
      | (with_reducible exact report_Verdict.mono _ _ _ _ _ _ _ _ _ _ _)
      | (with_reducible exact LeO.refl _)
      | (with_reducible exact LeO.none _)
      | (with_reducible refine LeO.ite ?_ ?_)
      | (with_reducible refine LeO.bind ?_ (fun _ => ?_))
      | exact ih0 _ _ _ _ _ _ _ _ _ _ _ _
      | exact ih1 _ _ _ _ _ _ _ _ _ _ _ _ _ _ _ _ _ _
      | exact ih2 _ _ _ _ _ _ _ _ _ _ _ _ _ _ _ _ _ _
      | exact ih3 _ _ _ _ _ _ _ _ _ _ _ _ _ _ _ _ _ _
      | exact ih4 _ _ _ _ _ _ _ _ _ _ _ _ _ _ _ _ _ _ _
      | exact proofmarklaw30_behind.mono _ _
      | exact proofmarklaw30_head.mono _
      | exact proofmarklaw30_tidy.mono _ _ _ _ _ _
      | exact proofmarkref27_SameInts.mono _ _ _
      | exact proofmarkref30_Bits.mono _ _ _ _ _ _
      | exact proofmarkref30_Fit.mono _ _ _ _ _
      | exact report_Verdict.mono _ _ _ _ _ _ _ _ _ _ _
      | exact LeO.none _
      | refine LeO.ite ?_ ?_
      | refine LeO.bind ?_ (fun _ => ?_)
    · intro y0 y1 y2 y3 y4 y5 y6 y7 y8 y9 y10 y11 y12 y13 y14 y15 y16 y17
      unfold proofmarklaw30_ReportClauses.j4
      repeat' first
      | (with_reducible exact ih0 _ _ _ _ _ _ _ _ _ _ _ _)
      | (with_reducible exact ih1 _ _ _ _ _ _ _ _ _ _ _ _ _ _ _ _ _ _)
      | (with_reducible exact ih2 _ _ _ _ _ _ _ _ _ _ _ _ _ _ _ _ _ _)
      | (with_reducible exact ih3 _ _ _ _ _ _ _ _ _ _ _ _ _ _ _ _ _ _)
      | (with_reducible exact ih4 _ _ _ _ _ _ _ _ _ _ _ _ _ _ _ _ _ _ _)
      | (with_reducible exact proofmarklaw30_behind.mono _ _)
      | (with_reducible exact proofmarklaw30_head.mono _)
      | (with_reducible exact proofmarklaw30_tidy.mono _ _ _ _ _ _)
      | (with_reducible exact proofmarkref27_SameInts.mono _ _ _)
      | (with_reducible exact proofmarkref30_Bits.mono _ _ _ _ _ _)
      | (with_reducible exact proofmarkref30_Fit.mono _ _ _ _ _)
      | (with_reducible exact report_Verdict.mono _ _ _ _ _ _ _ _ _ _ _)
      | (with_reducible exact LeO.refl _)
      | (with_reducible exact LeO.none _)
      | (with_reducible refine LeO.ite ?_ ?_)
      | (with_reducible refine LeO.bind ?_ (fun _ => ?_))
      | exact ih0 _ _ _ _ _ _ _ _ _ _ _ _
      | exact ih1 _ _ _ _ _ _ _ _ _ _ _ _ _ _ _ _ _ _
      | exact ih2 _ _ _ _ _ _ _ _ _ _ _ _ _ _ _ _ _ _
      | exact ih3 _ _ _ _ _ _ _ _ _ _ _ _ _ _ _ _ _ _
      | exact ih4 _ _ _ _ _ _ _ _ _ _ _ _ _ _ _ _ _ _ _
      | exact proofmarklaw30_behind.mono _ _
      | exact proofmarklaw30_head.mono _
      | exact proofmarklaw30_tidy.mono _ _ _ _ _ _
      | exact proofmarkref27_SameInts.mono _ _ _
      | exact proofmarkref30_Bits.mono _ _ _ _ _ _
      | exact proofmarkref30_Fit.mono _ _ _ _ _
      | exact report_Verdict.mono _ _ _ _ _ _ _ _ _ _ _
      | exact LeO.none _
      | refine LeO.ite ?_ ?_
      | refine LeO.bind ?_ (fun _ => ?_)
    · intro y0 y1 y2 y3 y4 y5 y6 y7 y8 y9 y10 y11 y12 y13 y14 y15 y16 y17 y18
      unfold proofmarklaw30_ReportClauses.l1
      repeat' first
      | (with_reducible exact ih0 _ _ _ _ _ _ _ _ _ _ _ _)
      | (with_reducible exact ih1 _ _ _ _ _ _ _ _ _ _ _ _ _ _ _ _ _ _)
      | (with_reducible exact ih2 _ _ _ _ _ _ _ _ _ _ _ _ _ _ _ _ _ _)
      | (with_reducible exact ih3 _ _ _ _ _ _ _ _ _ _ _ _ _ _ _ _ _ _)
      | (with_reducible exact ih4 _ _ _ _ _ _ _ _ _ _ _ _ _ _ _ _ _ _ _)
      | (with_reducible exact proofmarklaw30_behind.mono _ _)
      | (with_reducible exact proofmarklaw30_head.mono _)
      | (with_reducible exact proofmarklaw30_tidy.mono _ _ _ _ _ _)
      | (with_reducible exact proofmarkref27_SameInts.mono _ _ _)
      | (with_reducible exact proofmarkref30_Bits.mono _ _ _ _ _ _)
      | (with_reducible exact proofmarkref30_Fit.mono _ _ _ _ _)
      | (with_reducible exact report_Verdict.mono _ _ _ _ _ _ _ _ _ _ _)
      | (with_reducible exact LeO.refl _)
      | (with_reducible exact LeO.none _)
      | (with_reducible refine LeO.ite ?_ ?_)
      | (with_reducible refine LeO.bind ?_ (fun _ => ?_))
      | exact ih0 _ _ _ _ _ _ _ _ _ _ _ _
      | exact ih1 _ _ _ _ _ _ _ _ _ _ _ _ _ _ _ _ _ _
      | exact ih2 _ _ _ _ _ _ _ _ _ _ _ _ _ _ _ _ _ _
      | exact ih3 _ _ _ _ _ _ _ _ _ _ _ _ _ _ _ _ _ _
      | exact ih4 _ _ _ _ _ _ _ _ _ _ _ _ _ _ _ _ _ _ _
      | exact proofmarklaw30_behind.mono _ _
      | exact proofmarklaw30_head.mono _
      | exact proofmarklaw30_tidy.mono _ _ _ _ _ _
      | exact proofmarkref27_SameInts.mono _ _ _
      | exact proofmarkref30_Bits.mono _ _ _ _ _ _
      | exact proofmarkref30_Fit.mono _ _ _ _ _
      | exact report_Verdict.mono _ _ _ _ _ _ _ _ _ _ _
      | exact LeO.none _
      | refine LeO.ite ?_ ?_
      | refine LeO.bind ?_ (fun _ => ?_)
theorem proofmarklaw30_ReportClauses.mono : ∀ a0 a1 a2 a3 a4 a5 a6 a7 a8 a9 k, LeO (proofmarklaw30_ReportClauses.f k a0 a1 a2 a3 a4 a5 a6 a7 a8 a9) (proofmarklaw30_ReportClauses.f (k + 1) a0 a1 a2 a3 a4 a5 a6 a7 a8 a9) := by
  intro a0 a1 a2 a3 a4 a5 a6 a7 a8 a9 k
  obtain ⟨ih0, ih1, ih2, ih3, ih4⟩ := proofmarklaw30_ReportClauses.mono_l k
  unfold proofmarklaw30_ReportClauses.f
  repeat' first
      | (with_reducible exact ih0 _ _ _ _ _ _ _ _ _ _ _ _)
      | (with_reducible exact ih1 _ _ _ _ _ _ _ _ _ _ _ _ _ _ _ _ _ _)
      | (with_reducible exact ih2 _ _ _ _ _ _ _ _ _ _ _ _ _ _ _ _ _ _)
      | (with_reducible exact ih3 _ _ _ _ _ _ _ _ _ _ _ _ _ _ _ _ _ _)
      | (with_reducible exact ih4 _ _ _ _ _ _ _ _ _ _ _ _ _ _ _ _ _ _ _)
      | (with_reducible exact proofmarklaw30_behind.mono _ _)
      | (with_reducible exact proofmarklaw30_head.mono _)
      | (with_reducible exact proofmarklaw30_tidy.mono _ _ _ _ _ _)
      | (with_reducible exact proofmarkref27_SameInts.mono _ _ _)
      | (with_reducible exact proofmarkref30_Bits.mono _ _ _ _ _ _)
      | (with_reducible exact proofmarkref30_Fit.mono _ _ _ _ _)
      | (with_reducible exact report_Verdict.mono _ _ _ _ _ _ _ _ _ _ _)
      | (with_reducible exact LeO.refl _)
      | (with_reducible exact LeO.none _)
      | (with_reducible refine LeO.ite ?_ ?_)
      | (with_reducible refine LeO.bind ?_ (fun _ => ?_))
      | exact ih0 _ _ _ _ _ _ _ _ _ _ _ _
      | exact ih1 _ _ _ _ _ _ _ _ _ _ _ _ _ _ _ _ _ _
      | exact ih2 _ _ _ _ _ _ _ _ _ _ _ _ _ _ _ _ _ _
      | exact ih3 _ _ _ _ _ _ _ _ _ _ _ _ _ _ _ _ _ _
      | exact ih4 _ _ _ _ _ _ _ _ _ _ _ _ _ _ _ _ _ _ _
      | exact proofmarklaw30_behind.mono _ _
      | exact proofmarklaw30_head.mono _
      | exact proofmarklaw30_tidy.mono _ _ _ _ _ _
      | exact proofmarkref27_SameInts.mono _ _ _
      | exact proofmarkref30_Bits.mono _ _ _ _ _ _
      | exact proofmarkref30_Fit.mono _ _ _ _ _
      | exact report_Verdict.mono _ _ _ _ _ _ _ _ _ _ _
      | exact LeO.none _
      | refine LeO.ite ?_ ?_
      | refine LeO.bind ?_ (fun _ => ?_)
def proofmarklaw30_ReportClauses.T19 : Bool × List (List Nat × List Nat) := (true, [([], []), ([], []), ([], []), ([], []), ([3], [3]), ([], []), ([4, 5], [4, 5]), ([6], [6]), ([1, 2, 7], [1, 2, 7]), ([0, 8], [0, 8]), ([9, 8], [9]), ([10], [10]), ([11, 10], [10, 11]), ([12, 10, 10], [10, 12]), ([13], [13]), ([14, 13], [13, 14]), ([15, 13, 13], [13, 15]), ([16], [16]), ([16], [16]), ([18, 16], [16, 18]), ([16], [16]), ([19, 20, 16], [16, 19, 20]), ([21, 16], [16, 21]), ([17, 22, 16, 16], [16, 17, 22]), ([23, 16], [16, 23]), ([16, 24, 13], [13, 16, 24]), ([13, 25, 10], [10, 13, 25]), ([10, 26], [10, 26])])
def proofmarklaw30_ReportClauses.B19 : List Nat := [0, 0, 0, 0, 8, 0, 56, 120, 254, 511, 1023, 2047, 4095, 8191, 16383, 32767, 65535, 131071, 131071, 393215, 131071, 1966079, 4063231, 8388607, 16777215, 33554431, 67108863, 134217727]
theorem proofmarklaw30_ReportClauses.tab19 : rtab .any (opsOf Tryd.f8 19) = proofmarklaw30_ReportClauses.T19 := by kernel_rfl
theorem proofmarklaw30_ReportClauses.bits19 : waitsOk proofmarklaw30_ReportClauses.T19.2 proofmarklaw30_ReportClauses.B19 = true := by kernel_rfl
set_option maxHeartbeats 8000000 in
set_option maxRecDepth 100000 in
theorem proofmarklaw30_ReportClauses.calls1 (k : Nat) (A0_0 : Option Addr) (c0_0 : Nat) (l0_0 : List (S96)) (A0_1 : Option Addr) (c0_1 : Nat) (l0_1 : List (S111)) (A0_2 : Option Addr) (c0_2 : Nat) (l0_2 : List (S94)) (A0_3 : Option Addr) (c0_3 : Nat) (l0_3 : List (S73)) (A0_4 : Option Addr) (c0_4 : Nat) (l0_4 : List (S111)) (a1_0 : Int) (a1_1 : Int) (A1_2 : Option Addr) (c1_2 : Nat) (l1_2 : List (List Int)) (A1_3 : Option Addr) (c1_3 : Nat) (l1_3 : List (List Int)) (a2 : Int) (r : Bool) (w : World) (hG : Tab w) (hr0_0 : Kd.C k96 w A0_0 l0_0.length l0_0) (hc0_0 : l0_0.length ≤ c0_0) (hr0_1 : Kd.C k111 w A0_1 l0_1.length l0_1) (hc0_1 : l0_1.length ≤ c0_1) (hr0_2 : Kd.C k94 w A0_2 l0_2.length l0_2) (hc0_2 : l0_2.length ≤ c0_2) (hr0_3 : Kd.C k73 w A0_3 l0_3.length l0_3) (hc0_3 : l0_3.length ≤ c0_3) (hr0_4 : Kd.C k111 w A0_4 l0_4.length l0_4) (hc0_4 : l0_4.length ≤ c0_4) (hr1_2 : Kd.C (Kd.slice 3 (Kd.int .i64)) w A1_2 l1_2.length l1_2) (hc1_2 : l1_2.length ≤ c1_2) (hr1_3 : Kd.C (Kd.slice 3 (Kd.int .i64)) w A1_3 l1_3.length l1_3) (hc1_3 : l1_3.length ≤ c1_3) (h : proofmarklaw30_ReportClauses.f k l0_0 l0_1 l0_2 l0_3 l0_4 a1_0 a1_1 l1_2 l1_3 a2 = some r) (hr : r = true) :
    Calls Tryd.prog 8 #[.agg #[.slice A0_0 l0_0.length c0_0, .slice A0_1 l0_1.length c0_1, .slice A0_2 l0_2.length c0_2, .slice A0_3 l0_3.length c0_3, .slice A0_4 l0_4.length c0_4], .agg #[.int .i64 a1_0, .int .i64 a1_1, .slice A1_2 l1_2.length c1_2, .slice A1_3 l1_3.length c1_3], .int .i64 a2] w fun e w' => e = .returned (.bool r) ∧ Below w.heap.size w w' := by
  have HRT := Aside0.mk hr
  clear hr
  have HG := Aside0.mk hG
  clear hG
  have hu27 := Tryd.underlying27
  have hu30 := Tryd.underlying30
  have hu53 := Tryd.underlying53
  have HR0_0 := Aside0.mk hr0_0
  have HC0_0 := Aside0.mk hc0_0
  clear hr0_0 hc0_0
  have HR0_1 := Aside0.mk hr0_1
  have HC0_1 := Aside0.mk hc0_1
  clear hr0_1 hc0_1
  have HR0_2 := Aside0.mk hr0_2
  have HC0_2 := Aside0.mk hc0_2
  clear hr0_2 hc0_2
  have HR0_3 := Aside0.mk hr0_3
  have HC0_3 := Aside0.mk hc0_3
  clear hr0_3 hc0_3
  have HR0_4 := Aside0.mk hr0_4
  have HC0_4 := Aside0.mk hc0_4
  clear hr0_4 hc0_4
  have HR1_2 := Aside0.mk hr1_2
  have HC1_2 := Aside0.mk hc1_2
  clear hr1_2 hc1_2
  have HR1_3 := Aside0.mk hr1_3
  have HC1_3 := Aside0.mk hc1_3
  clear hr1_3 hc1_3
  have HB := Aside0.mk (Below.refl w.heap.size w)
  have H : ((proofmarklaw30_head.f k).bind fun t227 => ((proofmarklaw30_tidy.f k l0_0 l0_1 l0_2 l0_3 l0_4).bind fun bt228 => ((proofmarkref30_Fit.f k a1_0 a1_1 l1_2 l1_3).bind fun bt244 => ((report_Verdict.f k bt228.1 bt228.2.1 bt228.2.2.1 bt228.2.2.2.1 bt228.2.2.2.2 a2 2 bt244.2.1 bt244.2.2.1 bt244.2.2.2).bind fun t253 => (if a2 < 0 then (proofmarklaw30_ReportClauses.j0 k t227 t253 true bt228.1 bt228.2.1 bt228.2.2.1 bt228.2.2.2.1 bt228.2.2.2.2 2 bt244.2.1 bt244.2.2.1 bt244.2.2.2) else (proofmarklaw30_ReportClauses.j0 k t227 t253 (decide (a2 ≥ (bt228.2.2.2.1.length : Int))) bt228.1 bt228.2.1 bt228.2.2.1 bt228.2.2.2.1 bt228.2.2.2.2 2 bt244.2.1 bt244.2.2.1 bt244.2.2.2)))))) = some r := h
  clear h
  replace H := Option.bind_eq_some_iff.mp H
  obtain ⟨t227, A40, H⟩ := H
  replace H : ((proofmarklaw30_tidy.f k l0_0 l0_1 l0_2 l0_3 l0_4).bind fun bt228 => ((proofmarkref30_Fit.f k a1_0 a1_1 l1_2 l1_3).bind fun bt244 => ((report_Verdict.f k bt228.1 bt228.2.1 bt228.2.2.1 bt228.2.2.2.1 bt228.2.2.2.2 a2 2 bt244.2.1 bt244.2.2.1 bt244.2.2.2).bind fun t253 => (if a2 < 0 then (proofmarklaw30_ReportClauses.j0 k t227 t253 true bt228.1 bt228.2.1 bt228.2.2.1 bt228.2.2.2.1 bt228.2.2.2.2 2 bt244.2.1 bt244.2.2.1 bt244.2.2.2) else (proofmarklaw30_ReportClauses.j0 k t227 t253 (decide (a2 ≥ (bt228.2.2.2.1.length : Int))) bt228.1 bt228.2.1 bt228.2.2.1 bt228.2.2.2.1 bt228.2.2.2.2 2 bt244.2.1 bt244.2.2.1 bt244.2.2.2))))) = some r := H
  have A4 := Aside0.mk A40
  clear A40
  replace H := Option.bind_eq_some_iff.mp H
  obtain ⟨⟨t228, t231, t234, t237, t240⟩, A50, H⟩ := H
  replace H : ((proofmarkref30_Fit.f k a1_0 a1_1 l1_2 l1_3).bind fun bt244 => ((report_Verdict.f k t228 t231 t234 t237 t240 a2 2 bt244.2.1 bt244.2.2.1 bt244.2.2.2).bind fun t253 => (if a2 < 0 then (proofmarklaw30_ReportClauses.j0 k t227 t253 true t228 t231 t234 t237 t240 2 bt244.2.1 bt244.2.2.1 bt244.2.2.2) else (proofmarklaw30_ReportClauses.j0 k t227 t253 (decide (a2 ≥ (t237.length : Int))) t228 t231 t234 t237 t240 2 bt244.2.1 bt244.2.2.1 bt244.2.2.2)))) = some r := H
  have A5 := Aside0.mk A50
  clear A50
  replace H := Option.bind_eq_some_iff.mp H
  obtain ⟨⟨t244, t245, t246, t249⟩, A60, H⟩ := H
  replace H : ((report_Verdict.f k t228 t231 t234 t237 t240 a2 2 t245 t246 t249).bind fun t253 => (if a2 < 0 then (proofmarklaw30_ReportClauses.j0 k t227 t253 true t228 t231 t234 t237 t240 2 t245 t246 t249) else (proofmarklaw30_ReportClauses.j0 k t227 t253 (decide (a2 ≥ (t237.length : Int))) t228 t231 t234 t237 t240 2 t245 t246 t249))) = some r := H
  have A6 := Aside0.mk A60
  clear A60
  replace H := Option.bind_eq_some_iff.mp H
  obtain ⟨t253, A70, H⟩ := H
  replace H : (if a2 < 0 then (proofmarklaw30_ReportClauses.j0 k t227 t253 true t228 t231 t234 t237 t240 2 t245 t246 t249) else (proofmarklaw30_ReportClauses.j0 k t227 t253 (decide (a2 ≥ (t237.length : Int))) t228 t231 t234 t237 t240 2 t245 t246 t249)) = some r := H
  have A7 := Aside0.mk A70
  clear A70
  have HC8 := Aside0.mk H
  clear H
  go_enter Tryd.func8, Tryd.ntmps8
  go_upto_region 6 with (first | ((with_reducible refine gate_dst (N := 3) rfl ?_); (try (refine gate_guard (by rfl) ?_; dsimp only)); refine box_event ?hg (N := 3) ?hd (cs := #[.slice A0_0 l0_0.length c0_0, .slice A0_1 l0_1.length c0_1, .slice A0_2 l0_2.length c0_2, .slice A0_3 l0_3.length c0_3, .slice A0_4 l0_4.length c0_4]) (t := 27) ?hr ?_; (case hd => rfl); (case hg => rfl); (case hr => first | (go_simp; done)); intro gb225 hg w9 hbox hb; have n0_ := Aside0.mk (below_step HB.out hb); have n1_ := Aside0.mk (hbox); have n2_ := Aside0.mk ((by rw [hg]; exact (below_size HB.out) : w.heap.size ≤ gb225)); have n3_ := Aside0.mk ((by rw [hg]; exact (below_size HB.out) : w.heap.size ≤ gb225)); clear HB; have HB := n0_; have BK225 := n1_; have GW225 := n2_; have GE225 := n3_; clear n0_ n1_ n2_ n3_; clear hb hbox hg) | ((with_reducible refine gate_dst (N := 4) rfl ?_); (try (refine gate_guard (by rfl) ?_; dsimp only)); refine box_event ?hg (N := 4) ?hd (cs := #[.int .i64 a1_0, .int .i64 a1_1, .slice A1_2 l1_2.length c1_2, .slice A1_3 l1_3.length c1_3]) (t := 30) ?hr ?_; (case hd => rfl); (case hg => rfl); (case hr => first | (go_simp; done)); intro gb226 hg w10 hbox hb; have n0_ := Aside0.mk (blk_below BK225.out hb); have n1_ := Aside0.mk (below_step HB.out hb); have n2_ := Aside0.mk (hbox); have n3_ := Aside0.mk ((by rw [hg]; exact (below_size HB.out) : w.heap.size ≤ gb226)); have n4_ := Aside0.mk ((by rw [hg]; exact (below_size HB.out) : w.heap.size ≤ gb226)); have n5_ := Aside0.mk ((by rw [hg]; exact Nat.ne_of_lt (blk_lt BK225.out) : gb225 ≠ gb226)); have n6_ := Aside0.mk ((by rw [hg]; exact Nat.ne_of_gt (blk_lt BK225.out) : gb226 ≠ gb225)); clear BK225; clear HB; have BK225 := n0_; have HB := n1_; have BK226 := n2_; have GW226 := n3_; have GE226 := n4_; have NB225_226 := n5_; have NB226_225 := n6_; clear n0_ n1_ n2_ n3_ n4_ n5_ n6_; clear hb hbox hg) | ((with_reducible refine gate_callee (f := 13) rfl ?_); refine goesL_ (some 19) rfl rfl Tryd.func13 (by kernel_rfl) rfl #[] rfl (by (try simp only [List.map_toArray, List.map_cons, List.map_nil]); first | done) ?_; (with_reducible refine (proofmarklaw30_head.calls k t227 _ (by first | (refine tab_below HG.out ?_; repeat (first | (with_reducible first | exact HB.out)))) A4.out).mono ?_); rintro e w11 ⟨rfl, hb⟩; refine ⟨_, rfl, ?_⟩; have n0_ := Aside0.mk (blk_below BK225.out hb); have n1_ := Aside0.mk (blk_below BK226.out hb); have n2_ := Aside0.mk (below_step HB.out hb); clear BK225; clear BK226; clear HB; have BK225 := n0_; have BK226 := n1_; have HB := n2_; clear n0_ n1_ n2_; (try clear hb); (try clear hb2); (try clear hk); (try clear hi); have hnb12 := NB225_226.out; have hnc12 := NB226_225.out; have hcz13_0 : w11.cell? ⟨gb225, 0, none⟩ = some (.slice A0_0 l0_0.length c0_0) := (blk_cell BK225.out 0).trans rfl; have hcz13_1 : w11.cell? ⟨gb225, 1, none⟩ = some (.slice A0_1 l0_1.length c0_1) := (blk_cell BK225.out 1).trans rfl; have hcz13_2 : w11.cell? ⟨gb225, 2, none⟩ = some (.slice A0_2 l0_2.length c0_2) := (blk_cell BK225.out 2).trans rfl; have hcz13_3 : w11.cell? ⟨gb225, 3, none⟩ = some (.slice A0_3 l0_3.length c0_3) := (blk_cell BK225.out 3).trans rfl; have hcz13_4 : w11.cell? ⟨gb225, 4, none⟩ = some (.slice A0_4 l0_4.length c0_4) := (blk_cell BK225.out 4).trans rfl; have hfz13_0 := blk_frozen BK225.out 0; have hfz13_1 := blk_frozen BK225.out 1; have hfz13_2 := blk_frozen BK225.out 2; have hfz13_3 := blk_frozen BK225.out 3; have hfz13_4 := blk_frozen BK225.out 4) | ((with_reducible refine gate_callee (f := 20) rfl ?_); refine goesL_ (some 21) rfl rfl Tryd.func20 (by kernel_rfl) rfl #[.agg #[.slice A0_0 l0_0.length c0_0, .slice A0_1 l0_1.length c0_1, .slice A0_2 l0_2.length c0_2, .slice A0_3 l0_3.length c0_3, .slice A0_4 l0_4.length c0_4]] rfl (by (try simp only [List.map_toArray, List.map_cons, List.map_nil]); first | rfl) ?_; (with_reducible refine (proofmarklaw30_tidy.calls k _ _ l0_0 _ _ l0_1 _ _ l0_2 _ _ l0_3 _ _ l0_4 t228 t231 t234 t237 t240 _ ?side1 ?side2 ?side3 ?side4 ?side5 ?side6 ?side7 ?side8 ?side9 ?side10 A5.out).mono ?_); (case side1 => repeat (first | exact (Kd.C_below HR0_0.out HB.out))); (case side2 => exact HC0_0.out); (case side3 => repeat (first | exact (Kd.C_below HR0_1.out HB.out))); (case side4 => exact HC0_1.out); (case side5 => repeat (first | exact (Kd.C_below HR0_2.out HB.out))); (case side6 => exact HC0_2.out); (case side7 => repeat (first | exact (Kd.C_below HR0_3.out HB.out))); (case side8 => exact HC0_3.out); (case side9 => repeat (first | exact (Kd.C_below HR0_4.out HB.out))); (case side10 => exact HC0_4.out); rintro e w14 ⟨v229, v232, v235, v238, v241, rfl, ho0, ho1, ho2, ho3, ho4, hb⟩; refine ⟨_, rfl, ?_⟩; have n0_ := Aside0.mk (Kd.R_lower ho0 (below_size HB.out)); have n1_ := Aside0.mk (Kd.R_lower ho1 (below_size HB.out)); have n2_ := Aside0.mk (Kd.R_lower ho2 (below_size HB.out)); have n3_ := Aside0.mk (Kd.R_lower ho3 (below_size HB.out)); have n4_ := Aside0.mk (Kd.R_lower ho4 (below_size HB.out)); have n5_ := Aside0.mk (blk_below BK225.out hb); have n6_ := Aside0.mk (blk_below BK226.out hb); have n7_ := Aside0.mk (below_step HB.out hb); clear BK225; clear BK226; clear HB; have HO230 := n0_; have HO233 := n1_; have HO236 := n2_; have HO239 := n3_; have HO242 := n4_; have BK225 := n5_; have BK226 := n6_; have HB := n7_; clear n0_ n1_ n2_ n3_ n4_ n5_ n6_ n7_; (try clear hb); (try clear hb2); (try clear hk); (try clear hi); (try clear ho0); (try clear ho1); (try clear ho2); (try clear ho3); (try clear ho4)) | ((with_reducible refine gate_dst (N := 8) rfl ?_); (try (refine gate_guard (by rfl) ?_; dsimp only)); refine box_event ?hg (N := 8) ?hd (cs := #[.slice none 0 0, .slice none 0 0, .slice none 0 0, .slice none 0 0, .slice none 0 0]) (t := 27) ?hr ?_; (case hd => rfl); (case hg => rfl); (case hr => first | (go_simp; done)); intro gb243 hg w15 hbox hb; have n0_ := Aside0.mk (Kd.R_below HO230.out hb); have n1_ := Aside0.mk (Kd.R_below HO233.out hb); have n2_ := Aside0.mk (Kd.R_below HO236.out hb); have n3_ := Aside0.mk (Kd.R_below HO239.out hb); have n4_ := Aside0.mk (Kd.R_below HO242.out hb); have n5_ := Aside0.mk (blk_below BK225.out hb); have n6_ := Aside0.mk (blk_below BK226.out hb); have n7_ := Aside0.mk (below_step HB.out hb); have n8_ := Aside0.mk (hbox); have n9_ := Aside0.mk ((by rw [hg]; exact (below_size HB.out) : w.heap.size ≤ gb243)); have n10_ := Aside0.mk ((by rw [hg]; exact (below_size HB.out) : w.heap.size ≤ gb243)); have n11_ := Aside0.mk ((by rw [hg]; exact Nat.ne_of_lt (blk_lt BK225.out) : gb225 ≠ gb243)); have n12_ := Aside0.mk ((by rw [hg]; exact Nat.ne_of_gt (blk_lt BK225.out) : gb243 ≠ gb225)); have n13_ := Aside0.mk ((by rw [hg]; exact Nat.ne_of_lt (blk_lt BK226.out) : gb226 ≠ gb243)); have n14_ := Aside0.mk ((by rw [hg]; exact Nat.ne_of_gt (blk_lt BK226.out) : gb243 ≠ gb226)); clear HO230; clear HO233; clear HO236; clear HO239; clear HO242; clear BK225; clear BK226; clear HB; have HO230 := n0_; have HO233 := n1_; have HO236 := n2_; have HO239 := n3_; have HO242 := n4_; have BK225 := n5_; have BK226 := n6_; have HB := n7_; have BK243 := n8_; have GW243 := n9_; have GE243 := n10_; have NB225_243 := n11_; have NB243_225 := n12_; have NB226_243 := n13_; have NB243_226 := n14_; clear n0_ n1_ n2_ n3_ n4_ n5_ n6_ n7_ n8_ n9_ n10_ n11_ n12_ n13_ n14_; clear hb hbox hg; obtain ⟨Ao16, co16, eo16⟩ := Kd.R_slice HO230.out; subst eo16; have hnb17 := NB243_225.out; have hnc17 := NB225_243.out; have hnb18 := NB243_226.out; have hnc18 := NB226_243.out; have hcz19_0 : w15.cell? ⟨gb243, 0, none⟩ = some (.slice none 0 0) := (blk_cell BK243.out 0).trans rfl; have hcz19_1 : w15.cell? ⟨gb243, 1, none⟩ = some (.slice none 0 0) := (blk_cell BK243.out 1).trans rfl; have hcz19_2 : w15.cell? ⟨gb243, 2, none⟩ = some (.slice none 0 0) := (blk_cell BK243.out 2).trans rfl; have hcz19_3 : w15.cell? ⟨gb243, 3, none⟩ = some (.slice none 0 0) := (blk_cell BK243.out 3).trans rfl; have hcz19_4 : w15.cell? ⟨gb243, 4, none⟩ = some (.slice none 0 0) := (blk_cell BK243.out 4).trans rfl; have hfz19_0 := blk_frozen BK243.out 0; have hfz19_1 := blk_frozen BK243.out 1; have hfz19_2 := blk_frozen BK243.out 2; have hfz19_3 := blk_frozen BK243.out 3; have hfz19_4 := blk_frozen BK243.out 4; obtain ⟨Ao20, co20, eo20⟩ := Kd.R_slice HO233.out; subst eo20; obtain ⟨Ao21, co21, eo21⟩ := Kd.R_slice HO236.out; subst eo21; obtain ⟨Ao22, co22, eo22⟩ := Kd.R_slice HO239.out; subst eo22; obtain ⟨Ao23, co23, eo23⟩ := Kd.R_slice HO242.out; subst eo23; have hcz24_0 : w15.cell? ⟨gb226, 0, none⟩ = some (.int .i64 a1_0) := (blk_cell BK226.out 0).trans rfl; have hcz24_1 : w15.cell? ⟨gb226, 1, none⟩ = some (.int .i64 a1_1) := (blk_cell BK226.out 1).trans rfl; have hcz24_2 : w15.cell? ⟨gb226, 2, none⟩ = some (.slice A1_2 l1_2.length c1_2) := (blk_cell BK226.out 2).trans rfl; have hcz24_3 : w15.cell? ⟨gb226, 3, none⟩ = some (.slice A1_3 l1_3.length c1_3) := (blk_cell BK226.out 3).trans rfl; have hfz24_0 := blk_frozen BK226.out 0; have hfz24_1 := blk_frozen BK226.out 1; have hfz24_2 := blk_frozen BK226.out 2; have hfz24_3 := blk_frozen BK226.out 3) | ((with_reducible refine gate_callee (f := 15) rfl ?_); refine goesL_ (some 23) rfl rfl Tryd.func15 (by kernel_rfl) rfl #[.agg #[.int .i64 a1_0, .int .i64 a1_1, .slice A1_2 l1_2.length c1_2, .slice A1_3 l1_3.length c1_3]] rfl (by (try simp only [List.map_toArray, List.map_cons, List.map_nil]); first | rfl) ?_; (with_reducible refine (proofmarkref30_Fit.calls k a1_0 a1_1 _ _ l1_2 _ _ l1_3 t244 t245 t246 t249 _ ?side1 ?side2 ?side3 ?side4 A6.out).mono ?_); (case side1 => exact Kd.C_below HR1_2.out (by repeat (first | (with_reducible first | exact HB.out | refine below_set ?_ GE243.out)))); (case side2 => exact HC1_2.out); (case side3 => exact Kd.C_below HR1_3.out (by repeat (first | (with_reducible first | exact HB.out | refine below_set ?_ GE243.out)))); (case side4 => exact HC1_3.out); rintro e w25 ⟨v247, v250, rfl, ho0, ho1, hb⟩; refine ⟨_, rfl, ?_⟩; have n0_ := Aside0.mk (Kd.R_below (by exact (Kd.R_mono (Kd.R_far (p := ⟨gb243, 4, none⟩) (Kd.R_far (p := ⟨gb243, 3, none⟩) (Kd.R_far (p := ⟨gb243, 2, none⟩) (Kd.R_far (p := ⟨gb243, 1, none⟩) (Kd.R_far (p := ⟨gb243, 0, none⟩) (Kd.R_types HO230.out BK243.out (by decide)) (fun _ hk => hk.2) (.slice Ao16 t228.length co16)) (fun _ hk => hk.2) (.slice Ao20 t231.length co20)) (fun _ hk => hk.2) (.slice Ao21 t234.length co21)) (fun _ hk => hk.2) (.slice Ao22 t237.length co22)) (fun _ hk => hk.2) (.slice Ao23 t240.length co23)) (fun _ h_ => h_.1))) hb); have n1_ := Aside0.mk (Kd.R_below (by exact (Kd.R_mono (Kd.R_far (p := ⟨gb243, 4, none⟩) (Kd.R_far (p := ⟨gb243, 3, none⟩) (Kd.R_far (p := ⟨gb243, 2, none⟩) (Kd.R_far (p := ⟨gb243, 1, none⟩) (Kd.R_far (p := ⟨gb243, 0, none⟩) (Kd.R_types HO233.out BK243.out (by decide)) (fun _ hk => hk.2) (.slice Ao16 t228.length co16)) (fun _ hk => hk.2) (.slice Ao20 t231.length co20)) (fun _ hk => hk.2) (.slice Ao21 t234.length co21)) (fun _ hk => hk.2) (.slice Ao22 t237.length co22)) (fun _ hk => hk.2) (.slice Ao23 t240.length co23)) (fun _ h_ => h_.1))) hb); have n2_ := Aside0.mk (Kd.R_below (by exact (Kd.R_mono (Kd.R_far (p := ⟨gb243, 4, none⟩) (Kd.R_far (p := ⟨gb243, 3, none⟩) (Kd.R_far (p := ⟨gb243, 2, none⟩) (Kd.R_far (p := ⟨gb243, 1, none⟩) (Kd.R_far (p := ⟨gb243, 0, none⟩) (Kd.R_types HO236.out BK243.out (by decide)) (fun _ hk => hk.2) (.slice Ao16 t228.length co16)) (fun _ hk => hk.2) (.slice Ao20 t231.length co20)) (fun _ hk => hk.2) (.slice Ao21 t234.length co21)) (fun _ hk => hk.2) (.slice Ao22 t237.length co22)) (fun _ hk => hk.2) (.slice Ao23 t240.length co23)) (fun _ h_ => h_.1))) hb); have n3_ := Aside0.mk (Kd.R_below (by exact (Kd.R_mono (Kd.R_far (p := ⟨gb243, 4, none⟩) (Kd.R_far (p := ⟨gb243, 3, none⟩) (Kd.R_far (p := ⟨gb243, 2, none⟩) (Kd.R_far (p := ⟨gb243, 1, none⟩) (Kd.R_far (p := ⟨gb243, 0, none⟩) (Kd.R_types HO239.out BK243.out (by decide)) (fun _ hk => hk.2) (.slice Ao16 t228.length co16)) (fun _ hk => hk.2) (.slice Ao20 t231.length co20)) (fun _ hk => hk.2) (.slice Ao21 t234.length co21)) (fun _ hk => hk.2) (.slice Ao22 t237.length co22)) (fun _ hk => hk.2) (.slice Ao23 t240.length co23)) (fun _ h_ => h_.1))) hb); have n4_ := Aside0.mk (Kd.R_below (by exact (Kd.R_mono (Kd.R_far (p := ⟨gb243, 4, none⟩) (Kd.R_far (p := ⟨gb243, 3, none⟩) (Kd.R_far (p := ⟨gb243, 2, none⟩) (Kd.R_far (p := ⟨gb243, 1, none⟩) (Kd.R_far (p := ⟨gb243, 0, none⟩) (Kd.R_types HO242.out BK243.out (by decide)) (fun _ hk => hk.2) (.slice Ao16 t228.length co16)) (fun _ hk => hk.2) (.slice Ao20 t231.length co20)) (fun _ hk => hk.2) (.slice Ao21 t234.length co21)) (fun _ hk => hk.2) (.slice Ao22 t237.length co22)) (fun _ hk => hk.2) (.slice Ao23 t240.length co23)) (fun _ h_ => h_.1))) hb); have n5_ := Aside0.mk (Kd.S_lower ho0 (below_size (by repeat (first | (with_reducible first | exact HB.out | refine below_set ?_ GE243.out))))); have n6_ := Aside0.mk (Kd.S_lower ho1 (below_size (by repeat (first | (with_reducible first | exact HB.out | refine below_set ?_ GE243.out))))); have n7_ := Aside0.mk (blk_below (g := gb225) (o := .cells #[.slice A0_0 l0_0.length c0_0, .slice A0_1 l0_1.length c0_1, .slice A0_2 l0_2.length c0_2, .slice A0_3 l0_3.length c0_3, .slice A0_4 l0_4.length c0_4] 27 (0, 0)) (by refine blk_far ?_ NB225_243.out _; refine blk_far ?_ NB225_243.out _; refine blk_far ?_ NB225_243.out _; refine blk_far ?_ NB225_243.out _; refine blk_far ?_ NB225_243.out _; exact BK225.out) hb); have n8_ := Aside0.mk (blk_below (g := gb226) (o := .cells #[.int .i64 a1_0, .int .i64 a1_1, .slice A1_2 l1_2.length c1_2, .slice A1_3 l1_3.length c1_3] 30 (0, 0)) (by refine blk_far ?_ NB226_243.out _; refine blk_far ?_ NB226_243.out _; refine blk_far ?_ NB226_243.out _; refine blk_far ?_ NB226_243.out _; refine blk_far ?_ NB226_243.out _; exact BK226.out) hb); have n9_ := Aside0.mk (blk_below (g := gb243) (o := .cells #[.slice Ao16 t228.length co16, .slice Ao20 t231.length co20, .slice Ao21 t234.length co21, .slice Ao22 t237.length co22, .slice Ao23 t240.length co23] 27 (0, 0)) (by refine blk_put (cs := #[.slice Ao16 t228.length co16, .slice Ao20 t231.length co20, .slice Ao21 t234.length co21, .slice Ao22 t237.length co22, .slice none 0 0]) ?_ 4 _ rfl; refine blk_put (cs := #[.slice Ao16 t228.length co16, .slice Ao20 t231.length co20, .slice Ao21 t234.length co21, .slice none 0 0, .slice none 0 0]) ?_ 3 _ rfl; refine blk_put (cs := #[.slice Ao16 t228.length co16, .slice Ao20 t231.length co20, .slice none 0 0, .slice none 0 0, .slice none 0 0]) ?_ 2 _ rfl; refine blk_put (cs := #[.slice Ao16 t228.length co16, .slice none 0 0, .slice none 0 0, .slice none 0 0, .slice none 0 0]) ?_ 1 _ rfl; refine blk_put (cs := #[.slice none 0 0, .slice none 0 0, .slice none 0 0, .slice none 0 0, .slice none 0 0]) ?_ 0 _ rfl; exact BK243.out) hb); have n10_ := Aside0.mk (below_step (by repeat (first | (with_reducible first | exact HB.out | refine below_set ?_ GE243.out))) hb); clear HO230; clear HO233; clear HO236; clear HO239; clear HO242; clear BK225; clear BK226; clear BK243; clear HB; have HO230 := n0_; have HO233 := n1_; have HO236 := n2_; have HO239 := n3_; have HO242 := n4_; have HO248 := n5_; have HO251 := n6_; have BK225 := n7_; have BK226 := n8_; have BK243 := n9_; have HB := n10_; clear n0_ n1_ n2_ n3_ n4_ n5_ n6_ n7_ n8_ n9_ n10_; (try clear hb); (try clear hb2); (try clear hk); (try clear hi); (try clear ho0); (try clear ho1)) | ((with_reducible refine gate_dst (N := 9) rfl ?_); (try (refine gate_guard (by rfl) ?_; dsimp only)); refine box_event ?hg (N := 9) ?hd (cs := #[.int .i64 0, .int .i64 0, .slice none 0 0, .slice none 0 0]) (t := 30) ?hr ?_; (case hd => rfl); (case hg => rfl); (case hr => first | (go_simp; done)); intro gb252 hg w26 hbox hb; have n0_ := Aside0.mk (Kd.R_below HO230.out hb); have n1_ := Aside0.mk (Kd.R_below HO233.out hb); have n2_ := Aside0.mk (Kd.R_below HO236.out hb); have n3_ := Aside0.mk (Kd.R_below HO239.out hb); have n4_ := Aside0.mk (Kd.R_below HO242.out hb); have n5_ := Aside0.mk (Kd.S_below HO248.out hb); have n6_ := Aside0.mk (Kd.S_below HO251.out hb); have n7_ := Aside0.mk (blk_below BK225.out hb); have n8_ := Aside0.mk (blk_below BK226.out hb); have n9_ := Aside0.mk (blk_below BK243.out hb); have n10_ := Aside0.mk (below_step HB.out hb); have n11_ := Aside0.mk (hbox); have n12_ := Aside0.mk ((by rw [hg]; exact (below_size HB.out) : w.heap.size ≤ gb252)); have n13_ := Aside0.mk ((by rw [hg]; exact (below_size HB.out) : w.heap.size ≤ gb252)); have n14_ := Aside0.mk ((by rw [hg]; exact Nat.ne_of_lt (blk_lt BK225.out) : gb225 ≠ gb252)); have n15_ := Aside0.mk ((by rw [hg]; exact Nat.ne_of_gt (blk_lt BK225.out) : gb252 ≠ gb225)); have n16_ := Aside0.mk ((by rw [hg]; exact Nat.ne_of_lt (blk_lt BK226.out) : gb226 ≠ gb252)); have n17_ := Aside0.mk ((by rw [hg]; exact Nat.ne_of_gt (blk_lt BK226.out) : gb252 ≠ gb226)); have n18_ := Aside0.mk ((by rw [hg]; exact Nat.ne_of_lt (blk_lt BK243.out) : gb243 ≠ gb252)); have n19_ := Aside0.mk ((by rw [hg]; exact Nat.ne_of_gt (blk_lt BK243.out) : gb252 ≠ gb243)); clear HO230; clear HO233; clear HO236; clear HO239; clear HO242; clear HO248; clear HO251; clear BK225; clear BK226; clear BK243; clear HB; have HO230 := n0_; have HO233 := n1_; have HO236 := n2_; have HO239 := n3_; have HO242 := n4_; have HO248 := n5_; have HO251 := n6_; have BK225 := n7_; have BK226 := n8_; have BK243 := n9_; have HB := n10_; have BK252 := n11_; have GW252 := n12_; have GE252 := n13_; have NB225_252 := n14_; have NB252_225 := n15_; have NB226_252 := n16_; have NB252_226 := n17_; have NB243_252 := n18_; have NB252_243 := n19_; clear n0_ n1_ n2_ n3_ n4_ n5_ n6_ n7_ n8_ n9_ n10_ n11_ n12_ n13_ n14_ n15_ n16_ n17_ n18_ n19_; clear hb hbox hg; have hnb27 := NB252_225.out; have hnc27 := NB225_252.out; have hnb28 := NB252_226.out; have hnc28 := NB226_252.out; have hnb29 := NB252_243.out; have hnc29 := NB243_252.out; have hcz30_0 : w26.cell? ⟨gb252, 0, none⟩ = some (.int .i64 0) := (blk_cell BK252.out 0).trans rfl; have hcz30_1 : w26.cell? ⟨gb252, 1, none⟩ = some (.int .i64 0) := (blk_cell BK252.out 1).trans rfl; have hcz30_2 : w26.cell? ⟨gb252, 2, none⟩ = some (.slice none 0 0) := (blk_cell BK252.out 2).trans rfl; have hcz30_3 : w26.cell? ⟨gb252, 3, none⟩ = some (.slice none 0 0) := (blk_cell BK252.out 3).trans rfl; have hfz30_0 := blk_frozen BK252.out 0; have hfz30_1 := blk_frozen BK252.out 1; have hfz30_2 := blk_frozen BK252.out 2; have hfz30_3 := blk_frozen BK252.out 3; obtain ⟨Ao31, co31, eo31⟩ := Kd.S_slice HO248.out; subst eo31; obtain ⟨Ao32, co32, eo32⟩ := Kd.S_slice HO251.out; subst eo32; have hcz33_0 : w26.cell? ⟨gb243, 0, none⟩ = some (.slice Ao16 t228.length co16) := (blk_cell BK243.out 0).trans rfl; have hcz33_1 : w26.cell? ⟨gb243, 1, none⟩ = some (.slice Ao20 t231.length co20) := (blk_cell BK243.out 1).trans rfl; have hcz33_2 : w26.cell? ⟨gb243, 2, none⟩ = some (.slice Ao21 t234.length co21) := (blk_cell BK243.out 2).trans rfl; have hcz33_3 : w26.cell? ⟨gb243, 3, none⟩ = some (.slice Ao22 t237.length co22) := (blk_cell BK243.out 3).trans rfl; have hcz33_4 : w26.cell? ⟨gb243, 4, none⟩ = some (.slice Ao23 t240.length co23) := (blk_cell BK243.out 4).trans rfl; have hfz33_0 := blk_frozen BK243.out 0; have hfz33_1 := blk_frozen BK243.out 1; have hfz33_2 := blk_frozen BK243.out 2; have hfz33_3 := blk_frozen BK243.out 3; have hfz33_4 := blk_frozen BK243.out 4) | ((with_reducible refine gate_callee (f := 16) rfl ?_); refine goesL_ (some 28) rfl rfl Tryd.func16 (by kernel_rfl) rfl #[.agg #[.slice Ao16 t228.length co16, .slice Ao20 t231.length co20, .slice Ao21 t234.length co21, .slice Ao22 t237.length co22, .slice Ao23 t240.length co23], .int .i64 a2, .agg #[.int .i64 2, .int .i64 t245, .slice Ao31 t246.length co31, .slice Ao32 t249.length co32]] rfl (by (try simp only [List.map_toArray, List.map_cons, List.map_nil]); first | rfl) ?_; (with_reducible refine (report_Verdict.calls k _ _ t228 _ _ t231 _ _ t234 _ _ t237 _ _ t240 a2 2 t245 _ _ t246 _ _ t249 t253 _ (by first | (refine tab_below HG.out ?_; repeat (first | (with_reducible first | exact HB.out | refine below_set ?_ GE252.out)))) ?side1 ?side2 ?side3 ?side4 ?side5 ?side6 ?side7 ?side8 ?side9 ?side10 ?side11 ?side12 ?side13 ?side14 A7.out).mono ?_); (case side1 => refine (Kd.R_reads' (e := 96) (base := w.heap.size) (ok := fun k_ => True) (n := t228.length) (c := co16) ?_).2.2; exact (by exact (Kd.R_mono (Kd.R_far (p := ⟨gb252, 0, none⟩) (Kd.R_far (p := ⟨gb252, 3, none⟩) (Kd.R_far (p := ⟨gb252, 2, none⟩) (Kd.R_far (p := ⟨gb252, 1, none⟩) (Kd.R_far (p := ⟨gb252, 0, none⟩) (Kd.R_types HO230.out BK252.out (by decide)) (fun _ hk => hk.2) (.int .i64 t244)) (fun _ hk => hk.2) (.int .i64 t245)) (fun _ hk => hk.2) (.slice Ao31 t246.length co31)) (fun _ hk => hk.2) (.slice Ao32 t249.length co32)) (fun _ hk => hk.2) (.int .i64 2)) (fun _ h_ => h_.1)))); (case side2 => exact (Kd.R_reads' HO230.out).2.1); (case side3 => refine (Kd.R_reads' (e := 111) (base := w.heap.size) (ok := fun k_ => some k_ ≠ (.slice Ao23 t240.length co23 : Value).ownBlock) (n := t231.length) (c := co20) ?_).2.2; exact (by exact (Kd.R_mono (Kd.R_far (p := ⟨gb252, 0, none⟩) (Kd.R_far (p := ⟨gb252, 3, none⟩) (Kd.R_far (p := ⟨gb252, 2, none⟩) (Kd.R_far (p := ⟨gb252, 1, none⟩) (Kd.R_far (p := ⟨gb252, 0, none⟩) (Kd.R_types HO233.out BK252.out (by decide)) (fun _ hk => hk.2) (.int .i64 t244)) (fun _ hk => hk.2) (.int .i64 t245)) (fun _ hk => hk.2) (.slice Ao31 t246.length co31)) (fun _ hk => hk.2) (.slice Ao32 t249.length co32)) (fun _ hk => hk.2) (.int .i64 2)) (fun _ h_ => h_.1)))); (case side4 => exact (Kd.R_reads' HO233.out).2.1); (case side5 => refine (Kd.R_reads' (e := 94) (base := w.heap.size) (ok := fun k_ => True) (n := t234.length) (c := co21) ?_).2.2; exact (by exact (Kd.R_mono (Kd.R_far (p := ⟨gb252, 0, none⟩) (Kd.R_far (p := ⟨gb252, 3, none⟩) (Kd.R_far (p := ⟨gb252, 2, none⟩) (Kd.R_far (p := ⟨gb252, 1, none⟩) (Kd.R_far (p := ⟨gb252, 0, none⟩) (Kd.R_types HO236.out BK252.out (by decide)) (fun _ hk => hk.2) (.int .i64 t244)) (fun _ hk => hk.2) (.int .i64 t245)) (fun _ hk => hk.2) (.slice Ao31 t246.length co31)) (fun _ hk => hk.2) (.slice Ao32 t249.length co32)) (fun _ hk => hk.2) (.int .i64 2)) (fun _ h_ => h_.1)))); (case side6 => exact (Kd.R_reads' HO236.out).2.1); (case side7 => refine (Kd.R_reads' (e := 73) (base := w.heap.size) (ok := fun k_ => True) (n := t237.length) (c := co22) ?_).2.2; exact (by exact (Kd.R_mono (Kd.R_far (p := ⟨gb252, 0, none⟩) (Kd.R_far (p := ⟨gb252, 3, none⟩) (Kd.R_far (p := ⟨gb252, 2, none⟩) (Kd.R_far (p := ⟨gb252, 1, none⟩) (Kd.R_far (p := ⟨gb252, 0, none⟩) (Kd.R_types HO239.out BK252.out (by decide)) (fun _ hk => hk.2) (.int .i64 t244)) (fun _ hk => hk.2) (.int .i64 t245)) (fun _ hk => hk.2) (.slice Ao31 t246.length co31)) (fun _ hk => hk.2) (.slice Ao32 t249.length co32)) (fun _ hk => hk.2) (.int .i64 2)) (fun _ h_ => h_.1)))); (case side8 => exact (Kd.R_reads' HO239.out).2.1); (case side9 => refine (Kd.R_reads' (e := 111) (base := w.heap.size) (ok := fun k_ => some k_ ≠ (.slice Ao20 t231.length co20 : Value).ownBlock) (n := t240.length) (c := co23) ?_).2.2; exact (by exact (Kd.R_mono (Kd.R_far (p := ⟨gb252, 0, none⟩) (Kd.R_far (p := ⟨gb252, 3, none⟩) (Kd.R_far (p := ⟨gb252, 2, none⟩) (Kd.R_far (p := ⟨gb252, 1, none⟩) (Kd.R_far (p := ⟨gb252, 0, none⟩) (Kd.R_types HO242.out BK252.out (by decide)) (fun _ hk => hk.2) (.int .i64 t244)) (fun _ hk => hk.2) (.int .i64 t245)) (fun _ hk => hk.2) (.slice Ao31 t246.length co31)) (fun _ hk => hk.2) (.slice Ao32 t249.length co32)) (fun _ hk => hk.2) (.int .i64 2)) (fun _ h_ => h_.1)))); (case side10 => exact (Kd.R_reads' HO242.out).2.1); (case side11 => refine (Kd.S_reads' (e := 55) (base := w.heap.size) (ok := fun k_ => some k_ ≠ (.slice Ao32 t249.length co32 : Value).ownBlock) (n := t246.length) (c := co31) ?_).2.2; exact (by exact (Kd.S_mono (Kd.S_far (p := ⟨gb252, 0, none⟩) (Kd.S_far (p := ⟨gb252, 3, none⟩) (Kd.S_far (p := ⟨gb252, 2, none⟩) (Kd.S_far (p := ⟨gb252, 1, none⟩) (Kd.S_far (p := ⟨gb252, 0, none⟩) (Kd.S_types HO248.out BK252.out (by decide)) (fun _ hk => hk.2) (.int .i64 t244)) (fun _ hk => hk.2) (.int .i64 t245)) (fun _ hk => hk.2) (.slice Ao31 t246.length co31)) (fun _ hk => hk.2) (.slice Ao32 t249.length co32)) (fun _ hk => hk.2) (.int .i64 2)) (fun _ h_ => h_.1)))); (case side12 => exact (Kd.S_reads' HO248.out).2.1); (case side13 => refine (Kd.S_reads' (e := 55) (base := w.heap.size) (ok := fun k_ => some k_ ≠ (.slice Ao31 t246.length co31 : Value).ownBlock) (n := t249.length) (c := co32) ?_).2.2; exact (by exact (Kd.S_mono (Kd.S_far (p := ⟨gb252, 0, none⟩) (Kd.S_far (p := ⟨gb252, 3, none⟩) (Kd.S_far (p := ⟨gb252, 2, none⟩) (Kd.S_far (p := ⟨gb252, 1, none⟩) (Kd.S_far (p := ⟨gb252, 0, none⟩) (Kd.S_types HO251.out BK252.out (by decide)) (fun _ hk => hk.2) (.int .i64 t244)) (fun _ hk => hk.2) (.int .i64 t245)) (fun _ hk => hk.2) (.slice Ao31 t246.length co31)) (fun _ hk => hk.2) (.slice Ao32 t249.length co32)) (fun _ hk => hk.2) (.int .i64 2)) (fun _ h_ => h_.1)))); (case side14 => exact (Kd.S_reads' HO251.out).2.1); rintro e w34 ⟨rfl, hb⟩; refine ⟨_, rfl, ?_⟩; have n0_ := Aside0.mk (Kd.R_below (by exact (Kd.R_mono (Kd.R_far (p := ⟨gb252, 0, none⟩) (Kd.R_far (p := ⟨gb252, 3, none⟩) (Kd.R_far (p := ⟨gb252, 2, none⟩) (Kd.R_far (p := ⟨gb252, 1, none⟩) (Kd.R_far (p := ⟨gb252, 0, none⟩) (Kd.R_types HO230.out BK252.out (by decide)) (fun _ hk => hk.2) (.int .i64 t244)) (fun _ hk => hk.2) (.int .i64 t245)) (fun _ hk => hk.2) (.slice Ao31 t246.length co31)) (fun _ hk => hk.2) (.slice Ao32 t249.length co32)) (fun _ hk => hk.2) (.int .i64 2)) (fun _ h_ => h_.1))) hb); have n1_ := Aside0.mk (Kd.R_below (by exact (Kd.R_mono (Kd.R_far (p := ⟨gb252, 0, none⟩) (Kd.R_far (p := ⟨gb252, 3, none⟩) (Kd.R_far (p := ⟨gb252, 2, none⟩) (Kd.R_far (p := ⟨gb252, 1, none⟩) (Kd.R_far (p := ⟨gb252, 0, none⟩) (Kd.R_types HO233.out BK252.out (by decide)) (fun _ hk => hk.2) (.int .i64 t244)) (fun _ hk => hk.2) (.int .i64 t245)) (fun _ hk => hk.2) (.slice Ao31 t246.length co31)) (fun _ hk => hk.2) (.slice Ao32 t249.length co32)) (fun _ hk => hk.2) (.int .i64 2)) (fun _ h_ => h_.1))) hb); have n2_ := Aside0.mk (Kd.R_below (by exact (Kd.R_mono (Kd.R_far (p := ⟨gb252, 0, none⟩) (Kd.R_far (p := ⟨gb252, 3, none⟩) (Kd.R_far (p := ⟨gb252, 2, none⟩) (Kd.R_far (p := ⟨gb252, 1, none⟩) (Kd.R_far (p := ⟨gb252, 0, none⟩) (Kd.R_types HO236.out BK252.out (by decide)) (fun _ hk => hk.2) (.int .i64 t244)) (fun _ hk => hk.2) (.int .i64 t245)) (fun _ hk => hk.2) (.slice Ao31 t246.length co31)) (fun _ hk => hk.2) (.slice Ao32 t249.length co32)) (fun _ hk => hk.2) (.int .i64 2)) (fun _ h_ => h_.1))) hb); have n3_ := Aside0.mk (Kd.R_below (by exact (Kd.R_mono (Kd.R_far (p := ⟨gb252, 0, none⟩) (Kd.R_far (p := ⟨gb252, 3, none⟩) (Kd.R_far (p := ⟨gb252, 2, none⟩) (Kd.R_far (p := ⟨gb252, 1, none⟩) (Kd.R_far (p := ⟨gb252, 0, none⟩) (Kd.R_types HO239.out BK252.out (by decide)) (fun _ hk => hk.2) (.int .i64 t244)) (fun _ hk => hk.2) (.int .i64 t245)) (fun _ hk => hk.2) (.slice Ao31 t246.length co31)) (fun _ hk => hk.2) (.slice Ao32 t249.length co32)) (fun _ hk => hk.2) (.int .i64 2)) (fun _ h_ => h_.1))) hb); have n4_ := Aside0.mk (Kd.R_below (by exact (Kd.R_mono (Kd.R_far (p := ⟨gb252, 0, none⟩) (Kd.R_far (p := ⟨gb252, 3, none⟩) (Kd.R_far (p := ⟨gb252, 2, none⟩) (Kd.R_far (p := ⟨gb252, 1, none⟩) (Kd.R_far (p := ⟨gb252, 0, none⟩) (Kd.R_types HO242.out BK252.out (by decide)) (fun _ hk => hk.2) (.int .i64 t244)) (fun _ hk => hk.2) (.int .i64 t245)) (fun _ hk => hk.2) (.slice Ao31 t246.length co31)) (fun _ hk => hk.2) (.slice Ao32 t249.length co32)) (fun _ hk => hk.2) (.int .i64 2)) (fun _ h_ => h_.1))) hb); have n5_ := Aside0.mk (Kd.S_below (by exact (Kd.S_mono (Kd.S_far (p := ⟨gb252, 0, none⟩) (Kd.S_far (p := ⟨gb252, 3, none⟩) (Kd.S_far (p := ⟨gb252, 2, none⟩) (Kd.S_far (p := ⟨gb252, 1, none⟩) (Kd.S_far (p := ⟨gb252, 0, none⟩) (Kd.S_types HO248.out BK252.out (by decide)) (fun _ hk => hk.2) (.int .i64 t244)) (fun _ hk => hk.2) (.int .i64 t245)) (fun _ hk => hk.2) (.slice Ao31 t246.length co31)) (fun _ hk => hk.2) (.slice Ao32 t249.length co32)) (fun _ hk => hk.2) (.int .i64 2)) (fun _ h_ => h_.1))) hb); have n6_ := Aside0.mk (Kd.S_below (by exact (Kd.S_mono (Kd.S_far (p := ⟨gb252, 0, none⟩) (Kd.S_far (p := ⟨gb252, 3, none⟩) (Kd.S_far (p := ⟨gb252, 2, none⟩) (Kd.S_far (p := ⟨gb252, 1, none⟩) (Kd.S_far (p := ⟨gb252, 0, none⟩) (Kd.S_types HO251.out BK252.out (by decide)) (fun _ hk => hk.2) (.int .i64 t244)) (fun _ hk => hk.2) (.int .i64 t245)) (fun _ hk => hk.2) (.slice Ao31 t246.length co31)) (fun _ hk => hk.2) (.slice Ao32 t249.length co32)) (fun _ hk => hk.2) (.int .i64 2)) (fun _ h_ => h_.1))) hb); have n7_ := Aside0.mk (blk_below (g := gb225) (o := .cells #[.slice A0_0 l0_0.length c0_0, .slice A0_1 l0_1.length c0_1, .slice A0_2 l0_2.length c0_2, .slice A0_3 l0_3.length c0_3, .slice A0_4 l0_4.length c0_4] 27 (0, 0)) (by refine blk_far ?_ NB225_252.out _; refine blk_far ?_ NB225_252.out _; refine blk_far ?_ NB225_252.out _; refine blk_far ?_ NB225_252.out _; refine blk_far ?_ NB225_252.out _; exact BK225.out) hb); have n8_ := Aside0.mk (blk_below (g := gb226) (o := .cells #[.int .i64 a1_0, .int .i64 a1_1, .slice A1_2 l1_2.length c1_2, .slice A1_3 l1_3.length c1_3] 30 (0, 0)) (by refine blk_far ?_ NB226_252.out _; refine blk_far ?_ NB226_252.out _; refine blk_far ?_ NB226_252.out _; refine blk_far ?_ NB226_252.out _; refine blk_far ?_ NB226_252.out _; exact BK226.out) hb); have n9_ := Aside0.mk (blk_below (g := gb243) (o := .cells #[.slice Ao16 t228.length co16, .slice Ao20 t231.length co20, .slice Ao21 t234.length co21, .slice Ao22 t237.length co22, .slice Ao23 t240.length co23] 27 (0, 0)) (by refine blk_far ?_ NB243_252.out _; refine blk_far ?_ NB243_252.out _; refine blk_far ?_ NB243_252.out _; refine blk_far ?_ NB243_252.out _; refine blk_far ?_ NB243_252.out _; exact BK243.out) hb); have n10_ := Aside0.mk (blk_below (g := gb252) (o := .cells #[.int .i64 2, .int .i64 t245, .slice Ao31 t246.length co31, .slice Ao32 t249.length co32] 30 (0, 0)) (by refine blk_put (cs := #[.int .i64 t244, .int .i64 t245, .slice Ao31 t246.length co31, .slice Ao32 t249.length co32]) ?_ 0 _ rfl; refine blk_put (cs := #[.int .i64 t244, .int .i64 t245, .slice Ao31 t246.length co31, .slice none 0 0]) ?_ 3 _ rfl; refine blk_put (cs := #[.int .i64 t244, .int .i64 t245, .slice none 0 0, .slice none 0 0]) ?_ 2 _ rfl; refine blk_put (cs := #[.int .i64 t244, .int .i64 0, .slice none 0 0, .slice none 0 0]) ?_ 1 _ rfl; refine blk_put (cs := #[.int .i64 0, .int .i64 0, .slice none 0 0, .slice none 0 0]) ?_ 0 _ rfl; exact BK252.out) hb); have n11_ := Aside0.mk (below_step (by repeat (first | (with_reducible first | exact HB.out | refine below_set ?_ GE252.out))) hb); clear HO230; clear HO233; clear HO236; clear HO239; clear HO242; clear HO248; clear HO251; clear BK225; clear BK226; clear BK243; clear BK252; clear HB; have HO230 := n0_; have HO233 := n1_; have HO236 := n2_; have HO239 := n3_; have HO242 := n4_; have HO248 := n5_; have HO251 := n6_; have BK225 := n7_; have BK226 := n8_; have BK243 := n9_; have BK252 := n10_; have HB := n11_; clear n0_ n1_ n2_ n3_ n4_ n5_ n6_ n7_ n8_ n9_ n10_ n11_; (try clear hb); (try clear hb2); (try clear hk); (try clear hi)))
  (try simp only [Act.put, List.setIfInBounds_toArray, List.set_cons_zero, List.set_cons_succ])
  go_cut [37] (fun v37 wc => ∃ (kq : Nat) (x37_7 : Bool), v37 = .bool x37_7 ∧ Aside0 (proofmarklaw30_ReportClauses.j0 kq t227 t253 x37_7 t228 t231 t234 t237 t240 2 t245 t246 t249 = some r) ∧ Aside0 (kq ≤ k) ∧ Aside0 (Kd.R k96 96 wc w.heap.size (fun _ => True) (.slice Ao16 t228.length co16) t228) ∧ Aside0 (Kd.R k111 111 wc w.heap.size (fun k_ => some k_ ≠ ((.slice Ao23 t240.length co23) : Value).ownBlock) (.slice Ao20 t231.length co20) t231) ∧ Aside0 (Kd.R k94 94 wc w.heap.size (fun _ => True) (.slice Ao21 t234.length co21) t234) ∧ Aside0 (Kd.R k73 73 wc w.heap.size (fun _ => True) (.slice Ao22 t237.length co22) t237) ∧ Aside0 (Kd.R k111 111 wc w.heap.size (fun k_ => some k_ ≠ ((.slice Ao20 t231.length co20) : Value).ownBlock) (.slice Ao23 t240.length co23) t240) ∧ Aside0 (Kd.S (Kd.slice 3 (Kd.int .i64)) 55 wc w.heap.size (fun k_ => some k_ ≠ ((.slice Ao32 t249.length co32) : Value).ownBlock) (.slice Ao31 t246.length co31) t246) ∧ Aside0 (Kd.S (Kd.slice 3 (Kd.int .i64)) 55 wc w.heap.size (fun k_ => some k_ ≠ ((.slice Ao31 t246.length co31) : Value).ownBlock) (.slice Ao32 t249.length co32) t249) ∧ Aside0 (wc.heap[gb225]? = some (.cells #[(.slice A0_0 l0_0.length c0_0), (.slice A0_1 l0_1.length c0_1), (.slice A0_2 l0_2.length c0_2), (.slice A0_3 l0_3.length c0_3), (.slice A0_4 l0_4.length c0_4)] 27 (0, 0))) ∧ Aside0 (wc.heap[gb226]? = some (.cells #[.int .i64 a1_0, .int .i64 a1_1, (.slice A1_2 l1_2.length c1_2), (.slice A1_3 l1_3.length c1_3)] 30 (0, 0))) ∧ Aside0 (wc.heap[gb243]? = some (.cells #[(.slice Ao16 t228.length co16), (.slice Ao20 t231.length co20), (.slice Ao21 t234.length co21), (.slice Ao22 t237.length co22), (.slice Ao23 t240.length co23)] 27 (0, 0))) ∧ Aside0 (wc.heap[gb252]? = some (.cells #[.int .i64 2, .int .i64 t245, (.slice Ao31 t246.length co31), (.slice Ao32 t249.length co32)] 30 (0, 0))) ∧ Aside0 (Below w.heap.size w wc))
  case first =>
    have H := HC8.out
    clear HC8
    by_cases c35 : a2 < 0
    · rw [if_pos c35] at H
      have c35b0 : decide (a2 < 0) = true := decide_eq_true c35
      clear c35
      (first | skip)
      have H' := Aside0.mk H
      clear H
      go_wp2
      go_meet
      case rel => exact ⟨_, (true), rfl, H', ⟨by first | omega⟩, ⟨by exact HO230.out⟩, ⟨by exact HO233.out⟩, ⟨by exact HO236.out⟩, ⟨by exact HO239.out⟩, ⟨by exact HO242.out⟩, ⟨by exact HO248.out⟩, ⟨by exact HO251.out⟩, ⟨by exact BK225.out⟩, ⟨by exact BK226.out⟩, ⟨by exact BK243.out⟩, ⟨by exact BK252.out⟩, ⟨by exact HB.out⟩⟩
    · rw [if_neg c35] at H
      have c35b0 : decide (a2 < 0) = false := decide_eq_false c35
      clear c35
      (first | skip)
      have H' := Aside0.mk H
      clear H
      have hnb36 := NB243_225.out
      have hnc36 := NB225_243.out
      have hnb37 := NB243_226.out
      have hnc37 := NB226_243.out
      have hnb38 := NB243_252.out
      have hnc38 := NB252_243.out
      have hcz39_0 : w34.cell? ⟨gb243, 0, none⟩ = some (.slice Ao16 t228.length co16) := (blk_cell BK243.out 0).trans rfl
      have hcz39_1 : w34.cell? ⟨gb243, 1, none⟩ = some (.slice Ao20 t231.length co20) := (blk_cell BK243.out 1).trans rfl
      have hcz39_2 : w34.cell? ⟨gb243, 2, none⟩ = some (.slice Ao21 t234.length co21) := (blk_cell BK243.out 2).trans rfl
      have hcz39_3 : w34.cell? ⟨gb243, 3, none⟩ = some (.slice Ao22 t237.length co22) := (blk_cell BK243.out 3).trans rfl
      have hcz39_4 : w34.cell? ⟨gb243, 4, none⟩ = some (.slice Ao23 t240.length co23) := (blk_cell BK243.out 4).trans rfl
      have hfz39_0 := blk_frozen BK243.out 0
      have hfz39_1 := blk_frozen BK243.out 1
      have hfz39_2 := blk_frozen BK243.out 2
      have hfz39_3 := blk_frozen BK243.out 3
      have hfz39_4 := blk_frozen BK243.out 4
      go_wp2
      go_meet
      case rel => exact ⟨_, (decide (a2 ≥ (t237.length : Int))), rfl, H', ⟨by first | omega⟩, ⟨by exact HO230.out⟩, ⟨by exact HO233.out⟩, ⟨by exact HO236.out⟩, ⟨by exact HO239.out⟩, ⟨by exact HO242.out⟩, ⟨by exact HO248.out⟩, ⟨by exact HO251.out⟩, ⟨by exact BK225.out⟩, ⟨by exact BK226.out⟩, ⟨by exact BK243.out⟩, ⟨by exact BK252.out⟩, ⟨by exact HB.out⟩⟩
  case rest =>
    clear HC8
    try clear c1
    try clear c2
    try clear p2
    try clear c3
    try clear c8
    try clear c12
    try clear c13
    try clear c15
    try clear c16
    try clear c17
    try clear c18
    try clear c20
    try clear c27
    try clear c28
    try clear c29
    try clear c35
    try clear c35b0
    try clear c36
    try clear c37
    try clear c38
    try clear hcz13_0
    try clear hcz13_1
    try clear hcz13_2
    try clear hcz13_3
    try clear hcz13_4
    try clear hcz19_0
    try clear hcz19_1
    try clear hcz19_2
    try clear hcz19_3
    try clear hcz19_4
    try clear hcz24_0
    try clear hcz24_1
    try clear hcz24_2
    try clear hcz24_3
    try clear hcz30_0
    try clear hcz30_1
    try clear hcz30_2
    try clear hcz30_3
    try clear hcz33_0
    try clear hcz33_1
    try clear hcz33_2
    try clear hcz33_3
    try clear hcz33_4
    try clear hcz39_0
    try clear hcz39_1
    try clear hcz39_2
    try clear hcz39_3
    try clear hcz39_4
    try clear hfz13_0
    try clear hfz13_1
    try clear hfz13_2
    try clear hfz13_3
    try clear hfz13_4
    try clear hfz19_0
    try clear hfz19_1
    try clear hfz19_2
    try clear hfz19_3
    try clear hfz19_4
    try clear hfz24_0
    try clear hfz24_1
    try clear hfz24_2
    try clear hfz24_3
    try clear hfz30_0
    try clear hfz30_1
    try clear hfz30_2
    try clear hfz30_3
    try clear hfz33_0
    try clear hfz33_1
    try clear hfz33_2
    try clear hfz33_3
    try clear hfz33_4
    try clear hfz39_0
    try clear hfz39_1
    try clear hfz39_2
    try clear hfz39_3
    try clear hfz39_4
    obtain ⟨kq, x37_7, rfl, HA, HJ7, HO_244000, HO_244001, HO_244002, HO_244003, HO_244004, HO_253002, HO_253003, BK225, BK226, BK243, BK252, HB⟩ := hcut
    cases kq with
    | zero => exact absurd HA.out (by simp [proofmarklaw30_ReportClauses.j0])
    | succ kj7 =>
      have H := HA.out
      clear HA
      simp only [proofmarklaw30_ReportClauses.j0] at H
      by_cases c40 : x37_7 = true
      · subst c40
        have H1 : (if t227 = true then (some (t253.toList == ([] : List UInt8))) else (some false)) = some r := by rw [if_pos rfl] at H; exact H
        clear H
        have H := H1
        clear H1
        by_cases c41 : t227 = true
        · subst c41
          have H1 : (some (t253.toList == ([] : List UInt8))) = some r := by rw [if_pos rfl] at H; exact H
          clear H
          have H := H1
          clear H1
          obtain rfl := Option.some.inj H
          go_wp2
          go_ret
          exact ⟨by first | rfl, by exact HB.out⟩
        · replace c41 := Bool.eq_false_iff.mpr c41
          subst c41
          have H1 : (some false) = some r := by rw [if_neg (show ¬ (false = true) by decide)] at H; exact H
          clear H
          have H := H1
          clear H1
          obtain rfl := Option.some.inj H
          go_wp2
          go_ret
          exact ⟨by first | rfl, by exact HB.out⟩
      · replace c40 := Bool.eq_false_iff.mpr c40
        subst c40
        have H1 : ((proofmarklaw30_behind.f kj7 t253).bind fun bt254 => ((proofmarkref30_Bits.f kj7 t228 t231 t234 t237 t240).bind fun bt256 => (proofmarklaw30_ReportClauses.l0 kj7 t227 bt254.1 bt254.2 0 t228 t231 t234 t237 t240 2 t245 t246 t249 bt256.1 bt256.2.1 bt256.2.2.1 bt256.2.2.2.1 bt256.2.2.2.2))) = some r := by rw [if_neg (show ¬ (false = true) by decide)] at H; exact H
        clear H
        have H := H1
        clear H1
        replace H := Option.bind_eq_some_iff.mp H
        obtain ⟨⟨t254, t255⟩, A420, H⟩ := H
        replace H : ((proofmarkref30_Bits.f kj7 t228 t231 t234 t237 t240).bind fun bt256 => (proofmarklaw30_ReportClauses.l0 kj7 t227 t254 t255 0 t228 t231 t234 t237 t240 2 t245 t246 t249 bt256.1 bt256.2.1 bt256.2.2.1 bt256.2.2.2.1 bt256.2.2.2.2)) = some r := H
        have A42 := Aside0.mk A420
        clear A420
        replace H := Option.bind_eq_some_iff.mp H
        obtain ⟨⟨t256, t257, t260, t263, t266⟩, A430, H⟩ := H
        replace H : (proofmarklaw30_ReportClauses.l0 kj7 t227 t254 t255 0 t228 t231 t234 t237 t240 2 t245 t246 t249 t256 t257 t260 t263 t266) = some r := H
        have A43 := Aside0.mk A430
        clear A430
        have H' := Aside0.mk H
        clear H
        go_wp2_with (first | ((with_reducible refine gate_callee (f := 21) rfl ?_); refine goesL_ (some 45) rfl rfl Tryd.func21 (by kernel_rfl) rfl #[.string t253] rfl (by (try simp only [List.map_toArray, List.map_cons, List.map_nil]); first | rfl) ?_; (with_reducible refine (proofmarklaw30_behind.calls kj7 t253 t254 t255 _ A42.out).mono ?_); rintro e w' ⟨rfl, ⟨nd, rfl⟩⟩; refine ⟨_, rfl, ?_⟩; (try (rw [drewN_self wc]; generalize hq_ : World.drewN wc _ = wc; have n0_ : Aside0 (Kd.R k96 96 wc w.heap.size (fun _ => True) (.slice Ao16 t228.length co16) t228) := ⟨by rw [← hq_]; exact (by (with_reducible repeat (first | apply Kd.R_drewN)); exact HO_244000.out)⟩; have n1_ : Aside0 (Kd.R k111 111 wc w.heap.size (fun k_ => some k_ ≠ (.slice Ao23 t240.length co23 : Value).ownBlock) (.slice Ao20 t231.length co20) t231) := ⟨by rw [← hq_]; exact (by (with_reducible repeat (first | apply Kd.R_drewN)); exact HO_244001.out)⟩; have n2_ : Aside0 (Kd.R k94 94 wc w.heap.size (fun _ => True) (.slice Ao21 t234.length co21) t234) := ⟨by rw [← hq_]; exact (by (with_reducible repeat (first | apply Kd.R_drewN)); exact HO_244002.out)⟩; have n3_ : Aside0 (Kd.R k73 73 wc w.heap.size (fun _ => True) (.slice Ao22 t237.length co22) t237) := ⟨by rw [← hq_]; exact (by (with_reducible repeat (first | apply Kd.R_drewN)); exact HO_244003.out)⟩; have n4_ : Aside0 (Kd.R k111 111 wc w.heap.size (fun k_ => some k_ ≠ (.slice Ao20 t231.length co20 : Value).ownBlock) (.slice Ao23 t240.length co23) t240) := ⟨by rw [← hq_]; exact (by (with_reducible repeat (first | apply Kd.R_drewN)); exact HO_244004.out)⟩; have n5_ : Aside0 (Kd.S (Kd.slice 3 (Kd.int .i64)) 55 wc w.heap.size (fun k_ => some k_ ≠ (.slice Ao32 t249.length co32 : Value).ownBlock) (.slice Ao31 t246.length co31) t246) := ⟨by rw [← hq_]; exact (by (with_reducible repeat (first | apply Kd.S_drewN)); exact HO_253002.out)⟩; have n6_ : Aside0 (Kd.S (Kd.slice 3 (Kd.int .i64)) 55 wc w.heap.size (fun k_ => some k_ ≠ (.slice Ao31 t246.length co31 : Value).ownBlock) (.slice Ao32 t249.length co32) t249) := ⟨by rw [← hq_]; exact (by (with_reducible repeat (first | apply Kd.S_drewN)); exact HO_253003.out)⟩; have n7_ : Aside0 (wc.heap[gb225]? = some (.cells #[.slice A0_0 l0_0.length c0_0, .slice A0_1 l0_1.length c0_1, .slice A0_2 l0_2.length c0_2, .slice A0_3 l0_3.length c0_3, .slice A0_4 l0_4.length c0_4] 27 (0, 0))) := ⟨by rw [← hq_]; exact (by (with_reducible repeat (first | refine blk_drewN ?_ _)); exact BK225.out)⟩; have n8_ : Aside0 (wc.heap[gb226]? = some (.cells #[.int .i64 a1_0, .int .i64 a1_1, .slice A1_2 l1_2.length c1_2, .slice A1_3 l1_3.length c1_3] 30 (0, 0))) := ⟨by rw [← hq_]; exact (by (with_reducible repeat (first | refine blk_drewN ?_ _)); exact BK226.out)⟩; have n9_ : Aside0 (wc.heap[gb243]? = some (.cells #[.slice Ao16 t228.length co16, .slice Ao20 t231.length co20, .slice Ao21 t234.length co21, .slice Ao22 t237.length co22, .slice Ao23 t240.length co23] 27 (0, 0))) := ⟨by rw [← hq_]; exact (by (with_reducible repeat (first | refine blk_drewN ?_ _)); exact BK243.out)⟩; have n10_ : Aside0 (wc.heap[gb252]? = some (.cells #[.int .i64 2, .int .i64 t245, .slice Ao31 t246.length co31, .slice Ao32 t249.length co32] 30 (0, 0))) := ⟨by rw [← hq_]; exact (by (with_reducible repeat (first | refine blk_drewN ?_ _)); exact BK252.out)⟩; have n11_ : Aside0 (Below w.heap.size w wc) := ⟨by rw [← hq_]; exact (by repeat (first | (with_reducible first | exact HB.out | apply pw_below_drewN)))⟩; clear HO_244000 HO_244001 HO_244002 HO_244003 HO_244004 HO_253002 HO_253003 BK225 BK226 BK243 BK252 HB hq_; have HO_244000 := n0_; have HO_244001 := n1_; have HO_244002 := n2_; have HO_244003 := n3_; have HO_244004 := n4_; have HO_253002 := n5_; have HO_253003 := n6_; have BK225 := n7_; have BK226 := n8_; have BK243 := n9_; have BK252 := n10_; have HB := n11_; clear n0_ n1_ n2_ n3_ n4_ n5_ n6_ n7_ n8_ n9_ n10_ n11_)); have hnb44 := NB243_225.out; have hnc44 := NB225_243.out; have hnb45 := NB243_226.out; have hnc45 := NB226_243.out; have hnb46 := NB243_252.out; have hnc46 := NB252_243.out; have hcz47_0 : wc.cell? ⟨gb243, 0, none⟩ = some (.slice Ao16 t228.length co16) := (blk_cell BK243.out 0).trans rfl; have hcz47_1 : wc.cell? ⟨gb243, 1, none⟩ = some (.slice Ao20 t231.length co20) := (blk_cell BK243.out 1).trans rfl; have hcz47_2 : wc.cell? ⟨gb243, 2, none⟩ = some (.slice Ao21 t234.length co21) := (blk_cell BK243.out 2).trans rfl; have hcz47_3 : wc.cell? ⟨gb243, 3, none⟩ = some (.slice Ao22 t237.length co22) := (blk_cell BK243.out 3).trans rfl; have hcz47_4 : wc.cell? ⟨gb243, 4, none⟩ = some (.slice Ao23 t240.length co23) := (blk_cell BK243.out 4).trans rfl; have hfz47_0 := blk_frozen BK243.out 0; have hfz47_1 := blk_frozen BK243.out 1; have hfz47_2 := blk_frozen BK243.out 2; have hfz47_3 := blk_frozen BK243.out 3; have hfz47_4 := blk_frozen BK243.out 4) | ((with_reducible refine gate_callee (f := 22) rfl ?_); refine goesL_ (some 49) rfl rfl Tryd.func22 (by kernel_rfl) rfl #[.agg #[.slice Ao16 t228.length co16, .slice Ao20 t231.length co20, .slice Ao21 t234.length co21, .slice Ao22 t237.length co22, .slice Ao23 t240.length co23]] rfl (by (try simp only [List.map_toArray, List.map_cons, List.map_nil]); first | rfl) ?_; (with_reducible refine (proofmarkref30_Bits.calls kj7 _ _ t228 _ _ t231 _ _ t234 _ _ t237 _ _ t240 t256 t257 t260 t263 t266 _ ?side1 ?side2 ?side3 ?side4 ?side5 ?side6 ?side7 ?side8 ?side9 ?side10 A43.out).mono ?_); (case side1 => repeat (first | exact (Kd.R_reads' HO_244000.out).2.2)); (case side2 => exact (Kd.R_reads' HO_244000.out).2.1); (case side3 => repeat (first | exact (Kd.R_reads' HO_244001.out).2.2)); (case side4 => exact (Kd.R_reads' HO_244001.out).2.1); (case side5 => repeat (first | exact (Kd.R_reads' HO_244002.out).2.2)); (case side6 => exact (Kd.R_reads' HO_244002.out).2.1); (case side7 => repeat (first | exact (Kd.R_reads' HO_244003.out).2.2)); (case side8 => exact (Kd.R_reads' HO_244003.out).2.1); (case side9 => repeat (first | exact (Kd.R_reads' HO_244004.out).2.2)); (case side10 => exact (Kd.R_reads' HO_244004.out).2.1); rintro e w48 ⟨v258, v261, v264, v267, rfl, ho0, ho1, ho2, ho3, hb⟩; refine ⟨_, rfl, ?_⟩; have n0_ := Aside0.mk (Kd.R_below HO_244000.out hb); have n1_ := Aside0.mk (Kd.R_below HO_244001.out hb); have n2_ := Aside0.mk (Kd.R_below HO_244002.out hb); have n3_ := Aside0.mk (Kd.R_below HO_244003.out hb); have n4_ := Aside0.mk (Kd.R_below HO_244004.out hb); have n5_ := Aside0.mk (Kd.S_below HO_253002.out hb); have n6_ := Aside0.mk (Kd.S_below HO_253003.out hb); have n7_ := Aside0.mk (Kd.R_lower ho0 (below_size HB.out)); have n8_ := Aside0.mk (Kd.R_lower ho1 (below_size HB.out)); have n9_ := Aside0.mk (Kd.R_lower ho2 (below_size HB.out)); have n10_ := Aside0.mk (Kd.R_lower ho3 (below_size HB.out)); have n11_ := Aside0.mk (blk_below BK225.out hb); have n12_ := Aside0.mk (blk_below BK226.out hb); have n13_ := Aside0.mk (blk_below BK243.out hb); have n14_ := Aside0.mk (blk_below BK252.out hb); have n15_ := Aside0.mk (below_step HB.out hb); clear HO_244000; clear HO_244001; clear HO_244002; clear HO_244003; clear HO_244004; clear HO_253002; clear HO_253003; clear BK225; clear BK226; clear BK243; clear BK252; clear HB; have HO_244000 := n0_; have HO_244001 := n1_; have HO_244002 := n2_; have HO_244003 := n3_; have HO_244004 := n4_; have HO_253002 := n5_; have HO_253003 := n6_; have HO259 := n7_; have HO262 := n8_; have HO265 := n9_; have HO268 := n10_; have BK225 := n11_; have BK226 := n12_; have BK243 := n13_; have BK252 := n14_; have HB := n15_; clear n0_ n1_ n2_ n3_ n4_ n5_ n6_ n7_ n8_ n9_ n10_ n11_ n12_ n13_ n14_ n15_; (try clear hb); (try clear hb2); (try clear hk); (try clear hi); (try clear ho0); (try clear ho1); (try clear ho2); (try clear ho3)) | ((with_reducible refine gate_dst (N := 13) rfl ?_); (try (refine gate_guard (by rfl) ?_; dsimp only)); refine box_event ?hg (N := 13) ?hd (cs := #[.int .i64 0, .slice none 0 0, .slice none 0 0, .slice none 0 0, .slice none 0 0]) (t := 53) ?hr ?_; (case hd => rfl); (case hg => rfl); (case hr => first | (go_simp; done)); intro gb269 hg w49 hbox hb; have n0_ := Aside0.mk (Kd.R_below HO_244000.out hb); have n1_ := Aside0.mk (Kd.R_below HO_244001.out hb); have n2_ := Aside0.mk (Kd.R_below HO_244002.out hb); have n3_ := Aside0.mk (Kd.R_below HO_244003.out hb); have n4_ := Aside0.mk (Kd.R_below HO_244004.out hb); have n5_ := Aside0.mk (Kd.S_below HO_253002.out hb); have n6_ := Aside0.mk (Kd.S_below HO_253003.out hb); have n7_ := Aside0.mk (Kd.R_below HO259.out hb); have n8_ := Aside0.mk (Kd.R_below HO262.out hb); have n9_ := Aside0.mk (Kd.R_below HO265.out hb); have n10_ := Aside0.mk (Kd.R_below HO268.out hb); have n11_ := Aside0.mk (blk_below BK225.out hb); have n12_ := Aside0.mk (blk_below BK226.out hb); have n13_ := Aside0.mk (blk_below BK243.out hb); have n14_ := Aside0.mk (blk_below BK252.out hb); have n15_ := Aside0.mk (below_step HB.out hb); have n16_ := Aside0.mk (hbox); have n17_ := Aside0.mk ((by rw [hg]; exact (below_size HB.out) : w.heap.size ≤ gb269)); have n18_ := Aside0.mk ((by rw [hg]; exact (below_size HB.out) : w.heap.size ≤ gb269)); have n19_ := Aside0.mk ((by rw [hg]; exact Nat.ne_of_lt (blk_lt BK225.out) : gb225 ≠ gb269)); have n20_ := Aside0.mk ((by rw [hg]; exact Nat.ne_of_gt (blk_lt BK225.out) : gb269 ≠ gb225)); have n21_ := Aside0.mk ((by rw [hg]; exact Nat.ne_of_lt (blk_lt BK226.out) : gb226 ≠ gb269)); have n22_ := Aside0.mk ((by rw [hg]; exact Nat.ne_of_gt (blk_lt BK226.out) : gb269 ≠ gb226)); have n23_ := Aside0.mk ((by rw [hg]; exact Nat.ne_of_lt (blk_lt BK243.out) : gb243 ≠ gb269)); have n24_ := Aside0.mk ((by rw [hg]; exact Nat.ne_of_gt (blk_lt BK243.out) : gb269 ≠ gb243)); have n25_ := Aside0.mk ((by rw [hg]; exact Nat.ne_of_lt (blk_lt BK252.out) : gb252 ≠ gb269)); have n26_ := Aside0.mk ((by rw [hg]; exact Nat.ne_of_gt (blk_lt BK252.out) : gb269 ≠ gb252)); clear HO_244000; clear HO_244001; clear HO_244002; clear HO_244003; clear HO_244004; clear HO_253002; clear HO_253003; clear HO259; clear HO262; clear HO265; clear HO268; clear BK225; clear BK226; clear BK243; clear BK252; clear HB; have HO_244000 := n0_; have HO_244001 := n1_; have HO_244002 := n2_; have HO_244003 := n3_; have HO_244004 := n4_; have HO_253002 := n5_; have HO_253003 := n6_; have HO259 := n7_; have HO262 := n8_; have HO265 := n9_; have HO268 := n10_; have BK225 := n11_; have BK226 := n12_; have BK243 := n13_; have BK252 := n14_; have HB := n15_; have BK269 := n16_; have GW269 := n17_; have GE269 := n18_; have NB225_269 := n19_; have NB269_225 := n20_; have NB226_269 := n21_; have NB269_226 := n22_; have NB243_269 := n23_; have NB269_243 := n24_; have NB252_269 := n25_; have NB269_252 := n26_; clear n0_ n1_ n2_ n3_ n4_ n5_ n6_ n7_ n8_ n9_ n10_ n11_ n12_ n13_ n14_ n15_ n16_ n17_ n18_ n19_ n20_ n21_ n22_ n23_ n24_ n25_ n26_; clear hb hbox hg; have hnb50 := NB269_225.out; have hnc50 := NB225_269.out; have hnb51 := NB269_226.out; have hnc51 := NB226_269.out; have hnb52 := NB269_243.out; have hnc52 := NB243_269.out; have hnb53 := NB269_252.out; have hnc53 := NB252_269.out; have hcz54_0 : w49.cell? ⟨gb269, 0, none⟩ = some (.int .i64 0) := (blk_cell BK269.out 0).trans rfl; have hcz54_1 : w49.cell? ⟨gb269, 1, none⟩ = some (.slice none 0 0) := (blk_cell BK269.out 1).trans rfl; have hcz54_2 : w49.cell? ⟨gb269, 2, none⟩ = some (.slice none 0 0) := (blk_cell BK269.out 2).trans rfl; have hcz54_3 : w49.cell? ⟨gb269, 3, none⟩ = some (.slice none 0 0) := (blk_cell BK269.out 3).trans rfl; have hcz54_4 : w49.cell? ⟨gb269, 4, none⟩ = some (.slice none 0 0) := (blk_cell BK269.out 4).trans rfl; have hfz54_0 := blk_frozen BK269.out 0; have hfz54_1 := blk_frozen BK269.out 1; have hfz54_2 := blk_frozen BK269.out 2; have hfz54_3 := blk_frozen BK269.out 3; have hfz54_4 := blk_frozen BK269.out 4; obtain ⟨Ao55, co55, eo55⟩ := Kd.R_slice HO259.out; subst eo55; obtain ⟨Ao56, co56, eo56⟩ := Kd.R_slice HO262.out; subst eo56; obtain ⟨Ao57, co57, eo57⟩ := Kd.R_slice HO265.out; subst eo57; obtain ⟨Ao58, co58, eo58⟩ := Kd.R_slice HO268.out; subst eo58))
        try simp only [Act.put, List.setIfInBounds_toArray, List.set_cons_succ, List.set_cons_zero]
        go_loopg [11, 12, 14] kj7 (fun kq v11 v12 v14 w' => ∃ (x11_2 : ByteArray) (x12_2 : Bool) (x14_2 : Int), v11 = .string x11_2 ∧ v12 = .bool x12_2 ∧ v14 = .int .i64 x14_2 ∧ Aside0 (proofmarklaw30_ReportClauses.l0 kq t227 x11_2 x12_2 x14_2 t228 t231 t234 t237 t240 2 t245 t246 t249 t256 t257 t260 t263 t266 = some r) ∧ Aside0 (kq ≤ kj7) ∧ Aside0 (Kd.R k96 96 w' w.heap.size (fun _ => True) (.slice Ao16 t228.length co16) t228) ∧ Aside0 (Kd.R k111 111 w' w.heap.size (fun k_ => some k_ ≠ ((.slice Ao23 t240.length co23) : Value).ownBlock) (.slice Ao20 t231.length co20) t231) ∧ Aside0 (Kd.R k94 94 w' w.heap.size (fun _ => True) (.slice Ao21 t234.length co21) t234) ∧ Aside0 (Kd.R k73 73 w' w.heap.size (fun _ => True) (.slice Ao22 t237.length co22) t237) ∧ Aside0 (Kd.R k111 111 w' w.heap.size (fun k_ => some k_ ≠ ((.slice Ao20 t231.length co20) : Value).ownBlock) (.slice Ao23 t240.length co23) t240) ∧ Aside0 (Kd.S (Kd.slice 3 (Kd.int .i64)) 55 w' w.heap.size (fun k_ => some k_ ≠ ((.slice Ao32 t249.length co32) : Value).ownBlock) (.slice Ao31 t246.length co31) t246) ∧ Aside0 (Kd.S (Kd.slice 3 (Kd.int .i64)) 55 w' w.heap.size (fun k_ => some k_ ≠ ((.slice Ao31 t246.length co31) : Value).ownBlock) (.slice Ao32 t249.length co32) t249) ∧ Aside0 (Kd.R k201 201 w' w.heap.size (fun _ => True) (.slice Ao55 t257.length co55) t257) ∧ Aside0 (Kd.R k202 202 w' w.heap.size (fun _ => True) (.slice Ao56 t260.length co56) t260) ∧ Aside0 (Kd.R k98 98 w' w.heap.size (fun _ => True) (.slice Ao57 t263.length co57) t263) ∧ Aside0 (Kd.R k204 204 w' w.heap.size (fun _ => True) (.slice Ao58 t266.length co58) t266) ∧ Aside0 (w'.heap[gb225]? = some (.cells #[(.slice A0_0 l0_0.length c0_0), (.slice A0_1 l0_1.length c0_1), (.slice A0_2 l0_2.length c0_2), (.slice A0_3 l0_3.length c0_3), (.slice A0_4 l0_4.length c0_4)] 27 (0, 0))) ∧ Aside0 (w'.heap[gb226]? = some (.cells #[.int .i64 a1_0, .int .i64 a1_1, (.slice A1_2 l1_2.length c1_2), (.slice A1_3 l1_3.length c1_3)] 30 (0, 0))) ∧ Aside0 (w'.heap[gb243]? = some (.cells #[(.slice Ao16 t228.length co16), (.slice Ao20 t231.length co20), (.slice Ao21 t234.length co21), (.slice Ao22 t237.length co22), (.slice Ao23 t240.length co23)] 27 (0, 0))) ∧ Aside0 (w'.heap[gb252]? = some (.cells #[.int .i64 2, .int .i64 t245, (.slice Ao31 t246.length co31), (.slice Ao32 t249.length co32)] 30 (0, 0))) ∧ Aside0 (w'.heap[gb269]? = some (.cells #[.int .i64 t256, (.slice Ao55 t257.length co55), (.slice Ao56 t260.length co56), (.slice Ao57 t263.length co57), (.slice Ao58 t266.length co58)] 53 (0, 0))) ∧ Aside0 (Below w.heap.size w w'))
        case atStart => exact ⟨(t254), (t255), (0), rfl, rfl, rfl, H', ⟨Nat.le_refl _⟩, ⟨by exact Kd.R_mono (Kd.R_far (p := ⟨gb269, 4, none⟩) (Kd.R_far (p := ⟨gb269, 3, none⟩) (Kd.R_far (p := ⟨gb269, 2, none⟩) (Kd.R_far (p := ⟨gb269, 1, none⟩) (Kd.R_far (p := ⟨gb269, 0, none⟩) (Kd.R_types HO_244000.out BK269.out (by decide)) (fun _ hk => hk.2) (.int .i64 t256)) (fun _ hk => hk.2) (.slice Ao55 t257.length co55)) (fun _ hk => hk.2) (.slice Ao56 t260.length co56)) (fun _ hk => hk.2) (.slice Ao57 t263.length co57)) (fun _ hk => hk.2) (.slice Ao58 t266.length co58)) (fun _ hk => trivial)⟩, ⟨by exact Kd.R_mono (Kd.R_far (p := ⟨gb269, 4, none⟩) (Kd.R_far (p := ⟨gb269, 3, none⟩) (Kd.R_far (p := ⟨gb269, 2, none⟩) (Kd.R_far (p := ⟨gb269, 1, none⟩) (Kd.R_far (p := ⟨gb269, 0, none⟩) (Kd.R_types HO_244001.out BK269.out (by decide)) (fun _ hk => hk.2) (.int .i64 t256)) (fun _ hk => hk.2) (.slice Ao55 t257.length co55)) (fun _ hk => hk.2) (.slice Ao56 t260.length co56)) (fun _ hk => hk.2) (.slice Ao57 t263.length co57)) (fun _ hk => hk.2) (.slice Ao58 t266.length co58)) (fun _ hk => hk.1)⟩, ⟨by exact Kd.R_mono (Kd.R_far (p := ⟨gb269, 4, none⟩) (Kd.R_far (p := ⟨gb269, 3, none⟩) (Kd.R_far (p := ⟨gb269, 2, none⟩) (Kd.R_far (p := ⟨gb269, 1, none⟩) (Kd.R_far (p := ⟨gb269, 0, none⟩) (Kd.R_types HO_244002.out BK269.out (by decide)) (fun _ hk => hk.2) (.int .i64 t256)) (fun _ hk => hk.2) (.slice Ao55 t257.length co55)) (fun _ hk => hk.2) (.slice Ao56 t260.length co56)) (fun _ hk => hk.2) (.slice Ao57 t263.length co57)) (fun _ hk => hk.2) (.slice Ao58 t266.length co58)) (fun _ hk => trivial)⟩, ⟨by exact Kd.R_mono (Kd.R_far (p := ⟨gb269, 4, none⟩) (Kd.R_far (p := ⟨gb269, 3, none⟩) (Kd.R_far (p := ⟨gb269, 2, none⟩) (Kd.R_far (p := ⟨gb269, 1, none⟩) (Kd.R_far (p := ⟨gb269, 0, none⟩) (Kd.R_types HO_244003.out BK269.out (by decide)) (fun _ hk => hk.2) (.int .i64 t256)) (fun _ hk => hk.2) (.slice Ao55 t257.length co55)) (fun _ hk => hk.2) (.slice Ao56 t260.length co56)) (fun _ hk => hk.2) (.slice Ao57 t263.length co57)) (fun _ hk => hk.2) (.slice Ao58 t266.length co58)) (fun _ hk => trivial)⟩, ⟨by exact Kd.R_mono (Kd.R_far (p := ⟨gb269, 4, none⟩) (Kd.R_far (p := ⟨gb269, 3, none⟩) (Kd.R_far (p := ⟨gb269, 2, none⟩) (Kd.R_far (p := ⟨gb269, 1, none⟩) (Kd.R_far (p := ⟨gb269, 0, none⟩) (Kd.R_types HO_244004.out BK269.out (by decide)) (fun _ hk => hk.2) (.int .i64 t256)) (fun _ hk => hk.2) (.slice Ao55 t257.length co55)) (fun _ hk => hk.2) (.slice Ao56 t260.length co56)) (fun _ hk => hk.2) (.slice Ao57 t263.length co57)) (fun _ hk => hk.2) (.slice Ao58 t266.length co58)) (fun _ hk => hk.1)⟩, ⟨by exact Kd.S_mono (Kd.S_far (p := ⟨gb269, 4, none⟩) (Kd.S_far (p := ⟨gb269, 3, none⟩) (Kd.S_far (p := ⟨gb269, 2, none⟩) (Kd.S_far (p := ⟨gb269, 1, none⟩) (Kd.S_far (p := ⟨gb269, 0, none⟩) (Kd.S_types HO_253002.out BK269.out (by decide)) (fun _ hk => hk.2) (.int .i64 t256)) (fun _ hk => hk.2) (.slice Ao55 t257.length co55)) (fun _ hk => hk.2) (.slice Ao56 t260.length co56)) (fun _ hk => hk.2) (.slice Ao57 t263.length co57)) (fun _ hk => hk.2) (.slice Ao58 t266.length co58)) (fun _ hk => hk.1)⟩, ⟨by exact Kd.S_mono (Kd.S_far (p := ⟨gb269, 4, none⟩) (Kd.S_far (p := ⟨gb269, 3, none⟩) (Kd.S_far (p := ⟨gb269, 2, none⟩) (Kd.S_far (p := ⟨gb269, 1, none⟩) (Kd.S_far (p := ⟨gb269, 0, none⟩) (Kd.S_types HO_253003.out BK269.out (by decide)) (fun _ hk => hk.2) (.int .i64 t256)) (fun _ hk => hk.2) (.slice Ao55 t257.length co55)) (fun _ hk => hk.2) (.slice Ao56 t260.length co56)) (fun _ hk => hk.2) (.slice Ao57 t263.length co57)) (fun _ hk => hk.2) (.slice Ao58 t266.length co58)) (fun _ hk => hk.1)⟩, ⟨by exact Kd.R_mono (Kd.R_far (p := ⟨gb269, 4, none⟩) (Kd.R_far (p := ⟨gb269, 3, none⟩) (Kd.R_far (p := ⟨gb269, 2, none⟩) (Kd.R_far (p := ⟨gb269, 1, none⟩) (Kd.R_far (p := ⟨gb269, 0, none⟩) (Kd.R_types HO259.out BK269.out (by decide)) (fun _ hk => hk.2) (.int .i64 t256)) (fun _ hk => hk.2) (.slice Ao55 t257.length co55)) (fun _ hk => hk.2) (.slice Ao56 t260.length co56)) (fun _ hk => hk.2) (.slice Ao57 t263.length co57)) (fun _ hk => hk.2) (.slice Ao58 t266.length co58)) (fun _ hk => trivial)⟩, ⟨by exact Kd.R_mono (Kd.R_far (p := ⟨gb269, 4, none⟩) (Kd.R_far (p := ⟨gb269, 3, none⟩) (Kd.R_far (p := ⟨gb269, 2, none⟩) (Kd.R_far (p := ⟨gb269, 1, none⟩) (Kd.R_far (p := ⟨gb269, 0, none⟩) (Kd.R_types HO262.out BK269.out (by decide)) (fun _ hk => hk.2) (.int .i64 t256)) (fun _ hk => hk.2) (.slice Ao55 t257.length co55)) (fun _ hk => hk.2) (.slice Ao56 t260.length co56)) (fun _ hk => hk.2) (.slice Ao57 t263.length co57)) (fun _ hk => hk.2) (.slice Ao58 t266.length co58)) (fun _ hk => trivial)⟩, ⟨by exact Kd.R_mono (Kd.R_far (p := ⟨gb269, 4, none⟩) (Kd.R_far (p := ⟨gb269, 3, none⟩) (Kd.R_far (p := ⟨gb269, 2, none⟩) (Kd.R_far (p := ⟨gb269, 1, none⟩) (Kd.R_far (p := ⟨gb269, 0, none⟩) (Kd.R_types HO265.out BK269.out (by decide)) (fun _ hk => hk.2) (.int .i64 t256)) (fun _ hk => hk.2) (.slice Ao55 t257.length co55)) (fun _ hk => hk.2) (.slice Ao56 t260.length co56)) (fun _ hk => hk.2) (.slice Ao57 t263.length co57)) (fun _ hk => hk.2) (.slice Ao58 t266.length co58)) (fun _ hk => trivial)⟩, ⟨by exact Kd.R_mono (Kd.R_far (p := ⟨gb269, 4, none⟩) (Kd.R_far (p := ⟨gb269, 3, none⟩) (Kd.R_far (p := ⟨gb269, 2, none⟩) (Kd.R_far (p := ⟨gb269, 1, none⟩) (Kd.R_far (p := ⟨gb269, 0, none⟩) (Kd.R_types HO268.out BK269.out (by decide)) (fun _ hk => hk.2) (.int .i64 t256)) (fun _ hk => hk.2) (.slice Ao55 t257.length co55)) (fun _ hk => hk.2) (.slice Ao56 t260.length co56)) (fun _ hk => hk.2) (.slice Ao57 t263.length co57)) (fun _ hk => hk.2) (.slice Ao58 t266.length co58)) (fun _ hk => trivial)⟩, ⟨by refine blk_far ?_ NB225_269.out _; refine blk_far ?_ NB225_269.out _; refine blk_far ?_ NB225_269.out _; refine blk_far ?_ NB225_269.out _; refine blk_far ?_ NB225_269.out _; exact BK225.out⟩, ⟨by refine blk_far ?_ NB226_269.out _; refine blk_far ?_ NB226_269.out _; refine blk_far ?_ NB226_269.out _; refine blk_far ?_ NB226_269.out _; refine blk_far ?_ NB226_269.out _; exact BK226.out⟩, ⟨by refine blk_far ?_ NB243_269.out _; refine blk_far ?_ NB243_269.out _; refine blk_far ?_ NB243_269.out _; refine blk_far ?_ NB243_269.out _; refine blk_far ?_ NB243_269.out _; exact BK243.out⟩, ⟨by refine blk_far ?_ NB252_269.out _; refine blk_far ?_ NB252_269.out _; refine blk_far ?_ NB252_269.out _; refine blk_far ?_ NB252_269.out _; refine blk_far ?_ NB252_269.out _; exact BK252.out⟩, ⟨by refine blk_put (cs := #[.int .i64 t256, .slice Ao55 t257.length co55, .slice Ao56 t260.length co56, .slice Ao57 t263.length co57, .slice none 0 0]) ?_ 4 _ rfl; refine blk_put (cs := #[.int .i64 t256, .slice Ao55 t257.length co55, .slice Ao56 t260.length co56, .slice none 0 0, .slice none 0 0]) ?_ 3 _ rfl; refine blk_put (cs := #[.int .i64 t256, .slice Ao55 t257.length co55, .slice none 0 0, .slice none 0 0, .slice none 0 0]) ?_ 2 _ rfl; refine blk_put (cs := #[.int .i64 t256, .slice none 0 0, .slice none 0 0, .slice none 0 0, .slice none 0 0]) ?_ 1 _ rfl; refine blk_put (cs := #[.int .i64 0, .slice none 0 0, .slice none 0 0, .slice none 0 0, .slice none 0 0]) ?_ 0 _ rfl; exact BK269.out⟩, ⟨by repeat (first | (with_reducible first | exact HB.out | refine below_set ?_ GE269.out))⟩⟩
        case round =>
          clear H'
          try clear c1
          try clear c2
          try clear p2
          try clear c3
          try clear c4
          try clear c5
          try clear c8
          try clear c12
          try clear c13
          try clear c15
          try clear c16
          try clear c17
          try clear c18
          try clear c20
          try clear c21
          try clear c22
          try clear c27
          try clear c28
          try clear c29
          try clear c35
          try clear c35b0
          try clear c36
          try clear c37
          try clear c38
          try clear c40
          try clear c41
          try clear c44
          try clear c45
          try clear c46
          try clear c50
          try clear c51
          try clear c52
          try clear c53
          try clear hcz13_0
          try clear hcz13_1
          try clear hcz13_2
          try clear hcz13_3
          try clear hcz13_4
          try clear hcz19_0
          try clear hcz19_1
          try clear hcz19_2
          try clear hcz19_3
          try clear hcz19_4
          try clear hcz24_0
          try clear hcz24_1
          try clear hcz24_2
          try clear hcz24_3
          try clear hcz30_0
          try clear hcz30_1
          try clear hcz30_2
          try clear hcz30_3
          try clear hcz33_0
          try clear hcz33_1
          try clear hcz33_2
          try clear hcz33_3
          try clear hcz33_4
          try clear hcz39_0
          try clear hcz39_1
          try clear hcz39_2
          try clear hcz39_3
          try clear hcz39_4
          try clear hcz47_0
          try clear hcz47_1
          try clear hcz47_2
          try clear hcz47_3
          try clear hcz47_4
          try clear hcz54_0
          try clear hcz54_1
          try clear hcz54_2
          try clear hcz54_3
          try clear hcz54_4
          try clear hfz13_0
          try clear hfz13_1
          try clear hfz13_2
          try clear hfz13_3
          try clear hfz13_4
          try clear hfz19_0
          try clear hfz19_1
          try clear hfz19_2
          try clear hfz19_3
          try clear hfz19_4
          try clear hfz24_0
          try clear hfz24_1
          try clear hfz24_2
          try clear hfz24_3
          try clear hfz30_0
          try clear hfz30_1
          try clear hfz30_2
          try clear hfz30_3
          try clear hfz33_0
          try clear hfz33_1
          try clear hfz33_2
          try clear hfz33_3
          try clear hfz33_4
          try clear hfz39_0
          try clear hfz39_1
          try clear hfz39_2
          try clear hfz39_3
          try clear hfz39_4
          try clear hfz47_0
          try clear hfz47_1
          try clear hfz47_2
          try clear hfz47_3
          try clear hfz47_4
          try clear hfz54_0
          try clear hfz54_1
          try clear hfz54_2
          try clear hfz54_3
          try clear hfz54_4
          try clear p2
          obtain ⟨x11_2, x12_2, x14_2, rfl, rfl, rfl, HA, HK2, HO_244000, HO_244001, HO_244002, HO_244003, HO_244004, HO_253002, HO_253003, HO_270001, HO_270002, HO_270003, HO_270004, BK225, BK226, BK243, BK252, BK269, HB⟩ := hrel
          cases gk with
          | zero => exact absurd HA.out (by simp [proofmarklaw30_ReportClauses.l0])
          | succ k2 =>
            have H := HA.out
            clear HA
            simp only [proofmarklaw30_ReportClauses.l0] at H
            by_cases c59 : x14_2 < (t249.length : Int)
            · rw [if_pos c59] at H
              have c59b0 : decide (x14_2 < (t249.length : Int)) = true := decide_eq_true c59
              clear c59
              have HC60 := Aside0.mk H
              clear H
              have hnb61 := NB252_225.out
              have hnc61 := NB225_252.out
              have hnb62 := NB252_226.out
              have hnc62 := NB226_252.out
              have hnb63 := NB252_243.out
              have hnc63 := NB243_252.out
              have hnb64 := NB252_269.out
              have hnc64 := NB269_252.out
              have hcz65_0 : wr.cell? ⟨gb252, 0, none⟩ = some (.int .i64 2) := (blk_cell BK252.out 0).trans rfl
              have hcz65_1 : wr.cell? ⟨gb252, 1, none⟩ = some (.int .i64 t245) := (blk_cell BK252.out 1).trans rfl
              have hcz65_2 : wr.cell? ⟨gb252, 2, none⟩ = some (.slice Ao31 t246.length co31) := (blk_cell BK252.out 2).trans rfl
              have hcz65_3 : wr.cell? ⟨gb252, 3, none⟩ = some (.slice Ao32 t249.length co32) := (blk_cell BK252.out 3).trans rfl
              have hfz65_0 := blk_frozen BK252.out 0
              have hfz65_1 := blk_frozen BK252.out 1
              have hfz65_2 := blk_frozen BK252.out 2
              have hfz65_3 := blk_frozen BK252.out 3
              go_upto_block 2 with (fail)
              go_cut [15] (fun v15 wc => ∃ (kq : Nat) (x15_59 : ByteArray), v15 = .string x15_59 ∧ Aside0 (proofmarklaw30_ReportClauses.j3 kq t227 x11_2 x14_2 x15_59 t228 t231 t234 t237 t240 2 t245 t246 t249 t256 t257 t260 t263 t266 = some r) ∧ Aside0 (kq ≤ k2) ∧ Aside0 (Kd.R k96 96 wc w.heap.size (fun _ => True) (.slice Ao16 t228.length co16) t228) ∧ Aside0 (Kd.R k111 111 wc w.heap.size (fun k_ => some k_ ≠ ((.slice Ao23 t240.length co23) : Value).ownBlock) (.slice Ao20 t231.length co20) t231) ∧ Aside0 (Kd.R k94 94 wc w.heap.size (fun _ => True) (.slice Ao21 t234.length co21) t234) ∧ Aside0 (Kd.R k73 73 wc w.heap.size (fun _ => True) (.slice Ao22 t237.length co22) t237) ∧ Aside0 (Kd.R k111 111 wc w.heap.size (fun k_ => some k_ ≠ ((.slice Ao20 t231.length co20) : Value).ownBlock) (.slice Ao23 t240.length co23) t240) ∧ Aside0 (Kd.S (Kd.slice 3 (Kd.int .i64)) 55 wc w.heap.size (fun k_ => some k_ ≠ ((.slice Ao32 t249.length co32) : Value).ownBlock) (.slice Ao31 t246.length co31) t246) ∧ Aside0 (Kd.S (Kd.slice 3 (Kd.int .i64)) 55 wc w.heap.size (fun k_ => some k_ ≠ ((.slice Ao31 t246.length co31) : Value).ownBlock) (.slice Ao32 t249.length co32) t249) ∧ Aside0 (Kd.R k201 201 wc w.heap.size (fun _ => True) (.slice Ao55 t257.length co55) t257) ∧ Aside0 (Kd.R k202 202 wc w.heap.size (fun _ => True) (.slice Ao56 t260.length co56) t260) ∧ Aside0 (Kd.R k98 98 wc w.heap.size (fun _ => True) (.slice Ao57 t263.length co57) t263) ∧ Aside0 (Kd.R k204 204 wc w.heap.size (fun _ => True) (.slice Ao58 t266.length co58) t266) ∧ Aside0 (wc.heap[gb225]? = some (.cells #[(.slice A0_0 l0_0.length c0_0), (.slice A0_1 l0_1.length c0_1), (.slice A0_2 l0_2.length c0_2), (.slice A0_3 l0_3.length c0_3), (.slice A0_4 l0_4.length c0_4)] 27 (0, 0))) ∧ Aside0 (wc.heap[gb226]? = some (.cells #[.int .i64 a1_0, .int .i64 a1_1, (.slice A1_2 l1_2.length c1_2), (.slice A1_3 l1_3.length c1_3)] 30 (0, 0))) ∧ Aside0 (wc.heap[gb243]? = some (.cells #[(.slice Ao16 t228.length co16), (.slice Ao20 t231.length co20), (.slice Ao21 t234.length co21), (.slice Ao22 t237.length co22), (.slice Ao23 t240.length co23)] 27 (0, 0))) ∧ Aside0 (wc.heap[gb252]? = some (.cells #[.int .i64 2, .int .i64 t245, (.slice Ao31 t246.length co31), (.slice Ao32 t249.length co32)] 30 (0, 0))) ∧ Aside0 (wc.heap[gb269]? = some (.cells #[.int .i64 t256, (.slice Ao55 t257.length co55), (.slice Ao56 t260.length co56), (.slice Ao57 t263.length co57), (.slice Ao58 t266.length co58)] 53 (0, 0))) ∧ Aside0 (Below w.heap.size w wc))
              case first =>
                have H := HC60.out
                clear HC60
                have H' := Aside0.mk H
                clear H
                go_wp2
                try simp only [Act.put, List.setIfInBounds_toArray, List.set_cons_succ, List.set_cons_zero]
                go_loopg [15, 16] k2 (fun kq v15 v16 w' => ∃ (x15_3 : ByteArray) (x16_3 : Int), v15 = .string x15_3 ∧ v16 = .int .i64 x16_3 ∧ Aside0 (proofmarklaw30_ReportClauses.l1 kq t227 x11_2 x14_2 x15_3 x16_3 t228 t231 t234 t237 t240 2 t245 t246 t249 t256 t257 t260 t263 t266 = some r) ∧ Aside0 (kq ≤ k2) ∧ Aside0 (Kd.R k96 96 w' w.heap.size (fun _ => True) (.slice Ao16 t228.length co16) t228) ∧ Aside0 (Kd.R k111 111 w' w.heap.size (fun k_ => some k_ ≠ ((.slice Ao23 t240.length co23) : Value).ownBlock) (.slice Ao20 t231.length co20) t231) ∧ Aside0 (Kd.R k94 94 w' w.heap.size (fun _ => True) (.slice Ao21 t234.length co21) t234) ∧ Aside0 (Kd.R k73 73 w' w.heap.size (fun _ => True) (.slice Ao22 t237.length co22) t237) ∧ Aside0 (Kd.R k111 111 w' w.heap.size (fun k_ => some k_ ≠ ((.slice Ao20 t231.length co20) : Value).ownBlock) (.slice Ao23 t240.length co23) t240) ∧ Aside0 (Kd.S (Kd.slice 3 (Kd.int .i64)) 55 w' w.heap.size (fun k_ => some k_ ≠ ((.slice Ao32 t249.length co32) : Value).ownBlock) (.slice Ao31 t246.length co31) t246) ∧ Aside0 (Kd.S (Kd.slice 3 (Kd.int .i64)) 55 w' w.heap.size (fun k_ => some k_ ≠ ((.slice Ao31 t246.length co31) : Value).ownBlock) (.slice Ao32 t249.length co32) t249) ∧ Aside0 (Kd.R k201 201 w' w.heap.size (fun _ => True) (.slice Ao55 t257.length co55) t257) ∧ Aside0 (Kd.R k202 202 w' w.heap.size (fun _ => True) (.slice Ao56 t260.length co56) t260) ∧ Aside0 (Kd.R k98 98 w' w.heap.size (fun _ => True) (.slice Ao57 t263.length co57) t263) ∧ Aside0 (Kd.R k204 204 w' w.heap.size (fun _ => True) (.slice Ao58 t266.length co58) t266) ∧ Aside0 (w'.heap[gb225]? = some (.cells #[(.slice A0_0 l0_0.length c0_0), (.slice A0_1 l0_1.length c0_1), (.slice A0_2 l0_2.length c0_2), (.slice A0_3 l0_3.length c0_3), (.slice A0_4 l0_4.length c0_4)] 27 (0, 0))) ∧ Aside0 (w'.heap[gb226]? = some (.cells #[.int .i64 a1_0, .int .i64 a1_1, (.slice A1_2 l1_2.length c1_2), (.slice A1_3 l1_3.length c1_3)] 30 (0, 0))) ∧ Aside0 (w'.heap[gb243]? = some (.cells #[(.slice Ao16 t228.length co16), (.slice Ao20 t231.length co20), (.slice Ao21 t234.length co21), (.slice Ao22 t237.length co22), (.slice Ao23 t240.length co23)] 27 (0, 0))) ∧ Aside0 (w'.heap[gb252]? = some (.cells #[.int .i64 2, .int .i64 t245, (.slice Ao31 t246.length co31), (.slice Ao32 t249.length co32)] 30 (0, 0))) ∧ Aside0 (w'.heap[gb269]? = some (.cells #[.int .i64 t256, (.slice Ao55 t257.length co55), (.slice Ao56 t260.length co56), (.slice Ao57 t263.length co57), (.slice Ao58 t266.length co58)] 53 (0, 0))) ∧ Aside0 (Below w.heap.size w w'))
                case atStart => exact ⟨((⟨#[]⟩ : ByteArray)), (0), rfl, rfl, H', ⟨Nat.le_refl _⟩, ⟨by exact HO_244000.out⟩, ⟨by exact HO_244001.out⟩, ⟨by exact HO_244002.out⟩, ⟨by exact HO_244003.out⟩, ⟨by exact HO_244004.out⟩, ⟨by exact HO_253002.out⟩, ⟨by exact HO_253003.out⟩, ⟨by exact HO_270001.out⟩, ⟨by exact HO_270002.out⟩, ⟨by exact HO_270003.out⟩, ⟨by exact HO_270004.out⟩, ⟨by exact BK225.out⟩, ⟨by exact BK226.out⟩, ⟨by exact BK243.out⟩, ⟨by exact BK252.out⟩, ⟨by exact BK269.out⟩, ⟨by exact HB.out⟩⟩
                case round =>
                  clear H'
                  try clear c1
                  try clear c2
                  try clear p2
                  try clear c3
                  try clear c4
                  try clear c5
                  try clear c6
                  try clear c8
                  try clear c12
                  try clear c13
                  try clear c15
                  try clear c16
                  try clear c17
                  try clear c18
                  try clear c20
                  try clear c21
                  try clear c22
                  try clear c27
                  try clear c28
                  try clear c29
                  try clear c35
                  try clear c35b0
                  try clear c36
                  try clear c37
                  try clear c38
                  try clear c40
                  try clear c41
                  try clear c44
                  try clear c45
                  try clear c46
                  try clear c50
                  try clear c51
                  try clear c52
                  try clear c53
                  try clear c59
                  try clear c59b0
                  try clear c61
                  try clear c62
                  try clear c63
                  try clear c64
                  try clear hcz13_0
                  try clear hcz13_1
                  try clear hcz13_2
                  try clear hcz13_3
                  try clear hcz13_4
                  try clear hcz19_0
                  try clear hcz19_1
                  try clear hcz19_2
                  try clear hcz19_3
                  try clear hcz19_4
                  try clear hcz24_0
                  try clear hcz24_1
                  try clear hcz24_2
                  try clear hcz24_3
                  try clear hcz30_0
                  try clear hcz30_1
                  try clear hcz30_2
                  try clear hcz30_3
                  try clear hcz33_0
                  try clear hcz33_1
                  try clear hcz33_2
                  try clear hcz33_3
                  try clear hcz33_4
                  try clear hcz39_0
                  try clear hcz39_1
                  try clear hcz39_2
                  try clear hcz39_3
                  try clear hcz39_4
                  try clear hcz47_0
                  try clear hcz47_1
                  try clear hcz47_2
                  try clear hcz47_3
                  try clear hcz47_4
                  try clear hcz54_0
                  try clear hcz54_1
                  try clear hcz54_2
                  try clear hcz54_3
                  try clear hcz54_4
                  try clear hcz65_0
                  try clear hcz65_1
                  try clear hcz65_2
                  try clear hcz65_3
                  try clear hfz13_0
                  try clear hfz13_1
                  try clear hfz13_2
                  try clear hfz13_3
                  try clear hfz13_4
                  try clear hfz19_0
                  try clear hfz19_1
                  try clear hfz19_2
                  try clear hfz19_3
                  try clear hfz19_4
                  try clear hfz24_0
                  try clear hfz24_1
                  try clear hfz24_2
                  try clear hfz24_3
                  try clear hfz30_0
                  try clear hfz30_1
                  try clear hfz30_2
                  try clear hfz30_3
                  try clear hfz33_0
                  try clear hfz33_1
                  try clear hfz33_2
                  try clear hfz33_3
                  try clear hfz33_4
                  try clear hfz39_0
                  try clear hfz39_1
                  try clear hfz39_2
                  try clear hfz39_3
                  try clear hfz39_4
                  try clear hfz47_0
                  try clear hfz47_1
                  try clear hfz47_2
                  try clear hfz47_3
                  try clear hfz47_4
                  try clear hfz54_0
                  try clear hfz54_1
                  try clear hfz54_2
                  try clear hfz54_3
                  try clear hfz54_4
                  try clear hfz65_0
                  try clear hfz65_1
                  try clear hfz65_2
                  try clear hfz65_3
                  try clear p2
                  obtain ⟨x15_3, x16_3, rfl, rfl, HA, HK3, HO_244000, HO_244001, HO_244002, HO_244003, HO_244004, HO_253002, HO_253003, HO_270001, HO_270002, HO_270003, HO_270004, BK225, BK226, BK243, BK252, BK269, HB⟩ := hrel
                  cases gk with
                  | zero => exact absurd HA.out (by simp [proofmarklaw30_ReportClauses.l1])
                  | succ k3 =>
                    have H := HA.out
                    clear HA
                    simp only [proofmarklaw30_ReportClauses.l1] at H
                    by_cases c66 : x16_3 < (x11_2.size : Int)
                    · rw [if_pos c66] at H
                      have c66b0 : decide (x16_3 < (x11_2.size : Int)) = true := decide_eq_true c66
                      clear c66
                      (first | skip)
                      by_cases c67 : 0 ≤ x16_3
                      · rw [if_pos c67] at H
                        have c67b0 : decide (0 ≤ x16_3) = true := decide_eq_true c67
                        clear c67
                        by_cases c69 : (bt x11_2 x16_3) = 10
                        · rw [if_pos c69] at H
                          have c69b0 : ((bt x11_2 x16_3) == 10) = true := beq_iff_eq.mpr c69
                          have c69b1 : ((bt x11_2 x16_3) != 10) = false := bne_eq_false_iff_eq.mpr c69
                          clear c69
                          have H' := Aside0.mk H
                          clear H
                          have p68 : 0 ≤ (x16_3 : Int) := of_decide_eq_true (by first | (with_reducible assumption))
                          have q68 : x16_3 < (x11_2.size : Int) := of_decide_eq_true (by first | (with_reducible assumption))
                          have hx68 := bt_at x11_2 x16_3
                          replace p68 := eq_true p68
                          replace q68 := eq_true q68
                          go_wp2
                          go_meet
                          case rel => exact ⟨_, (x15_3), rfl, H', ⟨by have := HJ7.out; have := HK2.out; have := HK3.out; first | omega⟩, ⟨by exact HO_244000.out⟩, ⟨by exact HO_244001.out⟩, ⟨by exact HO_244002.out⟩, ⟨by exact HO_244003.out⟩, ⟨by exact HO_244004.out⟩, ⟨by exact HO_253002.out⟩, ⟨by exact HO_253003.out⟩, ⟨by exact HO_270001.out⟩, ⟨by exact HO_270002.out⟩, ⟨by exact HO_270003.out⟩, ⟨by exact HO_270004.out⟩, ⟨by exact BK225.out⟩, ⟨by exact BK226.out⟩, ⟨by exact BK243.out⟩, ⟨by exact BK252.out⟩, ⟨by exact BK269.out⟩, ⟨by exact HB.out⟩⟩
                        · rw [if_neg c69] at H
                          have c69b0 : ((bt x11_2 x16_3) == 10) = false := beq_eq_false_iff_ne.mpr c69
                          have c69b1 : ((bt x11_2 x16_3) != 10) = true := bne_iff_ne.mpr c69
                          obtain ⟨ji70, hji70⟩ : ∃ j_ : Int, (wrap64 (x16_3 + 1)) = j_ := ⟨_, rfl⟩
                          replace H : (if 0 ≤ (ji70) then (if (ji70) ≤ (x11_2.size : Int) then (proofmarklaw30_ReportClauses.l1 k3 t227 x11_2 x14_2 (x11_2.extract 0 ((ji70) : Int).toNat) ji70 t228 t231 t234 t237 t240 2 t245 t246 t249 t256 t257 t260 t263 t266) else (none)) else (none)) = some r := by first | (rw [hji70] at H; exact H)
                          have hji70w : (IntKind.i64.wrap (x16_3 + 1)) = ji70 := (i64_w _).trans hji70
                          by_cases c71 : 0 ≤ (ji70)
                          · rw [if_pos c71] at H
                            have c71b0 := eq_true c71
                            have c71b1 : decide (0 ≤ (ji70)) = true := decide_eq_true c71
                            clear c71
                            by_cases c72 : (ji70) ≤ (x11_2.size : Int)
                            · rw [if_pos c72] at H
                              have c72b0 := eq_true c72
                              have c72b1 : decide ((ji70) ≤ (x11_2.size : Int)) = true := decide_eq_true c72
                              clear c72
                              have H' := Aside0.mk H
                              clear H
                              have p68 : 0 ≤ (x16_3 : Int) := of_decide_eq_true (by first | (with_reducible assumption))
                              have q68 : x16_3 < (x11_2.size : Int) := of_decide_eq_true (by first | (with_reducible assumption))
                              have hx68 := bt_at x11_2 x16_3
                              replace p68 := eq_true p68
                              replace q68 := eq_true q68
                              go_wp2
                              go_roundg k3
                              case measure => have := HJ7.out; have := HK2.out; have := HK3.out; omega
                              case rel => exact ⟨(x11_2.extract 0 ((ji70) : Int).toNat), (ji70), rfl, rfl, H', ⟨by have := HJ7.out; have := HK2.out; have := HK3.out; omega⟩, ⟨by exact HO_244000.out⟩, ⟨by exact HO_244001.out⟩, ⟨by exact HO_244002.out⟩, ⟨by exact HO_244003.out⟩, ⟨by exact HO_244004.out⟩, ⟨by exact HO_253002.out⟩, ⟨by exact HO_253003.out⟩, ⟨by exact HO_270001.out⟩, ⟨by exact HO_270002.out⟩, ⟨by exact HO_270003.out⟩, ⟨by exact HO_270004.out⟩, ⟨by exact BK225.out⟩, ⟨by exact BK226.out⟩, ⟨by exact BK243.out⟩, ⟨by exact BK252.out⟩, ⟨by exact BK269.out⟩, ⟨by exact HB.out⟩⟩
                            · rw [if_neg c72] at H
                              exact absurd H (by simp)
                          · rw [if_neg c71] at H
                            exact absurd H (by simp)
                      · rw [if_neg c67] at H
                        exact absurd H (by simp)
                    · rw [if_neg c66] at H
                      have c66b0 : decide (x16_3 < (x11_2.size : Int)) = false := decide_eq_false c66
                      clear c66
                      (first | skip)
                      have H' := Aside0.mk H
                      clear H
                      go_wp2
                      go_meet
                      case rel => exact ⟨_, (x15_3), rfl, H', ⟨by have := HJ7.out; have := HK2.out; have := HK3.out; first | omega⟩, ⟨by exact HO_244000.out⟩, ⟨by exact HO_244001.out⟩, ⟨by exact HO_244002.out⟩, ⟨by exact HO_244003.out⟩, ⟨by exact HO_244004.out⟩, ⟨by exact HO_253002.out⟩, ⟨by exact HO_253003.out⟩, ⟨by exact HO_270001.out⟩, ⟨by exact HO_270002.out⟩, ⟨by exact HO_270003.out⟩, ⟨by exact HO_270004.out⟩, ⟨by exact BK225.out⟩, ⟨by exact BK226.out⟩, ⟨by exact BK243.out⟩, ⟨by exact BK252.out⟩, ⟨by exact BK269.out⟩, ⟨by exact HB.out⟩⟩
              case rest =>
                clear HC60
                try clear c1
                try clear c2
                try clear p2
                try clear c3
                try clear c4
                try clear c5
                try clear c6
                try clear p6
                try clear q6
                try clear hx6
                try clear c7
                try clear c8
                try clear c12
                try clear c13
                try clear c15
                try clear c16
                try clear c17
                try clear c18
                try clear c20
                try clear c21
                try clear c22
                try clear c27
                try clear c28
                try clear c29
                try clear c35
                try clear c35b0
                try clear c36
                try clear c37
                try clear c38
                try clear c40
                try clear c41
                try clear c44
                try clear c45
                try clear c46
                try clear c50
                try clear c51
                try clear c52
                try clear c53
                try clear c59
                try clear c59b0
                try clear c61
                try clear c62
                try clear c63
                try clear c64
                try clear p64
                try clear c66
                try clear c66b0
                try clear c67
                try clear c67b0
                try clear p68
                try clear q68
                try clear hx68
                try clear c69
                try clear c69b0
                try clear c69b1
                try clear c71
                try clear c71b0
                try clear c71b1
                try clear c72
                try clear c72b0
                try clear c72b1
                try clear hcz13_0
                try clear hcz13_1
                try clear hcz13_2
                try clear hcz13_3
                try clear hcz13_4
                try clear hcz19_0
                try clear hcz19_1
                try clear hcz19_2
                try clear hcz19_3
                try clear hcz19_4
                try clear hcz24_0
                try clear hcz24_1
                try clear hcz24_2
                try clear hcz24_3
                try clear hcz30_0
                try clear hcz30_1
                try clear hcz30_2
                try clear hcz30_3
                try clear hcz33_0
                try clear hcz33_1
                try clear hcz33_2
                try clear hcz33_3
                try clear hcz33_4
                try clear hcz39_0
                try clear hcz39_1
                try clear hcz39_2
                try clear hcz39_3
                try clear hcz39_4
                try clear hcz47_0
                try clear hcz47_1
                try clear hcz47_2
                try clear hcz47_3
                try clear hcz47_4
                try clear hcz54_0
                try clear hcz54_1
                try clear hcz54_2
                try clear hcz54_3
                try clear hcz54_4
                try clear hcz65_0
                try clear hcz65_1
                try clear hcz65_2
                try clear hcz65_3
                try clear hfz13_0
                try clear hfz13_1
                try clear hfz13_2
                try clear hfz13_3
                try clear hfz13_4
                try clear hfz19_0
                try clear hfz19_1
                try clear hfz19_2
                try clear hfz19_3
                try clear hfz19_4
                try clear hfz24_0
                try clear hfz24_1
                try clear hfz24_2
                try clear hfz24_3
                try clear hfz30_0
                try clear hfz30_1
                try clear hfz30_2
                try clear hfz30_3
                try clear hfz33_0
                try clear hfz33_1
                try clear hfz33_2
                try clear hfz33_3
                try clear hfz33_4
                try clear hfz39_0
                try clear hfz39_1
                try clear hfz39_2
                try clear hfz39_3
                try clear hfz39_4
                try clear hfz47_0
                try clear hfz47_1
                try clear hfz47_2
                try clear hfz47_3
                try clear hfz47_4
                try clear hfz54_0
                try clear hfz54_1
                try clear hfz54_2
                try clear hfz54_3
                try clear hfz54_4
                try clear hfz65_0
                try clear hfz65_1
                try clear hfz65_2
                try clear hfz65_3
                try clear p2
                try clear p68
                try clear q68
                obtain ⟨kq, x15_59, rfl, HA, HJ59, HO_244000, HO_244001, HO_244002, HO_244003, HO_244004, HO_253002, HO_253003, HO_270001, HO_270002, HO_270003, HO_270004, BK225, BK226, BK243, BK252, BK269, HB⟩ := hcut
                cases kq with
                | zero => exact absurd HA.out (by simp [proofmarklaw30_ReportClauses.j3])
                | succ kj59 =>
                  have H := HA.out
                  clear HA
                  simp only [proofmarklaw30_ReportClauses.j3] at H
                  replace H := Option.bind_eq_some_iff.mp H
                  obtain ⟨⟨t270, t273⟩, A730, H⟩ := H
                  replace H : (if 0 ≤ x14_2 then (if x14_2 < (t249.length : Int) then ((lift_Clause.f t228 t231 t234 t237 t240 t256 t257 t260 t263 t266 (rd_L23 t249 x14_2)).bind fun t275 => (if x15_59.toList = t275.toList then (if x15_59.toList = ([] : List UInt8) then (proofmarklaw30_ReportClauses.j4 kj59 t227 x11_2 x14_2 false t228 t231 t234 t237 t240 2 t245 t246 t249 t256 t257 t260 t263 t266) else (if t273 = true then ((proofmarkref27_SameInts.f kj59 t270 (rd_L23 t249 x14_2)).bind fun t277 => (proofmarklaw30_ReportClauses.j4 kj59 t227 x11_2 x14_2 (!t277) t228 t231 t234 t237 t240 2 t245 t246 t249 t256 t257 t260 t263 t266)) else (proofmarklaw30_ReportClauses.j4 kj59 t227 x11_2 x14_2 true t228 t231 t234 t237 t240 2 t245 t246 t249 t256 t257 t260 t263 t266))) else (proofmarklaw30_ReportClauses.j4 kj59 t227 x11_2 x14_2 true t228 t231 t234 t237 t240 2 t245 t246 t249 t256 t257 t260 t263 t266))) else (none)) else (none)) = some r := H
                  have A73 := Aside0.mk A730
                  clear A730
                  have HC74 := Aside0.mk H
                  clear H
                  have hnb75 := NB243_225.out
                  have hnc75 := NB225_243.out
                  have hnb76 := NB243_226.out
                  have hnc76 := NB226_243.out
                  have hnb77 := NB243_252.out
                  have hnc77 := NB252_243.out
                  have hnb78 := NB243_269.out
                  have hnc78 := NB269_243.out
                  have hcz79_0 : wc.cell? ⟨gb243, 0, none⟩ = some (.slice Ao16 t228.length co16) := (blk_cell BK243.out 0).trans rfl
                  have hcz79_1 : wc.cell? ⟨gb243, 1, none⟩ = some (.slice Ao20 t231.length co20) := (blk_cell BK243.out 1).trans rfl
                  have hcz79_2 : wc.cell? ⟨gb243, 2, none⟩ = some (.slice Ao21 t234.length co21) := (blk_cell BK243.out 2).trans rfl
                  have hcz79_3 : wc.cell? ⟨gb243, 3, none⟩ = some (.slice Ao22 t237.length co22) := (blk_cell BK243.out 3).trans rfl
                  have hcz79_4 : wc.cell? ⟨gb243, 4, none⟩ = some (.slice Ao23 t240.length co23) := (blk_cell BK243.out 4).trans rfl
                  have hfz79_0 := blk_frozen BK243.out 0
                  have hfz79_1 := blk_frozen BK243.out 1
                  have hfz79_2 := blk_frozen BK243.out 2
                  have hfz79_3 := blk_frozen BK243.out 3
                  have hfz79_4 := blk_frozen BK243.out 4
                  have hnb80 := NB269_225.out
                  have hnc80 := NB225_269.out
                  have hnb81 := NB269_226.out
                  have hnc81 := NB226_269.out
                  have hnb82 := NB269_252.out
                  have hnc82 := NB252_269.out
                  have hcz83_0 : wc.cell? ⟨gb269, 0, none⟩ = some (.int .i64 t256) := (blk_cell BK269.out 0).trans rfl
                  have hcz83_1 : wc.cell? ⟨gb269, 1, none⟩ = some (.slice Ao55 t257.length co55) := (blk_cell BK269.out 1).trans rfl
                  have hcz83_2 : wc.cell? ⟨gb269, 2, none⟩ = some (.slice Ao56 t260.length co56) := (blk_cell BK269.out 2).trans rfl
                  have hcz83_3 : wc.cell? ⟨gb269, 3, none⟩ = some (.slice Ao57 t263.length co57) := (blk_cell BK269.out 3).trans rfl
                  have hcz83_4 : wc.cell? ⟨gb269, 4, none⟩ = some (.slice Ao58 t266.length co58) := (blk_cell BK269.out 4).trans rfl
                  have hfz83_0 := blk_frozen BK269.out 0
                  have hfz83_1 := blk_frozen BK269.out 1
                  have hfz83_2 := blk_frozen BK269.out 2
                  have hfz83_3 := blk_frozen BK269.out 3
                  have hfz83_4 := blk_frozen BK269.out 4
                  go_upto_region 19 with (first | ((with_reducible refine gate_callee (f := 23) rfl ?_); refine goesL_ (some 77) rfl rfl Tryd.func23 (by kernel_rfl) rfl #[.agg #[.slice Ao16 t228.length co16, .slice Ao20 t231.length co20, .slice Ao21 t234.length co21, .slice Ao22 t237.length co22, .slice Ao23 t240.length co23], .agg #[.int .i64 t256, .slice Ao55 t257.length co55, .slice Ao56 t260.length co56, .slice Ao57 t263.length co57, .slice Ao58 t266.length co58], .string x15_59] rfl (by (try simp only [List.map_toArray, List.map_cons, List.map_nil]); first | rfl) ?_; (with_reducible refine (lift_Lits.calls _ _ t228 _ _ t231 _ _ t234 _ _ t237 _ _ t240 t256 _ _ t257 _ _ t260 _ _ t263 _ _ t266 x15_59 t270 t273 _ (by first | (refine tab_below HG.out ?_; repeat (first | (with_reducible first | exact HB.out)))) ?side1 ?side2 ?side3 ?side4 ?side5 ?side6 ?side7 ?side8 ?side9 ?side10 ?side11 ?side12 ?side13 ?side14 ?side15 ?side16 ?side17 ?side18 A73.out).mono ?_); (case side1 => repeat (first | exact (Kd.R_reads' HO_244000.out).2.2)); (case side2 => exact (Kd.R_reads' HO_244000.out).2.1); (case side3 => repeat (first | exact (Kd.R_reads' HO_244001.out).2.2)); (case side4 => exact (Kd.R_reads' HO_244001.out).2.1); (case side5 => repeat (first | exact (Kd.R_reads' HO_244002.out).2.2)); (case side6 => exact (Kd.R_reads' HO_244002.out).2.1); (case side7 => repeat (first | exact (Kd.R_reads' HO_244003.out).2.2)); (case side8 => exact (Kd.R_reads' HO_244003.out).2.1); (case side9 => repeat (first | exact (Kd.R_reads' HO_244004.out).2.2)); (case side10 => exact (Kd.R_reads' HO_244004.out).2.1); (case side11 => repeat (first | exact (Kd.R_reads' HO_270001.out).2.2)); (case side12 => exact (Kd.R_reads' HO_270001.out).2.1); (case side13 => repeat (first | exact (Kd.R_reads' HO_270002.out).2.2)); (case side14 => exact (Kd.R_reads' HO_270002.out).2.1); (case side15 => repeat (first | exact (Kd.R_reads' HO_270003.out).2.2)); (case side16 => exact (Kd.R_reads' HO_270003.out).2.1); (case side17 => repeat (first | exact (Kd.R_reads' HO_270004.out).2.2)); (case side18 => exact (Kd.R_reads' HO_270004.out).2.1); rintro e w84 ⟨v271, rfl, ho0, hb⟩; refine ⟨_, rfl, ?_⟩; have n0_ := Aside0.mk (Kd.R_below HO_244000.out hb); have n1_ := Aside0.mk (Kd.R_below HO_244001.out hb); have n2_ := Aside0.mk (Kd.R_below HO_244002.out hb); have n3_ := Aside0.mk (Kd.R_below HO_244003.out hb); have n4_ := Aside0.mk (Kd.R_below HO_244004.out hb); have n5_ := Aside0.mk (Kd.S_elder' HO_253002.out (Kd.R_base ho0) hb); have n6_ := Aside0.mk (Kd.S_elder' HO_253003.out (Kd.R_base ho0) hb); have n7_ := Aside0.mk (Kd.R_below HO_270001.out hb); have n8_ := Aside0.mk (Kd.R_below HO_270002.out hb); have n9_ := Aside0.mk (Kd.R_below HO_270003.out hb); have n10_ := Aside0.mk (Kd.R_below HO_270004.out hb); have n11_ := Aside0.mk (Kd.R_lower ho0 (below_size HB.out)); have n12_ := Aside0.mk (blk_below BK225.out hb); have n13_ := Aside0.mk (blk_below BK226.out hb); have n14_ := Aside0.mk (blk_below BK243.out hb); have n15_ := Aside0.mk (blk_below BK252.out hb); have n16_ := Aside0.mk (blk_below BK269.out hb); have n17_ := Aside0.mk (below_step HB.out hb); clear HO_244000; clear HO_244001; clear HO_244002; clear HO_244003; clear HO_244004; clear HO_253002; clear HO_253003; clear HO_270001; clear HO_270002; clear HO_270003; clear HO_270004; clear BK225; clear BK226; clear BK243; clear BK252; clear BK269; clear HB; have HO_244000 := n0_; have HO_244001 := n1_; have HO_244002 := n2_; have HO_244003 := n3_; have HO_244004 := n4_; have HO_253002 := n5_; have HO_253003 := n6_; have HO_270001 := n7_; have HO_270002 := n8_; have HO_270003 := n9_; have HO_270004 := n10_; have HO272 := n11_; have BK225 := n12_; have BK226 := n13_; have BK243 := n14_; have BK252 := n15_; have BK269 := n16_; have HB := n17_; clear n0_ n1_ n2_ n3_ n4_ n5_ n6_ n7_ n8_ n9_ n10_ n11_ n12_ n13_ n14_ n15_ n16_ n17_; (try clear hb); (try clear hb2); (try clear hk); (try clear hi); (try clear ho0)))
                  (try simp only [Act.put, List.setIfInBounds_toArray, List.set_cons_zero, List.set_cons_succ])
                  go_cut [107] (fun v107 wc => ∃ (kq : Nat) (x107_73 : Bool), v107 = .bool x107_73 ∧ Aside0 (proofmarklaw30_ReportClauses.j4 kq t227 x11_2 x14_2 x107_73 t228 t231 t234 t237 t240 2 t245 t246 t249 t256 t257 t260 t263 t266 = some r) ∧ Aside0 (kq ≤ kj59) ∧ Aside0 (Kd.R k96 96 wc w.heap.size (fun _ => True) (.slice Ao16 t228.length co16) t228) ∧ Aside0 (Kd.R k111 111 wc w.heap.size (fun k_ => some k_ ≠ ((.slice Ao23 t240.length co23) : Value).ownBlock) (.slice Ao20 t231.length co20) t231) ∧ Aside0 (Kd.R k94 94 wc w.heap.size (fun _ => True) (.slice Ao21 t234.length co21) t234) ∧ Aside0 (Kd.R k73 73 wc w.heap.size (fun _ => True) (.slice Ao22 t237.length co22) t237) ∧ Aside0 (Kd.R k111 111 wc w.heap.size (fun k_ => some k_ ≠ ((.slice Ao20 t231.length co20) : Value).ownBlock) (.slice Ao23 t240.length co23) t240) ∧ Aside0 (Kd.S (Kd.slice 3 (Kd.int .i64)) 55 wc w.heap.size (fun k_ => some k_ ≠ ((.slice Ao32 t249.length co32) : Value).ownBlock) (.slice Ao31 t246.length co31) t246) ∧ Aside0 (Kd.S (Kd.slice 3 (Kd.int .i64)) 55 wc w.heap.size (fun k_ => some k_ ≠ ((.slice Ao31 t246.length co31) : Value).ownBlock) (.slice Ao32 t249.length co32) t249) ∧ Aside0 (Kd.R k201 201 wc w.heap.size (fun _ => True) (.slice Ao55 t257.length co55) t257) ∧ Aside0 (Kd.R k202 202 wc w.heap.size (fun _ => True) (.slice Ao56 t260.length co56) t260) ∧ Aside0 (Kd.R k98 98 wc w.heap.size (fun _ => True) (.slice Ao57 t263.length co57) t263) ∧ Aside0 (Kd.R k204 204 wc w.heap.size (fun _ => True) (.slice Ao58 t266.length co58) t266) ∧ Aside0 (wc.heap[gb225]? = some (.cells #[(.slice A0_0 l0_0.length c0_0), (.slice A0_1 l0_1.length c0_1), (.slice A0_2 l0_2.length c0_2), (.slice A0_3 l0_3.length c0_3), (.slice A0_4 l0_4.length c0_4)] 27 (0, 0))) ∧ Aside0 (wc.heap[gb226]? = some (.cells #[.int .i64 a1_0, .int .i64 a1_1, (.slice A1_2 l1_2.length c1_2), (.slice A1_3 l1_3.length c1_3)] 30 (0, 0))) ∧ Aside0 (wc.heap[gb243]? = some (.cells #[(.slice Ao16 t228.length co16), (.slice Ao20 t231.length co20), (.slice Ao21 t234.length co21), (.slice Ao22 t237.length co22), (.slice Ao23 t240.length co23)] 27 (0, 0))) ∧ Aside0 (wc.heap[gb252]? = some (.cells #[.int .i64 2, .int .i64 t245, (.slice Ao31 t246.length co31), (.slice Ao32 t249.length co32)] 30 (0, 0))) ∧ Aside0 (wc.heap[gb269]? = some (.cells #[.int .i64 t256, (.slice Ao55 t257.length co55), (.slice Ao56 t260.length co56), (.slice Ao57 t263.length co57), (.slice Ao58 t266.length co58)] 53 (0, 0))) ∧ Aside0 (Below w.heap.size w wc))
                  case first =>
                    have H := HC74.out
                    clear HC74
                    by_cases c85 : 0 ≤ x14_2
                    · rw [if_pos c85] at H
                      have c85b0 : decide (0 ≤ x14_2) = true := decide_eq_true c85
                      clear c85
                      (first | skip)
                      by_cases c86 : x14_2 < (t249.length : Int)
                      · rw [if_pos c86] at H
                        have c86b0 : decide (x14_2 < (t249.length : Int)) = true := decide_eq_true c86
                        clear c86
                        replace H := Option.bind_eq_some_iff.mp H
                        obtain ⟨t275, A870, H⟩ := H
                        replace H : (if x15_59.toList = t275.toList then (if x15_59.toList = ([] : List UInt8) then (proofmarklaw30_ReportClauses.j4 kj59 t227 x11_2 x14_2 false t228 t231 t234 t237 t240 2 t245 t246 t249 t256 t257 t260 t263 t266) else (if t273 = true then ((proofmarkref27_SameInts.f kj59 t270 (rd_L23 t249 x14_2)).bind fun t277 => (proofmarklaw30_ReportClauses.j4 kj59 t227 x11_2 x14_2 (!t277) t228 t231 t234 t237 t240 2 t245 t246 t249 t256 t257 t260 t263 t266)) else (proofmarklaw30_ReportClauses.j4 kj59 t227 x11_2 x14_2 true t228 t231 t234 t237 t240 2 t245 t246 t249 t256 t257 t260 t263 t266))) else (proofmarklaw30_ReportClauses.j4 kj59 t227 x11_2 x14_2 true t228 t231 t234 t237 t240 2 t245 t246 t249 t256 t257 t260 t263 t266)) = some r := H
                        have A87 := Aside0.mk A870
                        clear A870
                        by_cases c88 : x15_59.toList = t275.toList
                        · rw [if_pos c88] at H
                          have c88b0 : (x15_59.toList == t275.toList) = true := beq_iff_eq.mpr c88
                          have c88b1 : (x15_59.toList != t275.toList) = false := bne_eq_false_iff_eq.mpr c88
                          clear c88
                          by_cases c89 : x15_59.toList = ([] : List UInt8)
                          · rw [if_pos c89] at H
                            have c89b0 : (x15_59.toList == ([] : List UInt8)) = true := beq_iff_eq.mpr c89
                            have c89b1 : (x15_59.toList != ([] : List UInt8)) = false := bne_eq_false_iff_eq.mpr c89
                            clear c89
                            have H' := Aside0.mk H
                            clear H
                            try go_wp2
                            have n0_ := Aside0.mk (Kd.R_drew HO_244000.out)
                            have n1_ := Aside0.mk (Kd.R_drew HO_244001.out)
                            have n2_ := Aside0.mk (Kd.R_drew HO_244002.out)
                            have n3_ := Aside0.mk (Kd.R_drew HO_244003.out)
                            have n4_ := Aside0.mk (Kd.R_drew HO_244004.out)
                            have n5_ := Aside0.mk (Kd.S_drew HO_253002.out)
                            have n6_ := Aside0.mk (Kd.S_drew HO_253003.out)
                            have n7_ := Aside0.mk (Kd.R_drew HO_270001.out)
                            have n8_ := Aside0.mk (Kd.R_drew HO_270002.out)
                            have n9_ := Aside0.mk (Kd.R_drew HO_270003.out)
                            have n10_ := Aside0.mk (Kd.R_drew HO_270004.out)
                            have n11_ := Aside0.mk (Kd.R_drew HO272.out)
                            have n12_ := Aside0.mk (blk_drew BK225.out)
                            have n13_ := Aside0.mk (blk_drew BK226.out)
                            have n14_ := Aside0.mk (blk_drew BK243.out)
                            have n15_ := Aside0.mk (blk_drew BK252.out)
                            have n16_ := Aside0.mk (blk_drew BK269.out)
                            have n17_ := Aside0.mk (below_drew1 HB.out)
                            clear HO_244000
                            clear HO_244001
                            clear HO_244002
                            clear HO_244003
                            clear HO_244004
                            clear HO_253002
                            clear HO_253003
                            clear HO_270001
                            clear HO_270002
                            clear HO_270003
                            clear HO_270004
                            clear HO272
                            clear BK225
                            clear BK226
                            clear BK243
                            clear BK252
                            clear BK269
                            clear HB
                            have HO_244000 := n0_
                            have HO_244001 := n1_
                            have HO_244002 := n2_
                            have HO_244003 := n3_
                            have HO_244004 := n4_
                            have HO_253002 := n5_
                            have HO_253003 := n6_
                            have HO_270001 := n7_
                            have HO_270002 := n8_
                            have HO_270003 := n9_
                            have HO_270004 := n10_
                            have HO272 := n11_
                            have BK225 := n12_
                            have BK226 := n13_
                            have BK243 := n14_
                            have BK252 := n15_
                            have BK269 := n16_
                            have HB := n17_
                            clear n0_ n1_ n2_ n3_ n4_ n5_ n6_ n7_ n8_ n9_ n10_ n11_ n12_ n13_ n14_ n15_ n16_ n17_
                            have p274 : 0 ≤ (x14_2 : Int) := of_decide_eq_true (by first | (with_reducible assumption))
                            have q274 : x14_2 < (t249.length : Int) := of_decide_eq_true (by first | (with_reducible assumption))
                            obtain ⟨ad274, A274_0, c274_0, e274, hx274_0, hl274_0, hi274_0⟩ := at_L23 (Kd.S_reads' HO_253003.out).2.2 x14_2 p274 q274
                            cases e274
                            obtain ⟨ce274, hce274, hMe274, hcc274⟩ := Kd.S_get HO_253003.out [] x14_2 p274 (by first | exact q274)
                            obtain ⟨ve274_0, rfl, ge274_0⟩ := hMe274
                            have hv274_0 := hcc274 0 _ rfl
                            rw [Nat.add_zero, show ((Kd.slice 3 (Kd.int .i64))).sz = 1 from rfl, Nat.mul_one] at hv274_0
                            replace hv274_0 := Option.some.inj (hv274_0.symm.trans hx274_0)
                            rw [hv274_0] at ge274_0
                            have HL274_0 := Aside0.mk (show Kd.R (Kd.int .i64) 3 _ _ _ _ (rd_L23 t249 x14_2) from ge274_0)
                            clear hv274_0 ge274_0
                            clear hcc274 hce274
                            have HR274_0 := Aside0.mk hi274_0
                            have HC274_0 := Aside0.mk hl274_0
                            clear hi274_0 hl274_0
                            replace p274 := eq_true p274
                            replace q274 := eq_true q274
                            refine start_ (n := 28) (S := fun w' => w'.cell? ⟨gb243, 0, none⟩ = some (.slice Ao16 t228.length co16) ∧ w'.cell? ⟨gb243, 1, none⟩ = some (.slice Ao20 t231.length co20) ∧ w'.cell? ⟨gb243, 2, none⟩ = some (.slice Ao21 t234.length co21) ∧ w'.cell? ⟨gb243, 3, none⟩ = some (.slice Ao22 t237.length co22) ∧ w'.cell? ⟨gb243, 4, none⟩ = some (.slice Ao23 t240.length co23) ∧ w'.cell? ⟨gb269, 0, none⟩ = some (.int .i64 t256) ∧ w'.cell? ⟨gb269, 1, none⟩ = some (.slice Ao55 t257.length co55) ∧ w'.cell? ⟨gb269, 2, none⟩ = some (.slice Ao56 t260.length co56) ∧ w'.cell? ⟨gb269, 3, none⟩ = some (.slice Ao57 t263.length co57) ∧ w'.cell? ⟨gb269, 4, none⟩ = some (.slice Ao58 t266.length co58) ∧ w'.cell? ⟨gb252, 0, none⟩ = some (.int .i64 2) ∧ w'.cell? ⟨gb252, 1, none⟩ = some (.int .i64 t245) ∧ w'.cell? ⟨gb252, 2, none⟩ = some (.slice Ao31 t246.length co31) ∧ w'.cell? ⟨gb252, 3, none⟩ = some (.slice (some ad274) t249.length co32) ∧ w'.cell? (ad274.add (x14_2).toNat) = some (.slice A274_0 (rd_L23 t249 x14_2).length c274_0)) (ds := []) #[false, false, false, false, false, false, false, false, false, false, false, false, false, false, false, false, false, false, false, false, false, false, false, false, false, false, false, false] (by kernel_rfl) rfl rfl ⟨(blk_cell BK243.out 0).trans rfl, (blk_cell BK243.out 1).trans rfl, (blk_cell BK243.out 2).trans rfl, (blk_cell BK243.out 3).trans rfl, (blk_cell BK243.out 4).trans rfl, (blk_cell BK269.out 0).trans rfl, (blk_cell BK269.out 1).trans rfl, (blk_cell BK269.out 2).trans rfl, (blk_cell BK269.out 3).trans rfl, (blk_cell BK269.out 4).trans rfl, (blk_cell BK252.out 0).trans rfl, (blk_cell BK252.out 1).trans rfl, (blk_cell BK252.out 2).trans rfl, (blk_cell BK252.out 3).trans rfl, hx274_0⟩ (fun hHeld => ?_); refine with_tabW proofmarklaw30_ReportClauses.tab19 proofmarklaw30_ReportClauses.bits19 (fun HT_ HW_ => ?_)
                            generalize w84.drew = w90 at HO_244000 HO_244001 HO_244002 HO_244003 HO_244004 HO_253002 HO_253003 HO_270001 HO_270002 HO_270003 HO_270004 HO272 BK225 BK226 BK243 BK252 BK269 HB HL274_0 HR274_0 hx274_0 hHeld ⊢
                            refine pure_ (i := 0) (N := some 80) (v := ?_) (a' := ?_) #[true, false, false, false, false, false, false, false, false, false, false, false, false, false, false, false, false, false, false, false, false, false, false, false, false, false, false, false] rfl rfl (any_of HT_.out (by kernel_rfl)) (fun _ _ _ h => h) (Or.inl ⟨by rfl, ?_⟩) ?_ ?_
                            rotate_left
                            · intro w'
                              go_simp
                              with_reducible rfl
                            rotate_left
                            · simp only [Act.put, List.setIfInBounds_toArray, List.set_cons_zero, List.set_cons_succ, i64_w, i32_w]
                              rfl
                            refine pure_ (i := 3) (N := some 83) (v := ?_) (a' := ?_) #[true, false, false, true, false, false, false, false, false, false, false, false, false, false, false, false, false, false, false, false, false, false, false, false, false, false, false, false] rfl rfl (any_of HT_.out (by kernel_rfl)) (fun _ _ _ h => h) (Or.inl ⟨by rfl, ?_⟩) ?_ ?_
                            rotate_left
                            · intro w'
                              go_simp
                              with_reducible rfl
                            rotate_left
                            · simp only [Act.put, List.setIfInBounds_toArray, List.set_cons_zero, List.set_cons_succ, i64_w, i32_w]
                              rfl
                            refine pure_ (i := 5) (N := some 85) (v := ?_) (a' := ?_) #[true, false, false, true, false, true, false, false, false, false, false, false, false, false, false, false, false, false, false, false, false, false, false, false, false, false, false, false] rfl rfl (any_of HT_.out (by kernel_rfl)) (fun _ _ _ h => h) (Or.inl ⟨by rfl, ?_⟩) ?_ ?_
                            rotate_left
                            · intro w'
                              go_simp
                              with_reducible rfl
                            rotate_left
                            · simp only [Act.put, List.setIfInBounds_toArray, List.set_cons_zero, List.set_cons_succ, i64_w, i32_w]
                              rfl
                            refine take_ (i := 1) (N := some 81) (v := ?_) (a' := ?_) #[true, true, false, true, false, true, false, false, false, false, false, false, false, false, false, false, false, false, false, false, false, false, false, false, false, false, false, false] rfl rfl (take_ofW HT_.out HW_.out (by kernel_rfl)) (fun _ _ _ h => h) (Or.inl ⟨by rfl, ?_⟩) hHeld ?_ ?_
                            rotate_left
                            · rintro w' ⟨s0, s1, s2, s3, s4, s5, s6, s7, s8, s9, s10, s11, s12, s13, s14⟩
                              go_simp
                              with_reducible rfl
                            rotate_left
                            · simp only [Act.put, List.setIfInBounds_toArray, List.set_cons_zero, List.set_cons_succ, i64_w, i32_w]
                              rfl
                            refine take_ (i := 2) (N := some 82) (v := ?_) (a' := ?_) #[true, true, true, true, false, true, false, false, false, false, false, false, false, false, false, false, false, false, false, false, false, false, false, false, false, false, false, false] rfl rfl (take_ofW HT_.out HW_.out (by kernel_rfl)) (fun _ _ _ h => h) (Or.inl ⟨by rfl, ?_⟩) hHeld ?_ ?_
                            rotate_left
                            · rintro w' ⟨s0, s1, s2, s3, s4, s5, s6, s7, s8, s9, s10, s11, s12, s13, s14⟩
                              go_simp
                              with_reducible rfl
                            rotate_left
                            · simp only [Act.put, List.setIfInBounds_toArray, List.set_cons_zero, List.set_cons_succ, i64_w, i32_w]
                              rfl
                            refine take_ (i := 4) (N := some 84) (v := ?_) (a' := ?_) #[true, true, true, true, true, true, false, false, false, false, false, false, false, false, false, false, false, false, false, false, false, false, false, false, false, false, false, false] rfl rfl (take_ofW HT_.out HW_.out (by kernel_rfl)) (fun _ _ _ h => h) (Or.inl ⟨by rfl, ?_⟩) hHeld ?_ ?_
                            rotate_left
                            · rintro w' ⟨s0, s1, s2, s3, s4, s5, s6, s7, s8, s9, s10, s11, s12, s13, s14⟩
                              go_simp
                              with_reducible rfl
                            rotate_left
                            · simp only [Act.put, List.setIfInBounds_toArray, List.set_cons_zero, List.set_cons_succ, i64_w, i32_w]
                              rfl
                            refine pure_ (i := 6) (N := some 86) (v := ?_) (a' := ?_) #[true, true, true, true, true, true, true, false, false, false, false, false, false, false, false, false, false, false, false, false, false, false, false, false, false, false, false, false] rfl rfl (any_of HT_.out (by kernel_rfl)) (fun _ _ _ h => h) (Or.inl ⟨by rfl, ?_⟩) ?_ ?_
                            rotate_left
                            · intro w'
                              go_simp
                              with_reducible rfl
                            rotate_left
                            · simp only [Act.put, List.setIfInBounds_toArray, List.set_cons_zero, List.set_cons_succ, i64_w, i32_w]
                              rfl
                            refine take_ (i := 7) (N := some 87) (v := ?_) (a' := ?_) #[true, true, true, true, true, true, true, true, false, false, false, false, false, false, false, false, false, false, false, false, false, false, false, false, false, false, false, false] rfl rfl (take_ofW HT_.out HW_.out (by kernel_rfl)) (fun _ _ _ h => h) (Or.inl ⟨by rfl, ?_⟩) hHeld ?_ ?_
                            rotate_left
                            · rintro w' ⟨s0, s1, s2, s3, s4, s5, s6, s7, s8, s9, s10, s11, s12, s13, s14⟩
                              go_simp
                              with_reducible rfl
                            rotate_left
                            · simp only [Act.put, List.setIfInBounds_toArray, List.set_cons_zero, List.set_cons_succ, i64_w, i32_w]
                              rfl
                            refine one_ (i := 8) (N := some 88) #[true, true, true, true, true, true, true, true, true, false, false, false, false, false, false, false, false, false, false, false, false, false, false, false, false, false, false, false] rfl rfl (one_of HT_.out (by kernel_rfl)) (by decide) (fun K hK => ?_)
                            refine goes_ Tryd.func24 (by kernel_rfl) rfl #[.agg #[.slice Ao16 t228.length co16, .slice Ao20 t231.length co20, .slice Ao21 t234.length co21, .slice Ao22 t237.length co22, .slice Ao23 t240.length co23], .agg #[.int .i64 t256, .slice Ao55 t257.length co55, .slice Ao56 t260.length co56, .slice Ao57 t263.length co57, .slice Ao58 t266.length co58], .slice A274_0 (rd_L23 t249 x14_2).length c274_0] (by rfl) rfl rfl (by (try simp only [List.map_toArray, List.map_cons, List.map_nil]); first | rfl) ?_
                            with_reducible refine (lift_Clause.calls _ _ t228 _ _ t231 _ _ t234 _ _ t237 _ _ t240 t256 _ _ t257 _ _ t260 _ _ t263 _ _ t266 _ _ (rd_L23 t249 x14_2) t275 _ (by first | (refine tab_below HG.out ?_; repeat (first | (with_reducible first | exact HB.out)))) ?side1 ?side2 ?side3 ?side4 ?side5 ?side6 ?side7 ?side8 ?side9 ?side10 ?side11 ?side12 ?side13 ?side14 ?side15 ?side16 ?side17 ?side18 ?side19 ?side20 A87.out).mono ?_
                            (case side1 => repeat (first | exact (Kd.R_reads' HO_244000.out).2.2))
                            (case side2 => exact (Kd.R_reads' HO_244000.out).2.1)
                            (case side3 => repeat (first | exact (Kd.R_reads' HO_244001.out).2.2))
                            (case side4 => exact (Kd.R_reads' HO_244001.out).2.1)
                            (case side5 => repeat (first | exact (Kd.R_reads' HO_244002.out).2.2))
                            (case side6 => exact (Kd.R_reads' HO_244002.out).2.1)
                            (case side7 => repeat (first | exact (Kd.R_reads' HO_244003.out).2.2))
                            (case side8 => exact (Kd.R_reads' HO_244003.out).2.1)
                            (case side9 => repeat (first | exact (Kd.R_reads' HO_244004.out).2.2))
                            (case side10 => exact (Kd.R_reads' HO_244004.out).2.1)
                            (case side11 => repeat (first | exact (Kd.R_reads' HO_270001.out).2.2))
                            (case side12 => exact (Kd.R_reads' HO_270001.out).2.1)
                            (case side13 => repeat (first | exact (Kd.R_reads' HO_270002.out).2.2))
                            (case side14 => exact (Kd.R_reads' HO_270002.out).2.1)
                            (case side15 => repeat (first | exact (Kd.R_reads' HO_270003.out).2.2))
                            (case side16 => exact (Kd.R_reads' HO_270003.out).2.1)
                            (case side17 => repeat (first | exact (Kd.R_reads' HO_270004.out).2.2))
                            (case side18 => exact (Kd.R_reads' HO_270004.out).2.1)
                            (case side19 => repeat (first | exact (by repeat (first | (with_reducible exact HR274_0.out)))))
                            (case side20 => exact HC274_0.out)
                            rintro e w91 ⟨rfl, hb⟩
                            have HS14_ := (hb.cell (World.block_lt_of_cell? _ _ (hHeld.2.2.2.2.2.2.2.2.2.2.2.2.2.2))).trans (hHeld.2.2.2.2.2.2.2.2.2.2.2.2.2.2)
                            refine ⟨_, rfl, ?_⟩
                            have n0_ := Aside0.mk (Kd.R_below HO_244000.out hb)
                            have n1_ := Aside0.mk (Kd.R_below HO_244001.out hb)
                            have n2_ := Aside0.mk (Kd.R_below HO_244002.out hb)
                            have n3_ := Aside0.mk (Kd.R_below HO_244003.out hb)
                            have n4_ := Aside0.mk (Kd.R_below HO_244004.out hb)
                            have n5_ := Aside0.mk (Kd.S_below HO_253002.out hb)
                            have n6_ := Aside0.mk (Kd.S_below HO_253003.out hb)
                            have n7_ := Aside0.mk (Kd.R_below HO_270001.out hb)
                            have n8_ := Aside0.mk (Kd.R_below HO_270002.out hb)
                            have n9_ := Aside0.mk (Kd.R_below HO_270003.out hb)
                            have n10_ := Aside0.mk (Kd.R_below HO_270004.out hb)
                            have n11_ := Aside0.mk (Kd.R_below HO272.out hb)
                            have n12_ := Aside0.mk (Kd.R_below HL274_0.out hb)
                            have n13_ := Aside0.mk (blk_below BK225.out hb)
                            have n14_ := Aside0.mk (blk_below BK226.out hb)
                            have n15_ := Aside0.mk (blk_below BK243.out hb)
                            have n16_ := Aside0.mk (blk_below BK252.out hb)
                            have n17_ := Aside0.mk (blk_below BK269.out hb)
                            have n18_ := Aside0.mk (Kd.C_below (by repeat (first | (with_reducible exact HR274_0.out))) hb)
                            have n19_ := Aside0.mk (below_step HB.out hb)
                            clear HO_244000
                            clear HO_244001
                            clear HO_244002
                            clear HO_244003
                            clear HO_244004
                            clear HO_253002
                            clear HO_253003
                            clear HO_270001
                            clear HO_270002
                            clear HO_270003
                            clear HO_270004
                            clear HO272
                            clear HL274_0
                            clear BK225
                            clear BK226
                            clear BK243
                            clear BK252
                            clear BK269
                            clear HR274_0
                            clear HB
                            have HO_244000 := n0_
                            have HO_244001 := n1_
                            have HO_244002 := n2_
                            have HO_244003 := n3_
                            have HO_244004 := n4_
                            have HO_253002 := n5_
                            have HO_253003 := n6_
                            have HO_270001 := n7_
                            have HO_270002 := n8_
                            have HO_270003 := n9_
                            have HO_270004 := n10_
                            have HO272 := n11_
                            have HL274_0 := n12_
                            have BK225 := n13_
                            have BK226 := n14_
                            have BK243 := n15_
                            have BK252 := n16_
                            have BK269 := n17_
                            have HR274_0 := n18_
                            have HB := n19_
                            clear n0_ n1_ n2_ n3_ n4_ n5_ n6_ n7_ n8_ n9_ n10_ n11_ n12_ n13_ n14_ n15_ n16_ n17_ n18_ n19_
                            (try clear hb)
                            (try clear hb2)
                            (try clear hk)
                            (try clear hi)
                            refine hK.out _ _ ⟨(blk_cell BK243.out 0).trans rfl, (blk_cell BK243.out 1).trans rfl, (blk_cell BK243.out 2).trans rfl, (blk_cell BK243.out 3).trans rfl, (blk_cell BK243.out 4).trans rfl, (blk_cell BK269.out 0).trans rfl, (blk_cell BK269.out 1).trans rfl, (blk_cell BK269.out 2).trans rfl, (blk_cell BK269.out 3).trans rfl, (blk_cell BK269.out 4).trans rfl, (blk_cell BK252.out 0).trans rfl, (blk_cell BK252.out 1).trans rfl, (blk_cell BK252.out 2).trans rfl, (blk_cell BK252.out 3).trans rfl, HS14_⟩ (fun hHeld => ?_)
                            clear hK K
                            refine norm_ (a' := ?_) ?_ ?_
                            rotate_left
                            · show Act.put _ (some 88) _ = _
                              simp only [Act.put, List.setIfInBounds_toArray, List.set_cons_zero, List.set_cons_succ, i64_w, i32_w]
                              rfl
                            refine pure_ (i := 9) (N := some 89) (v := ?_) (a' := ?_) #[true, true, true, true, true, true, true, true, true, true, false, false, false, false, false, false, false, false, false, false, false, false, false, false, false, false, false, false] rfl rfl (any_of HT_.out (by kernel_rfl)) (fun _ _ _ h => h) (Or.inl ⟨by rfl, ?_⟩) ?_ ?_
                            rotate_left
                            · intro w'
                              go_simp
                              with_reducible rfl
                            rotate_left
                            · simp only [Act.put, List.setIfInBounds_toArray, List.set_cons_zero, List.set_cons_succ, i64_w, i32_w]
                              rfl
                            refine pure_ (i := 10) (N := some 90) (v := ?_) (a' := ?_) #[true, true, true, true, true, true, true, true, true, true, true, false, false, false, false, false, false, false, false, false, false, false, false, false, false, false, false, false] rfl rfl (any_of HT_.out (by kernel_rfl)) (fun _ _ _ h => h) (Or.inl ⟨by rfl, ?_⟩) ?_ ?_
                            rotate_left
                            · intro w'
                              go_simp
                              with_reducible rfl
                            rotate_left
                            · simp only [Act.put, List.setIfInBounds_toArray, List.set_cons_zero, List.set_cons_succ, i64_w, i32_w]
                              rfl
                            refine pure_ (i := 11) (N := some 91) (v := ?_) (a' := ?_) #[true, true, true, true, true, true, true, true, true, true, true, true, false, false, false, false, false, false, false, false, false, false, false, false, false, false, false, false] rfl rfl (any_of HT_.out (by kernel_rfl)) (fun _ _ _ h => h) (Or.inl ⟨by rfl, ?_⟩) ?_ ?_
                            rotate_left
                            · intro w'
                              go_simp
                              with_reducible rfl
                            rotate_left
                            · simp only [Act.put, List.setIfInBounds_toArray, List.set_cons_zero, List.set_cons_succ, i64_w, i32_w]
                              rfl
                            refine pure_ (i := 12) (N := some 92) (v := ?_) (a' := ?_) #[true, true, true, true, true, true, true, true, true, true, true, true, true, false, false, false, false, false, false, false, false, false, false, false, false, false, false, false] rfl rfl (any_of HT_.out (by kernel_rfl)) (fun _ _ _ h => h) (Or.inl ⟨by rfl, ?_⟩) ?_ ?_
                            rotate_left
                            · intro w'
                              go_simp
                              with_reducible rfl
                            rotate_left
                            · simp only [Act.put, List.setIfInBounds_toArray, List.set_cons_zero, List.set_cons_succ, i64_w, i32_w]
                              rfl
                            refine pure_ (i := 13) (N := some 93) (v := ?_) (a' := ?_) #[true, true, true, true, true, true, true, true, true, true, true, true, true, true, false, false, false, false, false, false, false, false, false, false, false, false, false, false] rfl rfl (any_of HT_.out (by kernel_rfl)) (fun _ _ _ h => h) (Or.inl ⟨by rfl, ?_⟩) ?_ ?_
                            rotate_left
                            · intro w'
                              go_simp
                              with_reducible rfl
                            rotate_left
                            · simp only [Act.put, List.setIfInBounds_toArray, List.set_cons_zero, List.set_cons_succ, i64_w, i32_w]
                              rfl
                            refine pure_ (i := 14) (N := some 94) (v := undef) (a' := ?_) #[true, true, true, true, true, true, true, true, true, true, true, true, true, true, true, false, false, false, false, false, false, false, false, false, false, false, false, false] rfl rfl (any_of HT_.out (by kernel_rfl)) (fun _ _ _ h => h) (Or.inr ⟨by rfl, rfl⟩) ?_ ?_
                            rotate_left
                            · simp only [Act.put, List.setIfInBounds_toArray, List.set_cons_zero, List.set_cons_succ, i64_w, i32_w]
                              rfl
                            refine pure_ (i := 15) (N := some 95) (v := undef) (a' := ?_) #[true, true, true, true, true, true, true, true, true, true, true, true, true, true, true, true, false, false, false, false, false, false, false, false, false, false, false, false] rfl rfl (any_of HT_.out (by kernel_rfl)) (fun _ _ _ h => h) (Or.inr ⟨by rfl, rfl⟩) ?_ ?_
                            rotate_left
                            · simp only [Act.put, List.setIfInBounds_toArray, List.set_cons_zero, List.set_cons_succ, i64_w, i32_w]
                              rfl
                            refine pure_ (i := 16) (N := some 96) (v := undef) (a' := ?_) #[true, true, true, true, true, true, true, true, true, true, true, true, true, true, true, true, true, false, false, false, false, false, false, false, false, false, false, false] rfl rfl (any_of HT_.out (by kernel_rfl)) (fun _ _ _ h => h) (Or.inr ⟨by rfl, rfl⟩) ?_ ?_
                            rotate_left
                            · simp only [Act.put, List.setIfInBounds_toArray, List.set_cons_zero, List.set_cons_succ, i64_w, i32_w]
                              rfl
                            refine pure_ (i := 17) (N := some 97) (v := undef) (a' := ?_) #[true, true, true, true, true, true, true, true, true, true, true, true, true, true, true, true, true, true, false, false, false, false, false, false, false, false, false, false] rfl rfl (any_of HT_.out (by kernel_rfl)) (fun _ _ _ h => h) (Or.inr ⟨by rfl, rfl⟩) ?_ ?_
                            rotate_left
                            · simp only [Act.put, List.setIfInBounds_toArray, List.set_cons_zero, List.set_cons_succ, i64_w, i32_w]
                              rfl
                            refine pure_ (i := 18) (N := some 98) (v := undef) (a' := ?_) #[true, true, true, true, true, true, true, true, true, true, true, true, true, true, true, true, true, true, true, false, false, false, false, false, false, false, false, false] rfl rfl (any_of HT_.out (by kernel_rfl)) (fun _ _ _ h => h) (Or.inr ⟨by rfl, rfl⟩) ?_ ?_
                            rotate_left
                            · simp only [Act.put, List.setIfInBounds_toArray, List.set_cons_zero, List.set_cons_succ, i64_w, i32_w]
                              rfl
                            refine pure_ (i := 19) (N := some 99) (v := undef) (a' := ?_) #[true, true, true, true, true, true, true, true, true, true, true, true, true, true, true, true, true, true, true, true, false, false, false, false, false, false, false, false] rfl rfl (any_of HT_.out (by kernel_rfl)) (fun _ _ _ h => h) (Or.inr ⟨by rfl, rfl⟩) ?_ ?_
                            rotate_left
                            · simp only [Act.put, List.setIfInBounds_toArray, List.set_cons_zero, List.set_cons_succ, i64_w, i32_w]
                              rfl
                            refine pure_ (i := 20) (N := some 100) (v := undef) (a' := ?_) #[true, true, true, true, true, true, true, true, true, true, true, true, true, true, true, true, true, true, true, true, true, false, false, false, false, false, false, false] rfl rfl (any_of HT_.out (by kernel_rfl)) (fun _ _ _ h => h) (Or.inr ⟨by rfl, rfl⟩) ?_ ?_
                            rotate_left
                            · simp only [Act.put, List.setIfInBounds_toArray, List.set_cons_zero, List.set_cons_succ, i64_w, i32_w]
                              rfl
                            refine pure_ (i := 21) (N := some 101) (v := undef) (a' := ?_) #[true, true, true, true, true, true, true, true, true, true, true, true, true, true, true, true, true, true, true, true, true, true, false, false, false, false, false, false] rfl rfl (any_of HT_.out (by kernel_rfl)) (fun _ _ _ h => h) (Or.inr ⟨by rfl, rfl⟩) ?_ ?_
                            rotate_left
                            · simp only [Act.put, List.setIfInBounds_toArray, List.set_cons_zero, List.set_cons_succ, i64_w, i32_w]
                              rfl
                            refine pure_ (i := 22) (N := some 102) (v := undef) (a' := ?_) #[true, true, true, true, true, true, true, true, true, true, true, true, true, true, true, true, true, true, true, true, true, true, true, false, false, false, false, false] rfl rfl (any_of HT_.out (by kernel_rfl)) (fun _ _ _ h => h) (Or.inr ⟨by rfl, rfl⟩) ?_ ?_
                            rotate_left
                            · simp only [Act.put, List.setIfInBounds_toArray, List.set_cons_zero, List.set_cons_succ, i64_w, i32_w]
                              rfl
                            refine pure_ (i := 23) (N := some 103) (v := undef) (a' := ?_) #[true, true, true, true, true, true, true, true, true, true, true, true, true, true, true, true, true, true, true, true, true, true, true, true, false, false, false, false] rfl rfl (any_of HT_.out (by kernel_rfl)) (fun _ _ _ h => h) (Or.inr ⟨by rfl, rfl⟩) ?_ ?_
                            rotate_left
                            · simp only [Act.put, List.setIfInBounds_toArray, List.set_cons_zero, List.set_cons_succ, i64_w, i32_w]
                              rfl
                            refine pure_ (i := 24) (N := some 104) (v := undef) (a' := ?_) #[true, true, true, true, true, true, true, true, true, true, true, true, true, true, true, true, true, true, true, true, true, true, true, true, true, false, false, false] rfl rfl (any_of HT_.out (by kernel_rfl)) (fun _ _ _ h => h) (Or.inr ⟨by rfl, rfl⟩) ?_ ?_
                            rotate_left
                            · simp only [Act.put, List.setIfInBounds_toArray, List.set_cons_zero, List.set_cons_succ, i64_w, i32_w]
                              rfl
                            refine pure_ (i := 25) (N := some 105) (v := undef) (a' := ?_) #[true, true, true, true, true, true, true, true, true, true, true, true, true, true, true, true, true, true, true, true, true, true, true, true, true, true, false, false] rfl rfl (any_of HT_.out (by kernel_rfl)) (fun _ _ _ h => h) (Or.inr ⟨by rfl, rfl⟩) ?_ ?_
                            rotate_left
                            · simp only [Act.put, List.setIfInBounds_toArray, List.set_cons_zero, List.set_cons_succ, i64_w, i32_w]
                              rfl
                            refine pure_ (i := 26) (N := some 106) (v := ?_) (a' := ?_) #[true, true, true, true, true, true, true, true, true, true, true, true, true, true, true, true, true, true, true, true, true, true, true, true, true, true, true, false] rfl rfl (any_of HT_.out (by kernel_rfl)) (fun _ _ _ h => h) (Or.inl ⟨by rfl, ?_⟩) ?_ ?_
                            rotate_left
                            · intro w'
                              go_simp
                              with_reducible rfl
                            rotate_left
                            · simp only [Act.put, List.setIfInBounds_toArray, List.set_cons_zero, List.set_cons_succ, i64_w, i32_w]
                              rfl
                            refine pure_ (i := 27) (N := some 107) (v := ?_) (a' := ?_) #[true, true, true, true, true, true, true, true, true, true, true, true, true, true, true, true, true, true, true, true, true, true, true, true, true, true, true, true] rfl rfl (any_of HT_.out (by kernel_rfl)) (fun _ _ _ h => h) (Or.inl ⟨by rfl, ?_⟩) ?_ ?_
                            rotate_left
                            · intro w'
                              go_simp
                              with_reducible rfl
                            rotate_left
                            · simp only [Act.put, List.setIfInBounds_toArray, List.set_cons_zero, List.set_cons_succ, i64_w, i32_w]
                              rfl
                            refine done_ (done_of HT_.out (by kernel_rfl)) ?_
                            try go_wp2
                            go_meet
                            case rel => exact ⟨_, (false), rfl, H', ⟨by have := HJ7.out; have := HK2.out; have := HJ59.out; first | omega⟩, ⟨by exact HO_244000.out⟩, ⟨by exact HO_244001.out⟩, ⟨by exact HO_244002.out⟩, ⟨by exact HO_244003.out⟩, ⟨by exact HO_244004.out⟩, ⟨by exact Kd.S_mono HO_253002.out (fun _ hk => hk.1)⟩, ⟨by exact Kd.S_mono HO_253003.out (fun _ hk => hk.1)⟩, ⟨by exact HO_270001.out⟩, ⟨by exact HO_270002.out⟩, ⟨by exact HO_270003.out⟩, ⟨by exact HO_270004.out⟩, ⟨by exact BK225.out⟩, ⟨by exact BK226.out⟩, ⟨by exact BK243.out⟩, ⟨by exact BK252.out⟩, ⟨by exact BK269.out⟩, ⟨by exact HB.out⟩⟩
                          · rw [if_neg c89] at H
                            have c89b0 : (x15_59.toList == ([] : List UInt8)) = false := beq_eq_false_iff_ne.mpr c89
                            have c89b1 : (x15_59.toList != ([] : List UInt8)) = true := bne_iff_ne.mpr c89
                            by_cases c92 : t273 = true
                            · subst c92
                              have H1 : ((proofmarkref27_SameInts.f kj59 t270 (rd_L23 t249 x14_2)).bind fun t277 => (proofmarklaw30_ReportClauses.j4 kj59 t227 x11_2 x14_2 (!t277) t228 t231 t234 t237 t240 2 t245 t246 t249 t256 t257 t260 t263 t266)) = some r := by rw [if_pos rfl] at H; exact H
                              clear H
                              have H := H1
                              clear H1
                              replace H := Option.bind_eq_some_iff.mp H
                              obtain ⟨t277, A930, H⟩ := H
                              replace H : (proofmarklaw30_ReportClauses.j4 kj59 t227 x11_2 x14_2 (!t277) t228 t231 t234 t237 t240 2 t245 t246 t249 t256 t257 t260 t263 t266) = some r := H
                              have A93 := Aside0.mk A930
                              clear A930
                              have H' := Aside0.mk H
                              clear H
                              try go_wp2
                              have n0_ := Aside0.mk (Kd.R_drew HO_244000.out)
                              have n1_ := Aside0.mk (Kd.R_drew HO_244001.out)
                              have n2_ := Aside0.mk (Kd.R_drew HO_244002.out)
                              have n3_ := Aside0.mk (Kd.R_drew HO_244003.out)
                              have n4_ := Aside0.mk (Kd.R_drew HO_244004.out)
                              have n5_ := Aside0.mk (Kd.S_drew HO_253002.out)
                              have n6_ := Aside0.mk (Kd.S_drew HO_253003.out)
                              have n7_ := Aside0.mk (Kd.R_drew HO_270001.out)
                              have n8_ := Aside0.mk (Kd.R_drew HO_270002.out)
                              have n9_ := Aside0.mk (Kd.R_drew HO_270003.out)
                              have n10_ := Aside0.mk (Kd.R_drew HO_270004.out)
                              have n11_ := Aside0.mk (Kd.R_drew HO272.out)
                              have n12_ := Aside0.mk (blk_drew BK225.out)
                              have n13_ := Aside0.mk (blk_drew BK226.out)
                              have n14_ := Aside0.mk (blk_drew BK243.out)
                              have n15_ := Aside0.mk (blk_drew BK252.out)
                              have n16_ := Aside0.mk (blk_drew BK269.out)
                              have n17_ := Aside0.mk (below_drew1 HB.out)
                              clear HO_244000
                              clear HO_244001
                              clear HO_244002
                              clear HO_244003
                              clear HO_244004
                              clear HO_253002
                              clear HO_253003
                              clear HO_270001
                              clear HO_270002
                              clear HO_270003
                              clear HO_270004
                              clear HO272
                              clear BK225
                              clear BK226
                              clear BK243
                              clear BK252
                              clear BK269
                              clear HB
                              have HO_244000 := n0_
                              have HO_244001 := n1_
                              have HO_244002 := n2_
                              have HO_244003 := n3_
                              have HO_244004 := n4_
                              have HO_253002 := n5_
                              have HO_253003 := n6_
                              have HO_270001 := n7_
                              have HO_270002 := n8_
                              have HO_270003 := n9_
                              have HO_270004 := n10_
                              have HO272 := n11_
                              have BK225 := n12_
                              have BK226 := n13_
                              have BK243 := n14_
                              have BK252 := n15_
                              have BK269 := n16_
                              have HB := n17_
                              clear n0_ n1_ n2_ n3_ n4_ n5_ n6_ n7_ n8_ n9_ n10_ n11_ n12_ n13_ n14_ n15_ n16_ n17_
                              have p274 : 0 ≤ (x14_2 : Int) := of_decide_eq_true (by first | (with_reducible assumption))
                              have q274 : x14_2 < (t249.length : Int) := of_decide_eq_true (by first | (with_reducible assumption))
                              obtain ⟨ad274, A274_0, c274_0, e274, hx274_0, hl274_0, hi274_0⟩ := at_L23 (Kd.S_reads' HO_253003.out).2.2 x14_2 p274 q274
                              cases e274
                              obtain ⟨ce274, hce274, hMe274, hcc274⟩ := Kd.S_get HO_253003.out [] x14_2 p274 (by first | exact q274)
                              obtain ⟨ve274_0, rfl, ge274_0⟩ := hMe274
                              have hv274_0 := hcc274 0 _ rfl
                              rw [Nat.add_zero, show ((Kd.slice 3 (Kd.int .i64))).sz = 1 from rfl, Nat.mul_one] at hv274_0
                              replace hv274_0 := Option.some.inj (hv274_0.symm.trans hx274_0)
                              rw [hv274_0] at ge274_0
                              have HL274_0 := Aside0.mk (show Kd.R (Kd.int .i64) 3 _ _ _ _ (rd_L23 t249 x14_2) from ge274_0)
                              clear hv274_0 ge274_0
                              clear hcc274 hce274
                              have HR274_0 := Aside0.mk hi274_0
                              have HC274_0 := Aside0.mk hl274_0
                              clear hi274_0 hl274_0
                              replace p274 := eq_true p274
                              replace q274 := eq_true q274
                              refine start_ (n := 28) (S := fun w' => w'.cell? ⟨gb243, 0, none⟩ = some (.slice Ao16 t228.length co16) ∧ w'.cell? ⟨gb243, 1, none⟩ = some (.slice Ao20 t231.length co20) ∧ w'.cell? ⟨gb243, 2, none⟩ = some (.slice Ao21 t234.length co21) ∧ w'.cell? ⟨gb243, 3, none⟩ = some (.slice Ao22 t237.length co22) ∧ w'.cell? ⟨gb243, 4, none⟩ = some (.slice Ao23 t240.length co23) ∧ w'.cell? ⟨gb269, 0, none⟩ = some (.int .i64 t256) ∧ w'.cell? ⟨gb269, 1, none⟩ = some (.slice Ao55 t257.length co55) ∧ w'.cell? ⟨gb269, 2, none⟩ = some (.slice Ao56 t260.length co56) ∧ w'.cell? ⟨gb269, 3, none⟩ = some (.slice Ao57 t263.length co57) ∧ w'.cell? ⟨gb269, 4, none⟩ = some (.slice Ao58 t266.length co58) ∧ w'.cell? ⟨gb252, 0, none⟩ = some (.int .i64 2) ∧ w'.cell? ⟨gb252, 1, none⟩ = some (.int .i64 t245) ∧ w'.cell? ⟨gb252, 2, none⟩ = some (.slice Ao31 t246.length co31) ∧ w'.cell? ⟨gb252, 3, none⟩ = some (.slice (some ad274) t249.length co32) ∧ w'.cell? (ad274.add (x14_2).toNat) = some (.slice A274_0 (rd_L23 t249 x14_2).length c274_0) ∧ w'.cell? (ad274.add (x14_2).toNat) = some (.slice A274_0 (rd_L23 t249 x14_2).length c274_0)) (ds := []) #[false, false, false, false, false, false, false, false, false, false, false, false, false, false, false, false, false, false, false, false, false, false, false, false, false, false, false, false] (by kernel_rfl) rfl rfl ⟨(blk_cell BK243.out 0).trans rfl, (blk_cell BK243.out 1).trans rfl, (blk_cell BK243.out 2).trans rfl, (blk_cell BK243.out 3).trans rfl, (blk_cell BK243.out 4).trans rfl, (blk_cell BK269.out 0).trans rfl, (blk_cell BK269.out 1).trans rfl, (blk_cell BK269.out 2).trans rfl, (blk_cell BK269.out 3).trans rfl, (blk_cell BK269.out 4).trans rfl, (blk_cell BK252.out 0).trans rfl, (blk_cell BK252.out 1).trans rfl, (blk_cell BK252.out 2).trans rfl, (blk_cell BK252.out 3).trans rfl, hx274_0, hx274_0⟩ (fun hHeld => ?_); refine with_tabW proofmarklaw30_ReportClauses.tab19 proofmarklaw30_ReportClauses.bits19 (fun HT_ HW_ => ?_)
                              generalize w84.drew = w94 at HO_244000 HO_244001 HO_244002 HO_244003 HO_244004 HO_253002 HO_253003 HO_270001 HO_270002 HO_270003 HO_270004 HO272 BK225 BK226 BK243 BK252 BK269 HB HL274_0 HL274_0 HR274_0 HR274_0 hx274_0 hx274_0 hHeld ⊢
                              refine pure_ (i := 0) (N := some 80) (v := ?_) (a' := ?_) #[true, false, false, false, false, false, false, false, false, false, false, false, false, false, false, false, false, false, false, false, false, false, false, false, false, false, false, false] rfl rfl (any_of HT_.out (by kernel_rfl)) (fun _ _ _ h => h) (Or.inl ⟨by rfl, ?_⟩) ?_ ?_
                              rotate_left
                              · intro w'
                                go_simp
                                with_reducible rfl
                              rotate_left
                              · simp only [Act.put, List.setIfInBounds_toArray, List.set_cons_zero, List.set_cons_succ, i64_w, i32_w]
                                rfl
                              refine pure_ (i := 3) (N := some 83) (v := ?_) (a' := ?_) #[true, false, false, true, false, false, false, false, false, false, false, false, false, false, false, false, false, false, false, false, false, false, false, false, false, false, false, false] rfl rfl (any_of HT_.out (by kernel_rfl)) (fun _ _ _ h => h) (Or.inl ⟨by rfl, ?_⟩) ?_ ?_
                              rotate_left
                              · intro w'
                                go_simp
                                with_reducible rfl
                              rotate_left
                              · simp only [Act.put, List.setIfInBounds_toArray, List.set_cons_zero, List.set_cons_succ, i64_w, i32_w]
                                rfl
                              refine pure_ (i := 5) (N := some 85) (v := ?_) (a' := ?_) #[true, false, false, true, false, true, false, false, false, false, false, false, false, false, false, false, false, false, false, false, false, false, false, false, false, false, false, false] rfl rfl (any_of HT_.out (by kernel_rfl)) (fun _ _ _ h => h) (Or.inl ⟨by rfl, ?_⟩) ?_ ?_
                              rotate_left
                              · intro w'
                                go_simp
                                with_reducible rfl
                              rotate_left
                              · simp only [Act.put, List.setIfInBounds_toArray, List.set_cons_zero, List.set_cons_succ, i64_w, i32_w]
                                rfl
                              refine take_ (i := 1) (N := some 81) (v := ?_) (a' := ?_) #[true, true, false, true, false, true, false, false, false, false, false, false, false, false, false, false, false, false, false, false, false, false, false, false, false, false, false, false] rfl rfl (take_ofW HT_.out HW_.out (by kernel_rfl)) (fun _ _ _ h => h) (Or.inl ⟨by rfl, ?_⟩) hHeld ?_ ?_
                              rotate_left
                              · rintro w' ⟨s0, s1, s2, s3, s4, s5, s6, s7, s8, s9, s10, s11, s12, s13, s14, s15⟩
                                go_simp
                                with_reducible rfl
                              rotate_left
                              · simp only [Act.put, List.setIfInBounds_toArray, List.set_cons_zero, List.set_cons_succ, i64_w, i32_w]
                                rfl
                              refine take_ (i := 2) (N := some 82) (v := ?_) (a' := ?_) #[true, true, true, true, false, true, false, false, false, false, false, false, false, false, false, false, false, false, false, false, false, false, false, false, false, false, false, false] rfl rfl (take_ofW HT_.out HW_.out (by kernel_rfl)) (fun _ _ _ h => h) (Or.inl ⟨by rfl, ?_⟩) hHeld ?_ ?_
                              rotate_left
                              · rintro w' ⟨s0, s1, s2, s3, s4, s5, s6, s7, s8, s9, s10, s11, s12, s13, s14, s15⟩
                                go_simp
                                with_reducible rfl
                              rotate_left
                              · simp only [Act.put, List.setIfInBounds_toArray, List.set_cons_zero, List.set_cons_succ, i64_w, i32_w]
                                rfl
                              refine take_ (i := 4) (N := some 84) (v := ?_) (a' := ?_) #[true, true, true, true, true, true, false, false, false, false, false, false, false, false, false, false, false, false, false, false, false, false, false, false, false, false, false, false] rfl rfl (take_ofW HT_.out HW_.out (by kernel_rfl)) (fun _ _ _ h => h) (Or.inl ⟨by rfl, ?_⟩) hHeld ?_ ?_
                              rotate_left
                              · rintro w' ⟨s0, s1, s2, s3, s4, s5, s6, s7, s8, s9, s10, s11, s12, s13, s14, s15⟩
                                go_simp
                                with_reducible rfl
                              rotate_left
                              · simp only [Act.put, List.setIfInBounds_toArray, List.set_cons_zero, List.set_cons_succ, i64_w, i32_w]
                                rfl
                              refine pure_ (i := 6) (N := some 86) (v := ?_) (a' := ?_) #[true, true, true, true, true, true, true, false, false, false, false, false, false, false, false, false, false, false, false, false, false, false, false, false, false, false, false, false] rfl rfl (any_of HT_.out (by kernel_rfl)) (fun _ _ _ h => h) (Or.inl ⟨by rfl, ?_⟩) ?_ ?_
                              rotate_left
                              · intro w'
                                go_simp
                                with_reducible rfl
                              rotate_left
                              · simp only [Act.put, List.setIfInBounds_toArray, List.set_cons_zero, List.set_cons_succ, i64_w, i32_w]
                                rfl
                              refine take_ (i := 7) (N := some 87) (v := ?_) (a' := ?_) #[true, true, true, true, true, true, true, true, false, false, false, false, false, false, false, false, false, false, false, false, false, false, false, false, false, false, false, false] rfl rfl (take_ofW HT_.out HW_.out (by kernel_rfl)) (fun _ _ _ h => h) (Or.inl ⟨by rfl, ?_⟩) hHeld ?_ ?_
                              rotate_left
                              · rintro w' ⟨s0, s1, s2, s3, s4, s5, s6, s7, s8, s9, s10, s11, s12, s13, s14, s15⟩
                                go_simp
                                with_reducible rfl
                              rotate_left
                              · simp only [Act.put, List.setIfInBounds_toArray, List.set_cons_zero, List.set_cons_succ, i64_w, i32_w]
                                rfl
                              refine one_ (i := 8) (N := some 88) #[true, true, true, true, true, true, true, true, true, false, false, false, false, false, false, false, false, false, false, false, false, false, false, false, false, false, false, false] rfl rfl (one_of HT_.out (by kernel_rfl)) (by decide) (fun K hK => ?_)
                              refine goes_ Tryd.func24 (by kernel_rfl) rfl #[.agg #[.slice Ao16 t228.length co16, .slice Ao20 t231.length co20, .slice Ao21 t234.length co21, .slice Ao22 t237.length co22, .slice Ao23 t240.length co23], .agg #[.int .i64 t256, .slice Ao55 t257.length co55, .slice Ao56 t260.length co56, .slice Ao57 t263.length co57, .slice Ao58 t266.length co58], .slice A274_0 (rd_L23 t249 x14_2).length c274_0] (by rfl) rfl rfl (by (try simp only [List.map_toArray, List.map_cons, List.map_nil]); first | rfl) ?_
                              with_reducible refine (lift_Clause.calls _ _ t228 _ _ t231 _ _ t234 _ _ t237 _ _ t240 t256 _ _ t257 _ _ t260 _ _ t263 _ _ t266 _ _ (rd_L23 t249 x14_2) t275 _ (by first | (refine tab_below HG.out ?_; repeat (first | (with_reducible first | exact HB.out)))) ?side1 ?side2 ?side3 ?side4 ?side5 ?side6 ?side7 ?side8 ?side9 ?side10 ?side11 ?side12 ?side13 ?side14 ?side15 ?side16 ?side17 ?side18 ?side19 ?side20 A87.out).mono ?_
                              (case side1 => repeat (first | exact (Kd.R_reads' HO_244000.out).2.2))
                              (case side2 => exact (Kd.R_reads' HO_244000.out).2.1)
                              (case side3 => repeat (first | exact (Kd.R_reads' HO_244001.out).2.2))
                              (case side4 => exact (Kd.R_reads' HO_244001.out).2.1)
                              (case side5 => repeat (first | exact (Kd.R_reads' HO_244002.out).2.2))
                              (case side6 => exact (Kd.R_reads' HO_244002.out).2.1)
                              (case side7 => repeat (first | exact (Kd.R_reads' HO_244003.out).2.2))
                              (case side8 => exact (Kd.R_reads' HO_244003.out).2.1)
                              (case side9 => repeat (first | exact (Kd.R_reads' HO_244004.out).2.2))
                              (case side10 => exact (Kd.R_reads' HO_244004.out).2.1)
                              (case side11 => repeat (first | exact (Kd.R_reads' HO_270001.out).2.2))
                              (case side12 => exact (Kd.R_reads' HO_270001.out).2.1)
                              (case side13 => repeat (first | exact (Kd.R_reads' HO_270002.out).2.2))
                              (case side14 => exact (Kd.R_reads' HO_270002.out).2.1)
                              (case side15 => repeat (first | exact (Kd.R_reads' HO_270003.out).2.2))
                              (case side16 => exact (Kd.R_reads' HO_270003.out).2.1)
                              (case side17 => repeat (first | exact (Kd.R_reads' HO_270004.out).2.2))
                              (case side18 => exact (Kd.R_reads' HO_270004.out).2.1)
                              (case side19 => repeat (first | exact (by repeat (first | (with_reducible exact HR274_0.out)))))
                              (case side20 => exact HC274_0.out)
                              rintro e w95 ⟨rfl, hb⟩
                              have HS14_ := (hb.cell (World.block_lt_of_cell? _ _ (hHeld.2.2.2.2.2.2.2.2.2.2.2.2.2.2.1))).trans (hHeld.2.2.2.2.2.2.2.2.2.2.2.2.2.2.1)
                              have HS15_ := (hb.cell (World.block_lt_of_cell? _ _ (hHeld.2.2.2.2.2.2.2.2.2.2.2.2.2.2.2))).trans (hHeld.2.2.2.2.2.2.2.2.2.2.2.2.2.2.2)
                              refine ⟨_, rfl, ?_⟩
                              have n0_ := Aside0.mk (Kd.R_below HO_244000.out hb)
                              have n1_ := Aside0.mk (Kd.R_below HO_244001.out hb)
                              have n2_ := Aside0.mk (Kd.R_below HO_244002.out hb)
                              have n3_ := Aside0.mk (Kd.R_below HO_244003.out hb)
                              have n4_ := Aside0.mk (Kd.R_below HO_244004.out hb)
                              have n5_ := Aside0.mk (Kd.S_below HO_253002.out hb)
                              have n6_ := Aside0.mk (Kd.S_below HO_253003.out hb)
                              have n7_ := Aside0.mk (Kd.R_below HO_270001.out hb)
                              have n8_ := Aside0.mk (Kd.R_below HO_270002.out hb)
                              have n9_ := Aside0.mk (Kd.R_below HO_270003.out hb)
                              have n10_ := Aside0.mk (Kd.R_below HO_270004.out hb)
                              have n11_ := Aside0.mk (Kd.R_below HO272.out hb)
                              have n12_ := Aside0.mk (Kd.R_below HL274_0.out hb)
                              have n13_ := Aside0.mk (blk_below BK225.out hb)
                              have n14_ := Aside0.mk (blk_below BK226.out hb)
                              have n15_ := Aside0.mk (blk_below BK243.out hb)
                              have n16_ := Aside0.mk (blk_below BK252.out hb)
                              have n17_ := Aside0.mk (blk_below BK269.out hb)
                              have n18_ := Aside0.mk (Kd.C_below (by repeat (first | (with_reducible exact HR274_0.out))) hb)
                              have n19_ := Aside0.mk (below_step HB.out hb)
                              clear HO_244000
                              clear HO_244001
                              clear HO_244002
                              clear HO_244003
                              clear HO_244004
                              clear HO_253002
                              clear HO_253003
                              clear HO_270001
                              clear HO_270002
                              clear HO_270003
                              clear HO_270004
                              clear HO272
                              clear HL274_0
                              clear BK225
                              clear BK226
                              clear BK243
                              clear BK252
                              clear BK269
                              clear HR274_0
                              clear HB
                              have HO_244000 := n0_
                              have HO_244001 := n1_
                              have HO_244002 := n2_
                              have HO_244003 := n3_
                              have HO_244004 := n4_
                              have HO_253002 := n5_
                              have HO_253003 := n6_
                              have HO_270001 := n7_
                              have HO_270002 := n8_
                              have HO_270003 := n9_
                              have HO_270004 := n10_
                              have HO272 := n11_
                              have HL274_0 := n12_
                              have BK225 := n13_
                              have BK226 := n14_
                              have BK243 := n15_
                              have BK252 := n16_
                              have BK269 := n17_
                              have HR274_0 := n18_
                              have HB := n19_
                              clear n0_ n1_ n2_ n3_ n4_ n5_ n6_ n7_ n8_ n9_ n10_ n11_ n12_ n13_ n14_ n15_ n16_ n17_ n18_ n19_
                              (try clear hb)
                              (try clear hb2)
                              (try clear hk)
                              (try clear hi)
                              obtain ⟨Ao96, co96, eo96⟩ := Kd.R_slice HO272.out
                              (first | subst eo96)
                              refine hK.out _ _ ⟨(blk_cell BK243.out 0).trans rfl, (blk_cell BK243.out 1).trans rfl, (blk_cell BK243.out 2).trans rfl, (blk_cell BK243.out 3).trans rfl, (blk_cell BK243.out 4).trans rfl, (blk_cell BK269.out 0).trans rfl, (blk_cell BK269.out 1).trans rfl, (blk_cell BK269.out 2).trans rfl, (blk_cell BK269.out 3).trans rfl, (blk_cell BK269.out 4).trans rfl, (blk_cell BK252.out 0).trans rfl, (blk_cell BK252.out 1).trans rfl, (blk_cell BK252.out 2).trans rfl, (blk_cell BK252.out 3).trans rfl, HS14_, HS15_⟩ (fun hHeld => ?_)
                              clear hK K
                              refine norm_ (a' := ?_) ?_ ?_
                              rotate_left
                              · show Act.put _ (some 88) _ = _
                                simp only [Act.put, List.setIfInBounds_toArray, List.set_cons_zero, List.set_cons_succ, i64_w, i32_w]
                                rfl
                              refine pure_ (i := 9) (N := some 89) (v := ?_) (a' := ?_) #[true, true, true, true, true, true, true, true, true, true, false, false, false, false, false, false, false, false, false, false, false, false, false, false, false, false, false, false] rfl rfl (any_of HT_.out (by kernel_rfl)) (fun _ _ _ h => h) (Or.inl ⟨by rfl, ?_⟩) ?_ ?_
                              rotate_left
                              · intro w'
                                go_simp
                                with_reducible rfl
                              rotate_left
                              · simp only [Act.put, List.setIfInBounds_toArray, List.set_cons_zero, List.set_cons_succ, i64_w, i32_w]
                                rfl
                              refine pure_ (i := 10) (N := some 90) (v := ?_) (a' := ?_) #[true, true, true, true, true, true, true, true, true, true, true, false, false, false, false, false, false, false, false, false, false, false, false, false, false, false, false, false] rfl rfl (any_of HT_.out (by kernel_rfl)) (fun _ _ _ h => h) (Or.inl ⟨by rfl, ?_⟩) ?_ ?_
                              rotate_left
                              · intro w'
                                go_simp
                                with_reducible rfl
                              rotate_left
                              · simp only [Act.put, List.setIfInBounds_toArray, List.set_cons_zero, List.set_cons_succ, i64_w, i32_w]
                                rfl
                              refine pure_ (i := 11) (N := some 91) (v := ?_) (a' := ?_) #[true, true, true, true, true, true, true, true, true, true, true, true, false, false, false, false, false, false, false, false, false, false, false, false, false, false, false, false] rfl rfl (any_of HT_.out (by kernel_rfl)) (fun _ _ _ h => h) (Or.inl ⟨by rfl, ?_⟩) ?_ ?_
                              rotate_left
                              · intro w'
                                go_simp
                                with_reducible rfl
                              rotate_left
                              · simp only [Act.put, List.setIfInBounds_toArray, List.set_cons_zero, List.set_cons_succ, i64_w, i32_w]
                                rfl
                              refine pure_ (i := 12) (N := some 92) (v := ?_) (a' := ?_) #[true, true, true, true, true, true, true, true, true, true, true, true, true, false, false, false, false, false, false, false, false, false, false, false, false, false, false, false] rfl rfl (any_of HT_.out (by kernel_rfl)) (fun _ _ _ h => h) (Or.inl ⟨by rfl, ?_⟩) ?_ ?_
                              rotate_left
                              · intro w'
                                go_simp
                                with_reducible rfl
                              rotate_left
                              · simp only [Act.put, List.setIfInBounds_toArray, List.set_cons_zero, List.set_cons_succ, i64_w, i32_w]
                                rfl
                              refine pure_ (i := 13) (N := some 93) (v := ?_) (a' := ?_) #[true, true, true, true, true, true, true, true, true, true, true, true, true, true, false, false, false, false, false, false, false, false, false, false, false, false, false, false] rfl rfl (any_of HT_.out (by kernel_rfl)) (fun _ _ _ h => h) (Or.inl ⟨by rfl, ?_⟩) ?_ ?_
                              rotate_left
                              · intro w'
                                go_simp
                                with_reducible rfl
                              rotate_left
                              · simp only [Act.put, List.setIfInBounds_toArray, List.set_cons_zero, List.set_cons_succ, i64_w, i32_w]
                                rfl
                              refine pure_ (i := 14) (N := some 94) (v := ?_) (a' := ?_) #[true, true, true, true, true, true, true, true, true, true, true, true, true, true, true, false, false, false, false, false, false, false, false, false, false, false, false, false] rfl rfl (any_of HT_.out (by kernel_rfl)) (fun _ _ _ h => h) (Or.inl ⟨by rfl, ?_⟩) ?_ ?_
                              rotate_left
                              · intro w'
                                go_simp
                                with_reducible rfl
                              rotate_left
                              · simp only [Act.put, List.setIfInBounds_toArray, List.set_cons_zero, List.set_cons_succ, i64_w, i32_w]
                                rfl
                              refine pure_ (i := 15) (N := some 95) (v := ?_) (a' := ?_) #[true, true, true, true, true, true, true, true, true, true, true, true, true, true, true, true, false, false, false, false, false, false, false, false, false, false, false, false] rfl rfl (any_of HT_.out (by kernel_rfl)) (fun _ _ _ h => h) (Or.inl ⟨by rfl, ?_⟩) ?_ ?_
                              rotate_left
                              · intro w'
                                go_simp
                                with_reducible rfl
                              rotate_left
                              · simp only [Act.put, List.setIfInBounds_toArray, List.set_cons_zero, List.set_cons_succ, i64_w, i32_w]
                                rfl
                              refine pure_ (i := 16) (N := some 96) (v := ?_) (a' := ?_) #[true, true, true, true, true, true, true, true, true, true, true, true, true, true, true, true, true, false, false, false, false, false, false, false, false, false, false, false] rfl rfl (any_of HT_.out (by kernel_rfl)) (fun _ _ _ h => h) (Or.inl ⟨by rfl, ?_⟩) ?_ ?_
                              rotate_left
                              · intro w'
                                go_simp
                                with_reducible rfl
                              rotate_left
                              · simp only [Act.put, List.setIfInBounds_toArray, List.set_cons_zero, List.set_cons_succ, i64_w, i32_w]
                                rfl
                              refine pure_ (i := 17) (N := some 97) (v := ?_) (a' := ?_) #[true, true, true, true, true, true, true, true, true, true, true, true, true, true, true, true, true, true, false, false, false, false, false, false, false, false, false, false] rfl rfl (any_of HT_.out (by kernel_rfl)) (fun _ _ _ h => h) (Or.inl ⟨by rfl, ?_⟩) ?_ ?_
                              rotate_left
                              · intro w'
                                go_simp
                                with_reducible rfl
                              rotate_left
                              · simp only [Act.put, List.setIfInBounds_toArray, List.set_cons_zero, List.set_cons_succ, i64_w, i32_w]
                                rfl
                              refine pure_ (i := 18) (N := some 98) (v := ?_) (a' := ?_) #[true, true, true, true, true, true, true, true, true, true, true, true, true, true, true, true, true, true, true, false, false, false, false, false, false, false, false, false] rfl rfl (any_of HT_.out (by kernel_rfl)) (fun _ _ _ h => h) (Or.inl ⟨by rfl, ?_⟩) ?_ ?_
                              rotate_left
                              · intro w'
                                go_simp
                                with_reducible rfl
                              rotate_left
                              · simp only [Act.put, List.setIfInBounds_toArray, List.set_cons_zero, List.set_cons_succ, i64_w, i32_w]
                                rfl
                              refine pure_ (i := 20) (N := some 100) (v := ?_) (a' := ?_) #[true, true, true, true, true, true, true, true, true, true, true, true, true, true, true, true, true, true, true, false, true, false, false, false, false, false, false, false] rfl rfl (any_of HT_.out (by kernel_rfl)) (fun _ _ _ h => h) (Or.inl ⟨by rfl, ?_⟩) ?_ ?_
                              rotate_left
                              · intro w'
                                go_simp
                                with_reducible rfl
                              rotate_left
                              · simp only [Act.put, List.setIfInBounds_toArray, List.set_cons_zero, List.set_cons_succ, i64_w, i32_w]
                                rfl
                              refine take_ (i := 19) (N := some 99) (v := ?_) (a' := ?_) #[true, true, true, true, true, true, true, true, true, true, true, true, true, true, true, true, true, true, true, true, true, false, false, false, false, false, false, false] rfl rfl (take_ofW HT_.out HW_.out (by kernel_rfl)) (fun _ _ _ h => h) (Or.inl ⟨by rfl, ?_⟩) hHeld ?_ ?_
                              rotate_left
                              · rintro w' ⟨s0, s1, s2, s3, s4, s5, s6, s7, s8, s9, s10, s11, s12, s13, s14, s15⟩
                                go_simp
                                with_reducible rfl
                              rotate_left
                              · simp only [Act.put, List.setIfInBounds_toArray, List.set_cons_zero, List.set_cons_succ, i64_w, i32_w]
                                rfl
                              refine pure_ (i := 21) (N := some 101) (v := ?_) (a' := ?_) #[true, true, true, true, true, true, true, true, true, true, true, true, true, true, true, true, true, true, true, true, true, true, false, false, false, false, false, false] rfl rfl (any_of HT_.out (by kernel_rfl)) (fun _ _ _ h => h) (Or.inl ⟨by rfl, ?_⟩) ?_ ?_
                              rotate_left
                              · intro w'
                                go_simp
                                with_reducible rfl
                              rotate_left
                              · simp only [Act.put, List.setIfInBounds_toArray, List.set_cons_zero, List.set_cons_succ, i64_w, i32_w]
                                rfl
                              refine take_ (i := 22) (N := some 102) (v := ?_) (a' := ?_) #[true, true, true, true, true, true, true, true, true, true, true, true, true, true, true, true, true, true, true, true, true, true, true, false, false, false, false, false] rfl rfl (take_ofW HT_.out HW_.out (by kernel_rfl)) (fun _ _ _ h => h) (Or.inl ⟨by rfl, ?_⟩) hHeld ?_ ?_
                              rotate_left
                              · rintro w' ⟨s0, s1, s2, s3, s4, s5, s6, s7, s8, s9, s10, s11, s12, s13, s14, s15⟩
                                go_simp
                                with_reducible rfl
                              rotate_left
                              · simp only [Act.put, List.setIfInBounds_toArray, List.set_cons_zero, List.set_cons_succ, i64_w, i32_w]
                                rfl
                              refine one_ (i := 23) (N := some 103) #[true, true, true, true, true, true, true, true, true, true, true, true, true, true, true, true, true, true, true, true, true, true, true, true, false, false, false, false] rfl rfl (one_of HT_.out (by kernel_rfl)) (by decide) (fun K hK => ?_)
                              refine goes_ Tryd.func25 (by kernel_rfl) rfl #[.slice Ao96 t270.length co96, .slice A274_0 (rd_L23 t249 x14_2).length c274_0] (by rfl) rfl rfl (by (try simp only [List.map_toArray, List.map_cons, List.map_nil]); first | rfl) ?_
                              with_reducible refine (proofmarkref27_SameInts.calls kj59 _ _ t270 _ _ (rd_L23 t249 x14_2) t277 _ ?side1 ?side2 ?side3 ?side4 A93.out).mono ?_
                              (case side1 => repeat (first | exact (Kd.R_reads' HO272.out).2.2))
                              (case side2 => exact (Kd.R_reads' HO272.out).2.1)
                              (case side3 => repeat (first | exact (by repeat (first | (with_reducible exact HR274_0.out)))))
                              (case side4 => exact HC274_0.out)
                              rintro e w' ⟨rfl, ⟨nd, rfl⟩⟩
                              refine ⟨_, rfl, ?_⟩
                              refine hK.out _ _ ⟨(blk_cell BK243.out 0).trans rfl, (blk_cell BK243.out 1).trans rfl, (blk_cell BK243.out 2).trans rfl, (blk_cell BK243.out 3).trans rfl, (blk_cell BK243.out 4).trans rfl, (blk_cell BK269.out 0).trans rfl, (blk_cell BK269.out 1).trans rfl, (blk_cell BK269.out 2).trans rfl, (blk_cell BK269.out 3).trans rfl, (blk_cell BK269.out 4).trans rfl, (blk_cell BK252.out 0).trans rfl, (blk_cell BK252.out 1).trans rfl, (blk_cell BK252.out 2).trans rfl, (blk_cell BK252.out 3).trans rfl, hHeld.2.2.2.2.2.2.2.2.2.2.2.2.2.2.1, hHeld.2.2.2.2.2.2.2.2.2.2.2.2.2.2.2⟩ (fun hHeld => ?_)
                              clear hK K
                              refine norm_ (a' := ?_) ?_ ?_
                              rotate_left
                              · show Act.put _ (some 103) _ = _
                                simp only [Act.put, List.setIfInBounds_toArray, List.set_cons_zero, List.set_cons_succ, i64_w, i32_w]
                                rfl
                              refine pure_ (i := 24) (N := some 104) (v := ?_) (a' := ?_) #[true, true, true, true, true, true, true, true, true, true, true, true, true, true, true, true, true, true, true, true, true, true, true, true, true, false, false, false] rfl rfl (any_of HT_.out (by kernel_rfl)) (fun _ _ _ h => h) (Or.inl ⟨by rfl, ?_⟩) ?_ ?_
                              rotate_left
                              · intro w'
                                go_simp
                                with_reducible rfl
                              rotate_left
                              · simp only [Act.put, List.setIfInBounds_toArray, List.set_cons_zero, List.set_cons_succ, i64_w, i32_w]
                                rfl
                              refine pure_ (i := 25) (N := some 105) (v := ?_) (a' := ?_) #[true, true, true, true, true, true, true, true, true, true, true, true, true, true, true, true, true, true, true, true, true, true, true, true, true, true, false, false] rfl rfl (any_of HT_.out (by kernel_rfl)) (fun _ _ _ h => h) (Or.inl ⟨by rfl, ?_⟩) ?_ ?_
                              rotate_left
                              · intro w'
                                go_simp
                                with_reducible rfl
                              rotate_left
                              · simp only [Act.put, List.setIfInBounds_toArray, List.set_cons_zero, List.set_cons_succ, i64_w, i32_w]
                                rfl
                              refine pure_ (i := 26) (N := some 106) (v := ?_) (a' := ?_) #[true, true, true, true, true, true, true, true, true, true, true, true, true, true, true, true, true, true, true, true, true, true, true, true, true, true, true, false] rfl rfl (any_of HT_.out (by kernel_rfl)) (fun _ _ _ h => h) (Or.inl ⟨by rfl, ?_⟩) ?_ ?_
                              rotate_left
                              · intro w'
                                go_simp
                                with_reducible rfl
                              rotate_left
                              · simp only [Act.put, List.setIfInBounds_toArray, List.set_cons_zero, List.set_cons_succ, i64_w, i32_w]
                                rfl
                              refine pure_ (i := 27) (N := some 107) (v := ?_) (a' := ?_) #[true, true, true, true, true, true, true, true, true, true, true, true, true, true, true, true, true, true, true, true, true, true, true, true, true, true, true, true] rfl rfl (any_of HT_.out (by kernel_rfl)) (fun _ _ _ h => h) (Or.inl ⟨by rfl, ?_⟩) ?_ ?_
                              rotate_left
                              · intro w'
                                go_simp
                                with_reducible rfl
                              rotate_left
                              · simp only [Act.put, List.setIfInBounds_toArray, List.set_cons_zero, List.set_cons_succ, i64_w, i32_w]
                                rfl
                              refine done_ (done_of HT_.out (by kernel_rfl)) ?_
                              try go_wp2
                              go_meet
                              case rel => exact ⟨_, (!t277), rfl, H', ⟨by have := HJ7.out; have := HK2.out; have := HJ59.out; first | omega⟩, ⟨by (with_reducible repeat (first | apply Kd.R_drewN)); exact HO_244000.out⟩, ⟨by (with_reducible repeat (first | apply Kd.R_drewN)); exact HO_244001.out⟩, ⟨by (with_reducible repeat (first | apply Kd.R_drewN)); exact HO_244002.out⟩, ⟨by (with_reducible repeat (first | apply Kd.R_drewN)); exact HO_244003.out⟩, ⟨by (with_reducible repeat (first | apply Kd.R_drewN)); exact HO_244004.out⟩, ⟨by (with_reducible repeat (first | apply Kd.S_drewN)); exact Kd.S_mono HO_253002.out (fun _ hk => hk.1)⟩, ⟨by (with_reducible repeat (first | apply Kd.S_drewN)); exact Kd.S_mono HO_253003.out (fun _ hk => hk.1)⟩, ⟨by (with_reducible repeat (first | apply Kd.R_drewN)); exact HO_270001.out⟩, ⟨by (with_reducible repeat (first | apply Kd.R_drewN)); exact HO_270002.out⟩, ⟨by (with_reducible repeat (first | apply Kd.R_drewN)); exact HO_270003.out⟩, ⟨by (with_reducible repeat (first | apply Kd.R_drewN)); exact HO_270004.out⟩, ⟨by (with_reducible repeat (first | refine blk_drewN ?_ _)); exact BK225.out⟩, ⟨by (with_reducible repeat (first | refine blk_drewN ?_ _)); exact BK226.out⟩, ⟨by (with_reducible repeat (first | refine blk_drewN ?_ _)); exact BK243.out⟩, ⟨by (with_reducible repeat (first | refine blk_drewN ?_ _)); exact BK252.out⟩, ⟨by (with_reducible repeat (first | refine blk_drewN ?_ _)); exact BK269.out⟩, ⟨by repeat (first | (with_reducible first | exact HB.out | apply pw_below_drewN))⟩⟩
                            · replace c92 := Bool.eq_false_iff.mpr c92
                              subst c92
                              have H1 : (proofmarklaw30_ReportClauses.j4 kj59 t227 x11_2 x14_2 true t228 t231 t234 t237 t240 2 t245 t246 t249 t256 t257 t260 t263 t266) = some r := by rw [if_neg (show ¬ (false = true) by decide)] at H; exact H
                              clear H
                              have H := H1
                              clear H1
                              have H' := Aside0.mk H
                              clear H
                              try go_wp2
                              have n0_ := Aside0.mk (Kd.R_drew HO_244000.out)
                              have n1_ := Aside0.mk (Kd.R_drew HO_244001.out)
                              have n2_ := Aside0.mk (Kd.R_drew HO_244002.out)
                              have n3_ := Aside0.mk (Kd.R_drew HO_244003.out)
                              have n4_ := Aside0.mk (Kd.R_drew HO_244004.out)
                              have n5_ := Aside0.mk (Kd.S_drew HO_253002.out)
                              have n6_ := Aside0.mk (Kd.S_drew HO_253003.out)
                              have n7_ := Aside0.mk (Kd.R_drew HO_270001.out)
                              have n8_ := Aside0.mk (Kd.R_drew HO_270002.out)
                              have n9_ := Aside0.mk (Kd.R_drew HO_270003.out)
                              have n10_ := Aside0.mk (Kd.R_drew HO_270004.out)
                              have n11_ := Aside0.mk (Kd.R_drew HO272.out)
                              have n12_ := Aside0.mk (blk_drew BK225.out)
                              have n13_ := Aside0.mk (blk_drew BK226.out)
                              have n14_ := Aside0.mk (blk_drew BK243.out)
                              have n15_ := Aside0.mk (blk_drew BK252.out)
                              have n16_ := Aside0.mk (blk_drew BK269.out)
                              have n17_ := Aside0.mk (below_drew1 HB.out)
                              clear HO_244000
                              clear HO_244001
                              clear HO_244002
                              clear HO_244003
                              clear HO_244004
                              clear HO_253002
                              clear HO_253003
                              clear HO_270001
                              clear HO_270002
                              clear HO_270003
                              clear HO_270004
                              clear HO272
                              clear BK225
                              clear BK226
                              clear BK243
                              clear BK252
                              clear BK269
                              clear HB
                              have HO_244000 := n0_
                              have HO_244001 := n1_
                              have HO_244002 := n2_
                              have HO_244003 := n3_
                              have HO_244004 := n4_
                              have HO_253002 := n5_
                              have HO_253003 := n6_
                              have HO_270001 := n7_
                              have HO_270002 := n8_
                              have HO_270003 := n9_
                              have HO_270004 := n10_
                              have HO272 := n11_
                              have BK225 := n12_
                              have BK226 := n13_
                              have BK243 := n14_
                              have BK252 := n15_
                              have BK269 := n16_
                              have HB := n17_
                              clear n0_ n1_ n2_ n3_ n4_ n5_ n6_ n7_ n8_ n9_ n10_ n11_ n12_ n13_ n14_ n15_ n16_ n17_
                              have p274 : 0 ≤ (x14_2 : Int) := of_decide_eq_true (by first | (with_reducible assumption))
                              have q274 : x14_2 < (t249.length : Int) := of_decide_eq_true (by first | (with_reducible assumption))
                              obtain ⟨ad274, A274_0, c274_0, e274, hx274_0, hl274_0, hi274_0⟩ := at_L23 (Kd.S_reads' HO_253003.out).2.2 x14_2 p274 q274
                              cases e274
                              obtain ⟨ce274, hce274, hMe274, hcc274⟩ := Kd.S_get HO_253003.out [] x14_2 p274 (by first | exact q274)
                              obtain ⟨ve274_0, rfl, ge274_0⟩ := hMe274
                              have hv274_0 := hcc274 0 _ rfl
                              rw [Nat.add_zero, show ((Kd.slice 3 (Kd.int .i64))).sz = 1 from rfl, Nat.mul_one] at hv274_0
                              replace hv274_0 := Option.some.inj (hv274_0.symm.trans hx274_0)
                              rw [hv274_0] at ge274_0
                              have HL274_0 := Aside0.mk (show Kd.R (Kd.int .i64) 3 _ _ _ _ (rd_L23 t249 x14_2) from ge274_0)
                              clear hv274_0 ge274_0
                              clear hcc274 hce274
                              have HR274_0 := Aside0.mk hi274_0
                              have HC274_0 := Aside0.mk hl274_0
                              clear hi274_0 hl274_0
                              replace p274 := eq_true p274
                              replace q274 := eq_true q274
                              refine start_ (n := 28) (S := fun w' => w'.cell? ⟨gb243, 0, none⟩ = some (.slice Ao16 t228.length co16) ∧ w'.cell? ⟨gb243, 1, none⟩ = some (.slice Ao20 t231.length co20) ∧ w'.cell? ⟨gb243, 2, none⟩ = some (.slice Ao21 t234.length co21) ∧ w'.cell? ⟨gb243, 3, none⟩ = some (.slice Ao22 t237.length co22) ∧ w'.cell? ⟨gb243, 4, none⟩ = some (.slice Ao23 t240.length co23) ∧ w'.cell? ⟨gb269, 0, none⟩ = some (.int .i64 t256) ∧ w'.cell? ⟨gb269, 1, none⟩ = some (.slice Ao55 t257.length co55) ∧ w'.cell? ⟨gb269, 2, none⟩ = some (.slice Ao56 t260.length co56) ∧ w'.cell? ⟨gb269, 3, none⟩ = some (.slice Ao57 t263.length co57) ∧ w'.cell? ⟨gb269, 4, none⟩ = some (.slice Ao58 t266.length co58) ∧ w'.cell? ⟨gb252, 0, none⟩ = some (.int .i64 2) ∧ w'.cell? ⟨gb252, 1, none⟩ = some (.int .i64 t245) ∧ w'.cell? ⟨gb252, 2, none⟩ = some (.slice Ao31 t246.length co31) ∧ w'.cell? ⟨gb252, 3, none⟩ = some (.slice (some ad274) t249.length co32) ∧ w'.cell? (ad274.add (x14_2).toNat) = some (.slice A274_0 (rd_L23 t249 x14_2).length c274_0)) (ds := []) #[false, false, false, false, false, false, false, false, false, false, false, false, false, false, false, false, false, false, false, false, false, false, false, false, false, false, false, false] (by kernel_rfl) rfl rfl ⟨(blk_cell BK243.out 0).trans rfl, (blk_cell BK243.out 1).trans rfl, (blk_cell BK243.out 2).trans rfl, (blk_cell BK243.out 3).trans rfl, (blk_cell BK243.out 4).trans rfl, (blk_cell BK269.out 0).trans rfl, (blk_cell BK269.out 1).trans rfl, (blk_cell BK269.out 2).trans rfl, (blk_cell BK269.out 3).trans rfl, (blk_cell BK269.out 4).trans rfl, (blk_cell BK252.out 0).trans rfl, (blk_cell BK252.out 1).trans rfl, (blk_cell BK252.out 2).trans rfl, (blk_cell BK252.out 3).trans rfl, hx274_0⟩ (fun hHeld => ?_); refine with_tabW proofmarklaw30_ReportClauses.tab19 proofmarklaw30_ReportClauses.bits19 (fun HT_ HW_ => ?_)
                              generalize w84.drew = w97 at HO_244000 HO_244001 HO_244002 HO_244003 HO_244004 HO_253002 HO_253003 HO_270001 HO_270002 HO_270003 HO_270004 HO272 BK225 BK226 BK243 BK252 BK269 HB HL274_0 HR274_0 hx274_0 hHeld ⊢
                              refine pure_ (i := 0) (N := some 80) (v := ?_) (a' := ?_) #[true, false, false, false, false, false, false, false, false, false, false, false, false, false, false, false, false, false, false, false, false, false, false, false, false, false, false, false] rfl rfl (any_of HT_.out (by kernel_rfl)) (fun _ _ _ h => h) (Or.inl ⟨by rfl, ?_⟩) ?_ ?_
                              rotate_left
                              · intro w'
                                go_simp
                                with_reducible rfl
                              rotate_left
                              · simp only [Act.put, List.setIfInBounds_toArray, List.set_cons_zero, List.set_cons_succ, i64_w, i32_w]
                                rfl
                              refine pure_ (i := 3) (N := some 83) (v := ?_) (a' := ?_) #[true, false, false, true, false, false, false, false, false, false, false, false, false, false, false, false, false, false, false, false, false, false, false, false, false, false, false, false] rfl rfl (any_of HT_.out (by kernel_rfl)) (fun _ _ _ h => h) (Or.inl ⟨by rfl, ?_⟩) ?_ ?_
                              rotate_left
                              · intro w'
                                go_simp
                                with_reducible rfl
                              rotate_left
                              · simp only [Act.put, List.setIfInBounds_toArray, List.set_cons_zero, List.set_cons_succ, i64_w, i32_w]
                                rfl
                              refine pure_ (i := 5) (N := some 85) (v := ?_) (a' := ?_) #[true, false, false, true, false, true, false, false, false, false, false, false, false, false, false, false, false, false, false, false, false, false, false, false, false, false, false, false] rfl rfl (any_of HT_.out (by kernel_rfl)) (fun _ _ _ h => h) (Or.inl ⟨by rfl, ?_⟩) ?_ ?_
                              rotate_left
                              · intro w'
                                go_simp
                                with_reducible rfl
                              rotate_left
                              · simp only [Act.put, List.setIfInBounds_toArray, List.set_cons_zero, List.set_cons_succ, i64_w, i32_w]
                                rfl
                              refine take_ (i := 1) (N := some 81) (v := ?_) (a' := ?_) #[true, true, false, true, false, true, false, false, false, false, false, false, false, false, false, false, false, false, false, false, false, false, false, false, false, false, false, false] rfl rfl (take_ofW HT_.out HW_.out (by kernel_rfl)) (fun _ _ _ h => h) (Or.inl ⟨by rfl, ?_⟩) hHeld ?_ ?_
                              rotate_left
                              · rintro w' ⟨s0, s1, s2, s3, s4, s5, s6, s7, s8, s9, s10, s11, s12, s13, s14⟩
                                go_simp
                                with_reducible rfl
                              rotate_left
                              · simp only [Act.put, List.setIfInBounds_toArray, List.set_cons_zero, List.set_cons_succ, i64_w, i32_w]
                                rfl
                              refine take_ (i := 2) (N := some 82) (v := ?_) (a' := ?_) #[true, true, true, true, false, true, false, false, false, false, false, false, false, false, false, false, false, false, false, false, false, false, false, false, false, false, false, false] rfl rfl (take_ofW HT_.out HW_.out (by kernel_rfl)) (fun _ _ _ h => h) (Or.inl ⟨by rfl, ?_⟩) hHeld ?_ ?_
                              rotate_left
                              · rintro w' ⟨s0, s1, s2, s3, s4, s5, s6, s7, s8, s9, s10, s11, s12, s13, s14⟩
                                go_simp
                                with_reducible rfl
                              rotate_left
                              · simp only [Act.put, List.setIfInBounds_toArray, List.set_cons_zero, List.set_cons_succ, i64_w, i32_w]
                                rfl
                              refine take_ (i := 4) (N := some 84) (v := ?_) (a' := ?_) #[true, true, true, true, true, true, false, false, false, false, false, false, false, false, false, false, false, false, false, false, false, false, false, false, false, false, false, false] rfl rfl (take_ofW HT_.out HW_.out (by kernel_rfl)) (fun _ _ _ h => h) (Or.inl ⟨by rfl, ?_⟩) hHeld ?_ ?_
                              rotate_left
                              · rintro w' ⟨s0, s1, s2, s3, s4, s5, s6, s7, s8, s9, s10, s11, s12, s13, s14⟩
                                go_simp
                                with_reducible rfl
                              rotate_left
                              · simp only [Act.put, List.setIfInBounds_toArray, List.set_cons_zero, List.set_cons_succ, i64_w, i32_w]
                                rfl
                              refine pure_ (i := 6) (N := some 86) (v := ?_) (a' := ?_) #[true, true, true, true, true, true, true, false, false, false, false, false, false, false, false, false, false, false, false, false, false, false, false, false, false, false, false, false] rfl rfl (any_of HT_.out (by kernel_rfl)) (fun _ _ _ h => h) (Or.inl ⟨by rfl, ?_⟩) ?_ ?_
                              rotate_left
                              · intro w'
                                go_simp
                                with_reducible rfl
                              rotate_left
                              · simp only [Act.put, List.setIfInBounds_toArray, List.set_cons_zero, List.set_cons_succ, i64_w, i32_w]
                                rfl
                              refine take_ (i := 7) (N := some 87) (v := ?_) (a' := ?_) #[true, true, true, true, true, true, true, true, false, false, false, false, false, false, false, false, false, false, false, false, false, false, false, false, false, false, false, false] rfl rfl (take_ofW HT_.out HW_.out (by kernel_rfl)) (fun _ _ _ h => h) (Or.inl ⟨by rfl, ?_⟩) hHeld ?_ ?_
                              rotate_left
                              · rintro w' ⟨s0, s1, s2, s3, s4, s5, s6, s7, s8, s9, s10, s11, s12, s13, s14⟩
                                go_simp
                                with_reducible rfl
                              rotate_left
                              · simp only [Act.put, List.setIfInBounds_toArray, List.set_cons_zero, List.set_cons_succ, i64_w, i32_w]
                                rfl
                              refine one_ (i := 8) (N := some 88) #[true, true, true, true, true, true, true, true, true, false, false, false, false, false, false, false, false, false, false, false, false, false, false, false, false, false, false, false] rfl rfl (one_of HT_.out (by kernel_rfl)) (by decide) (fun K hK => ?_)
                              refine goes_ Tryd.func24 (by kernel_rfl) rfl #[.agg #[.slice Ao16 t228.length co16, .slice Ao20 t231.length co20, .slice Ao21 t234.length co21, .slice Ao22 t237.length co22, .slice Ao23 t240.length co23], .agg #[.int .i64 t256, .slice Ao55 t257.length co55, .slice Ao56 t260.length co56, .slice Ao57 t263.length co57, .slice Ao58 t266.length co58], .slice A274_0 (rd_L23 t249 x14_2).length c274_0] (by rfl) rfl rfl (by (try simp only [List.map_toArray, List.map_cons, List.map_nil]); first | rfl) ?_
                              with_reducible refine (lift_Clause.calls _ _ t228 _ _ t231 _ _ t234 _ _ t237 _ _ t240 t256 _ _ t257 _ _ t260 _ _ t263 _ _ t266 _ _ (rd_L23 t249 x14_2) t275 _ (by first | (refine tab_below HG.out ?_; repeat (first | (with_reducible first | exact HB.out)))) ?side1 ?side2 ?side3 ?side4 ?side5 ?side6 ?side7 ?side8 ?side9 ?side10 ?side11 ?side12 ?side13 ?side14 ?side15 ?side16 ?side17 ?side18 ?side19 ?side20 A87.out).mono ?_
                              (case side1 => repeat (first | exact (Kd.R_reads' HO_244000.out).2.2))
                              (case side2 => exact (Kd.R_reads' HO_244000.out).2.1)
                              (case side3 => repeat (first | exact (Kd.R_reads' HO_244001.out).2.2))
                              (case side4 => exact (Kd.R_reads' HO_244001.out).2.1)
                              (case side5 => repeat (first | exact (Kd.R_reads' HO_244002.out).2.2))
                              (case side6 => exact (Kd.R_reads' HO_244002.out).2.1)
                              (case side7 => repeat (first | exact (Kd.R_reads' HO_244003.out).2.2))
                              (case side8 => exact (Kd.R_reads' HO_244003.out).2.1)
                              (case side9 => repeat (first | exact (Kd.R_reads' HO_244004.out).2.2))
                              (case side10 => exact (Kd.R_reads' HO_244004.out).2.1)
                              (case side11 => repeat (first | exact (Kd.R_reads' HO_270001.out).2.2))
                              (case side12 => exact (Kd.R_reads' HO_270001.out).2.1)
                              (case side13 => repeat (first | exact (Kd.R_reads' HO_270002.out).2.2))
                              (case side14 => exact (Kd.R_reads' HO_270002.out).2.1)
                              (case side15 => repeat (first | exact (Kd.R_reads' HO_270003.out).2.2))
                              (case side16 => exact (Kd.R_reads' HO_270003.out).2.1)
                              (case side17 => repeat (first | exact (Kd.R_reads' HO_270004.out).2.2))
                              (case side18 => exact (Kd.R_reads' HO_270004.out).2.1)
                              (case side19 => repeat (first | exact (by repeat (first | (with_reducible exact HR274_0.out)))))
                              (case side20 => exact HC274_0.out)
                              rintro e w98 ⟨rfl, hb⟩
                              have HS14_ := (hb.cell (World.block_lt_of_cell? _ _ (hHeld.2.2.2.2.2.2.2.2.2.2.2.2.2.2))).trans (hHeld.2.2.2.2.2.2.2.2.2.2.2.2.2.2)
                              refine ⟨_, rfl, ?_⟩
                              have n0_ := Aside0.mk (Kd.R_below HO_244000.out hb)
                              have n1_ := Aside0.mk (Kd.R_below HO_244001.out hb)
                              have n2_ := Aside0.mk (Kd.R_below HO_244002.out hb)
                              have n3_ := Aside0.mk (Kd.R_below HO_244003.out hb)
                              have n4_ := Aside0.mk (Kd.R_below HO_244004.out hb)
                              have n5_ := Aside0.mk (Kd.S_below HO_253002.out hb)
                              have n6_ := Aside0.mk (Kd.S_below HO_253003.out hb)
                              have n7_ := Aside0.mk (Kd.R_below HO_270001.out hb)
                              have n8_ := Aside0.mk (Kd.R_below HO_270002.out hb)
                              have n9_ := Aside0.mk (Kd.R_below HO_270003.out hb)
                              have n10_ := Aside0.mk (Kd.R_below HO_270004.out hb)
                              have n11_ := Aside0.mk (Kd.R_below HO272.out hb)
                              have n12_ := Aside0.mk (Kd.R_below HL274_0.out hb)
                              have n13_ := Aside0.mk (blk_below BK225.out hb)
                              have n14_ := Aside0.mk (blk_below BK226.out hb)
                              have n15_ := Aside0.mk (blk_below BK243.out hb)
                              have n16_ := Aside0.mk (blk_below BK252.out hb)
                              have n17_ := Aside0.mk (blk_below BK269.out hb)
                              have n18_ := Aside0.mk (Kd.C_below (by repeat (first | (with_reducible exact HR274_0.out))) hb)
                              have n19_ := Aside0.mk (below_step HB.out hb)
                              clear HO_244000
                              clear HO_244001
                              clear HO_244002
                              clear HO_244003
                              clear HO_244004
                              clear HO_253002
                              clear HO_253003
                              clear HO_270001
                              clear HO_270002
                              clear HO_270003
                              clear HO_270004
                              clear HO272
                              clear HL274_0
                              clear BK225
                              clear BK226
                              clear BK243
                              clear BK252
                              clear BK269
                              clear HR274_0
                              clear HB
                              have HO_244000 := n0_
                              have HO_244001 := n1_
                              have HO_244002 := n2_
                              have HO_244003 := n3_
                              have HO_244004 := n4_
                              have HO_253002 := n5_
                              have HO_253003 := n6_
                              have HO_270001 := n7_
                              have HO_270002 := n8_
                              have HO_270003 := n9_
                              have HO_270004 := n10_
                              have HO272 := n11_
                              have HL274_0 := n12_
                              have BK225 := n13_
                              have BK226 := n14_
                              have BK243 := n15_
                              have BK252 := n16_
                              have BK269 := n17_
                              have HR274_0 := n18_
                              have HB := n19_
                              clear n0_ n1_ n2_ n3_ n4_ n5_ n6_ n7_ n8_ n9_ n10_ n11_ n12_ n13_ n14_ n15_ n16_ n17_ n18_ n19_
                              (try clear hb)
                              (try clear hb2)
                              (try clear hk)
                              (try clear hi)
                              refine hK.out _ _ ⟨(blk_cell BK243.out 0).trans rfl, (blk_cell BK243.out 1).trans rfl, (blk_cell BK243.out 2).trans rfl, (blk_cell BK243.out 3).trans rfl, (blk_cell BK243.out 4).trans rfl, (blk_cell BK269.out 0).trans rfl, (blk_cell BK269.out 1).trans rfl, (blk_cell BK269.out 2).trans rfl, (blk_cell BK269.out 3).trans rfl, (blk_cell BK269.out 4).trans rfl, (blk_cell BK252.out 0).trans rfl, (blk_cell BK252.out 1).trans rfl, (blk_cell BK252.out 2).trans rfl, (blk_cell BK252.out 3).trans rfl, HS14_⟩ (fun hHeld => ?_)
                              clear hK K
                              refine norm_ (a' := ?_) ?_ ?_
                              rotate_left
                              · show Act.put _ (some 88) _ = _
                                simp only [Act.put, List.setIfInBounds_toArray, List.set_cons_zero, List.set_cons_succ, i64_w, i32_w]
                                rfl
                              refine pure_ (i := 9) (N := some 89) (v := ?_) (a' := ?_) #[true, true, true, true, true, true, true, true, true, true, false, false, false, false, false, false, false, false, false, false, false, false, false, false, false, false, false, false] rfl rfl (any_of HT_.out (by kernel_rfl)) (fun _ _ _ h => h) (Or.inl ⟨by rfl, ?_⟩) ?_ ?_
                              rotate_left
                              · intro w'
                                go_simp
                                with_reducible rfl
                              rotate_left
                              · simp only [Act.put, List.setIfInBounds_toArray, List.set_cons_zero, List.set_cons_succ, i64_w, i32_w]
                                rfl
                              refine pure_ (i := 10) (N := some 90) (v := ?_) (a' := ?_) #[true, true, true, true, true, true, true, true, true, true, true, false, false, false, false, false, false, false, false, false, false, false, false, false, false, false, false, false] rfl rfl (any_of HT_.out (by kernel_rfl)) (fun _ _ _ h => h) (Or.inl ⟨by rfl, ?_⟩) ?_ ?_
                              rotate_left
                              · intro w'
                                go_simp
                                with_reducible rfl
                              rotate_left
                              · simp only [Act.put, List.setIfInBounds_toArray, List.set_cons_zero, List.set_cons_succ, i64_w, i32_w]
                                rfl
                              refine pure_ (i := 11) (N := some 91) (v := ?_) (a' := ?_) #[true, true, true, true, true, true, true, true, true, true, true, true, false, false, false, false, false, false, false, false, false, false, false, false, false, false, false, false] rfl rfl (any_of HT_.out (by kernel_rfl)) (fun _ _ _ h => h) (Or.inl ⟨by rfl, ?_⟩) ?_ ?_
                              rotate_left
                              · intro w'
                                go_simp
                                with_reducible rfl
                              rotate_left
                              · simp only [Act.put, List.setIfInBounds_toArray, List.set_cons_zero, List.set_cons_succ, i64_w, i32_w]
                                rfl
                              refine pure_ (i := 12) (N := some 92) (v := ?_) (a' := ?_) #[true, true, true, true, true, true, true, true, true, true, true, true, true, false, false, false, false, false, false, false, false, false, false, false, false, false, false, false] rfl rfl (any_of HT_.out (by kernel_rfl)) (fun _ _ _ h => h) (Or.inl ⟨by rfl, ?_⟩) ?_ ?_
                              rotate_left
                              · intro w'
                                go_simp
                                with_reducible rfl
                              rotate_left
                              · simp only [Act.put, List.setIfInBounds_toArray, List.set_cons_zero, List.set_cons_succ, i64_w, i32_w]
                                rfl
                              refine pure_ (i := 13) (N := some 93) (v := ?_) (a' := ?_) #[true, true, true, true, true, true, true, true, true, true, true, true, true, true, false, false, false, false, false, false, false, false, false, false, false, false, false, false] rfl rfl (any_of HT_.out (by kernel_rfl)) (fun _ _ _ h => h) (Or.inl ⟨by rfl, ?_⟩) ?_ ?_
                              rotate_left
                              · intro w'
                                go_simp
                                with_reducible rfl
                              rotate_left
                              · simp only [Act.put, List.setIfInBounds_toArray, List.set_cons_zero, List.set_cons_succ, i64_w, i32_w]
                                rfl
                              refine pure_ (i := 14) (N := some 94) (v := ?_) (a' := ?_) #[true, true, true, true, true, true, true, true, true, true, true, true, true, true, true, false, false, false, false, false, false, false, false, false, false, false, false, false] rfl rfl (any_of HT_.out (by kernel_rfl)) (fun _ _ _ h => h) (Or.inl ⟨by rfl, ?_⟩) ?_ ?_
                              rotate_left
                              · intro w'
                                go_simp
                                with_reducible rfl
                              rotate_left
                              · simp only [Act.put, List.setIfInBounds_toArray, List.set_cons_zero, List.set_cons_succ, i64_w, i32_w]
                                rfl
                              refine pure_ (i := 15) (N := some 95) (v := ?_) (a' := ?_) #[true, true, true, true, true, true, true, true, true, true, true, true, true, true, true, true, false, false, false, false, false, false, false, false, false, false, false, false] rfl rfl (any_of HT_.out (by kernel_rfl)) (fun _ _ _ h => h) (Or.inl ⟨by rfl, ?_⟩) ?_ ?_
                              rotate_left
                              · intro w'
                                go_simp
                                with_reducible rfl
                              rotate_left
                              · simp only [Act.put, List.setIfInBounds_toArray, List.set_cons_zero, List.set_cons_succ, i64_w, i32_w]
                                rfl
                              refine pure_ (i := 16) (N := some 96) (v := ?_) (a' := ?_) #[true, true, true, true, true, true, true, true, true, true, true, true, true, true, true, true, true, false, false, false, false, false, false, false, false, false, false, false] rfl rfl (any_of HT_.out (by kernel_rfl)) (fun _ _ _ h => h) (Or.inl ⟨by rfl, ?_⟩) ?_ ?_
                              rotate_left
                              · intro w'
                                go_simp
                                with_reducible rfl
                              rotate_left
                              · simp only [Act.put, List.setIfInBounds_toArray, List.set_cons_zero, List.set_cons_succ, i64_w, i32_w]
                                rfl
                              refine pure_ (i := 17) (N := some 97) (v := undef) (a' := ?_) #[true, true, true, true, true, true, true, true, true, true, true, true, true, true, true, true, true, true, false, false, false, false, false, false, false, false, false, false] rfl rfl (any_of HT_.out (by kernel_rfl)) (fun _ _ _ h => h) (Or.inr ⟨by rfl, rfl⟩) ?_ ?_
                              rotate_left
                              · simp only [Act.put, List.setIfInBounds_toArray, List.set_cons_zero, List.set_cons_succ, i64_w, i32_w]
                                rfl
                              refine pure_ (i := 18) (N := some 98) (v := undef) (a' := ?_) #[true, true, true, true, true, true, true, true, true, true, true, true, true, true, true, true, true, true, true, false, false, false, false, false, false, false, false, false] rfl rfl (any_of HT_.out (by kernel_rfl)) (fun _ _ _ h => h) (Or.inr ⟨by rfl, rfl⟩) ?_ ?_
                              rotate_left
                              · simp only [Act.put, List.setIfInBounds_toArray, List.set_cons_zero, List.set_cons_succ, i64_w, i32_w]
                                rfl
                              refine pure_ (i := 19) (N := some 99) (v := undef) (a' := ?_) #[true, true, true, true, true, true, true, true, true, true, true, true, true, true, true, true, true, true, true, true, false, false, false, false, false, false, false, false] rfl rfl (any_of HT_.out (by kernel_rfl)) (fun _ _ _ h => h) (Or.inr ⟨by rfl, rfl⟩) ?_ ?_
                              rotate_left
                              · simp only [Act.put, List.setIfInBounds_toArray, List.set_cons_zero, List.set_cons_succ, i64_w, i32_w]
                                rfl
                              refine pure_ (i := 20) (N := some 100) (v := undef) (a' := ?_) #[true, true, true, true, true, true, true, true, true, true, true, true, true, true, true, true, true, true, true, true, true, false, false, false, false, false, false, false] rfl rfl (any_of HT_.out (by kernel_rfl)) (fun _ _ _ h => h) (Or.inr ⟨by rfl, rfl⟩) ?_ ?_
                              rotate_left
                              · simp only [Act.put, List.setIfInBounds_toArray, List.set_cons_zero, List.set_cons_succ, i64_w, i32_w]
                                rfl
                              refine pure_ (i := 21) (N := some 101) (v := undef) (a' := ?_) #[true, true, true, true, true, true, true, true, true, true, true, true, true, true, true, true, true, true, true, true, true, true, false, false, false, false, false, false] rfl rfl (any_of HT_.out (by kernel_rfl)) (fun _ _ _ h => h) (Or.inr ⟨by rfl, rfl⟩) ?_ ?_
                              rotate_left
                              · simp only [Act.put, List.setIfInBounds_toArray, List.set_cons_zero, List.set_cons_succ, i64_w, i32_w]
                                rfl
                              refine pure_ (i := 22) (N := some 102) (v := undef) (a' := ?_) #[true, true, true, true, true, true, true, true, true, true, true, true, true, true, true, true, true, true, true, true, true, true, true, false, false, false, false, false] rfl rfl (any_of HT_.out (by kernel_rfl)) (fun _ _ _ h => h) (Or.inr ⟨by rfl, rfl⟩) ?_ ?_
                              rotate_left
                              · simp only [Act.put, List.setIfInBounds_toArray, List.set_cons_zero, List.set_cons_succ, i64_w, i32_w]
                                rfl
                              refine pure_ (i := 23) (N := some 103) (v := undef) (a' := ?_) #[true, true, true, true, true, true, true, true, true, true, true, true, true, true, true, true, true, true, true, true, true, true, true, true, false, false, false, false] rfl rfl (any_of HT_.out (by kernel_rfl)) (fun _ _ _ h => h) (Or.inr ⟨by rfl, rfl⟩) ?_ ?_
                              rotate_left
                              · simp only [Act.put, List.setIfInBounds_toArray, List.set_cons_zero, List.set_cons_succ, i64_w, i32_w]
                                rfl
                              refine pure_ (i := 24) (N := some 104) (v := undef) (a' := ?_) #[true, true, true, true, true, true, true, true, true, true, true, true, true, true, true, true, true, true, true, true, true, true, true, true, true, false, false, false] rfl rfl (any_of HT_.out (by kernel_rfl)) (fun _ _ _ h => h) (Or.inr ⟨by rfl, rfl⟩) ?_ ?_
                              rotate_left
                              · simp only [Act.put, List.setIfInBounds_toArray, List.set_cons_zero, List.set_cons_succ, i64_w, i32_w]
                                rfl
                              refine pure_ (i := 25) (N := some 105) (v := ?_) (a' := ?_) #[true, true, true, true, true, true, true, true, true, true, true, true, true, true, true, true, true, true, true, true, true, true, true, true, true, true, false, false] rfl rfl (any_of HT_.out (by kernel_rfl)) (fun _ _ _ h => h) (Or.inl ⟨by rfl, ?_⟩) ?_ ?_
                              rotate_left
                              · intro w'
                                go_simp
                                with_reducible rfl
                              rotate_left
                              · simp only [Act.put, List.setIfInBounds_toArray, List.set_cons_zero, List.set_cons_succ, i64_w, i32_w]
                                rfl
                              refine pure_ (i := 26) (N := some 106) (v := ?_) (a' := ?_) #[true, true, true, true, true, true, true, true, true, true, true, true, true, true, true, true, true, true, true, true, true, true, true, true, true, true, true, false] rfl rfl (any_of HT_.out (by kernel_rfl)) (fun _ _ _ h => h) (Or.inl ⟨by rfl, ?_⟩) ?_ ?_
                              rotate_left
                              · intro w'
                                go_simp
                                with_reducible rfl
                              rotate_left
                              · simp only [Act.put, List.setIfInBounds_toArray, List.set_cons_zero, List.set_cons_succ, i64_w, i32_w]
                                rfl
                              refine pure_ (i := 27) (N := some 107) (v := ?_) (a' := ?_) #[true, true, true, true, true, true, true, true, true, true, true, true, true, true, true, true, true, true, true, true, true, true, true, true, true, true, true, true] rfl rfl (any_of HT_.out (by kernel_rfl)) (fun _ _ _ h => h) (Or.inl ⟨by rfl, ?_⟩) ?_ ?_
                              rotate_left
                              · intro w'
                                go_simp
                                with_reducible rfl
                              rotate_left
                              · simp only [Act.put, List.setIfInBounds_toArray, List.set_cons_zero, List.set_cons_succ, i64_w, i32_w]
                                rfl
                              refine done_ (done_of HT_.out (by kernel_rfl)) ?_
                              try go_wp2
                              go_meet
                              case rel => exact ⟨_, (true), rfl, H', ⟨by have := HJ7.out; have := HK2.out; have := HJ59.out; first | omega⟩, ⟨by exact HO_244000.out⟩, ⟨by exact HO_244001.out⟩, ⟨by exact HO_244002.out⟩, ⟨by exact HO_244003.out⟩, ⟨by exact HO_244004.out⟩, ⟨by exact Kd.S_mono HO_253002.out (fun _ hk => hk.1)⟩, ⟨by exact Kd.S_mono HO_253003.out (fun _ hk => hk.1)⟩, ⟨by exact HO_270001.out⟩, ⟨by exact HO_270002.out⟩, ⟨by exact HO_270003.out⟩, ⟨by exact HO_270004.out⟩, ⟨by exact BK225.out⟩, ⟨by exact BK226.out⟩, ⟨by exact BK243.out⟩, ⟨by exact BK252.out⟩, ⟨by exact BK269.out⟩, ⟨by exact HB.out⟩⟩
                        · rw [if_neg c88] at H
                          have c88b0 : (x15_59.toList == t275.toList) = false := beq_eq_false_iff_ne.mpr c88
                          have c88b1 : (x15_59.toList != t275.toList) = true := bne_iff_ne.mpr c88
                          have H' := Aside0.mk H
                          clear H
                          try go_wp2
                          have n0_ := Aside0.mk (Kd.R_drew HO_244000.out)
                          have n1_ := Aside0.mk (Kd.R_drew HO_244001.out)
                          have n2_ := Aside0.mk (Kd.R_drew HO_244002.out)
                          have n3_ := Aside0.mk (Kd.R_drew HO_244003.out)
                          have n4_ := Aside0.mk (Kd.R_drew HO_244004.out)
                          have n5_ := Aside0.mk (Kd.S_drew HO_253002.out)
                          have n6_ := Aside0.mk (Kd.S_drew HO_253003.out)
                          have n7_ := Aside0.mk (Kd.R_drew HO_270001.out)
                          have n8_ := Aside0.mk (Kd.R_drew HO_270002.out)
                          have n9_ := Aside0.mk (Kd.R_drew HO_270003.out)
                          have n10_ := Aside0.mk (Kd.R_drew HO_270004.out)
                          have n11_ := Aside0.mk (Kd.R_drew HO272.out)
                          have n12_ := Aside0.mk (blk_drew BK225.out)
                          have n13_ := Aside0.mk (blk_drew BK226.out)
                          have n14_ := Aside0.mk (blk_drew BK243.out)
                          have n15_ := Aside0.mk (blk_drew BK252.out)
                          have n16_ := Aside0.mk (blk_drew BK269.out)
                          have n17_ := Aside0.mk (below_drew1 HB.out)
                          clear HO_244000
                          clear HO_244001
                          clear HO_244002
                          clear HO_244003
                          clear HO_244004
                          clear HO_253002
                          clear HO_253003
                          clear HO_270001
                          clear HO_270002
                          clear HO_270003
                          clear HO_270004
                          clear HO272
                          clear BK225
                          clear BK226
                          clear BK243
                          clear BK252
                          clear BK269
                          clear HB
                          have HO_244000 := n0_
                          have HO_244001 := n1_
                          have HO_244002 := n2_
                          have HO_244003 := n3_
                          have HO_244004 := n4_
                          have HO_253002 := n5_
                          have HO_253003 := n6_
                          have HO_270001 := n7_
                          have HO_270002 := n8_
                          have HO_270003 := n9_
                          have HO_270004 := n10_
                          have HO272 := n11_
                          have BK225 := n12_
                          have BK226 := n13_
                          have BK243 := n14_
                          have BK252 := n15_
                          have BK269 := n16_
                          have HB := n17_
                          clear n0_ n1_ n2_ n3_ n4_ n5_ n6_ n7_ n8_ n9_ n10_ n11_ n12_ n13_ n14_ n15_ n16_ n17_
                          have p274 : 0 ≤ (x14_2 : Int) := of_decide_eq_true (by first | (with_reducible assumption))
                          have q274 : x14_2 < (t249.length : Int) := of_decide_eq_true (by first | (with_reducible assumption))
                          obtain ⟨ad274, A274_0, c274_0, e274, hx274_0, hl274_0, hi274_0⟩ := at_L23 (Kd.S_reads' HO_253003.out).2.2 x14_2 p274 q274
                          cases e274
                          obtain ⟨ce274, hce274, hMe274, hcc274⟩ := Kd.S_get HO_253003.out [] x14_2 p274 (by first | exact q274)
                          obtain ⟨ve274_0, rfl, ge274_0⟩ := hMe274
                          have hv274_0 := hcc274 0 _ rfl
                          rw [Nat.add_zero, show ((Kd.slice 3 (Kd.int .i64))).sz = 1 from rfl, Nat.mul_one] at hv274_0
                          replace hv274_0 := Option.some.inj (hv274_0.symm.trans hx274_0)
                          rw [hv274_0] at ge274_0
                          have HL274_0 := Aside0.mk (show Kd.R (Kd.int .i64) 3 _ _ _ _ (rd_L23 t249 x14_2) from ge274_0)
                          clear hv274_0 ge274_0
                          clear hcc274 hce274
                          have HR274_0 := Aside0.mk hi274_0
                          have HC274_0 := Aside0.mk hl274_0
                          clear hi274_0 hl274_0
                          replace p274 := eq_true p274
                          replace q274 := eq_true q274
                          refine start_ (n := 28) (S := fun w' => w'.cell? ⟨gb243, 0, none⟩ = some (.slice Ao16 t228.length co16) ∧ w'.cell? ⟨gb243, 1, none⟩ = some (.slice Ao20 t231.length co20) ∧ w'.cell? ⟨gb243, 2, none⟩ = some (.slice Ao21 t234.length co21) ∧ w'.cell? ⟨gb243, 3, none⟩ = some (.slice Ao22 t237.length co22) ∧ w'.cell? ⟨gb243, 4, none⟩ = some (.slice Ao23 t240.length co23) ∧ w'.cell? ⟨gb269, 0, none⟩ = some (.int .i64 t256) ∧ w'.cell? ⟨gb269, 1, none⟩ = some (.slice Ao55 t257.length co55) ∧ w'.cell? ⟨gb269, 2, none⟩ = some (.slice Ao56 t260.length co56) ∧ w'.cell? ⟨gb269, 3, none⟩ = some (.slice Ao57 t263.length co57) ∧ w'.cell? ⟨gb269, 4, none⟩ = some (.slice Ao58 t266.length co58) ∧ w'.cell? ⟨gb252, 0, none⟩ = some (.int .i64 2) ∧ w'.cell? ⟨gb252, 1, none⟩ = some (.int .i64 t245) ∧ w'.cell? ⟨gb252, 2, none⟩ = some (.slice Ao31 t246.length co31) ∧ w'.cell? ⟨gb252, 3, none⟩ = some (.slice (some ad274) t249.length co32) ∧ w'.cell? (ad274.add (x14_2).toNat) = some (.slice A274_0 (rd_L23 t249 x14_2).length c274_0)) (ds := []) #[false, false, false, false, false, false, false, false, false, false, false, false, false, false, false, false, false, false, false, false, false, false, false, false, false, false, false, false] (by kernel_rfl) rfl rfl ⟨(blk_cell BK243.out 0).trans rfl, (blk_cell BK243.out 1).trans rfl, (blk_cell BK243.out 2).trans rfl, (blk_cell BK243.out 3).trans rfl, (blk_cell BK243.out 4).trans rfl, (blk_cell BK269.out 0).trans rfl, (blk_cell BK269.out 1).trans rfl, (blk_cell BK269.out 2).trans rfl, (blk_cell BK269.out 3).trans rfl, (blk_cell BK269.out 4).trans rfl, (blk_cell BK252.out 0).trans rfl, (blk_cell BK252.out 1).trans rfl, (blk_cell BK252.out 2).trans rfl, (blk_cell BK252.out 3).trans rfl, hx274_0⟩ (fun hHeld => ?_); refine with_tabW proofmarklaw30_ReportClauses.tab19 proofmarklaw30_ReportClauses.bits19 (fun HT_ HW_ => ?_)
                          generalize w84.drew = w99 at HO_244000 HO_244001 HO_244002 HO_244003 HO_244004 HO_253002 HO_253003 HO_270001 HO_270002 HO_270003 HO_270004 HO272 BK225 BK226 BK243 BK252 BK269 HB HL274_0 HR274_0 hx274_0 hHeld ⊢
                          refine pure_ (i := 0) (N := some 80) (v := ?_) (a' := ?_) #[true, false, false, false, false, false, false, false, false, false, false, false, false, false, false, false, false, false, false, false, false, false, false, false, false, false, false, false] rfl rfl (any_of HT_.out (by kernel_rfl)) (fun _ _ _ h => h) (Or.inl ⟨by rfl, ?_⟩) ?_ ?_
                          rotate_left
                          · intro w'
                            go_simp
                            with_reducible rfl
                          rotate_left
                          · simp only [Act.put, List.setIfInBounds_toArray, List.set_cons_zero, List.set_cons_succ, i64_w, i32_w]
                            rfl
                          refine pure_ (i := 3) (N := some 83) (v := ?_) (a' := ?_) #[true, false, false, true, false, false, false, false, false, false, false, false, false, false, false, false, false, false, false, false, false, false, false, false, false, false, false, false] rfl rfl (any_of HT_.out (by kernel_rfl)) (fun _ _ _ h => h) (Or.inl ⟨by rfl, ?_⟩) ?_ ?_
                          rotate_left
                          · intro w'
                            go_simp
                            with_reducible rfl
                          rotate_left
                          · simp only [Act.put, List.setIfInBounds_toArray, List.set_cons_zero, List.set_cons_succ, i64_w, i32_w]
                            rfl
                          refine pure_ (i := 5) (N := some 85) (v := ?_) (a' := ?_) #[true, false, false, true, false, true, false, false, false, false, false, false, false, false, false, false, false, false, false, false, false, false, false, false, false, false, false, false] rfl rfl (any_of HT_.out (by kernel_rfl)) (fun _ _ _ h => h) (Or.inl ⟨by rfl, ?_⟩) ?_ ?_
                          rotate_left
                          · intro w'
                            go_simp
                            with_reducible rfl
                          rotate_left
                          · simp only [Act.put, List.setIfInBounds_toArray, List.set_cons_zero, List.set_cons_succ, i64_w, i32_w]
                            rfl
                          refine take_ (i := 1) (N := some 81) (v := ?_) (a' := ?_) #[true, true, false, true, false, true, false, false, false, false, false, false, false, false, false, false, false, false, false, false, false, false, false, false, false, false, false, false] rfl rfl (take_ofW HT_.out HW_.out (by kernel_rfl)) (fun _ _ _ h => h) (Or.inl ⟨by rfl, ?_⟩) hHeld ?_ ?_
                          rotate_left
                          · rintro w' ⟨s0, s1, s2, s3, s4, s5, s6, s7, s8, s9, s10, s11, s12, s13, s14⟩
                            go_simp
                            with_reducible rfl
                          rotate_left
                          · simp only [Act.put, List.setIfInBounds_toArray, List.set_cons_zero, List.set_cons_succ, i64_w, i32_w]
                            rfl
                          refine take_ (i := 2) (N := some 82) (v := ?_) (a' := ?_) #[true, true, true, true, false, true, false, false, false, false, false, false, false, false, false, false, false, false, false, false, false, false, false, false, false, false, false, false] rfl rfl (take_ofW HT_.out HW_.out (by kernel_rfl)) (fun _ _ _ h => h) (Or.inl ⟨by rfl, ?_⟩) hHeld ?_ ?_
                          rotate_left
                          · rintro w' ⟨s0, s1, s2, s3, s4, s5, s6, s7, s8, s9, s10, s11, s12, s13, s14⟩
                            go_simp
                            with_reducible rfl
                          rotate_left
                          · simp only [Act.put, List.setIfInBounds_toArray, List.set_cons_zero, List.set_cons_succ, i64_w, i32_w]
                            rfl
                          refine take_ (i := 4) (N := some 84) (v := ?_) (a' := ?_) #[true, true, true, true, true, true, false, false, false, false, false, false, false, false, false, false, false, false, false, false, false, false, false, false, false, false, false, false] rfl rfl (take_ofW HT_.out HW_.out (by kernel_rfl)) (fun _ _ _ h => h) (Or.inl ⟨by rfl, ?_⟩) hHeld ?_ ?_
                          rotate_left
                          · rintro w' ⟨s0, s1, s2, s3, s4, s5, s6, s7, s8, s9, s10, s11, s12, s13, s14⟩
                            go_simp
                            with_reducible rfl
                          rotate_left
                          · simp only [Act.put, List.setIfInBounds_toArray, List.set_cons_zero, List.set_cons_succ, i64_w, i32_w]
                            rfl
                          refine pure_ (i := 6) (N := some 86) (v := ?_) (a' := ?_) #[true, true, true, true, true, true, true, false, false, false, false, false, false, false, false, false, false, false, false, false, false, false, false, false, false, false, false, false] rfl rfl (any_of HT_.out (by kernel_rfl)) (fun _ _ _ h => h) (Or.inl ⟨by rfl, ?_⟩) ?_ ?_
                          rotate_left
                          · intro w'
                            go_simp
                            with_reducible rfl
                          rotate_left
                          · simp only [Act.put, List.setIfInBounds_toArray, List.set_cons_zero, List.set_cons_succ, i64_w, i32_w]
                            rfl
                          refine take_ (i := 7) (N := some 87) (v := ?_) (a' := ?_) #[true, true, true, true, true, true, true, true, false, false, false, false, false, false, false, false, false, false, false, false, false, false, false, false, false, false, false, false] rfl rfl (take_ofW HT_.out HW_.out (by kernel_rfl)) (fun _ _ _ h => h) (Or.inl ⟨by rfl, ?_⟩) hHeld ?_ ?_
                          rotate_left
                          · rintro w' ⟨s0, s1, s2, s3, s4, s5, s6, s7, s8, s9, s10, s11, s12, s13, s14⟩
                            go_simp
                            with_reducible rfl
                          rotate_left
                          · simp only [Act.put, List.setIfInBounds_toArray, List.set_cons_zero, List.set_cons_succ, i64_w, i32_w]
                            rfl
                          refine one_ (i := 8) (N := some 88) #[true, true, true, true, true, true, true, true, true, false, false, false, false, false, false, false, false, false, false, false, false, false, false, false, false, false, false, false] rfl rfl (one_of HT_.out (by kernel_rfl)) (by decide) (fun K hK => ?_)
                          refine goes_ Tryd.func24 (by kernel_rfl) rfl #[.agg #[.slice Ao16 t228.length co16, .slice Ao20 t231.length co20, .slice Ao21 t234.length co21, .slice Ao22 t237.length co22, .slice Ao23 t240.length co23], .agg #[.int .i64 t256, .slice Ao55 t257.length co55, .slice Ao56 t260.length co56, .slice Ao57 t263.length co57, .slice Ao58 t266.length co58], .slice A274_0 (rd_L23 t249 x14_2).length c274_0] (by rfl) rfl rfl (by (try simp only [List.map_toArray, List.map_cons, List.map_nil]); first | rfl) ?_
                          with_reducible refine (lift_Clause.calls _ _ t228 _ _ t231 _ _ t234 _ _ t237 _ _ t240 t256 _ _ t257 _ _ t260 _ _ t263 _ _ t266 _ _ (rd_L23 t249 x14_2) t275 _ (by first | (refine tab_below HG.out ?_; repeat (first | (with_reducible first | exact HB.out)))) ?side1 ?side2 ?side3 ?side4 ?side5 ?side6 ?side7 ?side8 ?side9 ?side10 ?side11 ?side12 ?side13 ?side14 ?side15 ?side16 ?side17 ?side18 ?side19 ?side20 A87.out).mono ?_
                          (case side1 => repeat (first | exact (Kd.R_reads' HO_244000.out).2.2))
                          (case side2 => exact (Kd.R_reads' HO_244000.out).2.1)
                          (case side3 => repeat (first | exact (Kd.R_reads' HO_244001.out).2.2))
                          (case side4 => exact (Kd.R_reads' HO_244001.out).2.1)
                          (case side5 => repeat (first | exact (Kd.R_reads' HO_244002.out).2.2))
                          (case side6 => exact (Kd.R_reads' HO_244002.out).2.1)
                          (case side7 => repeat (first | exact (Kd.R_reads' HO_244003.out).2.2))
                          (case side8 => exact (Kd.R_reads' HO_244003.out).2.1)
                          (case side9 => repeat (first | exact (Kd.R_reads' HO_244004.out).2.2))
                          (case side10 => exact (Kd.R_reads' HO_244004.out).2.1)
                          (case side11 => repeat (first | exact (Kd.R_reads' HO_270001.out).2.2))
                          (case side12 => exact (Kd.R_reads' HO_270001.out).2.1)
                          (case side13 => repeat (first | exact (Kd.R_reads' HO_270002.out).2.2))
                          (case side14 => exact (Kd.R_reads' HO_270002.out).2.1)
                          (case side15 => repeat (first | exact (Kd.R_reads' HO_270003.out).2.2))
                          (case side16 => exact (Kd.R_reads' HO_270003.out).2.1)
                          (case side17 => repeat (first | exact (Kd.R_reads' HO_270004.out).2.2))
                          (case side18 => exact (Kd.R_reads' HO_270004.out).2.1)
                          (case side19 => repeat (first | exact (by repeat (first | (with_reducible exact HR274_0.out)))))
                          (case side20 => exact HC274_0.out)
                          rintro e w100 ⟨rfl, hb⟩
                          have HS14_ := (hb.cell (World.block_lt_of_cell? _ _ (hHeld.2.2.2.2.2.2.2.2.2.2.2.2.2.2))).trans (hHeld.2.2.2.2.2.2.2.2.2.2.2.2.2.2)
                          refine ⟨_, rfl, ?_⟩
                          have n0_ := Aside0.mk (Kd.R_below HO_244000.out hb)
                          have n1_ := Aside0.mk (Kd.R_below HO_244001.out hb)
                          have n2_ := Aside0.mk (Kd.R_below HO_244002.out hb)
                          have n3_ := Aside0.mk (Kd.R_below HO_244003.out hb)
                          have n4_ := Aside0.mk (Kd.R_below HO_244004.out hb)
                          have n5_ := Aside0.mk (Kd.S_below HO_253002.out hb)
                          have n6_ := Aside0.mk (Kd.S_below HO_253003.out hb)
                          have n7_ := Aside0.mk (Kd.R_below HO_270001.out hb)
                          have n8_ := Aside0.mk (Kd.R_below HO_270002.out hb)
                          have n9_ := Aside0.mk (Kd.R_below HO_270003.out hb)
                          have n10_ := Aside0.mk (Kd.R_below HO_270004.out hb)
                          have n11_ := Aside0.mk (Kd.R_below HO272.out hb)
                          have n12_ := Aside0.mk (Kd.R_below HL274_0.out hb)
                          have n13_ := Aside0.mk (blk_below BK225.out hb)
                          have n14_ := Aside0.mk (blk_below BK226.out hb)
                          have n15_ := Aside0.mk (blk_below BK243.out hb)
                          have n16_ := Aside0.mk (blk_below BK252.out hb)
                          have n17_ := Aside0.mk (blk_below BK269.out hb)
                          have n18_ := Aside0.mk (Kd.C_below (by repeat (first | (with_reducible exact HR274_0.out))) hb)
                          have n19_ := Aside0.mk (below_step HB.out hb)
                          clear HO_244000
                          clear HO_244001
                          clear HO_244002
                          clear HO_244003
                          clear HO_244004
                          clear HO_253002
                          clear HO_253003
                          clear HO_270001
                          clear HO_270002
                          clear HO_270003
                          clear HO_270004
                          clear HO272
                          clear HL274_0
                          clear BK225
                          clear BK226
                          clear BK243
                          clear BK252
                          clear BK269
                          clear HR274_0
                          clear HB
                          have HO_244000 := n0_
                          have HO_244001 := n1_
                          have HO_244002 := n2_
                          have HO_244003 := n3_
                          have HO_244004 := n4_
                          have HO_253002 := n5_
                          have HO_253003 := n6_
                          have HO_270001 := n7_
                          have HO_270002 := n8_
                          have HO_270003 := n9_
                          have HO_270004 := n10_
                          have HO272 := n11_
                          have HL274_0 := n12_
                          have BK225 := n13_
                          have BK226 := n14_
                          have BK243 := n15_
                          have BK252 := n16_
                          have BK269 := n17_
                          have HR274_0 := n18_
                          have HB := n19_
                          clear n0_ n1_ n2_ n3_ n4_ n5_ n6_ n7_ n8_ n9_ n10_ n11_ n12_ n13_ n14_ n15_ n16_ n17_ n18_ n19_
                          (try clear hb)
                          (try clear hb2)
                          (try clear hk)
                          (try clear hi)
                          refine hK.out _ _ ⟨(blk_cell BK243.out 0).trans rfl, (blk_cell BK243.out 1).trans rfl, (blk_cell BK243.out 2).trans rfl, (blk_cell BK243.out 3).trans rfl, (blk_cell BK243.out 4).trans rfl, (blk_cell BK269.out 0).trans rfl, (blk_cell BK269.out 1).trans rfl, (blk_cell BK269.out 2).trans rfl, (blk_cell BK269.out 3).trans rfl, (blk_cell BK269.out 4).trans rfl, (blk_cell BK252.out 0).trans rfl, (blk_cell BK252.out 1).trans rfl, (blk_cell BK252.out 2).trans rfl, (blk_cell BK252.out 3).trans rfl, HS14_⟩ (fun hHeld => ?_)
                          clear hK K
                          refine norm_ (a' := ?_) ?_ ?_
                          rotate_left
                          · show Act.put _ (some 88) _ = _
                            simp only [Act.put, List.setIfInBounds_toArray, List.set_cons_zero, List.set_cons_succ, i64_w, i32_w]
                            rfl
                          refine pure_ (i := 9) (N := some 89) (v := ?_) (a' := ?_) #[true, true, true, true, true, true, true, true, true, true, false, false, false, false, false, false, false, false, false, false, false, false, false, false, false, false, false, false] rfl rfl (any_of HT_.out (by kernel_rfl)) (fun _ _ _ h => h) (Or.inl ⟨by rfl, ?_⟩) ?_ ?_
                          rotate_left
                          · intro w'
                            go_simp
                            with_reducible rfl
                          rotate_left
                          · simp only [Act.put, List.setIfInBounds_toArray, List.set_cons_zero, List.set_cons_succ, i64_w, i32_w]
                            rfl
                          refine pure_ (i := 10) (N := some 90) (v := ?_) (a' := ?_) #[true, true, true, true, true, true, true, true, true, true, true, false, false, false, false, false, false, false, false, false, false, false, false, false, false, false, false, false] rfl rfl (any_of HT_.out (by kernel_rfl)) (fun _ _ _ h => h) (Or.inl ⟨by rfl, ?_⟩) ?_ ?_
                          rotate_left
                          · intro w'
                            go_simp
                            with_reducible rfl
                          rotate_left
                          · simp only [Act.put, List.setIfInBounds_toArray, List.set_cons_zero, List.set_cons_succ, i64_w, i32_w]
                            rfl
                          refine pure_ (i := 11) (N := some 91) (v := undef) (a' := ?_) #[true, true, true, true, true, true, true, true, true, true, true, true, false, false, false, false, false, false, false, false, false, false, false, false, false, false, false, false] rfl rfl (any_of HT_.out (by kernel_rfl)) (fun _ _ _ h => h) (Or.inr ⟨by rfl, rfl⟩) ?_ ?_
                          rotate_left
                          · simp only [Act.put, List.setIfInBounds_toArray, List.set_cons_zero, List.set_cons_succ, i64_w, i32_w]
                            rfl
                          refine pure_ (i := 12) (N := some 92) (v := undef) (a' := ?_) #[true, true, true, true, true, true, true, true, true, true, true, true, true, false, false, false, false, false, false, false, false, false, false, false, false, false, false, false] rfl rfl (any_of HT_.out (by kernel_rfl)) (fun _ _ _ h => h) (Or.inr ⟨by rfl, rfl⟩) ?_ ?_
                          rotate_left
                          · simp only [Act.put, List.setIfInBounds_toArray, List.set_cons_zero, List.set_cons_succ, i64_w, i32_w]
                            rfl
                          refine pure_ (i := 13) (N := some 93) (v := undef) (a' := ?_) #[true, true, true, true, true, true, true, true, true, true, true, true, true, true, false, false, false, false, false, false, false, false, false, false, false, false, false, false] rfl rfl (any_of HT_.out (by kernel_rfl)) (fun _ _ _ h => h) (Or.inr ⟨by rfl, rfl⟩) ?_ ?_
                          rotate_left
                          · simp only [Act.put, List.setIfInBounds_toArray, List.set_cons_zero, List.set_cons_succ, i64_w, i32_w]
                            rfl
                          refine pure_ (i := 14) (N := some 94) (v := undef) (a' := ?_) #[true, true, true, true, true, true, true, true, true, true, true, true, true, true, true, false, false, false, false, false, false, false, false, false, false, false, false, false] rfl rfl (any_of HT_.out (by kernel_rfl)) (fun _ _ _ h => h) (Or.inr ⟨by rfl, rfl⟩) ?_ ?_
                          rotate_left
                          · simp only [Act.put, List.setIfInBounds_toArray, List.set_cons_zero, List.set_cons_succ, i64_w, i32_w]
                            rfl
                          refine pure_ (i := 15) (N := some 95) (v := undef) (a' := ?_) #[true, true, true, true, true, true, true, true, true, true, true, true, true, true, true, true, false, false, false, false, false, false, false, false, false, false, false, false] rfl rfl (any_of HT_.out (by kernel_rfl)) (fun _ _ _ h => h) (Or.inr ⟨by rfl, rfl⟩) ?_ ?_
                          rotate_left
                          · simp only [Act.put, List.setIfInBounds_toArray, List.set_cons_zero, List.set_cons_succ, i64_w, i32_w]
                            rfl
                          refine pure_ (i := 16) (N := some 96) (v := undef) (a' := ?_) #[true, true, true, true, true, true, true, true, true, true, true, true, true, true, true, true, true, false, false, false, false, false, false, false, false, false, false, false] rfl rfl (any_of HT_.out (by kernel_rfl)) (fun _ _ _ h => h) (Or.inr ⟨by rfl, rfl⟩) ?_ ?_
                          rotate_left
                          · simp only [Act.put, List.setIfInBounds_toArray, List.set_cons_zero, List.set_cons_succ, i64_w, i32_w]
                            rfl
                          refine pure_ (i := 17) (N := some 97) (v := undef) (a' := ?_) #[true, true, true, true, true, true, true, true, true, true, true, true, true, true, true, true, true, true, false, false, false, false, false, false, false, false, false, false] rfl rfl (any_of HT_.out (by kernel_rfl)) (fun _ _ _ h => h) (Or.inr ⟨by rfl, rfl⟩) ?_ ?_
                          rotate_left
                          · simp only [Act.put, List.setIfInBounds_toArray, List.set_cons_zero, List.set_cons_succ, i64_w, i32_w]
                            rfl
                          refine pure_ (i := 18) (N := some 98) (v := undef) (a' := ?_) #[true, true, true, true, true, true, true, true, true, true, true, true, true, true, true, true, true, true, true, false, false, false, false, false, false, false, false, false] rfl rfl (any_of HT_.out (by kernel_rfl)) (fun _ _ _ h => h) (Or.inr ⟨by rfl, rfl⟩) ?_ ?_
                          rotate_left
                          · simp only [Act.put, List.setIfInBounds_toArray, List.set_cons_zero, List.set_cons_succ, i64_w, i32_w]
                            rfl
                          refine pure_ (i := 19) (N := some 99) (v := undef) (a' := ?_) #[true, true, true, true, true, true, true, true, true, true, true, true, true, true, true, true, true, true, true, true, false, false, false, false, false, false, false, false] rfl rfl (any_of HT_.out (by kernel_rfl)) (fun _ _ _ h => h) (Or.inr ⟨by rfl, rfl⟩) ?_ ?_
                          rotate_left
                          · simp only [Act.put, List.setIfInBounds_toArray, List.set_cons_zero, List.set_cons_succ, i64_w, i32_w]
                            rfl
                          refine pure_ (i := 20) (N := some 100) (v := undef) (a' := ?_) #[true, true, true, true, true, true, true, true, true, true, true, true, true, true, true, true, true, true, true, true, true, false, false, false, false, false, false, false] rfl rfl (any_of HT_.out (by kernel_rfl)) (fun _ _ _ h => h) (Or.inr ⟨by rfl, rfl⟩) ?_ ?_
                          rotate_left
                          · simp only [Act.put, List.setIfInBounds_toArray, List.set_cons_zero, List.set_cons_succ, i64_w, i32_w]
                            rfl
                          refine pure_ (i := 21) (N := some 101) (v := undef) (a' := ?_) #[true, true, true, true, true, true, true, true, true, true, true, true, true, true, true, true, true, true, true, true, true, true, false, false, false, false, false, false] rfl rfl (any_of HT_.out (by kernel_rfl)) (fun _ _ _ h => h) (Or.inr ⟨by rfl, rfl⟩) ?_ ?_
                          rotate_left
                          · simp only [Act.put, List.setIfInBounds_toArray, List.set_cons_zero, List.set_cons_succ, i64_w, i32_w]
                            rfl
                          refine pure_ (i := 22) (N := some 102) (v := undef) (a' := ?_) #[true, true, true, true, true, true, true, true, true, true, true, true, true, true, true, true, true, true, true, true, true, true, true, false, false, false, false, false] rfl rfl (any_of HT_.out (by kernel_rfl)) (fun _ _ _ h => h) (Or.inr ⟨by rfl, rfl⟩) ?_ ?_
                          rotate_left
                          · simp only [Act.put, List.setIfInBounds_toArray, List.set_cons_zero, List.set_cons_succ, i64_w, i32_w]
                            rfl
                          refine pure_ (i := 23) (N := some 103) (v := undef) (a' := ?_) #[true, true, true, true, true, true, true, true, true, true, true, true, true, true, true, true, true, true, true, true, true, true, true, true, false, false, false, false] rfl rfl (any_of HT_.out (by kernel_rfl)) (fun _ _ _ h => h) (Or.inr ⟨by rfl, rfl⟩) ?_ ?_
                          rotate_left
                          · simp only [Act.put, List.setIfInBounds_toArray, List.set_cons_zero, List.set_cons_succ, i64_w, i32_w]
                            rfl
                          refine pure_ (i := 24) (N := some 104) (v := undef) (a' := ?_) #[true, true, true, true, true, true, true, true, true, true, true, true, true, true, true, true, true, true, true, true, true, true, true, true, true, false, false, false] rfl rfl (any_of HT_.out (by kernel_rfl)) (fun _ _ _ h => h) (Or.inr ⟨by rfl, rfl⟩) ?_ ?_
                          rotate_left
                          · simp only [Act.put, List.setIfInBounds_toArray, List.set_cons_zero, List.set_cons_succ, i64_w, i32_w]
                            rfl
                          refine pure_ (i := 25) (N := some 105) (v := undef) (a' := ?_) #[true, true, true, true, true, true, true, true, true, true, true, true, true, true, true, true, true, true, true, true, true, true, true, true, true, true, false, false] rfl rfl (any_of HT_.out (by kernel_rfl)) (fun _ _ _ h => h) (Or.inr ⟨by rfl, rfl⟩) ?_ ?_
                          rotate_left
                          · simp only [Act.put, List.setIfInBounds_toArray, List.set_cons_zero, List.set_cons_succ, i64_w, i32_w]
                            rfl
                          refine pure_ (i := 26) (N := some 106) (v := undef) (a' := ?_) #[true, true, true, true, true, true, true, true, true, true, true, true, true, true, true, true, true, true, true, true, true, true, true, true, true, true, true, false] rfl rfl (any_of HT_.out (by kernel_rfl)) (fun _ _ _ h => h) (Or.inr ⟨by rfl, rfl⟩) ?_ ?_
                          rotate_left
                          · simp only [Act.put, List.setIfInBounds_toArray, List.set_cons_zero, List.set_cons_succ, i64_w, i32_w]
                            rfl
                          refine pure_ (i := 27) (N := some 107) (v := ?_) (a' := ?_) #[true, true, true, true, true, true, true, true, true, true, true, true, true, true, true, true, true, true, true, true, true, true, true, true, true, true, true, true] rfl rfl (any_of HT_.out (by kernel_rfl)) (fun _ _ _ h => h) (Or.inl ⟨by rfl, ?_⟩) ?_ ?_
                          rotate_left
                          · intro w'
                            go_simp
                            with_reducible rfl
                          rotate_left
                          · simp only [Act.put, List.setIfInBounds_toArray, List.set_cons_zero, List.set_cons_succ, i64_w, i32_w]
                            rfl
                          refine done_ (done_of HT_.out (by kernel_rfl)) ?_
                          try go_wp2
                          go_meet
                          case rel => exact ⟨_, (true), rfl, H', ⟨by have := HJ7.out; have := HK2.out; have := HJ59.out; first | omega⟩, ⟨by exact HO_244000.out⟩, ⟨by exact HO_244001.out⟩, ⟨by exact HO_244002.out⟩, ⟨by exact HO_244003.out⟩, ⟨by exact HO_244004.out⟩, ⟨by exact Kd.S_mono HO_253002.out (fun _ hk => hk.1)⟩, ⟨by exact Kd.S_mono HO_253003.out (fun _ hk => hk.1)⟩, ⟨by exact HO_270001.out⟩, ⟨by exact HO_270002.out⟩, ⟨by exact HO_270003.out⟩, ⟨by exact HO_270004.out⟩, ⟨by exact BK225.out⟩, ⟨by exact BK226.out⟩, ⟨by exact BK243.out⟩, ⟨by exact BK252.out⟩, ⟨by exact BK269.out⟩, ⟨by exact HB.out⟩⟩
                      · rw [if_neg c86] at H
                        exact absurd H (by simp)
                    · rw [if_neg c85] at H
                      exact absurd H (by simp)
                  case rest =>
                    clear HC74
                    try clear c1
                    try clear c2
                    try clear p2
                    try clear q2
                    try clear hx2
                    try clear c8
                    try clear c24
                    try clear c27
                    try clear p27
                    try clear q27
                    try clear hx27
                    try clear c85
                    try clear c86
                    try clear c88
                    try clear c88b0
                    try clear c88b1
                    try clear hx274_0
                    try clear p274
                    try clear q274
                    obtain ⟨kq, x107_73, rfl, HA, HJ73, HO_244000, HO_244001, HO_244002, HO_244003, HO_244004, HO_253002, HO_253003, HO_270001, HO_270002, HO_270003, HO_270004, BK225, BK226, BK243, BK252, BK269, HB⟩ := hcut
                    cases kq with
                    | zero => exact absurd HA.out (by simp [proofmarklaw30_ReportClauses.j4])
                    | succ kj73 =>
                      have H := HA.out
                      clear HA
                      simp only [proofmarklaw30_ReportClauses.j4] at H
                      by_cases c101 : x107_73 = true
                      · subst c101
                        have H1 : (some false) = some r := by rw [if_pos rfl] at H; exact H
                        clear H
                        have H := H1
                        clear H1
                        obtain rfl := Option.some.inj H
                        go_wp2
                        go_ret
                        exact ⟨by first | rfl, by exact HB.out⟩
                      · replace c101 := Bool.eq_false_iff.mpr c101
                        subst c101
                        have H1 : ((proofmarklaw30_behind.f kj73 x11_2).bind fun bt278 => (if bt278.2 = true then (proofmarklaw30_ReportClauses.l0 kj73 t227 bt278.1 bt278.2 (wrap64 (x14_2 + 1)) t228 t231 t234 t237 t240 2 t245 t246 t249 t256 t257 t260 t263 t266) else (some false))) = some r := by rw [if_neg (show ¬ (false = true) by decide)] at H; exact H
                        clear H
                        have H := H1
                        clear H1
                        replace H := Option.bind_eq_some_iff.mp H
                        obtain ⟨⟨t278, t279⟩, A1020, H⟩ := H
                        replace H : (if t279 = true then (proofmarklaw30_ReportClauses.l0 kj73 t227 t278 t279 (wrap64 (x14_2 + 1)) t228 t231 t234 t237 t240 2 t245 t246 t249 t256 t257 t260 t263 t266) else (some false)) = some r := H
                        have A102 := Aside0.mk A1020
                        clear A1020
                        by_cases c103 : t279 = true
                        · subst c103
                          have H1 : (proofmarklaw30_ReportClauses.l0 kj73 t227 t278 true (wrap64 (x14_2 + 1)) t228 t231 t234 t237 t240 2 t245 t246 t249 t256 t257 t260 t263 t266) = some r := by rw [if_pos rfl] at H; exact H
                          clear H
                          have H := H1
                          clear H1
                          have H' := Aside0.mk H
                          clear H
                          go_wp2_with (first | ((with_reducible refine gate_callee (f := 21) rfl ?_); refine goesL_ (some 110) rfl rfl Tryd.func21 (by kernel_rfl) rfl #[.string x11_2] rfl (by (try simp only [List.map_toArray, List.map_cons, List.map_nil]); first | rfl) ?_; (with_reducible refine (proofmarklaw30_behind.calls kj73 x11_2 t278 true _ A102.out).mono ?_); rintro e w' ⟨rfl, ⟨nd, rfl⟩⟩; refine ⟨_, rfl, ?_⟩))
                          go_roundg kj73
                          case measure => have := HJ7.out; have := HK2.out; have := HJ59.out; have := HJ73.out; omega
                          case rel => exact ⟨(t278), (true), (wrap64 (x14_2 + 1)), rfl, rfl, rfl, H', ⟨by have := HJ7.out; have := HK2.out; have := HJ59.out; have := HJ73.out; omega⟩, ⟨by (with_reducible repeat (first | apply Kd.R_drewN)); exact HO_244000.out⟩, ⟨by (with_reducible repeat (first | apply Kd.R_drewN)); exact HO_244001.out⟩, ⟨by (with_reducible repeat (first | apply Kd.R_drewN)); exact HO_244002.out⟩, ⟨by (with_reducible repeat (first | apply Kd.R_drewN)); exact HO_244003.out⟩, ⟨by (with_reducible repeat (first | apply Kd.R_drewN)); exact HO_244004.out⟩, ⟨by (with_reducible repeat (first | apply Kd.S_drewN)); exact HO_253002.out⟩, ⟨by (with_reducible repeat (first | apply Kd.S_drewN)); exact HO_253003.out⟩, ⟨by (with_reducible repeat (first | apply Kd.R_drewN)); exact HO_270001.out⟩, ⟨by (with_reducible repeat (first | apply Kd.R_drewN)); exact HO_270002.out⟩, ⟨by (with_reducible repeat (first | apply Kd.R_drewN)); exact HO_270003.out⟩, ⟨by (with_reducible repeat (first | apply Kd.R_drewN)); exact HO_270004.out⟩, ⟨by (with_reducible repeat (first | refine blk_drewN ?_ _)); exact BK225.out⟩, ⟨by (with_reducible repeat (first | refine blk_drewN ?_ _)); exact BK226.out⟩, ⟨by (with_reducible repeat (first | refine blk_drewN ?_ _)); exact BK243.out⟩, ⟨by (with_reducible repeat (first | refine blk_drewN ?_ _)); exact BK252.out⟩, ⟨by (with_reducible repeat (first | refine blk_drewN ?_ _)); exact BK269.out⟩, ⟨by repeat (first | (with_reducible first | exact HB.out | apply pw_below_drewN))⟩⟩
                        · replace c103 := Bool.eq_false_iff.mpr c103
                          subst c103
                          have H1 : (some false) = some r := by rw [if_neg (show ¬ (false = true) by decide)] at H; exact H
                          clear H
                          have H := H1
                          clear H1
                          obtain rfl := Option.some.inj H
                          go_wp2_with (first | ((with_reducible refine gate_callee (f := 21) rfl ?_); refine goesL_ (some 110) rfl rfl Tryd.func21 (by kernel_rfl) rfl #[.string x11_2] rfl (by (try simp only [List.map_toArray, List.map_cons, List.map_nil]); first | rfl) ?_; (with_reducible refine (proofmarklaw30_behind.calls kj73 x11_2 t278 false _ A102.out).mono ?_); rintro e w' ⟨rfl, ⟨nd, rfl⟩⟩; refine ⟨_, rfl, ?_⟩))
                          go_ret
                          exact ⟨by first | rfl, by repeat (first | (with_reducible first | exact HB.out | apply pw_below_drewN))⟩
            · rw [if_neg c59] at H
              have c59b0 : decide (x14_2 < (t249.length : Int)) = false := decide_eq_false c59
              clear c59
              by_cases c104 : t227 = true
              · subst c104
                have H1 : (if x12_2 = true then (some (x11_2.toList == ([] : List UInt8))) else (some false)) = some r := by rw [if_pos rfl] at H; exact H
                clear H
                have H := H1
                clear H1
                by_cases c105 : x12_2 = true
                · subst c105
                  have H1 : (some (x11_2.toList == ([] : List UInt8))) = some r := by rw [if_pos rfl] at H; exact H
                  clear H
                  have H := H1
                  clear H1
                  obtain rfl := Option.some.inj H
                  have hnb106 := NB252_225.out
                  have hnc106 := NB225_252.out
                  have hnb107 := NB252_226.out
                  have hnc107 := NB226_252.out
                  have hnb108 := NB252_243.out
                  have hnc108 := NB243_252.out
                  have hnb109 := NB252_269.out
                  have hnc109 := NB269_252.out
                  have hcz110_0 : wr.cell? ⟨gb252, 0, none⟩ = some (.int .i64 2) := (blk_cell BK252.out 0).trans rfl
                  have hcz110_1 : wr.cell? ⟨gb252, 1, none⟩ = some (.int .i64 t245) := (blk_cell BK252.out 1).trans rfl
                  have hcz110_2 : wr.cell? ⟨gb252, 2, none⟩ = some (.slice Ao31 t246.length co31) := (blk_cell BK252.out 2).trans rfl
                  have hcz110_3 : wr.cell? ⟨gb252, 3, none⟩ = some (.slice Ao32 t249.length co32) := (blk_cell BK252.out 3).trans rfl
                  have hfz110_0 := blk_frozen BK252.out 0
                  have hfz110_1 := blk_frozen BK252.out 1
                  have hfz110_2 := blk_frozen BK252.out 2
                  have hfz110_3 := blk_frozen BK252.out 3
                  go_wp2
                  go_ret
                  exact ⟨by first | rfl, by exact HB.out⟩
                · replace c105 := Bool.eq_false_iff.mpr c105
                  subst c105
                  have H1 : (some false) = some r := by rw [if_neg (show ¬ (false = true) by decide)] at H; exact H
                  clear H
                  have H := H1
                  clear H1
                  obtain rfl := Option.some.inj H
                  have hnb111 := NB252_225.out
                  have hnc111 := NB225_252.out
                  have hnb112 := NB252_226.out
                  have hnc112 := NB226_252.out
                  have hnb113 := NB252_243.out
                  have hnc113 := NB243_252.out
                  have hnb114 := NB252_269.out
                  have hnc114 := NB269_252.out
                  have hcz115_0 : wr.cell? ⟨gb252, 0, none⟩ = some (.int .i64 2) := (blk_cell BK252.out 0).trans rfl
                  have hcz115_1 : wr.cell? ⟨gb252, 1, none⟩ = some (.int .i64 t245) := (blk_cell BK252.out 1).trans rfl
                  have hcz115_2 : wr.cell? ⟨gb252, 2, none⟩ = some (.slice Ao31 t246.length co31) := (blk_cell BK252.out 2).trans rfl
                  have hcz115_3 : wr.cell? ⟨gb252, 3, none⟩ = some (.slice Ao32 t249.length co32) := (blk_cell BK252.out 3).trans rfl
                  have hfz115_0 := blk_frozen BK252.out 0
                  have hfz115_1 := blk_frozen BK252.out 1
                  have hfz115_2 := blk_frozen BK252.out 2
                  have hfz115_3 := blk_frozen BK252.out 3
                  go_wp2
                  go_ret
                  exact ⟨by first | rfl, by exact HB.out⟩
              · replace c104 := Bool.eq_false_iff.mpr c104
                subst c104
                have H1 : (some false) = some r := by rw [if_neg (show ¬ (false = true) by decide)] at H; exact H
                clear H
                have H := H1
                clear H1
                obtain rfl := Option.some.inj H
                have hnb116 := NB252_225.out
                have hnc116 := NB225_252.out
                have hnb117 := NB252_226.out
                have hnc117 := NB226_252.out
                have hnb118 := NB252_243.out
                have hnc118 := NB243_252.out
                have hnb119 := NB252_269.out
                have hnc119 := NB269_252.out
                have hcz120_0 : wr.cell? ⟨gb252, 0, none⟩ = some (.int .i64 2) := (blk_cell BK252.out 0).trans rfl
                have hcz120_1 : wr.cell? ⟨gb252, 1, none⟩ = some (.int .i64 t245) := (blk_cell BK252.out 1).trans rfl
                have hcz120_2 : wr.cell? ⟨gb252, 2, none⟩ = some (.slice Ao31 t246.length co31) := (blk_cell BK252.out 2).trans rfl
                have hcz120_3 : wr.cell? ⟨gb252, 3, none⟩ = some (.slice Ao32 t249.length co32) := (blk_cell BK252.out 3).trans rfl
                have hfz120_0 := blk_frozen BK252.out 0
                have hfz120_1 := blk_frozen BK252.out 1
                have hfz120_2 := blk_frozen BK252.out 2
                have hfz120_3 := blk_frozen BK252.out 3
                go_wp2
                go_ret
                exact ⟨by first | rfl, by exact HB.out⟩


end Go.Proofs.YtmfekngjhiofaaaDoor.Q
