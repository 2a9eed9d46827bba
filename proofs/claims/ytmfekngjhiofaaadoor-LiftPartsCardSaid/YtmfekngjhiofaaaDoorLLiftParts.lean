-- Written by the session's own programs (wip/tools/ownprint.py, prune.py) for this claim: one function of the translation, the ways on which it answers true.
import Derived.Test.YtmfekngjhiofaaaDoorQx0
import Derived.Test.YtmfekngjhiofaaaDoorHHeadL
import Derived.Test.YtmfekngjhiofaaaDoorQx27
import Derived.Test.YtmfekngjhiofaaaDoorQx28
import Derived.Test.YtmfekngjhiofaaaDoorHBack
import Derived.Test.YtmfekngjhiofaaaDoorHLits
import Derived.Test.YtmfekngjhiofaaaDoorHTab
namespace Go.Proofs.YtmfekngjhiofaaaDoor.Q
open Go.RowKit Go.Proofs.YtmfekngjhiofaaaDoorW.PrintWords Go.Proofs.YtmfekngjhiofaaaDoorW.PrintLast Go.Proofs.YtmfekngjhiofaaaDoorW.PrintMore
attribute [local go_sem] max2_int min2_int max_two min_two max_three min_three max_four min_four   -- for this text's walks alone
set_option linter.unusedVariables false
set_option linter.unusedSimpArgs false

/-! ### proofmarklaw27_LiftParts: function 12 -/
theorem calls_len3 {P : Program} {g : FuncId} {a b : Value} {A : Option Addr} {c n m : Nat} {w : World} {post : Ending → World → Prop} (h : n = m) (hc : Calls P g #[a, b, .slice A n c] w post) : Calls P g #[a, b, .slice A m c] w post := h ▸ hc
mutual
def proofmarklaw27_LiftParts.l0 : Nat → Bool → List Int → ByteArray → Int → List (S96) → List (S111) → List (S94) → List (S73) → List (S111) → Int → List (S201) → List (S202) → List (S98) → List (S204) → Option (Bool)
  | 0, _, _, _, _, _, _, _, _, _, _, _, _, _, _ => none
  | k + 1, x3, x6, x7, x8, x204000, x204001, x204002, x204003, x204004, x205000, x205001, x205002, x205003, x205004 => if x8 < (x6.length : Int) then (if 0 ≤ x8 then (if x8 ≤ (wrap64 (x8 + 1)) then (if (wrap64 (x8 + 1)) ≤ (x6.length : Int) then ((lift_Clause.f x204000 x204001 x204002 x204003 x204004 x205000 x205001 x205002 x205003 x205004 ((x6.take ((wrap64 (x8 + 1)) : Int).toNat).drop (x8 : Int).toNat)).bind fun t208 => ((lift_Clause.f x204000 x204001 x204002 x204003 x204004 x205000 x205001 x205002 x205003 x205004 (([wrap64 (-(rd x6 x8))] : List Int))).bind fun t213 => (if ((t208.toList == ([] : List UInt8)) != (t213.toList == ([] : List UInt8))) = true then (proofmarklaw27_LiftParts.j1 k x3 x6 x7 x8 t208 true x204000 x204001 x204002 x204003 x204004 x205000 x205001 x205002 x205003 x205004) else (if t208.toList = ([] : List UInt8) then (proofmarklaw27_LiftParts.j1 k x3 x6 x7 x8 t208 false x204000 x204001 x204002 x204003 x204004 x205000 x205001 x205002 x205003 x205004) else (if (rd x6 x8) > 0 then (if 1 + t208.size ≤ 9223372036854775807 then (proofmarklaw27_LiftParts.j1 k x3 x6 x7 x8 t208 (t213.toList != ((⟨#[126]⟩ : ByteArray) ++ t208).toList) x204000 x204001 x204002 x204003 x204004 x205000 x205001 x205002 x205003 x205004) else (none)) else (proofmarklaw27_LiftParts.j1 k x3 x6 x7 x8 t208 false x204000 x204001 x204002 x204003 x204004 x205000 x205001 x205002 x205003 x205004)))))) else (none)) else (none)) else (none)) else (if x3 = true then (if (x6.length : Int) = 0 then (some true) else ((lift_Clause.f x204000 x204001 x204002 x204003 x204004 x205000 x205001 x205002 x205003 x205004 x6).bind fun t206 => (some (t206.toList == x7.toList)))) else (some false))
def proofmarklaw27_LiftParts.j1 : Nat → Bool → List Int → ByteArray → Int → ByteArray → Bool → List (S96) → List (S111) → List (S94) → List (S73) → List (S111) → Int → List (S201) → List (S202) → List (S98) → List (S204) → Option (Bool)
  | 0, _, _, _, _, _, _, _, _, _, _, _, _, _, _, _, _ => none
  | k + 1, x3, x6, x7, x8, x9, x68, x204000, x204001, x204002, x204003, x204004, x205000, x205001, x205002, x205003, x205004 => if x68 = true then (some false) else (if x9.toList = ([] : List UInt8) then (if x3 = true then ((lift_Clause.f x204000 x204001 x204002 x204003 x204004 x205000 x205001 x205002 x205003 x205004 x6).bind fun t215 => (some (t215.toList == ([] : List UInt8)))) else (some false)) else (if x8 > 0 then (if x7.size + 3 ≤ 9223372036854775807 then (if (x7 ++ (⟨#[32, 124, 32]⟩ : ByteArray)).size + x9.size ≤ 9223372036854775807 then (proofmarklaw27_LiftParts.l0 k x3 x6 ((x7 ++ (⟨#[32, 124, 32]⟩ : ByteArray)) ++ x9) (wrap64 (x8 + 1)) x204000 x204001 x204002 x204003 x204004 x205000 x205001 x205002 x205003 x205004) else (none)) else (none)) else (if x7.size + x9.size ≤ 9223372036854775807 then (proofmarklaw27_LiftParts.l0 k x3 x6 (x7 ++ x9) (wrap64 (x8 + 1)) x204000 x204001 x204002 x204003 x204004 x205000 x205001 x205002 x205003 x205004) else (none))))
end
def proofmarklaw27_LiftParts.f (k : Nat) (l0_0 : List (S96)) (l0_1 : List (S111)) (l0_2 : List (S94)) (l0_3 : List (S73)) (l0_4 : List (S111)) (a0_5 : Int) (l0_6 : List (S201)) (l0_7 : List (S202)) (l0_8 : List (S98)) (l0_9 : List (S204)) (l0_10 : List (List Int)) (l0_11 : List Int) (a0_12 : ByteArray) : Option (Bool) := (proofmarklaw27_head.f k).bind fun t174 => ((proofmarklaw27_fit.f k l0_0 l0_1 l0_2 l0_3 l0_4 a0_5 l0_6 l0_7 l0_8 l0_9 l0_10 l0_11 a0_12).bind fun bt175 => (if 0 ≤ (mn (l0_11.length : Int) 30) then (if (mn (l0_11.length : Int) 30) ≤ (l0_11.length : Int) then (proofmarklaw27_LiftParts.l0 k t174 (l0_11.take ((mn (l0_11.length : Int) 30) : Int).toNat) (⟨#[]⟩ : ByteArray) 0 bt175.1 bt175.2.1 bt175.2.2.1 bt175.2.2.2.1 bt175.2.2.2.2.1 bt175.2.2.2.2.2.1 bt175.2.2.2.2.2.2.1 bt175.2.2.2.2.2.2.2.1 bt175.2.2.2.2.2.2.2.2.1 bt175.2.2.2.2.2.2.2.2.2) else (none)) else (none)))
theorem proofmarklaw27_LiftParts.mono_l : ∀ k, (∀ y0 y1 y2 y3 y4 y5 y6 y7 y8 y9 y10 y11 y12 y13, LeO (proofmarklaw27_LiftParts.l0 k y0 y1 y2 y3 y4 y5 y6 y7 y8 y9 y10 y11 y12 y13) (proofmarklaw27_LiftParts.l0 (k + 1) y0 y1 y2 y3 y4 y5 y6 y7 y8 y9 y10 y11 y12 y13)) ∧ (∀ y0 y1 y2 y3 y4 y5 y6 y7 y8 y9 y10 y11 y12 y13 y14 y15, LeO (proofmarklaw27_LiftParts.j1 k y0 y1 y2 y3 y4 y5 y6 y7 y8 y9 y10 y11 y12 y13 y14 y15) (proofmarklaw27_LiftParts.j1 (k + 1) y0 y1 y2 y3 y4 y5 y6 y7 y8 y9 y10 y11 y12 y13 y14 y15))
  | 0 => ⟨fun _ _ _ _ _ _ _ _ _ _ _ _ _ _ r h => by simp [proofmarklaw27_LiftParts.l0] at h, fun _ _ _ _ _ _ _ _ _ _ _ _ _ _ _ _ r h => by simp [proofmarklaw27_LiftParts.j1] at h⟩
  | k + 1 => by
    obtain ⟨ih0, ih1⟩ := proofmarklaw27_LiftParts.mono_l k
    refine ⟨?_, ?_⟩
    · intro y0 y1 y2 y3 y4 y5 y6 y7 y8 y9 y10 y11 y12 y13
      unfold proofmarklaw27_LiftParts.l0
      repeat' first
      | (with_reducible exact ih0 _ _ _ _ _ _ _ _ _ _ _ _ _ _)
      | (with_reducible exact ih1 _ _ _ _ _ _ _ _ _ _ _ _ _ _ _ _)
      | (with_reducible exact proofmarklaw27_fit.mono _ _ _ _ _ _ _ _ _ _ _ _ _ _)
      | (with_reducible exact proofmarklaw27_head.mono _)
      | (with_reducible exact LeO.refl _)
      | (with_reducible exact LeO.none _)
      | (with_reducible refine LeO.ite ?_ ?_)
      | (with_reducible refine LeO.bind ?_ (fun _ => ?_))
      | exact ih0 _ _ _ _ _ _ _ _ _ _ _ _ _ _
      | exact ih1 _ _ _ _ _ _ _ _ _ _ _ _ _ _ _ _
      | exact proofmarklaw27_fit.mono _ _ _ _ _ _ _ _ _ _ _ _ _ _
      | exact proofmarklaw27_head.mono _
      | exact LeO.none _
      | refine LeO.ite ?_ ?_
      | refine LeO.bind ?_ (fun _ => ?_)
    · intro y0 y1 y2 y3 y4 y5 y6 y7 y8 y9 y10 y11 y12 y13 y14 y15
      unfold proofmarklaw27_LiftParts.j1
      repeat' first
      | (with_reducible exact ih0 _ _ _ _ _ _ _ _ _ _ _ _ _ _)
      | (with_reducible exact ih1 _ _ _ _ _ _ _ _ _ _ _ _ _ _ _ _)
      | (with_reducible exact proofmarklaw27_fit.mono _ _ _ _ _ _ _ _ _ _ _ _ _ _)
      | (with_reducible exact proofmarklaw27_head.mono _)
      | (with_reducible exact LeO.refl _)
      | (with_reducible exact LeO.none _)
      | (with_reducible refine LeO.ite ?_ ?_)
      | (with_reducible refine LeO.bind ?_ (fun _ => ?_))
      | exact ih0 _ _ _ _ _ _ _ _ _ _ _ _ _ _
      | exact ih1 _ _ _ _ _ _ _ _ _ _ _ _ _ _ _ _
      | exact proofmarklaw27_fit.mono _ _ _ _ _ _ _ _ _ _ _ _ _ _
      | exact proofmarklaw27_head.mono _
      | exact LeO.none _
      | refine LeO.ite ?_ ?_
      | refine LeO.bind ?_ (fun _ => ?_)
theorem proofmarklaw27_LiftParts.mono : ∀ a0 a1 a2 a3 a4 a5 a6 a7 a8 a9 a10 a11 a12 k, LeO (proofmarklaw27_LiftParts.f k a0 a1 a2 a3 a4 a5 a6 a7 a8 a9 a10 a11 a12) (proofmarklaw27_LiftParts.f (k + 1) a0 a1 a2 a3 a4 a5 a6 a7 a8 a9 a10 a11 a12) := by
  intro a0 a1 a2 a3 a4 a5 a6 a7 a8 a9 a10 a11 a12 k
  obtain ⟨ih0, ih1⟩ := proofmarklaw27_LiftParts.mono_l k
  unfold proofmarklaw27_LiftParts.f
  repeat' first
      | (with_reducible exact ih0 _ _ _ _ _ _ _ _ _ _ _ _ _ _)
      | (with_reducible exact ih1 _ _ _ _ _ _ _ _ _ _ _ _ _ _ _ _)
      | (with_reducible exact proofmarklaw27_fit.mono _ _ _ _ _ _ _ _ _ _ _ _ _ _)
      | (with_reducible exact proofmarklaw27_head.mono _)
      | (with_reducible exact LeO.refl _)
      | (with_reducible exact LeO.none _)
      | (with_reducible refine LeO.ite ?_ ?_)
      | (with_reducible refine LeO.bind ?_ (fun _ => ?_))
      | exact ih0 _ _ _ _ _ _ _ _ _ _ _ _ _ _
      | exact ih1 _ _ _ _ _ _ _ _ _ _ _ _ _ _ _ _
      | exact proofmarklaw27_fit.mono _ _ _ _ _ _ _ _ _ _ _ _ _ _
      | exact proofmarklaw27_head.mono _
      | exact LeO.none _
      | refine LeO.ite ?_ ?_
      | refine LeO.bind ?_ (fun _ => ?_)
def proofmarklaw27_LiftParts.T8 : Bool × List (List Nat × List Nat) := (true, [([], []), ([], []), ([], []), ([], []), ([], []), ([4], [4]), ([2, 3, 5], [2, 3, 5]), ([0, 1, 6], [0, 1, 6]), ([7, 7, 0, 1, 2, 3, 4, 5, 6, 7], [7])])
def proofmarklaw27_LiftParts.B8 : List Nat := [0, 0, 0, 0, 0, 16, 60, 127, 255]
theorem proofmarklaw27_LiftParts.tab8 : rtab .any (opsOf Tryd.f12 8) = proofmarklaw27_LiftParts.T8 := by kernel_rfl
theorem proofmarklaw27_LiftParts.bits8 : waitsOk proofmarklaw27_LiftParts.T8.2 proofmarklaw27_LiftParts.B8 = true := by kernel_rfl
def proofmarklaw27_LiftParts.T9 : Bool × List (List Nat × List Nat) := (true, [([], []), ([], []), ([], []), ([], []), ([2, 3], [2, 3]), ([4], [4]), ([5], [5]), ([6], [6]), ([0, 1, 7], [0, 1, 7]), ([8, 8, 0, 1, 2, 3, 4, 5, 6, 7, 8], [8])])
def proofmarklaw27_LiftParts.B9 : List Nat := [0, 0, 0, 0, 12, 28, 60, 124, 255, 511]
theorem proofmarklaw27_LiftParts.tab9 : rtab .any (opsOf Tryd.f12 9) = proofmarklaw27_LiftParts.T9 := by kernel_rfl
theorem proofmarklaw27_LiftParts.bits9 : waitsOk proofmarklaw27_LiftParts.T9.2 proofmarklaw27_LiftParts.B9 = true := by kernel_rfl
set_option maxHeartbeats 8000000 in
set_option maxRecDepth 100000 in
theorem proofmarklaw27_LiftParts.calls1 (k : Nat) (A0_0 : Option Addr) (c0_0 : Nat) (l0_0 : List (S96)) (A0_1 : Option Addr) (c0_1 : Nat) (l0_1 : List (S111)) (A0_2 : Option Addr) (c0_2 : Nat) (l0_2 : List (S94)) (A0_3 : Option Addr) (c0_3 : Nat) (l0_3 : List (S73)) (A0_4 : Option Addr) (c0_4 : Nat) (l0_4 : List (S111)) (a0_5 : Int) (A0_6 : Option Addr) (c0_6 : Nat) (l0_6 : List (S201)) (A0_7 : Option Addr) (c0_7 : Nat) (l0_7 : List (S202)) (A0_8 : Option Addr) (c0_8 : Nat) (l0_8 : List (S98)) (A0_9 : Option Addr) (c0_9 : Nat) (l0_9 : List (S204)) (A0_10 : Option Addr) (c0_10 : Nat) (l0_10 : List (List Int)) (A0_11 : Option Addr) (c0_11 : Nat) (l0_11 : List Int) (a0_12 : ByteArray) (r : Bool) (w : World) (hG : Tab w) (hr0_0 : Kd.C k96 w A0_0 l0_0.length l0_0) (hc0_0 : l0_0.length ≤ c0_0) (hr0_1 : Kd.C k111 w A0_1 l0_1.length l0_1) (hc0_1 : l0_1.length ≤ c0_1) (hr0_2 : Kd.C k94 w A0_2 l0_2.length l0_2) (hc0_2 : l0_2.length ≤ c0_2) (hr0_3 : Kd.C k73 w A0_3 l0_3.length l0_3) (hc0_3 : l0_3.length ≤ c0_3) (hr0_4 : Kd.C k111 w A0_4 l0_4.length l0_4) (hc0_4 : l0_4.length ≤ c0_4) (hr0_6 : Kd.C k201 w A0_6 l0_6.length l0_6) (hc0_6 : l0_6.length ≤ c0_6) (hr0_7 : Kd.C k202 w A0_7 l0_7.length l0_7) (hc0_7 : l0_7.length ≤ c0_7) (hr0_8 : Kd.C k98 w A0_8 l0_8.length l0_8) (hc0_8 : l0_8.length ≤ c0_8) (hr0_9 : Kd.C k204 w A0_9 l0_9.length l0_9) (hc0_9 : l0_9.length ≤ c0_9) (hr0_10 : Kd.C (Kd.slice 3 (Kd.int .i64)) w A0_10 l0_10.length l0_10) (hc0_10 : l0_10.length ≤ c0_10) (hr0_11 : Kd.C (Kd.int .i64) w A0_11 l0_11.length l0_11) (hc0_11 : l0_11.length ≤ c0_11) (h : proofmarklaw27_LiftParts.f k l0_0 l0_1 l0_2 l0_3 l0_4 a0_5 l0_6 l0_7 l0_8 l0_9 l0_10 l0_11 a0_12 = some r) (hr : r = true) :
    Calls Tryd.prog 12 #[.agg #[.slice A0_0 l0_0.length c0_0, .slice A0_1 l0_1.length c0_1, .slice A0_2 l0_2.length c0_2, .slice A0_3 l0_3.length c0_3, .slice A0_4 l0_4.length c0_4, .int .i64 a0_5, .slice A0_6 l0_6.length c0_6, .slice A0_7 l0_7.length c0_7, .slice A0_8 l0_8.length c0_8, .slice A0_9 l0_9.length c0_9, .slice A0_10 l0_10.length c0_10, .slice A0_11 l0_11.length c0_11, .string a0_12]] w fun e w' => e = .returned (.bool r) ∧ Below w.heap.size w w' := by
  have HRT := Aside0.mk hr
  clear hr
  have HG := Aside0.mk hG
  clear hG
  have hu61 := Tryd.underlying61
  have hu27 := Tryd.underlying27
  have hu53 := Tryd.underlying53
  have HR0_0 := Aside0.mk hr0_0
  have HC0_0 := Aside0.mk hc0_0
  clear hr0_0 hc0_0
  have HR0_1 := Aside0.mk hr0_1
  have HC0_1 := Aside0.mk hc0_1
  clear hr0_1 hc0_1
  have HR0_2 := Aside0.mk hr0_2
  have HC0_2 := Aside0.mk hc0_2
  clear hr0_2 hc0_2
  have HR0_3 := Aside0.mk hr0_3
  have HC0_3 := Aside0.mk hc0_3
  clear hr0_3 hc0_3
  have HR0_4 := Aside0.mk hr0_4
  have HC0_4 := Aside0.mk hc0_4
  clear hr0_4 hc0_4
  have HR0_6 := Aside0.mk hr0_6
  have HC0_6 := Aside0.mk hc0_6
  clear hr0_6 hc0_6
  have HR0_7 := Aside0.mk hr0_7
  have HC0_7 := Aside0.mk hc0_7
  clear hr0_7 hc0_7
  have HR0_8 := Aside0.mk hr0_8
  have HC0_8 := Aside0.mk hc0_8
  clear hr0_8 hc0_8
  have HR0_9 := Aside0.mk hr0_9
  have HC0_9 := Aside0.mk hc0_9
  clear hr0_9 hc0_9
  have HR0_10 := Aside0.mk hr0_10
  have HC0_10 := Aside0.mk hc0_10
  clear hr0_10 hc0_10
  have HR0_11 := Aside0.mk hr0_11
  have HC0_11 := Aside0.mk hc0_11
  clear hr0_11 hc0_11
  have HB := Aside0.mk (Below.refl w.heap.size w)
  have H : ((proofmarklaw27_head.f k).bind fun t174 => ((proofmarklaw27_fit.f k l0_0 l0_1 l0_2 l0_3 l0_4 a0_5 l0_6 l0_7 l0_8 l0_9 l0_10 l0_11 a0_12).bind fun bt175 => (if 0 ≤ (mn (l0_11.length : Int) 30) then (if (mn (l0_11.length : Int) 30) ≤ (l0_11.length : Int) then (proofmarklaw27_LiftParts.l0 k t174 (l0_11.take ((mn (l0_11.length : Int) 30) : Int).toNat) (⟨#[]⟩ : ByteArray) 0 bt175.1 bt175.2.1 bt175.2.2.1 bt175.2.2.2.1 bt175.2.2.2.2.1 bt175.2.2.2.2.2.1 bt175.2.2.2.2.2.2.1 bt175.2.2.2.2.2.2.2.1 bt175.2.2.2.2.2.2.2.2.1 bt175.2.2.2.2.2.2.2.2.2) else (none)) else (none)))) = some r := h
  clear h
  replace H := Option.bind_eq_some_iff.mp H
  obtain ⟨t174, A20, H⟩ := H
  replace H : ((proofmarklaw27_fit.f k l0_0 l0_1 l0_2 l0_3 l0_4 a0_5 l0_6 l0_7 l0_8 l0_9 l0_10 l0_11 a0_12).bind fun bt175 => (if 0 ≤ (mn (l0_11.length : Int) 30) then (if (mn (l0_11.length : Int) 30) ≤ (l0_11.length : Int) then (proofmarklaw27_LiftParts.l0 k t174 (l0_11.take ((mn (l0_11.length : Int) 30) : Int).toNat) (⟨#[]⟩ : ByteArray) 0 bt175.1 bt175.2.1 bt175.2.2.1 bt175.2.2.2.1 bt175.2.2.2.2.1 bt175.2.2.2.2.2.1 bt175.2.2.2.2.2.2.1 bt175.2.2.2.2.2.2.2.1 bt175.2.2.2.2.2.2.2.2.1 bt175.2.2.2.2.2.2.2.2.2) else (none)) else (none))) = some r := H
  have A2 := Aside0.mk A20
  clear A20
  replace H := Option.bind_eq_some_iff.mp H
  obtain ⟨⟨t175, t178, t181, t184, t187, t190, t191, t194, t197, t200⟩, A30, H⟩ := H
  replace H : (if 0 ≤ (mn (l0_11.length : Int) 30) then (if (mn (l0_11.length : Int) 30) ≤ (l0_11.length : Int) then (proofmarklaw27_LiftParts.l0 k t174 (l0_11.take ((mn (l0_11.length : Int) 30) : Int).toNat) (⟨#[]⟩ : ByteArray) 0 t175 t178 t181 t184 t187 t190 t191 t194 t197 t200) else (none)) else (none)) = some r := H
  have A3 := Aside0.mk A30
  clear A30
  obtain ⟨ji4, hji4⟩ : ∃ j_ : Int, (mn (l0_11.length : Int) 30) = j_ := ⟨_, rfl⟩
  replace H : (if 0 ≤ (ji4) then (if (ji4) ≤ (l0_11.length : Int) then (proofmarklaw27_LiftParts.l0 k t174 (l0_11.take ((ji4) : Int).toNat) (⟨#[]⟩ : ByteArray) 0 t175 t178 t181 t184 t187 t190 t191 t194 t197 t200) else (none)) else (none)) = some r := by first | (rw [hji4] at H; exact H) | (simp only [hji4] at H ⊢; exact H)
  (try rw [hji4] at A2)
  (try rw [hji4] at A3)
  (try (have hji4h : ji4 ≤ 30 := by (rw [← hji4]; unfold mn; (repeat' split) <;> omega)))
  (try (have hji4g : ji4 ≤ 64 := by omega))
  (try (have hji4l : 0 ≤ ji4 := by (rw [← hji4]; unfold mn; (repeat' split) <;> omega)))
  (try (have hji4m : 0 ≤ ji4 := by omega))
  have hji4_ : (if 30 < (l0_11.length : Int) then 30 else (l0_11.length : Int)) = ji4 := hji4
  by_cases c5 : 0 ≤ (ji4)
  · rw [if_pos c5] at H
    have c5b0 := eq_true c5
    have c5b1 : decide (0 ≤ (ji4)) = true := decide_eq_true c5
    clear c5
    by_cases c6 : (ji4) ≤ (l0_11.length : Int)
    · rw [if_pos c6] at H
      have c6b0 := eq_true c6
      have c6b1 : decide ((ji4) ≤ (l0_11.length : Int)) = true := decide_eq_true c6
      have HLJ := Aside0.mk (show (l0_11.take ((ji4) : Int).toNat).length = ((ji4) : Int).toNat from by rw [List.length_take]; omega)
      have HLM := Aside0.mk (show ((l0_11.take ((ji4) : Int).toNat).length : Int) = max ji4 0 from by rw [List.length_take]; omega)
      clear c6
      have H' := Aside0.mk H
      clear H
      go_enter Tryd.func12, Tryd.ntmps12
      go_wp2_with (first | ((with_reducible refine gate_dst (N := 1) rfl ?_); (try (refine gate_guard (by rfl) ?_; dsimp only)); refine box_event ?hg (N := 1) ?hd (cs := #[.slice A0_0 l0_0.length c0_0, .slice A0_1 l0_1.length c0_1, .slice A0_2 l0_2.length c0_2, .slice A0_3 l0_3.length c0_3, .slice A0_4 l0_4.length c0_4, .int .i64 a0_5, .slice A0_6 l0_6.length c0_6, .slice A0_7 l0_7.length c0_7, .slice A0_8 l0_8.length c0_8, .slice A0_9 l0_9.length c0_9, .slice A0_10 l0_10.length c0_10, .slice A0_11 l0_11.length c0_11, .string a0_12]) (t := 61) ?hr ?_; (case hd => rfl); (case hg => rfl); (case hr => first | (go_simp; done) | (go_simp; rfl)); intro gb173 hg w7 hbox hb; have n0_ := Aside0.mk (below_step (by repeat (first | (with_reducible first | exact HB.out | apply below_alloc | apply pw_below_drewN | apply below_drew1) | exact HB.out)) hb); have n1_ := Aside0.mk (hbox); have n2_ := Aside0.mk ((by rw [hg]; exact (below_size (by repeat (first | (with_reducible first | exact HB.out | apply below_alloc | apply pw_below_drewN | apply below_drew1) | exact HB.out))) : w.heap.size ≤ gb173)); have n3_ := Aside0.mk ((by rw [hg]; exact (below_size (by repeat (first | (with_reducible first | exact HB.out | apply below_alloc | apply pw_below_drewN | apply below_drew1) | exact HB.out))) : w.heap.size ≤ gb173)); clear HB; have HB := n0_; have BK173 := n1_; have GW173 := n2_; have GE173 := n3_; clear n0_ n1_ n2_ n3_; clear hb hbox hg) | ((with_reducible refine gate_callee (f := 26) rfl ?_); refine goesL_ (some 11) rfl rfl Tryd.func26 (by kernel_rfl) rfl #[] rfl (by (try simp only [List.map_toArray, List.map_cons, List.map_nil]); first | done | rfl | (simp only [List.length_drop, List.length_take]; rfl)) ?_; (with_reducible refine (proofmarklaw27_head.calls k t174 _ (by first | exact HG.out | (refine tab_below HG.out ?_; repeat (first | (with_reducible first | exact HB.out | apply below_alloc | apply pw_below_drewN | apply below_drew1 | refine below_set ?_ GE173.out | refine below_set ?_ GE203.out | refine below_set ?_ GE204.out) | exact HB.out)) | (refine tab_drawn HG.out ?_; repeat (first | exact Drawn0.refl _ | apply drawn_drewN | apply drawn_drew))) A2.out).mono ?_); rintro e w8 ⟨rfl, hb⟩; refine ⟨_, rfl, ?_⟩; have n0_ := Aside0.mk (blk_below (g := gb173) (o := .cells #[.slice A0_0 l0_0.length c0_0, .slice A0_1 l0_1.length c0_1, .slice A0_2 l0_2.length c0_2, .slice A0_3 l0_3.length c0_3, .slice A0_4 l0_4.length c0_4, .int .i64 a0_5, .slice A0_6 l0_6.length c0_6, .slice A0_7 l0_7.length c0_7, .slice A0_8 l0_8.length c0_8, .slice A0_9 l0_9.length c0_9, .slice A0_10 l0_10.length c0_10, .slice A0_11 l0_11.length c0_11, .string a0_12] 61 (0, 0)) (by (with_reducible repeat (first | refine blk_drewN ?_ _ | refine blk_drew ?_ | refine blk_alloc ?_ _)); exact BK173.out) hb); have n1_ := Aside0.mk (below_step (by repeat (first | (with_reducible first | exact HB.out | apply below_alloc | apply pw_below_drewN | apply below_drew1 | refine below_set ?_ GE173.out) | exact HB.out)) hb); clear BK173; clear HB; have BK173 := n0_; have HB := n1_; clear n0_ n1_; (try clear hb); (try clear hb2); (try clear hk); (try clear hi); have hcz9_0 : w8.cell? ⟨gb173, 0, none⟩ = some (.slice A0_0 l0_0.length c0_0) := (blk_cell BK173.out 0).trans rfl; have hcz9_1 : w8.cell? ⟨gb173, 1, none⟩ = some (.slice A0_1 l0_1.length c0_1) := (blk_cell BK173.out 1).trans rfl; have hcz9_2 : w8.cell? ⟨gb173, 2, none⟩ = some (.slice A0_2 l0_2.length c0_2) := (blk_cell BK173.out 2).trans rfl; have hcz9_3 : w8.cell? ⟨gb173, 3, none⟩ = some (.slice A0_3 l0_3.length c0_3) := (blk_cell BK173.out 3).trans rfl; have hcz9_4 : w8.cell? ⟨gb173, 4, none⟩ = some (.slice A0_4 l0_4.length c0_4) := (blk_cell BK173.out 4).trans rfl; have hcz9_5 : w8.cell? ⟨gb173, 5, none⟩ = some (.int .i64 a0_5) := (blk_cell BK173.out 5).trans rfl; have hcz9_6 : w8.cell? ⟨gb173, 6, none⟩ = some (.slice A0_6 l0_6.length c0_6) := (blk_cell BK173.out 6).trans rfl; have hcz9_7 : w8.cell? ⟨gb173, 7, none⟩ = some (.slice A0_7 l0_7.length c0_7) := (blk_cell BK173.out 7).trans rfl; have hcz9_8 : w8.cell? ⟨gb173, 8, none⟩ = some (.slice A0_8 l0_8.length c0_8) := (blk_cell BK173.out 8).trans rfl; have hcz9_9 : w8.cell? ⟨gb173, 9, none⟩ = some (.slice A0_9 l0_9.length c0_9) := (blk_cell BK173.out 9).trans rfl; have hcz9_10 : w8.cell? ⟨gb173, 10, none⟩ = some (.slice A0_10 l0_10.length c0_10) := (blk_cell BK173.out 10).trans rfl; have hcz9_11 : w8.cell? ⟨gb173, 11, none⟩ = some (.slice A0_11 l0_11.length c0_11) := (blk_cell BK173.out 11).trans rfl; have hcz9_12 : w8.cell? ⟨gb173, 12, none⟩ = some (.string a0_12) := (blk_cell BK173.out 12).trans rfl; have hfz9_0 := blk_frozen BK173.out 0; have hfz9_1 := blk_frozen BK173.out 1; have hfz9_2 := blk_frozen BK173.out 2; have hfz9_3 := blk_frozen BK173.out 3; have hfz9_4 := blk_frozen BK173.out 4; have hfz9_5 := blk_frozen BK173.out 5; have hfz9_6 := blk_frozen BK173.out 6; have hfz9_7 := blk_frozen BK173.out 7; have hfz9_8 := blk_frozen BK173.out 8; have hfz9_9 := blk_frozen BK173.out 9; have hfz9_10 := blk_frozen BK173.out 10; have hfz9_11 := blk_frozen BK173.out 11; have hfz9_12 := blk_frozen BK173.out 12) | ((with_reducible refine gate_callee (f := 27) rfl ?_); refine goesL_ (some 14) rfl rfl Tryd.func27 (by kernel_rfl) rfl #[.agg #[.slice A0_0 l0_0.length c0_0, .slice A0_1 l0_1.length c0_1, .slice A0_2 l0_2.length c0_2, .slice A0_3 l0_3.length c0_3, .slice A0_4 l0_4.length c0_4, .int .i64 a0_5, .slice A0_6 l0_6.length c0_6, .slice A0_7 l0_7.length c0_7, .slice A0_8 l0_8.length c0_8, .slice A0_9 l0_9.length c0_9, .slice A0_10 l0_10.length c0_10, .slice A0_11 l0_11.length c0_11, .string a0_12]] rfl (by (try simp only [List.map_toArray, List.map_cons, List.map_nil]); first | done | rfl | (simp only [List.length_drop, List.length_take]; rfl)) ?_; (with_reducible refine (proofmarklaw27_fit.calls k _ _ l0_0 _ _ l0_1 _ _ l0_2 _ _ l0_3 _ _ l0_4 a0_5 _ _ l0_6 _ _ l0_7 _ _ l0_8 _ _ l0_9 _ _ l0_10 _ _ l0_11 a0_12 t175 t178 t181 t184 t187 t190 t191 t194 t197 t200 _ ?side1 ?side2 ?side3 ?side4 ?side5 ?side6 ?side7 ?side8 ?side9 ?side10 ?side11 ?side12 ?side13 ?side14 ?side15 ?side16 ?side17 ?side18 ?side19 ?side20 ?side21 ?side22 A3.out).mono ?_); (case side1 => repeat (first | exact (Kd.C_below HR0_0.out HB.out) | (with_reducible refine Kd.C_alloc ?_ _) | (with_reducible refine Kd.C_drewN ?_ _) | (with_reducible refine Kd.C_drew ?_))); (case side2 => exact HC0_0.out); (case side3 => repeat (first | exact (Kd.C_below HR0_1.out HB.out) | (with_reducible refine Kd.C_alloc ?_ _) | (with_reducible refine Kd.C_drewN ?_ _) | (with_reducible refine Kd.C_drew ?_))); (case side4 => exact HC0_1.out); (case side5 => repeat (first | exact (Kd.C_below HR0_2.out HB.out) | (with_reducible refine Kd.C_alloc ?_ _) | (with_reducible refine Kd.C_drewN ?_ _) | (with_reducible refine Kd.C_drew ?_))); (case side6 => exact HC0_2.out); (case side7 => repeat (first | exact (Kd.C_below HR0_3.out HB.out) | (with_reducible refine Kd.C_alloc ?_ _) | (with_reducible refine Kd.C_drewN ?_ _) | (with_reducible refine Kd.C_drew ?_))); (case side8 => exact HC0_3.out); (case side9 => repeat (first | exact (Kd.C_below HR0_4.out HB.out) | (with_reducible refine Kd.C_alloc ?_ _) | (with_reducible refine Kd.C_drewN ?_ _) | (with_reducible refine Kd.C_drew ?_))); (case side10 => exact HC0_4.out); (case side11 => repeat (first | exact (Kd.C_below HR0_6.out HB.out) | (with_reducible refine Kd.C_alloc ?_ _) | (with_reducible refine Kd.C_drewN ?_ _) | (with_reducible refine Kd.C_drew ?_))); (case side12 => exact HC0_6.out); (case side13 => repeat (first | exact (Kd.C_below HR0_7.out HB.out) | (with_reducible refine Kd.C_alloc ?_ _) | (with_reducible refine Kd.C_drewN ?_ _) | (with_reducible refine Kd.C_drew ?_))); (case side14 => exact HC0_7.out); (case side15 => repeat (first | exact (Kd.C_below HR0_8.out HB.out) | (with_reducible refine Kd.C_alloc ?_ _) | (with_reducible refine Kd.C_drewN ?_ _) | (with_reducible refine Kd.C_drew ?_))); (case side16 => exact HC0_8.out); (case side17 => repeat (first | exact (Kd.C_below HR0_9.out HB.out) | (with_reducible refine Kd.C_alloc ?_ _) | (with_reducible refine Kd.C_drewN ?_ _) | (with_reducible refine Kd.C_drew ?_))); (case side18 => exact HC0_9.out); (case side19 => repeat (first | exact (Kd.C_below HR0_10.out HB.out) | (with_reducible refine Kd.C_alloc ?_ _) | (with_reducible refine Kd.C_drewN ?_ _) | (with_reducible refine Kd.C_drew ?_))); (case side20 => exact HC0_10.out); (case side21 => repeat (first | exact (Kd.C_below HR0_11.out HB.out) | (with_reducible refine Kd.C_alloc ?_ _) | (with_reducible refine Kd.C_drewN ?_ _) | (with_reducible refine Kd.C_drew ?_))); (case side22 => exact HC0_11.out); rintro e w10 ⟨v176, v179, v182, v185, v188, v192, v195, v198, v201, rfl, ho0, ho1, ho2, ho3, ho4, ho5, ho6, ho7, ho8, hb⟩; refine ⟨_, rfl, ?_⟩; have n0_ := Aside0.mk (Kd.R_lower ho0 (below_size (by repeat (first | (with_reducible first | exact HB.out | apply below_alloc | apply pw_below_drewN | apply below_drew1 | refine below_set ?_ GE173.out) | exact HB.out)))); have n1_ := Aside0.mk (Kd.R_lower ho1 (below_size (by repeat (first | (with_reducible first | exact HB.out | apply below_alloc | apply pw_below_drewN | apply below_drew1 | refine below_set ?_ GE173.out) | exact HB.out)))); have n2_ := Aside0.mk (Kd.R_lower ho2 (below_size (by repeat (first | (with_reducible first | exact HB.out | apply below_alloc | apply pw_below_drewN | apply below_drew1 | refine below_set ?_ GE173.out) | exact HB.out)))); have n3_ := Aside0.mk (Kd.R_lower ho3 (below_size (by repeat (first | (with_reducible first | exact HB.out | apply below_alloc | apply pw_below_drewN | apply below_drew1 | refine below_set ?_ GE173.out) | exact HB.out)))); have n4_ := Aside0.mk (Kd.R_lower ho4 (below_size (by repeat (first | (with_reducible first | exact HB.out | apply below_alloc | apply pw_below_drewN | apply below_drew1 | refine below_set ?_ GE173.out) | exact HB.out)))); have n5_ := Aside0.mk (Kd.R_lower ho5 (below_size (by repeat (first | (with_reducible first | exact HB.out | apply below_alloc | apply pw_below_drewN | apply below_drew1 | refine below_set ?_ GE173.out) | exact HB.out)))); have n6_ := Aside0.mk (Kd.R_lower ho6 (below_size (by repeat (first | (with_reducible first | exact HB.out | apply below_alloc | apply pw_below_drewN | apply below_drew1 | refine below_set ?_ GE173.out) | exact HB.out)))); have n7_ := Aside0.mk (Kd.R_lower ho7 (below_size (by repeat (first | (with_reducible first | exact HB.out | apply below_alloc | apply pw_below_drewN | apply below_drew1 | refine below_set ?_ GE173.out) | exact HB.out)))); have n8_ := Aside0.mk (Kd.R_lower ho8 (below_size (by repeat (first | (with_reducible first | exact HB.out | apply below_alloc | apply pw_below_drewN | apply below_drew1 | refine below_set ?_ GE173.out) | exact HB.out)))); have n9_ := Aside0.mk (blk_below (g := gb173) (o := .cells #[.slice A0_0 l0_0.length c0_0, .slice A0_1 l0_1.length c0_1, .slice A0_2 l0_2.length c0_2, .slice A0_3 l0_3.length c0_3, .slice A0_4 l0_4.length c0_4, .int .i64 a0_5, .slice A0_6 l0_6.length c0_6, .slice A0_7 l0_7.length c0_7, .slice A0_8 l0_8.length c0_8, .slice A0_9 l0_9.length c0_9, .slice A0_10 l0_10.length c0_10, .slice A0_11 l0_11.length c0_11, .string a0_12] 61 (0, 0)) (by (with_reducible repeat (first | refine blk_drewN ?_ _ | refine blk_drew ?_ | refine blk_alloc ?_ _)); exact BK173.out) hb); have n10_ := Aside0.mk (below_step (by repeat (first | (with_reducible first | exact HB.out | apply below_alloc | apply pw_below_drewN | apply below_drew1 | refine below_set ?_ GE173.out) | exact HB.out)) hb); clear BK173; clear HB; have HO177 := n0_; have HO180 := n1_; have HO183 := n2_; have HO186 := n3_; have HO189 := n4_; have HO193 := n5_; have HO196 := n6_; have HO199 := n7_; have HO202 := n8_; have BK173 := n9_; have HB := n10_; clear n0_ n1_ n2_ n3_ n4_ n5_ n6_ n7_ n8_ n9_ n10_; (try clear hb); (try clear hb2); (try clear hk); (try clear hi); (try clear ho0); (try clear ho1); (try clear ho2); (try clear ho3); (try clear ho4); (try clear ho5); (try clear ho6); (try clear ho7); (try clear ho8)) | ((with_reducible refine gate_dst (N := 4) rfl ?_); (try (refine gate_guard (by rfl) ?_; dsimp only)); refine box_event ?hg (N := 4) ?hd (cs := #[.slice none 0 0, .slice none 0 0, .slice none 0 0, .slice none 0 0, .slice none 0 0]) (t := 27) ?hr ?_; (case hd => rfl); (case hg => rfl); (case hr => first | (go_simp; done) | (go_simp; rfl)); intro gb203 hg w11 hbox hb; have n0_ := Aside0.mk (Kd.R_below (by (with_reducible repeat (first | apply Kd.R_alloc | apply Kd.R_drewN | apply Kd.R_drew)); exact HO177.out) hb); have n1_ := Aside0.mk (Kd.R_below (by (with_reducible repeat (first | apply Kd.R_alloc | apply Kd.R_drewN | apply Kd.R_drew)); exact HO180.out) hb); have n2_ := Aside0.mk (Kd.R_below (by (with_reducible repeat (first | apply Kd.R_alloc | apply Kd.R_drewN | apply Kd.R_drew)); exact HO183.out) hb); have n3_ := Aside0.mk (Kd.R_below (by (with_reducible repeat (first | apply Kd.R_alloc | apply Kd.R_drewN | apply Kd.R_drew)); exact HO186.out) hb); have n4_ := Aside0.mk (Kd.R_below (by (with_reducible repeat (first | apply Kd.R_alloc | apply Kd.R_drewN | apply Kd.R_drew)); exact HO189.out) hb); have n5_ := Aside0.mk (Kd.R_below (by (with_reducible repeat (first | apply Kd.R_alloc | apply Kd.R_drewN | apply Kd.R_drew)); exact HO193.out) hb); have n6_ := Aside0.mk (Kd.R_below (by (with_reducible repeat (first | apply Kd.R_alloc | apply Kd.R_drewN | apply Kd.R_drew)); exact HO196.out) hb); have n7_ := Aside0.mk (Kd.R_below (by (with_reducible repeat (first | apply Kd.R_alloc | apply Kd.R_drewN | apply Kd.R_drew)); exact HO199.out) hb); have n8_ := Aside0.mk (Kd.R_below (by (with_reducible repeat (first | apply Kd.R_alloc | apply Kd.R_drewN | apply Kd.R_drew)); exact HO202.out) hb); have n9_ := Aside0.mk (blk_below (g := gb173) (o := .cells #[.slice A0_0 l0_0.length c0_0, .slice A0_1 l0_1.length c0_1, .slice A0_2 l0_2.length c0_2, .slice A0_3 l0_3.length c0_3, .slice A0_4 l0_4.length c0_4, .int .i64 a0_5, .slice A0_6 l0_6.length c0_6, .slice A0_7 l0_7.length c0_7, .slice A0_8 l0_8.length c0_8, .slice A0_9 l0_9.length c0_9, .slice A0_10 l0_10.length c0_10, .slice A0_11 l0_11.length c0_11, .string a0_12] 61 (0, 0)) (by (with_reducible repeat (first | refine blk_drewN ?_ _ | refine blk_drew ?_ | refine blk_alloc ?_ _)); exact BK173.out) hb); have n10_ := Aside0.mk (below_step (by repeat (first | (with_reducible first | exact HB.out | apply below_alloc | apply pw_below_drewN | apply below_drew1 | refine below_set ?_ GE173.out) | exact HB.out)) hb); have n11_ := Aside0.mk (hbox); have n12_ := Aside0.mk ((by rw [hg]; exact (below_size (by repeat (first | (with_reducible first | exact HB.out | apply below_alloc | apply pw_below_drewN | apply below_drew1 | refine below_set ?_ GE173.out) | exact HB.out))) : w.heap.size ≤ gb203)); have n13_ := Aside0.mk ((by rw [hg]; exact (below_size (by repeat (first | (with_reducible first | exact HB.out | apply below_alloc | apply pw_below_drewN | apply below_drew1 | refine below_set ?_ GE173.out) | exact HB.out))) : w.heap.size ≤ gb203)); have n14_ := Aside0.mk ((by rw [hg]; exact Nat.ne_of_lt (blk_lt (g := gb173) (o := .cells #[.slice A0_0 l0_0.length c0_0, .slice A0_1 l0_1.length c0_1, .slice A0_2 l0_2.length c0_2, .slice A0_3 l0_3.length c0_3, .slice A0_4 l0_4.length c0_4, .int .i64 a0_5, .slice A0_6 l0_6.length c0_6, .slice A0_7 l0_7.length c0_7, .slice A0_8 l0_8.length c0_8, .slice A0_9 l0_9.length c0_9, .slice A0_10 l0_10.length c0_10, .slice A0_11 l0_11.length c0_11, .string a0_12] 61 (0, 0)) (by (with_reducible repeat (first | refine blk_drewN ?_ _ | refine blk_drew ?_ | refine blk_alloc ?_ _)); exact BK173.out)) : gb173 ≠ gb203)); have n15_ := Aside0.mk ((by rw [hg]; exact Nat.ne_of_gt (blk_lt (g := gb173) (o := .cells #[.slice A0_0 l0_0.length c0_0, .slice A0_1 l0_1.length c0_1, .slice A0_2 l0_2.length c0_2, .slice A0_3 l0_3.length c0_3, .slice A0_4 l0_4.length c0_4, .int .i64 a0_5, .slice A0_6 l0_6.length c0_6, .slice A0_7 l0_7.length c0_7, .slice A0_8 l0_8.length c0_8, .slice A0_9 l0_9.length c0_9, .slice A0_10 l0_10.length c0_10, .slice A0_11 l0_11.length c0_11, .string a0_12] 61 (0, 0)) (by (with_reducible repeat (first | refine blk_drewN ?_ _ | refine blk_drew ?_ | refine blk_alloc ?_ _)); exact BK173.out)) : gb203 ≠ gb173)); clear HO177; clear HO180; clear HO183; clear HO186; clear HO189; clear HO193; clear HO196; clear HO199; clear HO202; clear BK173; clear HB; have HO177 := n0_; have HO180 := n1_; have HO183 := n2_; have HO186 := n3_; have HO189 := n4_; have HO193 := n5_; have HO196 := n6_; have HO199 := n7_; have HO202 := n8_; have BK173 := n9_; have HB := n10_; have BK203 := n11_; have GW203 := n12_; have GE203 := n13_; have NB173_203 := n14_; have NB203_173 := n15_; clear n0_ n1_ n2_ n3_ n4_ n5_ n6_ n7_ n8_ n9_ n10_ n11_ n12_ n13_ n14_ n15_; clear hb hbox hg) | ((with_reducible refine gate_dst (N := 5) rfl ?_); (try (refine gate_guard (by rfl) ?_; dsimp only)); refine box_event ?hg (N := 5) ?hd (cs := #[.int .i64 0, .slice none 0 0, .slice none 0 0, .slice none 0 0, .slice none 0 0]) (t := 53) ?hr ?_; (case hd => rfl); (case hg => rfl); (case hr => first | (go_simp; done) | (go_simp; rfl)); intro gb204 hg w12 hbox hb; have n0_ := Aside0.mk (Kd.R_below (by (with_reducible repeat (first | apply Kd.R_alloc | apply Kd.R_drewN | apply Kd.R_drew)); exact HO177.out) hb); have n1_ := Aside0.mk (Kd.R_below (by (with_reducible repeat (first | apply Kd.R_alloc | apply Kd.R_drewN | apply Kd.R_drew)); exact HO180.out) hb); have n2_ := Aside0.mk (Kd.R_below (by (with_reducible repeat (first | apply Kd.R_alloc | apply Kd.R_drewN | apply Kd.R_drew)); exact HO183.out) hb); have n3_ := Aside0.mk (Kd.R_below (by (with_reducible repeat (first | apply Kd.R_alloc | apply Kd.R_drewN | apply Kd.R_drew)); exact HO186.out) hb); have n4_ := Aside0.mk (Kd.R_below (by (with_reducible repeat (first | apply Kd.R_alloc | apply Kd.R_drewN | apply Kd.R_drew)); exact HO189.out) hb); have n5_ := Aside0.mk (Kd.R_below (by (with_reducible repeat (first | apply Kd.R_alloc | apply Kd.R_drewN | apply Kd.R_drew)); exact HO193.out) hb); have n6_ := Aside0.mk (Kd.R_below (by (with_reducible repeat (first | apply Kd.R_alloc | apply Kd.R_drewN | apply Kd.R_drew)); exact HO196.out) hb); have n7_ := Aside0.mk (Kd.R_below (by (with_reducible repeat (first | apply Kd.R_alloc | apply Kd.R_drewN | apply Kd.R_drew)); exact HO199.out) hb); have n8_ := Aside0.mk (Kd.R_below (by (with_reducible repeat (first | apply Kd.R_alloc | apply Kd.R_drewN | apply Kd.R_drew)); exact HO202.out) hb); have n9_ := Aside0.mk (blk_below (g := gb173) (o := .cells #[.slice A0_0 l0_0.length c0_0, .slice A0_1 l0_1.length c0_1, .slice A0_2 l0_2.length c0_2, .slice A0_3 l0_3.length c0_3, .slice A0_4 l0_4.length c0_4, .int .i64 a0_5, .slice A0_6 l0_6.length c0_6, .slice A0_7 l0_7.length c0_7, .slice A0_8 l0_8.length c0_8, .slice A0_9 l0_9.length c0_9, .slice A0_10 l0_10.length c0_10, .slice A0_11 l0_11.length c0_11, .string a0_12] 61 (0, 0)) (by (with_reducible repeat (first | refine blk_drewN ?_ _ | refine blk_drew ?_ | refine blk_alloc ?_ _)); exact BK173.out) hb); have n10_ := Aside0.mk (blk_below (g := gb203) (o := .cells #[.slice none 0 0, .slice none 0 0, .slice none 0 0, .slice none 0 0, .slice none 0 0] 27 (0, 0)) (by (with_reducible repeat (first | refine blk_drewN ?_ _ | refine blk_drew ?_ | refine blk_alloc ?_ _)); exact BK203.out) hb); have n11_ := Aside0.mk (below_step (by repeat (first | (with_reducible first | exact HB.out | apply below_alloc | apply pw_below_drewN | apply below_drew1 | refine below_set ?_ GE173.out | refine below_set ?_ GE203.out) | exact HB.out)) hb); have n12_ := Aside0.mk (hbox); have n13_ := Aside0.mk ((by rw [hg]; exact (below_size (by repeat (first | (with_reducible first | exact HB.out | apply below_alloc | apply pw_below_drewN | apply below_drew1 | refine below_set ?_ GE173.out | refine below_set ?_ GE203.out) | exact HB.out))) : w.heap.size ≤ gb204)); have n14_ := Aside0.mk ((by rw [hg]; exact (below_size (by repeat (first | (with_reducible first | exact HB.out | apply below_alloc | apply pw_below_drewN | apply below_drew1 | refine below_set ?_ GE173.out | refine below_set ?_ GE203.out) | exact HB.out))) : w.heap.size ≤ gb204)); have n15_ := Aside0.mk ((by rw [hg]; exact Nat.ne_of_lt (blk_lt (g := gb173) (o := .cells #[.slice A0_0 l0_0.length c0_0, .slice A0_1 l0_1.length c0_1, .slice A0_2 l0_2.length c0_2, .slice A0_3 l0_3.length c0_3, .slice A0_4 l0_4.length c0_4, .int .i64 a0_5, .slice A0_6 l0_6.length c0_6, .slice A0_7 l0_7.length c0_7, .slice A0_8 l0_8.length c0_8, .slice A0_9 l0_9.length c0_9, .slice A0_10 l0_10.length c0_10, .slice A0_11 l0_11.length c0_11, .string a0_12] 61 (0, 0)) (by (with_reducible repeat (first | refine blk_drewN ?_ _ | refine blk_drew ?_ | refine blk_alloc ?_ _)); exact BK173.out)) : gb173 ≠ gb204)); have n16_ := Aside0.mk ((by rw [hg]; exact Nat.ne_of_gt (blk_lt (g := gb173) (o := .cells #[.slice A0_0 l0_0.length c0_0, .slice A0_1 l0_1.length c0_1, .slice A0_2 l0_2.length c0_2, .slice A0_3 l0_3.length c0_3, .slice A0_4 l0_4.length c0_4, .int .i64 a0_5, .slice A0_6 l0_6.length c0_6, .slice A0_7 l0_7.length c0_7, .slice A0_8 l0_8.length c0_8, .slice A0_9 l0_9.length c0_9, .slice A0_10 l0_10.length c0_10, .slice A0_11 l0_11.length c0_11, .string a0_12] 61 (0, 0)) (by (with_reducible repeat (first | refine blk_drewN ?_ _ | refine blk_drew ?_ | refine blk_alloc ?_ _)); exact BK173.out)) : gb204 ≠ gb173)); have n17_ := Aside0.mk ((by rw [hg]; exact Nat.ne_of_lt (blk_lt (g := gb203) (o := .cells #[.slice none 0 0, .slice none 0 0, .slice none 0 0, .slice none 0 0, .slice none 0 0] 27 (0, 0)) (by (with_reducible repeat (first | refine blk_drewN ?_ _ | refine blk_drew ?_ | refine blk_alloc ?_ _)); exact BK203.out)) : gb203 ≠ gb204)); have n18_ := Aside0.mk ((by rw [hg]; exact Nat.ne_of_gt (blk_lt (g := gb203) (o := .cells #[.slice none 0 0, .slice none 0 0, .slice none 0 0, .slice none 0 0, .slice none 0 0] 27 (0, 0)) (by (with_reducible repeat (first | refine blk_drewN ?_ _ | refine blk_drew ?_ | refine blk_alloc ?_ _)); exact BK203.out)) : gb204 ≠ gb203)); clear HO177; clear HO180; clear HO183; clear HO186; clear HO189; clear HO193; clear HO196; clear HO199; clear HO202; clear BK173; clear BK203; clear HB; have HO177 := n0_; have HO180 := n1_; have HO183 := n2_; have HO186 := n3_; have HO189 := n4_; have HO193 := n5_; have HO196 := n6_; have HO199 := n7_; have HO202 := n8_; have BK173 := n9_; have BK203 := n10_; have HB := n11_; have BK204 := n12_; have GW204 := n13_; have GE204 := n14_; have NB173_204 := n15_; have NB204_173 := n16_; have NB203_204 := n17_; have NB204_203 := n18_; clear n0_ n1_ n2_ n3_ n4_ n5_ n6_ n7_ n8_ n9_ n10_ n11_ n12_ n13_ n14_ n15_ n16_ n17_ n18_; clear hb hbox hg; obtain ⟨Ao13, co13, eo13⟩ := Kd.R_slice HO177.out; subst eo13; have hnb14 := NB203_173.out; have hnc14 := NB173_203.out; have hnb15 := NB203_204.out; have hnc15 := NB204_203.out; have hcz16_0 : w12.cell? ⟨gb203, 0, none⟩ = some (.slice none 0 0) := (blk_cell BK203.out 0).trans rfl; have hcz16_1 : w12.cell? ⟨gb203, 1, none⟩ = some (.slice none 0 0) := (blk_cell BK203.out 1).trans rfl; have hcz16_2 : w12.cell? ⟨gb203, 2, none⟩ = some (.slice none 0 0) := (blk_cell BK203.out 2).trans rfl; have hcz16_3 : w12.cell? ⟨gb203, 3, none⟩ = some (.slice none 0 0) := (blk_cell BK203.out 3).trans rfl; have hcz16_4 : w12.cell? ⟨gb203, 4, none⟩ = some (.slice none 0 0) := (blk_cell BK203.out 4).trans rfl; have hfz16_0 := blk_frozen BK203.out 0; have hfz16_1 := blk_frozen BK203.out 1; have hfz16_2 := blk_frozen BK203.out 2; have hfz16_3 := blk_frozen BK203.out 3; have hfz16_4 := blk_frozen BK203.out 4; obtain ⟨Ao17, co17, eo17⟩ := Kd.R_slice HO180.out; subst eo17; obtain ⟨Ao18, co18, eo18⟩ := Kd.R_slice HO183.out; subst eo18; obtain ⟨Ao19, co19, eo19⟩ := Kd.R_slice HO186.out; subst eo19; obtain ⟨Ao20, co20, eo20⟩ := Kd.R_slice HO189.out; subst eo20; have hnb21 := NB204_173.out; have hnc21 := NB173_204.out; have hcz22_0 : w12.cell? ⟨gb204, 0, none⟩ = some (.int .i64 0) := (blk_cell BK204.out 0).trans rfl; have hcz22_1 : w12.cell? ⟨gb204, 1, none⟩ = some (.slice none 0 0) := (blk_cell BK204.out 1).trans rfl; have hcz22_2 : w12.cell? ⟨gb204, 2, none⟩ = some (.slice none 0 0) := (blk_cell BK204.out 2).trans rfl; have hcz22_3 : w12.cell? ⟨gb204, 3, none⟩ = some (.slice none 0 0) := (blk_cell BK204.out 3).trans rfl; have hcz22_4 : w12.cell? ⟨gb204, 4, none⟩ = some (.slice none 0 0) := (blk_cell BK204.out 4).trans rfl; have hfz22_0 := blk_frozen BK204.out 0; have hfz22_1 := blk_frozen BK204.out 1; have hfz22_2 := blk_frozen BK204.out 2; have hfz22_3 := blk_frozen BK204.out 3; have hfz22_4 := blk_frozen BK204.out 4; obtain ⟨Ao23, co23, eo23⟩ := Kd.R_slice HO193.out; subst eo23; obtain ⟨Ao24, co24, eo24⟩ := Kd.R_slice HO196.out; subst eo24; obtain ⟨Ao25, co25, eo25⟩ := Kd.R_slice HO199.out; subst eo25; obtain ⟨Ao26, co26, eo26⟩ := Kd.R_slice HO202.out; subst eo26; have hcz27_0 : w12.cell? ⟨gb173, 0, none⟩ = some (.slice A0_0 l0_0.length c0_0) := (blk_cell BK173.out 0).trans rfl; have hcz27_1 : w12.cell? ⟨gb173, 1, none⟩ = some (.slice A0_1 l0_1.length c0_1) := (blk_cell BK173.out 1).trans rfl; have hcz27_2 : w12.cell? ⟨gb173, 2, none⟩ = some (.slice A0_2 l0_2.length c0_2) := (blk_cell BK173.out 2).trans rfl; have hcz27_3 : w12.cell? ⟨gb173, 3, none⟩ = some (.slice A0_3 l0_3.length c0_3) := (blk_cell BK173.out 3).trans rfl; have hcz27_4 : w12.cell? ⟨gb173, 4, none⟩ = some (.slice A0_4 l0_4.length c0_4) := (blk_cell BK173.out 4).trans rfl; have hcz27_5 : w12.cell? ⟨gb173, 5, none⟩ = some (.int .i64 a0_5) := (blk_cell BK173.out 5).trans rfl; have hcz27_6 : w12.cell? ⟨gb173, 6, none⟩ = some (.slice A0_6 l0_6.length c0_6) := (blk_cell BK173.out 6).trans rfl; have hcz27_7 : w12.cell? ⟨gb173, 7, none⟩ = some (.slice A0_7 l0_7.length c0_7) := (blk_cell BK173.out 7).trans rfl; have hcz27_8 : w12.cell? ⟨gb173, 8, none⟩ = some (.slice A0_8 l0_8.length c0_8) := (blk_cell BK173.out 8).trans rfl; have hcz27_9 : w12.cell? ⟨gb173, 9, none⟩ = some (.slice A0_9 l0_9.length c0_9) := (blk_cell BK173.out 9).trans rfl; have hcz27_10 : w12.cell? ⟨gb173, 10, none⟩ = some (.slice A0_10 l0_10.length c0_10) := (blk_cell BK173.out 10).trans rfl; have hcz27_11 : w12.cell? ⟨gb173, 11, none⟩ = some (.slice A0_11 l0_11.length c0_11) := (blk_cell BK173.out 11).trans rfl; have hcz27_12 : w12.cell? ⟨gb173, 12, none⟩ = some (.string a0_12) := (blk_cell BK173.out 12).trans rfl; have hfz27_0 := blk_frozen BK173.out 0; have hfz27_1 := blk_frozen BK173.out 1; have hfz27_2 := blk_frozen BK173.out 2; have hfz27_3 := blk_frozen BK173.out 3; have hfz27_4 := blk_frozen BK173.out 4; have hfz27_5 := blk_frozen BK173.out 5; have hfz27_6 := blk_frozen BK173.out 6; have hfz27_7 := blk_frozen BK173.out 7; have hfz27_8 := blk_frozen BK173.out 8; have hfz27_9 := blk_frozen BK173.out 9; have hfz27_10 := blk_frozen BK173.out 10; have hfz27_11 := blk_frozen BK173.out 11; have hfz27_12 := blk_frozen BK173.out 12; obtain ⟨i028, hi028, _, hsz28, _⟩ := info_parts info3; obtain ⟨hcut28, hA28, hC28⟩ := print_take_of (P := Tryd.prog) (Value.int .i64) 0 55 3 .i64 Tryd.underlying55 hi028 hsz28 A0_11 c0_11 l0_11 (ji4) (of_decide_eq_true (by first | (with_reducible assumption) | assumption)) (of_decide_eq_true (by first | (with_reducible assumption) | assumption)) HC0_11.out; have HR205 := Aside0.mk (Kd.C_of_reads (h1 := fun _ => rfl) (hA28 _ (Kd.reads_of_C HR0_11.out))); have HC205 := Aside0.mk hC28; clear hA28 hC28 hi028 hsz28))
      try simp only [Act.put, List.setIfInBounds_toArray, List.set_cons_succ, List.set_cons_zero]
      go_loopg [7, 8] k (fun kq v7 v8 w' => ∃ (x7_1 : ByteArray) (x8_1 : Int), v7 = .string x7_1 ∧ v8 = .int .i64 x8_1 ∧ Aside0 (proofmarklaw27_LiftParts.l0 kq t174 (l0_11.take ((ji4) : Int).toNat) x7_1 x8_1 t175 t178 t181 t184 t187 t190 t191 t194 t197 t200 = some r) ∧ Aside0 (kq ≤ k) ∧ Aside0 (Kd.R k96 96 w' w.heap.size (fun _ => True) (.slice Ao13 t175.length co13) t175) ∧ Aside0 (Kd.R k111 111 w' w.heap.size (fun k_ => some k_ ≠ ((.slice Ao20 t187.length co20) : Value).ownBlock) (.slice Ao17 t178.length co17) t178) ∧ Aside0 (Kd.R k94 94 w' w.heap.size (fun _ => True) (.slice Ao18 t181.length co18) t181) ∧ Aside0 (Kd.R k73 73 w' w.heap.size (fun _ => True) (.slice Ao19 t184.length co19) t184) ∧ Aside0 (Kd.R k111 111 w' w.heap.size (fun k_ => some k_ ≠ ((.slice Ao17 t178.length co17) : Value).ownBlock) (.slice Ao20 t187.length co20) t187) ∧ Aside0 (Kd.R k201 201 w' w.heap.size (fun _ => True) (.slice Ao23 t191.length co23) t191) ∧ Aside0 (Kd.R k202 202 w' w.heap.size (fun _ => True) (.slice Ao24 t194.length co24) t194) ∧ Aside0 (Kd.R k98 98 w' w.heap.size (fun _ => True) (.slice Ao25 t197.length co25) t197) ∧ Aside0 (Kd.R k204 204 w' w.heap.size (fun _ => True) (.slice Ao26 t200.length co26) t200) ∧ Aside0 (w'.heap[gb173]? = some (.cells #[(.slice A0_0 l0_0.length c0_0), (.slice A0_1 l0_1.length c0_1), (.slice A0_2 l0_2.length c0_2), (.slice A0_3 l0_3.length c0_3), (.slice A0_4 l0_4.length c0_4), .int .i64 a0_5, (.slice A0_6 l0_6.length c0_6), (.slice A0_7 l0_7.length c0_7), (.slice A0_8 l0_8.length c0_8), (.slice A0_9 l0_9.length c0_9), (.slice A0_10 l0_10.length c0_10), (.slice A0_11 l0_11.length c0_11), .string a0_12] 61 (0, 0))) ∧ Aside0 (w'.heap[gb203]? = some (.cells #[(.slice Ao13 t175.length co13), (.slice Ao17 t178.length co17), (.slice Ao18 t181.length co18), (.slice Ao19 t184.length co19), (.slice Ao20 t187.length co20)] 27 (0, 0))) ∧ Aside0 (w'.heap[gb204]? = some (.cells #[.int .i64 t190, (.slice Ao23 t191.length co23), (.slice Ao24 t194.length co24), (.slice Ao25 t197.length co25), (.slice Ao26 t200.length co26)] 53 (0, 0))) ∧ Aside0 (Below w.heap.size w w'))
      case atStart => exact ⟨((⟨#[]⟩ : ByteArray)), (0), (by first | rfl | (simp; done) | (simp [*]; done)), (by first | rfl | (simp; done) | (simp [*]; done)), H', ⟨Nat.le_refl _⟩, ⟨by (with_reducible repeat (first | apply Kd.R_alloc | apply Kd.R_drewN | apply Kd.R_drew)); exact Kd.R_mono (Kd.R_far (p := ⟨gb204, 4, none⟩) (Kd.R_far (p := ⟨gb204, 3, none⟩) (Kd.R_far (p := ⟨gb204, 2, none⟩) (Kd.R_far (p := ⟨gb204, 1, none⟩) (Kd.R_far (p := ⟨gb204, 0, none⟩) (Kd.R_far (p := ⟨gb203, 4, none⟩) (Kd.R_far (p := ⟨gb203, 3, none⟩) (Kd.R_far (p := ⟨gb203, 2, none⟩) (Kd.R_far (p := ⟨gb203, 1, none⟩) (Kd.R_far (p := ⟨gb203, 0, none⟩) (Kd.R_types (Kd.R_types HO177.out BK203.out (by decide)) BK204.out (by decide)) (fun _ hk => hk.1.2) (.slice Ao13 t175.length co13)) (fun _ hk => hk.1.2) (.slice Ao17 t178.length co17)) (fun _ hk => hk.1.2) (.slice Ao18 t181.length co18)) (fun _ hk => hk.1.2) (.slice Ao19 t184.length co19)) (fun _ hk => hk.1.2) (.slice Ao20 t187.length co20)) (fun _ hk => hk.2) (.int .i64 t190)) (fun _ hk => hk.2) (.slice Ao23 t191.length co23)) (fun _ hk => hk.2) (.slice Ao24 t194.length co24)) (fun _ hk => hk.2) (.slice Ao25 t197.length co25)) (fun _ hk => hk.2) (.slice Ao26 t200.length co26)) (fun _ hk => trivial)⟩, ⟨by (with_reducible repeat (first | apply Kd.R_alloc | apply Kd.R_drewN | apply Kd.R_drew)); exact Kd.R_mono (Kd.R_far (p := ⟨gb204, 4, none⟩) (Kd.R_far (p := ⟨gb204, 3, none⟩) (Kd.R_far (p := ⟨gb204, 2, none⟩) (Kd.R_far (p := ⟨gb204, 1, none⟩) (Kd.R_far (p := ⟨gb204, 0, none⟩) (Kd.R_far (p := ⟨gb203, 4, none⟩) (Kd.R_far (p := ⟨gb203, 3, none⟩) (Kd.R_far (p := ⟨gb203, 2, none⟩) (Kd.R_far (p := ⟨gb203, 1, none⟩) (Kd.R_far (p := ⟨gb203, 0, none⟩) (Kd.R_types (Kd.R_types HO180.out BK203.out (by decide)) BK204.out (by decide)) (fun _ hk => hk.1.2) (.slice Ao13 t175.length co13)) (fun _ hk => hk.1.2) (.slice Ao17 t178.length co17)) (fun _ hk => hk.1.2) (.slice Ao18 t181.length co18)) (fun _ hk => hk.1.2) (.slice Ao19 t184.length co19)) (fun _ hk => hk.1.2) (.slice Ao20 t187.length co20)) (fun _ hk => hk.2) (.int .i64 t190)) (fun _ hk => hk.2) (.slice Ao23 t191.length co23)) (fun _ hk => hk.2) (.slice Ao24 t194.length co24)) (fun _ hk => hk.2) (.slice Ao25 t197.length co25)) (fun _ hk => hk.2) (.slice Ao26 t200.length co26)) (fun _ hk => hk.1.1)⟩, ⟨by (with_reducible repeat (first | apply Kd.R_alloc | apply Kd.R_drewN | apply Kd.R_drew)); exact Kd.R_mono (Kd.R_far (p := ⟨gb204, 4, none⟩) (Kd.R_far (p := ⟨gb204, 3, none⟩) (Kd.R_far (p := ⟨gb204, 2, none⟩) (Kd.R_far (p := ⟨gb204, 1, none⟩) (Kd.R_far (p := ⟨gb204, 0, none⟩) (Kd.R_far (p := ⟨gb203, 4, none⟩) (Kd.R_far (p := ⟨gb203, 3, none⟩) (Kd.R_far (p := ⟨gb203, 2, none⟩) (Kd.R_far (p := ⟨gb203, 1, none⟩) (Kd.R_far (p := ⟨gb203, 0, none⟩) (Kd.R_types (Kd.R_types HO183.out BK203.out (by decide)) BK204.out (by decide)) (fun _ hk => hk.1.2) (.slice Ao13 t175.length co13)) (fun _ hk => hk.1.2) (.slice Ao17 t178.length co17)) (fun _ hk => hk.1.2) (.slice Ao18 t181.length co18)) (fun _ hk => hk.1.2) (.slice Ao19 t184.length co19)) (fun _ hk => hk.1.2) (.slice Ao20 t187.length co20)) (fun _ hk => hk.2) (.int .i64 t190)) (fun _ hk => hk.2) (.slice Ao23 t191.length co23)) (fun _ hk => hk.2) (.slice Ao24 t194.length co24)) (fun _ hk => hk.2) (.slice Ao25 t197.length co25)) (fun _ hk => hk.2) (.slice Ao26 t200.length co26)) (fun _ hk => trivial)⟩, ⟨by (with_reducible repeat (first | apply Kd.R_alloc | apply Kd.R_drewN | apply Kd.R_drew)); exact Kd.R_mono (Kd.R_far (p := ⟨gb204, 4, none⟩) (Kd.R_far (p := ⟨gb204, 3, none⟩) (Kd.R_far (p := ⟨gb204, 2, none⟩) (Kd.R_far (p := ⟨gb204, 1, none⟩) (Kd.R_far (p := ⟨gb204, 0, none⟩) (Kd.R_far (p := ⟨gb203, 4, none⟩) (Kd.R_far (p := ⟨gb203, 3, none⟩) (Kd.R_far (p := ⟨gb203, 2, none⟩) (Kd.R_far (p := ⟨gb203, 1, none⟩) (Kd.R_far (p := ⟨gb203, 0, none⟩) (Kd.R_types (Kd.R_types HO186.out BK203.out (by decide)) BK204.out (by decide)) (fun _ hk => hk.1.2) (.slice Ao13 t175.length co13)) (fun _ hk => hk.1.2) (.slice Ao17 t178.length co17)) (fun _ hk => hk.1.2) (.slice Ao18 t181.length co18)) (fun _ hk => hk.1.2) (.slice Ao19 t184.length co19)) (fun _ hk => hk.1.2) (.slice Ao20 t187.length co20)) (fun _ hk => hk.2) (.int .i64 t190)) (fun _ hk => hk.2) (.slice Ao23 t191.length co23)) (fun _ hk => hk.2) (.slice Ao24 t194.length co24)) (fun _ hk => hk.2) (.slice Ao25 t197.length co25)) (fun _ hk => hk.2) (.slice Ao26 t200.length co26)) (fun _ hk => trivial)⟩, ⟨by (with_reducible repeat (first | apply Kd.R_alloc | apply Kd.R_drewN | apply Kd.R_drew)); exact Kd.R_mono (Kd.R_far (p := ⟨gb204, 4, none⟩) (Kd.R_far (p := ⟨gb204, 3, none⟩) (Kd.R_far (p := ⟨gb204, 2, none⟩) (Kd.R_far (p := ⟨gb204, 1, none⟩) (Kd.R_far (p := ⟨gb204, 0, none⟩) (Kd.R_far (p := ⟨gb203, 4, none⟩) (Kd.R_far (p := ⟨gb203, 3, none⟩) (Kd.R_far (p := ⟨gb203, 2, none⟩) (Kd.R_far (p := ⟨gb203, 1, none⟩) (Kd.R_far (p := ⟨gb203, 0, none⟩) (Kd.R_types (Kd.R_types HO189.out BK203.out (by decide)) BK204.out (by decide)) (fun _ hk => hk.1.2) (.slice Ao13 t175.length co13)) (fun _ hk => hk.1.2) (.slice Ao17 t178.length co17)) (fun _ hk => hk.1.2) (.slice Ao18 t181.length co18)) (fun _ hk => hk.1.2) (.slice Ao19 t184.length co19)) (fun _ hk => hk.1.2) (.slice Ao20 t187.length co20)) (fun _ hk => hk.2) (.int .i64 t190)) (fun _ hk => hk.2) (.slice Ao23 t191.length co23)) (fun _ hk => hk.2) (.slice Ao24 t194.length co24)) (fun _ hk => hk.2) (.slice Ao25 t197.length co25)) (fun _ hk => hk.2) (.slice Ao26 t200.length co26)) (fun _ hk => hk.1.1)⟩, ⟨by (with_reducible repeat (first | apply Kd.R_alloc | apply Kd.R_drewN | apply Kd.R_drew)); exact Kd.R_mono (Kd.R_far (p := ⟨gb204, 4, none⟩) (Kd.R_far (p := ⟨gb204, 3, none⟩) (Kd.R_far (p := ⟨gb204, 2, none⟩) (Kd.R_far (p := ⟨gb204, 1, none⟩) (Kd.R_far (p := ⟨gb204, 0, none⟩) (Kd.R_far (p := ⟨gb203, 4, none⟩) (Kd.R_far (p := ⟨gb203, 3, none⟩) (Kd.R_far (p := ⟨gb203, 2, none⟩) (Kd.R_far (p := ⟨gb203, 1, none⟩) (Kd.R_far (p := ⟨gb203, 0, none⟩) (Kd.R_types (Kd.R_types HO193.out BK203.out (by decide)) BK204.out (by decide)) (fun _ hk => hk.1.2) (.slice Ao13 t175.length co13)) (fun _ hk => hk.1.2) (.slice Ao17 t178.length co17)) (fun _ hk => hk.1.2) (.slice Ao18 t181.length co18)) (fun _ hk => hk.1.2) (.slice Ao19 t184.length co19)) (fun _ hk => hk.1.2) (.slice Ao20 t187.length co20)) (fun _ hk => hk.2) (.int .i64 t190)) (fun _ hk => hk.2) (.slice Ao23 t191.length co23)) (fun _ hk => hk.2) (.slice Ao24 t194.length co24)) (fun _ hk => hk.2) (.slice Ao25 t197.length co25)) (fun _ hk => hk.2) (.slice Ao26 t200.length co26)) (fun _ hk => trivial)⟩, ⟨by (with_reducible repeat (first | apply Kd.R_alloc | apply Kd.R_drewN | apply Kd.R_drew)); exact Kd.R_mono (Kd.R_far (p := ⟨gb204, 4, none⟩) (Kd.R_far (p := ⟨gb204, 3, none⟩) (Kd.R_far (p := ⟨gb204, 2, none⟩) (Kd.R_far (p := ⟨gb204, 1, none⟩) (Kd.R_far (p := ⟨gb204, 0, none⟩) (Kd.R_far (p := ⟨gb203, 4, none⟩) (Kd.R_far (p := ⟨gb203, 3, none⟩) (Kd.R_far (p := ⟨gb203, 2, none⟩) (Kd.R_far (p := ⟨gb203, 1, none⟩) (Kd.R_far (p := ⟨gb203, 0, none⟩) (Kd.R_types (Kd.R_types HO196.out BK203.out (by decide)) BK204.out (by decide)) (fun _ hk => hk.1.2) (.slice Ao13 t175.length co13)) (fun _ hk => hk.1.2) (.slice Ao17 t178.length co17)) (fun _ hk => hk.1.2) (.slice Ao18 t181.length co18)) (fun _ hk => hk.1.2) (.slice Ao19 t184.length co19)) (fun _ hk => hk.1.2) (.slice Ao20 t187.length co20)) (fun _ hk => hk.2) (.int .i64 t190)) (fun _ hk => hk.2) (.slice Ao23 t191.length co23)) (fun _ hk => hk.2) (.slice Ao24 t194.length co24)) (fun _ hk => hk.2) (.slice Ao25 t197.length co25)) (fun _ hk => hk.2) (.slice Ao26 t200.length co26)) (fun _ hk => trivial)⟩, ⟨by (with_reducible repeat (first | apply Kd.R_alloc | apply Kd.R_drewN | apply Kd.R_drew)); exact Kd.R_mono (Kd.R_far (p := ⟨gb204, 4, none⟩) (Kd.R_far (p := ⟨gb204, 3, none⟩) (Kd.R_far (p := ⟨gb204, 2, none⟩) (Kd.R_far (p := ⟨gb204, 1, none⟩) (Kd.R_far (p := ⟨gb204, 0, none⟩) (Kd.R_far (p := ⟨gb203, 4, none⟩) (Kd.R_far (p := ⟨gb203, 3, none⟩) (Kd.R_far (p := ⟨gb203, 2, none⟩) (Kd.R_far (p := ⟨gb203, 1, none⟩) (Kd.R_far (p := ⟨gb203, 0, none⟩) (Kd.R_types (Kd.R_types HO199.out BK203.out (by decide)) BK204.out (by decide)) (fun _ hk => hk.1.2) (.slice Ao13 t175.length co13)) (fun _ hk => hk.1.2) (.slice Ao17 t178.length co17)) (fun _ hk => hk.1.2) (.slice Ao18 t181.length co18)) (fun _ hk => hk.1.2) (.slice Ao19 t184.length co19)) (fun _ hk => hk.1.2) (.slice Ao20 t187.length co20)) (fun _ hk => hk.2) (.int .i64 t190)) (fun _ hk => hk.2) (.slice Ao23 t191.length co23)) (fun _ hk => hk.2) (.slice Ao24 t194.length co24)) (fun _ hk => hk.2) (.slice Ao25 t197.length co25)) (fun _ hk => hk.2) (.slice Ao26 t200.length co26)) (fun _ hk => trivial)⟩, ⟨by (with_reducible repeat (first | apply Kd.R_alloc | apply Kd.R_drewN | apply Kd.R_drew)); exact Kd.R_mono (Kd.R_far (p := ⟨gb204, 4, none⟩) (Kd.R_far (p := ⟨gb204, 3, none⟩) (Kd.R_far (p := ⟨gb204, 2, none⟩) (Kd.R_far (p := ⟨gb204, 1, none⟩) (Kd.R_far (p := ⟨gb204, 0, none⟩) (Kd.R_far (p := ⟨gb203, 4, none⟩) (Kd.R_far (p := ⟨gb203, 3, none⟩) (Kd.R_far (p := ⟨gb203, 2, none⟩) (Kd.R_far (p := ⟨gb203, 1, none⟩) (Kd.R_far (p := ⟨gb203, 0, none⟩) (Kd.R_types (Kd.R_types HO202.out BK203.out (by decide)) BK204.out (by decide)) (fun _ hk => hk.1.2) (.slice Ao13 t175.length co13)) (fun _ hk => hk.1.2) (.slice Ao17 t178.length co17)) (fun _ hk => hk.1.2) (.slice Ao18 t181.length co18)) (fun _ hk => hk.1.2) (.slice Ao19 t184.length co19)) (fun _ hk => hk.1.2) (.slice Ao20 t187.length co20)) (fun _ hk => hk.2) (.int .i64 t190)) (fun _ hk => hk.2) (.slice Ao23 t191.length co23)) (fun _ hk => hk.2) (.slice Ao24 t194.length co24)) (fun _ hk => hk.2) (.slice Ao25 t197.length co25)) (fun _ hk => hk.2) (.slice Ao26 t200.length co26)) (fun _ hk => trivial)⟩, ⟨by (with_reducible repeat (first | refine blk_drewN ?_ _ | refine blk_drew ?_ | refine blk_alloc ?_ _)); refine blk_far ?_ NB173_204.out _; (with_reducible repeat (first | refine blk_drewN ?_ _ | refine blk_drew ?_ | refine blk_alloc ?_ _)); refine blk_far ?_ NB173_204.out _; (with_reducible repeat (first | refine blk_drewN ?_ _ | refine blk_drew ?_ | refine blk_alloc ?_ _)); refine blk_far ?_ NB173_204.out _; (with_reducible repeat (first | refine blk_drewN ?_ _ | refine blk_drew ?_ | refine blk_alloc ?_ _)); refine blk_far ?_ NB173_204.out _; (with_reducible repeat (first | refine blk_drewN ?_ _ | refine blk_drew ?_ | refine blk_alloc ?_ _)); refine blk_far ?_ NB173_204.out _; (with_reducible repeat (first | refine blk_drewN ?_ _ | refine blk_drew ?_ | refine blk_alloc ?_ _)); refine blk_far ?_ NB173_203.out _; (with_reducible repeat (first | refine blk_drewN ?_ _ | refine blk_drew ?_ | refine blk_alloc ?_ _)); refine blk_far ?_ NB173_203.out _; (with_reducible repeat (first | refine blk_drewN ?_ _ | refine blk_drew ?_ | refine blk_alloc ?_ _)); refine blk_far ?_ NB173_203.out _; (with_reducible repeat (first | refine blk_drewN ?_ _ | refine blk_drew ?_ | refine blk_alloc ?_ _)); refine blk_far ?_ NB173_203.out _; (with_reducible repeat (first | refine blk_drewN ?_ _ | refine blk_drew ?_ | refine blk_alloc ?_ _)); refine blk_far ?_ NB173_203.out _; (with_reducible repeat (first | refine blk_drewN ?_ _ | refine blk_drew ?_ | refine blk_alloc ?_ _)); exact BK173.out⟩, ⟨by (with_reducible repeat (first | refine blk_drewN ?_ _ | refine blk_drew ?_ | refine blk_alloc ?_ _)); refine blk_far ?_ NB203_204.out _; (with_reducible repeat (first | refine blk_drewN ?_ _ | refine blk_drew ?_ | refine blk_alloc ?_ _)); refine blk_far ?_ NB203_204.out _; (with_reducible repeat (first | refine blk_drewN ?_ _ | refine blk_drew ?_ | refine blk_alloc ?_ _)); refine blk_far ?_ NB203_204.out _; (with_reducible repeat (first | refine blk_drewN ?_ _ | refine blk_drew ?_ | refine blk_alloc ?_ _)); refine blk_far ?_ NB203_204.out _; (with_reducible repeat (first | refine blk_drewN ?_ _ | refine blk_drew ?_ | refine blk_alloc ?_ _)); refine blk_far ?_ NB203_204.out _; (with_reducible repeat (first | refine blk_drewN ?_ _ | refine blk_drew ?_ | refine blk_alloc ?_ _)); refine blk_put (cs := #[.slice Ao13 t175.length co13, .slice Ao17 t178.length co17, .slice Ao18 t181.length co18, .slice Ao19 t184.length co19, .slice none 0 0]) ?_ 4 _ rfl; (with_reducible repeat (first | refine blk_drewN ?_ _ | refine blk_drew ?_ | refine blk_alloc ?_ _)); refine blk_put (cs := #[.slice Ao13 t175.length co13, .slice Ao17 t178.length co17, .slice Ao18 t181.length co18, .slice none 0 0, .slice none 0 0]) ?_ 3 _ rfl; (with_reducible repeat (first | refine blk_drewN ?_ _ | refine blk_drew ?_ | refine blk_alloc ?_ _)); refine blk_put (cs := #[.slice Ao13 t175.length co13, .slice Ao17 t178.length co17, .slice none 0 0, .slice none 0 0, .slice none 0 0]) ?_ 2 _ rfl; (with_reducible repeat (first | refine blk_drewN ?_ _ | refine blk_drew ?_ | refine blk_alloc ?_ _)); refine blk_put (cs := #[.slice Ao13 t175.length co13, .slice none 0 0, .slice none 0 0, .slice none 0 0, .slice none 0 0]) ?_ 1 _ rfl; (with_reducible repeat (first | refine blk_drewN ?_ _ | refine blk_drew ?_ | refine blk_alloc ?_ _)); refine blk_put (cs := #[.slice none 0 0, .slice none 0 0, .slice none 0 0, .slice none 0 0, .slice none 0 0]) ?_ 0 _ rfl; (with_reducible repeat (first | refine blk_drewN ?_ _ | refine blk_drew ?_ | refine blk_alloc ?_ _)); exact BK203.out⟩, ⟨by (with_reducible repeat (first | refine blk_drewN ?_ _ | refine blk_drew ?_ | refine blk_alloc ?_ _)); refine blk_put (cs := #[.int .i64 t190, .slice Ao23 t191.length co23, .slice Ao24 t194.length co24, .slice Ao25 t197.length co25, .slice none 0 0]) ?_ 4 _ rfl; (with_reducible repeat (first | refine blk_drewN ?_ _ | refine blk_drew ?_ | refine blk_alloc ?_ _)); refine blk_put (cs := #[.int .i64 t190, .slice Ao23 t191.length co23, .slice Ao24 t194.length co24, .slice none 0 0, .slice none 0 0]) ?_ 3 _ rfl; (with_reducible repeat (first | refine blk_drewN ?_ _ | refine blk_drew ?_ | refine blk_alloc ?_ _)); refine blk_put (cs := #[.int .i64 t190, .slice Ao23 t191.length co23, .slice none 0 0, .slice none 0 0, .slice none 0 0]) ?_ 2 _ rfl; (with_reducible repeat (first | refine blk_drewN ?_ _ | refine blk_drew ?_ | refine blk_alloc ?_ _)); refine blk_put (cs := #[.int .i64 t190, .slice none 0 0, .slice none 0 0, .slice none 0 0, .slice none 0 0]) ?_ 1 _ rfl; (with_reducible repeat (first | refine blk_drewN ?_ _ | refine blk_drew ?_ | refine blk_alloc ?_ _)); refine blk_put (cs := #[.int .i64 0, .slice none 0 0, .slice none 0 0, .slice none 0 0, .slice none 0 0]) ?_ 0 _ rfl; (with_reducible repeat (first | refine blk_drewN ?_ _ | refine blk_drew ?_ | refine blk_alloc ?_ _)); refine blk_far ?_ NB204_203.out _; (with_reducible repeat (first | refine blk_drewN ?_ _ | refine blk_drew ?_ | refine blk_alloc ?_ _)); refine blk_far ?_ NB204_203.out _; (with_reducible repeat (first | refine blk_drewN ?_ _ | refine blk_drew ?_ | refine blk_alloc ?_ _)); refine blk_far ?_ NB204_203.out _; (with_reducible repeat (first | refine blk_drewN ?_ _ | refine blk_drew ?_ | refine blk_alloc ?_ _)); refine blk_far ?_ NB204_203.out _; (with_reducible repeat (first | refine blk_drewN ?_ _ | refine blk_drew ?_ | refine blk_alloc ?_ _)); refine blk_far ?_ NB204_203.out _; (with_reducible repeat (first | refine blk_drewN ?_ _ | refine blk_drew ?_ | refine blk_alloc ?_ _)); exact BK204.out⟩, ⟨by repeat (first | (with_reducible first | exact HB.out | apply below_alloc | apply pw_below_drewN | apply below_drew1 | refine below_set ?_ GE173.out | refine below_set ?_ GE203.out | refine below_set ?_ GE204.out) | exact HB.out)⟩⟩
      case round =>
        clear H'
        try clear c1
        try clear c2
        try clear p2
        try clear c5
        try clear c5b0
        try clear c5b1
        try clear c6
        try clear c6b0
        try clear c6b1
        try clear c12
        try clear c14
        try clear c15
        try clear c21
        try clear c26
        try clear c27
        try clear hcz16_0
        try clear hcz16_1
        try clear hcz16_2
        try clear hcz16_3
        try clear hcz16_4
        try clear hcz22_0
        try clear hcz22_1
        try clear hcz22_2
        try clear hcz22_3
        try clear hcz22_4
        try clear hcz27_0
        try clear hcz27_1
        try clear hcz27_10
        try clear hcz27_11
        try clear hcz27_12
        try clear hcz27_2
        try clear hcz27_3
        try clear hcz27_4
        try clear hcz27_5
        try clear hcz27_6
        try clear hcz27_7
        try clear hcz27_8
        try clear hcz27_9
        try clear hcz9_0
        try clear hcz9_1
        try clear hcz9_10
        try clear hcz9_11
        try clear hcz9_12
        try clear hcz9_2
        try clear hcz9_3
        try clear hcz9_4
        try clear hcz9_5
        try clear hcz9_6
        try clear hcz9_7
        try clear hcz9_8
        try clear hcz9_9
        try clear hfz16_0
        try clear hfz16_1
        try clear hfz16_2
        try clear hfz16_3
        try clear hfz16_4
        try clear hfz22_0
        try clear hfz22_1
        try clear hfz22_2
        try clear hfz22_3
        try clear hfz22_4
        try clear hfz27_0
        try clear hfz27_1
        try clear hfz27_10
        try clear hfz27_11
        try clear hfz27_12
        try clear hfz27_2
        try clear hfz27_3
        try clear hfz27_4
        try clear hfz27_5
        try clear hfz27_6
        try clear hfz27_7
        try clear hfz27_8
        try clear hfz27_9
        try clear hfz9_0
        try clear hfz9_1
        try clear hfz9_10
        try clear hfz9_11
        try clear hfz9_12
        try clear hfz9_2
        try clear hfz9_3
        try clear hfz9_4
        try clear hfz9_5
        try clear hfz9_6
        try clear hfz9_7
        try clear hfz9_8
        try clear hfz9_9
        obtain ⟨x7_1, x8_1, rfl, rfl, HA, HK1, HO_204000, HO_204001, HO_204002, HO_204003, HO_204004, HO_205001, HO_205002, HO_205003, HO_205004, BK173, BK203, BK204, HB⟩ := hrel
        cases gk with
        | zero => exact absurd HA.out (by simp [proofmarklaw27_LiftParts.l0])
        | succ k1 =>
          have H := HA.out
          clear HA
          simp only [proofmarklaw27_LiftParts.l0] at H
          by_cases c29 : x8_1 < ((l0_11.take ((ji4) : Int).toNat).length : Int)
          · rw [if_pos c29] at H
            have c29b0 : decide (x8_1 < ((l0_11.take ((ji4) : Int).toNat).length : Int)) = true := decide_eq_true c29
            have c29b0m := c29b0; rw [HLM.out] at c29b0m
            clear c29
            by_cases c30 : 0 ≤ x8_1
            · rw [if_pos c30] at H
              have c30b0 := eq_true c30
              have c30b1 : decide (0 ≤ x8_1) = true := decide_eq_true c30
              clear c30
              by_cases c31 : x8_1 ≤ (wrap64 (x8_1 + 1))
              · rw [if_pos c31] at H
                have c31b0 := eq_true c31
                have c31b1 : decide (x8_1 ≤ (wrap64 (x8_1 + 1))) = true := decide_eq_true c31
                by_cases c32 : (wrap64 (x8_1 + 1)) ≤ ((l0_11.take ((ji4) : Int).toNat).length : Int)
                · rw [if_pos c32] at H
                  have c32b0 := eq_true c32
                  have c32b0m := c32b0; rw [HLM.out] at c32b0m
                  have c32b1 : decide ((wrap64 (x8_1 + 1)) ≤ ((l0_11.take ((ji4) : Int).toNat).length : Int)) = true := decide_eq_true c32
                  have c32b1m := c32b1; rw [HLM.out] at c32b1m
                  replace H := Option.bind_eq_some_iff.mp H
                  obtain ⟨t208, A330, H⟩ := H
                  replace H : ((lift_Clause.f t175 t178 t181 t184 t187 t190 t191 t194 t197 t200 (([wrap64 (-(rd (l0_11.take ((ji4) : Int).toNat) x8_1))] : List Int))).bind fun t213 => (if ((t208.toList == ([] : List UInt8)) != (t213.toList == ([] : List UInt8))) = true then (proofmarklaw27_LiftParts.j1 k1 t174 (l0_11.take ((ji4) : Int).toNat) x7_1 x8_1 t208 true t175 t178 t181 t184 t187 t190 t191 t194 t197 t200) else (if t208.toList = ([] : List UInt8) then (proofmarklaw27_LiftParts.j1 k1 t174 (l0_11.take ((ji4) : Int).toNat) x7_1 x8_1 t208 false t175 t178 t181 t184 t187 t190 t191 t194 t197 t200) else (if (rd (l0_11.take ((ji4) : Int).toNat) x8_1) > 0 then (if 1 + t208.size ≤ 9223372036854775807 then (proofmarklaw27_LiftParts.j1 k1 t174 (l0_11.take ((ji4) : Int).toNat) x7_1 x8_1 t208 (t213.toList != ((⟨#[126]⟩ : ByteArray) ++ t208).toList) t175 t178 t181 t184 t187 t190 t191 t194 t197 t200) else (none)) else (proofmarklaw27_LiftParts.j1 k1 t174 (l0_11.take ((ji4) : Int).toNat) x7_1 x8_1 t208 false t175 t178 t181 t184 t187 t190 t191 t194 t197 t200))))) = some r := H
                  have A33 := Aside0.mk A330
                  clear A330
                  obtain ⟨y210, hy210⟩ : ∃ y_ : List Int, y_ = (([wrap64 (-(rd (l0_11.take ((ji4) : Int).toNat) x8_1))] : List Int)) := ⟨_, rfl⟩
                  replace H : ((lift_Clause.f t175 t178 t181 t184 t187 t190 t191 t194 t197 t200 y210).bind fun t213 => (if ((t208.toList == ([] : List UInt8)) != (t213.toList == ([] : List UInt8))) = true then (proofmarklaw27_LiftParts.j1 k1 t174 (l0_11.take ((ji4) : Int).toNat) x7_1 x8_1 t208 true t175 t178 t181 t184 t187 t190 t191 t194 t197 t200) else (if t208.toList = ([] : List UInt8) then (proofmarklaw27_LiftParts.j1 k1 t174 (l0_11.take ((ji4) : Int).toNat) x7_1 x8_1 t208 false t175 t178 t181 t184 t187 t190 t191 t194 t197 t200) else (if (rd (l0_11.take ((ji4) : Int).toNat) x8_1) > 0 then (if 1 + t208.size ≤ 9223372036854775807 then (proofmarklaw27_LiftParts.j1 k1 t174 (l0_11.take ((ji4) : Int).toNat) x7_1 x8_1 t208 (t213.toList != ((⟨#[126]⟩ : ByteArray) ++ t208).toList) t175 t178 t181 t184 t187 t190 t191 t194 t197 t200) else (none)) else (proofmarklaw27_LiftParts.j1 k1 t174 (l0_11.take ((ji4) : Int).toNat) x7_1 x8_1 t208 false t175 t178 t181 t184 t187 t190 t191 t194 t197 t200))))) = some r := by first | (rw [hy210]; with_reducible exact H) | (have H2_ := (Option.bind_some _ _).symm.trans H; rw [hy210]; with_reducible exact H2_) | (have H2_ := (Option.bind_some _ _).symm.trans H; with_reducible exact H2_) | with_reducible exact H | (rw [hy210]; exact H) | exact H
                  have Ny210 := Aside0.mk hy210
                  clear hy210
                  replace H := Option.bind_eq_some_iff.mp H
                  obtain ⟨t213, A340, H⟩ := H
                  replace H : (if ((t208.toList == ([] : List UInt8)) != (t213.toList == ([] : List UInt8))) = true then (proofmarklaw27_LiftParts.j1 k1 t174 (l0_11.take ((ji4) : Int).toNat) x7_1 x8_1 t208 true t175 t178 t181 t184 t187 t190 t191 t194 t197 t200) else (if t208.toList = ([] : List UInt8) then (proofmarklaw27_LiftParts.j1 k1 t174 (l0_11.take ((ji4) : Int).toNat) x7_1 x8_1 t208 false t175 t178 t181 t184 t187 t190 t191 t194 t197 t200) else (if (rd (l0_11.take ((ji4) : Int).toNat) x8_1) > 0 then (if 1 + t208.size ≤ 9223372036854775807 then (proofmarklaw27_LiftParts.j1 k1 t174 (l0_11.take ((ji4) : Int).toNat) x7_1 x8_1 t208 (t213.toList != ((⟨#[126]⟩ : ByteArray) ++ t208).toList) t175 t178 t181 t184 t187 t190 t191 t194 t197 t200) else (none)) else (proofmarklaw27_LiftParts.j1 k1 t174 (l0_11.take ((ji4) : Int).toNat) x7_1 x8_1 t208 false t175 t178 t181 t184 t187 t190 t191 t194 t197 t200)))) = some r := H
                  have A34 := Aside0.mk A340
                  clear A340
                  have HC35 := Aside0.mk H
                  clear H
                  try go_wp2
                  have n0_ := Aside0.mk (Kd.R_drew HO_204000.out)
                  have n1_ := Aside0.mk (Kd.R_drew HO_204001.out)
                  have n2_ := Aside0.mk (Kd.R_drew HO_204002.out)
                  have n3_ := Aside0.mk (Kd.R_drew HO_204003.out)
                  have n4_ := Aside0.mk (Kd.R_drew HO_204004.out)
                  have n5_ := Aside0.mk (Kd.R_drew HO_205001.out)
                  have n6_ := Aside0.mk (Kd.R_drew HO_205002.out)
                  have n7_ := Aside0.mk (Kd.R_drew HO_205003.out)
                  have n8_ := Aside0.mk (Kd.R_drew HO_205004.out)
                  have n9_ := Aside0.mk (blk_drew BK173.out)
                  have n10_ := Aside0.mk (blk_drew BK203.out)
                  have n11_ := Aside0.mk (blk_drew BK204.out)
                  have n12_ := Aside0.mk (below_drew1 HB.out)
                  clear HO_204000
                  clear HO_204001
                  clear HO_204002
                  clear HO_204003
                  clear HO_204004
                  clear HO_205001
                  clear HO_205002
                  clear HO_205003
                  clear HO_205004
                  clear BK173
                  clear BK203
                  clear BK204
                  clear HB
                  have HO_204000 := n0_
                  have HO_204001 := n1_
                  have HO_204002 := n2_
                  have HO_204003 := n3_
                  have HO_204004 := n4_
                  have HO_205001 := n5_
                  have HO_205002 := n6_
                  have HO_205003 := n7_
                  have HO_205004 := n8_
                  have BK173 := n9_
                  have BK203 := n10_
                  have BK204 := n11_
                  have HB := n12_
                  clear n0_ n1_ n2_ n3_ n4_ n5_ n6_ n7_ n8_ n9_ n10_ n11_ n12_
                  obtain ⟨i037, hi037, _, hsz37, _⟩ := info_parts info3
                  obtain ⟨A37, hcut37, hA37, hC37⟩ := print_mid_of (P := Tryd.prog) (Value.int .i64) 0 55 3 .i64 .i64 Tryd.underlying55 hi037 hsz37 A0_11 c0_11 (l0_11.take ((ji4) : Int).toNat) x8_1 (wrap64 (x8_1 + 1)) (of_decide_eq_true (by first | (with_reducible assumption) | assumption)) (by first | omega | exact of_decide_eq_true (by first | (with_reducible assumption) | assumption)) (of_decide_eq_true (by first | (with_reducible assumption) | assumption)) HC205.out
                  rw [HLJ.out] at hcut37
                  have HR207 := Aside0.mk (Kd.C_of_reads (h1 := fun _ => rfl) (hA37 _ (Kd.reads_of_C HR205.out)))
                  have HC207 := Aside0.mk hC37
                  clear hA37 hC37 hi037 hsz37
                  refine start_ (n := 9) (S := fun w' => w'.cell? ⟨gb203, 0, none⟩ = some (.slice Ao13 t175.length co13) ∧ w'.cell? ⟨gb203, 1, none⟩ = some (.slice Ao17 t178.length co17) ∧ w'.cell? ⟨gb203, 2, none⟩ = some (.slice Ao18 t181.length co18) ∧ w'.cell? ⟨gb203, 3, none⟩ = some (.slice Ao19 t184.length co19) ∧ w'.cell? ⟨gb203, 4, none⟩ = some (.slice Ao20 t187.length co20) ∧ w'.cell? ⟨gb204, 0, none⟩ = some (.int .i64 t190) ∧ w'.cell? ⟨gb204, 1, none⟩ = some (.slice Ao23 t191.length co23) ∧ w'.cell? ⟨gb204, 2, none⟩ = some (.slice Ao24 t194.length co24) ∧ w'.cell? ⟨gb204, 3, none⟩ = some (.slice Ao25 t197.length co25) ∧ w'.cell? ⟨gb204, 4, none⟩ = some (.slice Ao26 t200.length co26)) (ds := []) #[false, false, false, false, false, false, false, false, false] (by kernel_rfl) rfl rfl ⟨(blk_cell BK203.out 0).trans rfl, (blk_cell BK203.out 1).trans rfl, (blk_cell BK203.out 2).trans rfl, (blk_cell BK203.out 3).trans rfl, (blk_cell BK203.out 4).trans rfl, (blk_cell BK204.out 0).trans rfl, (blk_cell BK204.out 1).trans rfl, (blk_cell BK204.out 2).trans rfl, (blk_cell BK204.out 3).trans rfl, (blk_cell BK204.out 4).trans rfl⟩ (fun hHeld => ?_); refine with_tabW proofmarklaw27_LiftParts.tab8 proofmarklaw27_LiftParts.bits8 (fun HT_ HW_ => ?_)
                  generalize wr.drew = w36 at HO_204000 HO_204001 HO_204002 HO_204003 HO_204004 HO_205001 HO_205002 HO_205003 HO_205004 BK173 BK203 BK204 HB HR207 hHeld ⊢
                  refine pure_ (i := 2) (N := some 32) (v := ?_) (a' := ?_) #[false, false, true, false, false, false, false, false, false] rfl rfl (any_of HT_.out (by kernel_rfl)) (fun _ _ _ h => h) (Or.inl ⟨by rfl, ?_⟩) ?_ ?_
                  rotate_left
                  · intro w'
                    go_simp
                    with_reducible rfl
                  rotate_left
                  · simp only [Act.put, List.setIfInBounds_toArray, List.set_cons_zero, List.set_cons_succ, i64_w, i32_w]
                    rfl
                  refine pure_ (i := 3) (N := some 33) (v := ?_) (a' := ?_) #[false, false, true, true, false, false, false, false, false] rfl rfl (any_of HT_.out (by kernel_rfl)) (fun _ _ _ h => h) (Or.inl ⟨by rfl, ?_⟩) ?_ ?_
                  rotate_left
                  · intro w'
                    go_simp
                    with_reducible rfl
                  rotate_left
                  · simp only [Act.put, List.setIfInBounds_toArray, List.set_cons_zero, List.set_cons_succ, i64_w, i32_w]
                    rfl
                  refine pure_ (i := 4) (N := some 34) (v := ?_) (a' := ?_) #[false, false, true, true, true, false, false, false, false] rfl rfl (any_of HT_.out (by kernel_rfl)) (fun _ _ _ h => h) (Or.inl ⟨by rfl, ?_⟩) ?_ ?_
                  rotate_left
                  · intro w'
                    go_simp
                    with_reducible rfl
                  rotate_left
                  · simp only [Act.put, List.setIfInBounds_toArray, List.set_cons_zero, List.set_cons_succ, i64_w, i32_w]
                    rfl
                  refine pure_ (i := 5) (N := some 35) (v := ?_) (a' := ?_) #[false, false, true, true, true, true, false, false, false] rfl rfl (any_of HT_.out (by kernel_rfl)) (fun _ _ _ h => h) (Or.inl ⟨by rfl, ?_⟩) ?_ ?_
                  rotate_left
                  · intro w'
                    go_simp
                    with_reducible rfl
                  rotate_left
                  · simp only [Act.put, List.setIfInBounds_toArray, List.set_cons_zero, List.set_cons_succ, i64_w, i32_w]
                    rfl
                  refine pure_ (i := 6) (N := some 36) (v := ?_) (a' := ?_) #[false, false, true, true, true, true, true, false, false] rfl rfl (any_of HT_.out (by kernel_rfl)) (fun _ _ _ h => h) (Or.inl ⟨by rfl, ?_⟩) ?_ ?_
                  rotate_left
                  · intro w'
                    go_simp
                    with_reducible rfl
                  rotate_left
                  · simp only [Act.put, List.setIfInBounds_toArray, List.set_cons_zero, List.set_cons_succ, i64_w, i32_w]
                    rfl
                  refine take_ (i := 0) (N := some 30) (v := ?_) (a' := ?_) #[true, false, true, true, true, true, true, false, false] rfl rfl (take_ofW HT_.out HW_.out (by kernel_rfl)) (fun _ _ _ h => h) (Or.inl ⟨by rfl, ?_⟩) hHeld ?_ ?_
                  rotate_left
                  · rintro w' ⟨s0, s1, s2, s3, s4, s5, s6, s7, s8, s9⟩
                    go_simp
                    with_reducible rfl
                  rotate_left
                  · simp only [Act.put, List.setIfInBounds_toArray, List.set_cons_zero, List.set_cons_succ, i64_w, i32_w]
                    rfl
                  refine take_ (i := 1) (N := some 31) (v := ?_) (a' := ?_) #[true, true, true, true, true, true, true, false, false] rfl rfl (take_ofW HT_.out HW_.out (by kernel_rfl)) (fun _ _ _ h => h) (Or.inl ⟨by rfl, ?_⟩) hHeld ?_ ?_
                  rotate_left
                  · rintro w' ⟨s0, s1, s2, s3, s4, s5, s6, s7, s8, s9⟩
                    go_simp
                    with_reducible rfl
                  rotate_left
                  · simp only [Act.put, List.setIfInBounds_toArray, List.set_cons_zero, List.set_cons_succ, i64_w, i32_w]
                    rfl
                  refine one_ (i := 7) (N := some 37) #[true, true, true, true, true, true, true, true, false] rfl rfl (one_of HT_.out (by kernel_rfl)) (by decide) (fun K hK => ?_)
                  refine goes_ Tryd.func24 (by kernel_rfl) rfl #[.agg #[.slice Ao13 t175.length co13, .slice Ao17 t178.length co17, .slice Ao18 t181.length co18, .slice Ao19 t184.length co19, .slice Ao20 t187.length co20], .agg #[.int .i64 t190, .slice Ao23 t191.length co23, .slice Ao24 t194.length co24, .slice Ao25 t197.length co25, .slice Ao26 t200.length co26], .slice A37 (((l0_11.take ((ji4) : Int).toNat).take ((wrap64 (x8_1 + 1)) : Int).toNat).drop (x8_1 : Int).toNat).length (c0_11 - x8_1.toNat)] (by rfl) rfl rfl (by (try simp only [List.map_toArray, List.map_cons, List.map_nil]); first | done | (rw [show (((l0_11.take ((ji4) : Int).toNat).take ((wrap64 (x8_1 + 1)) : Int).toNat).drop (x8_1 : Int).toNat).length = ((wrap64 (x8_1 + 1)).toNat - x8_1.toNat) from (by rw [List.length_drop, List.length_take]; have h_ : ((wrap64 (x8_1 + 1)) : Int) ≤ ((l0_11.take ((ji4) : Int).toNat).length : Int) := of_decide_eq_true (by first | (with_reducible assumption) | assumption); omega)] <;> rfl) | (simp only [hji4]; rfl) | rfl | (simp only [List.length_drop, List.length_take]; rfl)) ?_
                  with_reducible refine (lift_Clause.calls _ _ t175 _ _ t178 _ _ t181 _ _ t184 _ _ t187 t190 _ _ t191 _ _ t194 _ _ t197 _ _ t200 _ _ (((l0_11.take ((ji4) : Int).toNat).take ((wrap64 (x8_1 + 1)) : Int).toNat).drop (x8_1 : Int).toNat) t208 _ (by first | exact HG.out | (refine tab_below HG.out ?_; repeat (first | (with_reducible first | exact HB.out | apply below_alloc | apply pw_below_drewN | apply below_drew1 | refine below_set ?_ GE173.out | refine below_set ?_ GE203.out | refine below_set ?_ GE204.out) | exact HB.out)) | (refine tab_drawn HG.out ?_; repeat (first | exact Drawn0.refl _ | apply drawn_drewN | apply drawn_drew))) ?side1 ?side2 ?side3 ?side4 ?side5 ?side6 ?side7 ?side8 ?side9 ?side10 ?side11 ?side12 ?side13 ?side14 ?side15 ?side16 ?side17 ?side18 ?side19 ?side20 A33.out).mono ?_
                  (case side1 => repeat (first | exact (Kd.R_reads' HO_204000.out).2.2 | (with_reducible refine Kd.C_alloc ?_ _) | (with_reducible refine Kd.C_drewN ?_ _) | (with_reducible refine Kd.C_drew ?_)))
                  (case side2 => exact (Kd.R_reads' HO_204000.out).2.1)
                  (case side3 => repeat (first | exact (Kd.R_reads' HO_204001.out).2.2 | (with_reducible refine Kd.C_alloc ?_ _) | (with_reducible refine Kd.C_drewN ?_ _) | (with_reducible refine Kd.C_drew ?_)))
                  (case side4 => exact (Kd.R_reads' HO_204001.out).2.1)
                  (case side5 => repeat (first | exact (Kd.R_reads' HO_204002.out).2.2 | (with_reducible refine Kd.C_alloc ?_ _) | (with_reducible refine Kd.C_drewN ?_ _) | (with_reducible refine Kd.C_drew ?_)))
                  (case side6 => exact (Kd.R_reads' HO_204002.out).2.1)
                  (case side7 => repeat (first | exact (Kd.R_reads' HO_204003.out).2.2 | (with_reducible refine Kd.C_alloc ?_ _) | (with_reducible refine Kd.C_drewN ?_ _) | (with_reducible refine Kd.C_drew ?_)))
                  (case side8 => exact (Kd.R_reads' HO_204003.out).2.1)
                  (case side9 => repeat (first | exact (Kd.R_reads' HO_204004.out).2.2 | (with_reducible refine Kd.C_alloc ?_ _) | (with_reducible refine Kd.C_drewN ?_ _) | (with_reducible refine Kd.C_drew ?_)))
                  (case side10 => exact (Kd.R_reads' HO_204004.out).2.1)
                  (case side11 => repeat (first | exact (Kd.R_reads' HO_205001.out).2.2 | (with_reducible refine Kd.C_alloc ?_ _) | (with_reducible refine Kd.C_drewN ?_ _) | (with_reducible refine Kd.C_drew ?_)))
                  (case side12 => exact (Kd.R_reads' HO_205001.out).2.1)
                  (case side13 => repeat (first | exact (Kd.R_reads' HO_205002.out).2.2 | (with_reducible refine Kd.C_alloc ?_ _) | (with_reducible refine Kd.C_drewN ?_ _) | (with_reducible refine Kd.C_drew ?_)))
                  (case side14 => exact (Kd.R_reads' HO_205002.out).2.1)
                  (case side15 => repeat (first | exact (Kd.R_reads' HO_205003.out).2.2 | (with_reducible refine Kd.C_alloc ?_ _) | (with_reducible refine Kd.C_drewN ?_ _) | (with_reducible refine Kd.C_drew ?_)))
                  (case side16 => exact (Kd.R_reads' HO_205003.out).2.1)
                  (case side17 => repeat (first | exact (Kd.R_reads' HO_205004.out).2.2 | (with_reducible refine Kd.C_alloc ?_ _) | (with_reducible refine Kd.C_drewN ?_ _) | (with_reducible refine Kd.C_drew ?_)))
                  (case side18 => exact (Kd.R_reads' HO_205004.out).2.1)
                  (case side19 => repeat (first | exact (Kd.C_below HR207.out HB.out) | (with_reducible refine Kd.C_alloc ?_ _) | (with_reducible refine Kd.C_drewN ?_ _) | (with_reducible refine Kd.C_drew ?_)))
                  (case side20 => exact HC207.out)
                  rintro e w38 ⟨rfl, hb⟩
                  refine ⟨_, rfl, ?_⟩
                  have n0_ := Aside0.mk (Kd.R_below (by (with_reducible repeat (first | apply Kd.R_alloc | apply Kd.R_drewN | apply Kd.R_drew)); exact HO_204000.out) hb)
                  have n1_ := Aside0.mk (Kd.R_below (by (with_reducible repeat (first | apply Kd.R_alloc | apply Kd.R_drewN | apply Kd.R_drew)); exact HO_204001.out) hb)
                  have n2_ := Aside0.mk (Kd.R_below (by (with_reducible repeat (first | apply Kd.R_alloc | apply Kd.R_drewN | apply Kd.R_drew)); exact HO_204002.out) hb)
                  have n3_ := Aside0.mk (Kd.R_below (by (with_reducible repeat (first | apply Kd.R_alloc | apply Kd.R_drewN | apply Kd.R_drew)); exact HO_204003.out) hb)
                  have n4_ := Aside0.mk (Kd.R_below (by (with_reducible repeat (first | apply Kd.R_alloc | apply Kd.R_drewN | apply Kd.R_drew)); exact HO_204004.out) hb)
                  have n5_ := Aside0.mk (Kd.R_below (by (with_reducible repeat (first | apply Kd.R_alloc | apply Kd.R_drewN | apply Kd.R_drew)); exact HO_205001.out) hb)
                  have n6_ := Aside0.mk (Kd.R_below (by (with_reducible repeat (first | apply Kd.R_alloc | apply Kd.R_drewN | apply Kd.R_drew)); exact HO_205002.out) hb)
                  have n7_ := Aside0.mk (Kd.R_below (by (with_reducible repeat (first | apply Kd.R_alloc | apply Kd.R_drewN | apply Kd.R_drew)); exact HO_205003.out) hb)
                  have n8_ := Aside0.mk (Kd.R_below (by (with_reducible repeat (first | apply Kd.R_alloc | apply Kd.R_drewN | apply Kd.R_drew)); exact HO_205004.out) hb)
                  have n9_ := Aside0.mk (blk_below (g := gb173) (o := .cells #[.slice A0_0 l0_0.length c0_0, .slice A0_1 l0_1.length c0_1, .slice A0_2 l0_2.length c0_2, .slice A0_3 l0_3.length c0_3, .slice A0_4 l0_4.length c0_4, .int .i64 a0_5, .slice A0_6 l0_6.length c0_6, .slice A0_7 l0_7.length c0_7, .slice A0_8 l0_8.length c0_8, .slice A0_9 l0_9.length c0_9, .slice A0_10 l0_10.length c0_10, .slice A0_11 l0_11.length c0_11, .string a0_12] 61 (0, 0)) (by (with_reducible repeat (first | refine blk_drewN ?_ _ | refine blk_drew ?_ | refine blk_alloc ?_ _)); exact BK173.out) hb)
                  have n10_ := Aside0.mk (blk_below (g := gb203) (o := .cells #[.slice Ao13 t175.length co13, .slice Ao17 t178.length co17, .slice Ao18 t181.length co18, .slice Ao19 t184.length co19, .slice Ao20 t187.length co20] 27 (0, 0)) (by (with_reducible repeat (first | refine blk_drewN ?_ _ | refine blk_drew ?_ | refine blk_alloc ?_ _)); exact BK203.out) hb)
                  have n11_ := Aside0.mk (blk_below (g := gb204) (o := .cells #[.int .i64 t190, .slice Ao23 t191.length co23, .slice Ao24 t194.length co24, .slice Ao25 t197.length co25, .slice Ao26 t200.length co26] 53 (0, 0)) (by (with_reducible repeat (first | refine blk_drewN ?_ _ | refine blk_drew ?_ | refine blk_alloc ?_ _)); exact BK204.out) hb)
                  have n12_ := Aside0.mk (below_step (by repeat (first | (with_reducible first | exact HB.out | apply below_alloc | apply pw_below_drewN | apply below_drew1 | refine below_set ?_ GE173.out | refine below_set ?_ GE203.out | refine below_set ?_ GE204.out) | exact HB.out)) hb)
                  clear HO_204000
                  clear HO_204001
                  clear HO_204002
                  clear HO_204003
                  clear HO_204004
                  clear HO_205001
                  clear HO_205002
                  clear HO_205003
                  clear HO_205004
                  clear BK173
                  clear BK203
                  clear BK204
                  clear HB
                  have HO_204000 := n0_
                  have HO_204001 := n1_
                  have HO_204002 := n2_
                  have HO_204003 := n3_
                  have HO_204004 := n4_
                  have HO_205001 := n5_
                  have HO_205002 := n6_
                  have HO_205003 := n7_
                  have HO_205004 := n8_
                  have BK173 := n9_
                  have BK203 := n10_
                  have BK204 := n11_
                  have HB := n12_
                  clear n0_ n1_ n2_ n3_ n4_ n5_ n6_ n7_ n8_ n9_ n10_ n11_ n12_
                  (try clear hb)
                  (try clear hb2)
                  (try clear hk)
                  (try clear hi)
                  refine hK.out _ _ ⟨(blk_cell BK203.out 0).trans rfl, (blk_cell BK203.out 1).trans rfl, (blk_cell BK203.out 2).trans rfl, (blk_cell BK203.out 3).trans rfl, (blk_cell BK203.out 4).trans rfl, (blk_cell BK204.out 0).trans rfl, (blk_cell BK204.out 1).trans rfl, (blk_cell BK204.out 2).trans rfl, (blk_cell BK204.out 3).trans rfl, (blk_cell BK204.out 4).trans rfl⟩ (fun hHeld => ?_)
                  clear hK K
                  refine norm_ (a' := ?_) ?_ ?_
                  rotate_left
                  · show Act.put _ (some 37) _ = _
                    simp only [Act.put, List.setIfInBounds_toArray, List.set_cons_zero, List.set_cons_succ, i64_w, i32_w]
                    rfl
                  refine pure_ (i := 8) (N := some 9) (v := ?_) (a' := ?_) #[true, true, true, true, true, true, true, true, true] rfl rfl (any_of HT_.out (by kernel_rfl)) (fun _ _ _ h => h) (Or.inl ⟨by rfl, ?_⟩) ?_ ?_
                  rotate_left
                  · intro w'
                    go_simp
                    with_reducible rfl
                  rotate_left
                  · simp only [Act.put, List.setIfInBounds_toArray, List.set_cons_zero, List.set_cons_succ, i64_w, i32_w]
                    rfl
                  refine done_ (done_of HT_.out (by kernel_rfl)) ?_
                  try go_wp2
                  have n0_ := Aside0.mk (Kd.R_drew HO_204000.out)
                  have n1_ := Aside0.mk (Kd.R_drew HO_204001.out)
                  have n2_ := Aside0.mk (Kd.R_drew HO_204002.out)
                  have n3_ := Aside0.mk (Kd.R_drew HO_204003.out)
                  have n4_ := Aside0.mk (Kd.R_drew HO_204004.out)
                  have n5_ := Aside0.mk (Kd.R_drew HO_205001.out)
                  have n6_ := Aside0.mk (Kd.R_drew HO_205002.out)
                  have n7_ := Aside0.mk (Kd.R_drew HO_205003.out)
                  have n8_ := Aside0.mk (Kd.R_drew HO_205004.out)
                  have n9_ := Aside0.mk (blk_drew BK173.out)
                  have n10_ := Aside0.mk (blk_drew BK203.out)
                  have n11_ := Aside0.mk (blk_drew BK204.out)
                  have n12_ := Aside0.mk (below_drew1 HB.out)
                  clear HO_204000
                  clear HO_204001
                  clear HO_204002
                  clear HO_204003
                  clear HO_204004
                  clear HO_205001
                  clear HO_205002
                  clear HO_205003
                  clear HO_205004
                  clear BK173
                  clear BK203
                  clear BK204
                  clear HB
                  have HO_204000 := n0_
                  have HO_204001 := n1_
                  have HO_204002 := n2_
                  have HO_204003 := n3_
                  have HO_204004 := n4_
                  have HO_205001 := n5_
                  have HO_205002 := n6_
                  have HO_205003 := n7_
                  have HO_205004 := n8_
                  have BK173 := n9_
                  have BK203 := n10_
                  have BK204 := n11_
                  have HB := n12_
                  clear n0_ n1_ n2_ n3_ n4_ n5_ n6_ n7_ n8_ n9_ n10_ n11_ n12_
                  have p209 : 0 ≤ (x8_1 : Int) := of_decide_eq_true (by first | (with_reducible assumption) | assumption)
                  have q209 : x8_1 < ((l0_11.take ((ji4) : Int).toNat).length : Int) := of_decide_eq_true (by first | (with_reducible assumption) | assumption)
                  have q209m := q209; rw [HLM.out] at q209m
                  obtain ⟨ad209, e209, hx209_0⟩ := Kd.at_int HR205.out x8_1 p209 q209
                  have hw209_0 := hx209_0
                  cases e209
                  replace hx209_0 := (HB.out.cell (World.block_lt_of_cell? w _ hx209_0)).trans hx209_0
                  replace p209 := eq_true p209
                  replace q209 := eq_true q209
                  refine start_ (n := 10) (S := fun w' => w'.cell? ⟨gb203, 0, none⟩ = some (.slice Ao13 t175.length co13) ∧ w'.cell? ⟨gb203, 1, none⟩ = some (.slice Ao17 t178.length co17) ∧ w'.cell? ⟨gb203, 2, none⟩ = some (.slice Ao18 t181.length co18) ∧ w'.cell? ⟨gb203, 3, none⟩ = some (.slice Ao19 t184.length co19) ∧ w'.cell? ⟨gb203, 4, none⟩ = some (.slice Ao20 t187.length co20) ∧ w'.cell? ⟨gb204, 0, none⟩ = some (.int .i64 t190) ∧ w'.cell? ⟨gb204, 1, none⟩ = some (.slice Ao23 t191.length co23) ∧ w'.cell? ⟨gb204, 2, none⟩ = some (.slice Ao24 t194.length co24) ∧ w'.cell? ⟨gb204, 3, none⟩ = some (.slice Ao25 t197.length co25) ∧ w'.cell? ⟨gb204, 4, none⟩ = some (.slice Ao26 t200.length co26) ∧ w'.cell? (ad209.add (x8_1).toNat) = some (.int .i64 (rd (l0_11.take ((ji4) : Int).toNat) x8_1))) (ds := []) #[false, false, false, false, false, false, false, false, false, false] (by kernel_rfl) rfl rfl ⟨(blk_cell BK203.out 0).trans rfl, (blk_cell BK203.out 1).trans rfl, (blk_cell BK203.out 2).trans rfl, (blk_cell BK203.out 3).trans rfl, (blk_cell BK203.out 4).trans rfl, (blk_cell BK204.out 0).trans rfl, (blk_cell BK204.out 1).trans rfl, (blk_cell BK204.out 2).trans rfl, (blk_cell BK204.out 3).trans rfl, (blk_cell BK204.out 4).trans rfl, ((HB.out.cell (World.block_lt_of_cell? w _ hw209_0)).trans hw209_0)⟩ (fun hHeld => ?_); refine with_tabW proofmarklaw27_LiftParts.tab9 proofmarklaw27_LiftParts.bits9 (fun HT_ HW_ => ?_)
                  generalize w38.drew = w39 at HO_204000 HO_204001 HO_204002 HO_204003 HO_204004 HO_205001 HO_205002 HO_205003 HO_205004 BK173 BK203 BK204 HB hx209_0 hHeld ⊢
                  refine pure_ (i := 2) (N := some 40) (v := ?_) (a' := ?_) #[false, false, true, false, false, false, false, false, false, false] rfl rfl (any_of HT_.out (by kernel_rfl)) (fun _ _ _ h => h) (Or.inl ⟨by rfl, ?_⟩) ?_ ?_
                  rotate_left
                  · intro w'
                    go_simp
                    with_reducible rfl
                  rotate_left
                  · simp only [Act.put, List.setIfInBounds_toArray, List.set_cons_zero, List.set_cons_succ, i64_w, i32_w]
                    rfl
                  refine pure_ (i := 3) (N := some 41) (v := ?_) (a' := ?_) #[false, false, true, true, false, false, false, false, false, false] rfl rfl (any_of HT_.out (by kernel_rfl)) (fun _ _ _ h => h) (Or.inl ⟨by rfl, ?_⟩) ?_ ?_
                  rotate_left
                  · intro w'
                    go_simp
                    with_reducible rfl
                  rotate_left
                  · simp only [Act.put, List.setIfInBounds_toArray, List.set_cons_zero, List.set_cons_succ, i64_w, i32_w]
                    rfl
                  refine pure_ (i := 4) (N := some 42) (v := ?_) (a' := ?_) #[false, false, true, true, true, false, false, false, false, false] rfl rfl (any_of HT_.out (by kernel_rfl)) (fun _ _ _ h => h) (Or.inl ⟨by rfl, ?_⟩) ?_ ?_
                  rotate_left
                  · intro w'
                    go_simp
                    with_reducible rfl
                  rotate_left
                  · simp only [Act.put, List.setIfInBounds_toArray, List.set_cons_zero, List.set_cons_succ, i64_w, i32_w]
                    rfl
                  refine take_ (i := 0) (N := some 38) (v := ?_) (a' := ?_) #[true, false, true, true, true, false, false, false, false, false] rfl rfl (take_ofW HT_.out HW_.out (by kernel_rfl)) (fun _ _ _ h => h) (Or.inl ⟨by rfl, ?_⟩) hHeld ?_ ?_
                  rotate_left
                  · rintro w' ⟨s0, s1, s2, s3, s4, s5, s6, s7, s8, s9, s10⟩
                    go_simp
                    with_reducible rfl
                  rotate_left
                  · simp only [Act.put, List.setIfInBounds_toArray, List.set_cons_zero, List.set_cons_succ, i64_w, i32_w]
                    rfl
                  refine take_ (i := 1) (N := some 39) (v := ?_) (a' := ?_) #[true, true, true, true, true, false, false, false, false, false] rfl rfl (take_ofW HT_.out HW_.out (by kernel_rfl)) (fun _ _ _ h => h) (Or.inl ⟨by rfl, ?_⟩) hHeld ?_ ?_
                  rotate_left
                  · rintro w' ⟨s0, s1, s2, s3, s4, s5, s6, s7, s8, s9, s10⟩
                    go_simp
                    with_reducible rfl
                  rotate_left
                  · simp only [Act.put, List.setIfInBounds_toArray, List.set_cons_zero, List.set_cons_succ, i64_w, i32_w]
                    rfl
                  refine take_ (i := 5) (N := some 43) (v := ?_) (a' := ?_) #[true, true, true, true, true, true, false, false, false, false] rfl rfl (take_ofW HT_.out HW_.out (by kernel_rfl)) (fun _ _ _ h => h) (Or.inl ⟨by rfl, ?_⟩) hHeld ?_ ?_
                  rotate_left
                  · rintro w' ⟨s0, s1, s2, s3, s4, s5, s6, s7, s8, s9, s10⟩
                    go_simp
                    with_reducible rfl
                  rotate_left
                  · simp only [Act.put, List.setIfInBounds_toArray, List.set_cons_zero, List.set_cons_succ, i64_w, i32_w]
                    rfl
                  refine pure_ (i := 6) (N := some 44) (v := ?_) (a' := ?_) #[true, true, true, true, true, true, true, false, false, false] rfl rfl (any_of HT_.out (by kernel_rfl)) (fun _ _ _ h => h) (Or.inl ⟨by rfl, ?_⟩) ?_ ?_
                  rotate_left
                  · intro w'
                    go_simp
                    with_reducible rfl
                  rotate_left
                  · simp only [Act.put, List.setIfInBounds_toArray, List.set_cons_zero, List.set_cons_succ, i64_w, i32_w]
                    rfl
                  refine one_ (i := 7) (N := some 45) #[true, true, true, true, true, true, true, true, false, false] rfl rfl (one_of HT_.out (by kernel_rfl)) (by decide) (fun K hK => ?_)
                  refine Kd.R_lit_step (Kd.int .i64) _ 3 ?hg (N := 45) ?hd (xs := ([wrap64 (-(rd (l0_11.take ((ji4) : Int).toNat) x8_1))] : List Int)) (inner := [.int .i64 (wrap64 (-(rd (l0_11.take ((ji4) : Int).toNat) x8_1)))]) (ok := fun _ => True) (okp := fun _ => True) ?hr ?hp (fun _ hk => hk) trivial (Below.refl _ _) (Nat.le_refl _) (by simp) ?_; (case hd => rfl); (case hg => rfl); (case hr => first | (go_simp; done) | (go_simp; rfl)); (case hp => exact (Reps.one (show Kd.M (Kd.int .i64) _ _ _ (wrap64 (-(rd (l0_11.take ((ji4) : Int).toNat) x8_1))) [.int .i64 (wrap64 (-(rd (l0_11.take ((ji4) : Int).toNat) x8_1)))] from rfl) (Reps.none _ _)))
                  intro v211 w40 ho41 hb hg_ hnew_
                  clear hg_ hnew_
                  (first | rw [← Ny210.out] at ho41 | (simp only [Int.reduceToNat] at ho41; rw [← Ny210.out] at ho41))
                  have n0_ := Aside0.mk (Kd.R_below (by (with_reducible repeat (first | apply Kd.R_alloc | apply Kd.R_drewN | apply Kd.R_drew)); exact HO_204000.out) hb)
                  have n1_ := Aside0.mk (Kd.R_below (by (with_reducible repeat (first | apply Kd.R_alloc | apply Kd.R_drewN | apply Kd.R_drew)); exact HO_204001.out) hb)
                  have n2_ := Aside0.mk (Kd.R_below (by (with_reducible repeat (first | apply Kd.R_alloc | apply Kd.R_drewN | apply Kd.R_drew)); exact HO_204002.out) hb)
                  have n3_ := Aside0.mk (Kd.R_below (by (with_reducible repeat (first | apply Kd.R_alloc | apply Kd.R_drewN | apply Kd.R_drew)); exact HO_204003.out) hb)
                  have n4_ := Aside0.mk (Kd.R_below (by (with_reducible repeat (first | apply Kd.R_alloc | apply Kd.R_drewN | apply Kd.R_drew)); exact HO_204004.out) hb)
                  have n5_ := Aside0.mk (Kd.R_below (by (with_reducible repeat (first | apply Kd.R_alloc | apply Kd.R_drewN | apply Kd.R_drew)); exact HO_205001.out) hb)
                  have n6_ := Aside0.mk (Kd.R_below (by (with_reducible repeat (first | apply Kd.R_alloc | apply Kd.R_drewN | apply Kd.R_drew)); exact HO_205002.out) hb)
                  have n7_ := Aside0.mk (Kd.R_below (by (with_reducible repeat (first | apply Kd.R_alloc | apply Kd.R_drewN | apply Kd.R_drew)); exact HO_205003.out) hb)
                  have n8_ := Aside0.mk (Kd.R_below (by (with_reducible repeat (first | apply Kd.R_alloc | apply Kd.R_drewN | apply Kd.R_drew)); exact HO_205004.out) hb)
                  have n9_ := Aside0.mk (Kd.R_lower ho41 (below_size (by repeat (first | (with_reducible first | exact HB.out | apply below_alloc | apply pw_below_drewN | apply below_drew1 | refine below_set ?_ GE173.out | refine below_set ?_ GE203.out | refine below_set ?_ GE204.out) | exact HB.out))))
                  have n10_ := Aside0.mk (blk_below (g := gb173) (o := .cells #[.slice A0_0 l0_0.length c0_0, .slice A0_1 l0_1.length c0_1, .slice A0_2 l0_2.length c0_2, .slice A0_3 l0_3.length c0_3, .slice A0_4 l0_4.length c0_4, .int .i64 a0_5, .slice A0_6 l0_6.length c0_6, .slice A0_7 l0_7.length c0_7, .slice A0_8 l0_8.length c0_8, .slice A0_9 l0_9.length c0_9, .slice A0_10 l0_10.length c0_10, .slice (some ad209) l0_11.length c0_11, .string a0_12] 61 (0, 0)) (by (with_reducible repeat (first | refine blk_drewN ?_ _ | refine blk_drew ?_ | refine blk_alloc ?_ _)); exact BK173.out) hb)
                  have n11_ := Aside0.mk (blk_below (g := gb203) (o := .cells #[.slice Ao13 t175.length co13, .slice Ao17 t178.length co17, .slice Ao18 t181.length co18, .slice Ao19 t184.length co19, .slice Ao20 t187.length co20] 27 (0, 0)) (by (with_reducible repeat (first | refine blk_drewN ?_ _ | refine blk_drew ?_ | refine blk_alloc ?_ _)); exact BK203.out) hb)
                  have n12_ := Aside0.mk (blk_below (g := gb204) (o := .cells #[.int .i64 t190, .slice Ao23 t191.length co23, .slice Ao24 t194.length co24, .slice Ao25 t197.length co25, .slice Ao26 t200.length co26] 53 (0, 0)) (by (with_reducible repeat (first | refine blk_drewN ?_ _ | refine blk_drew ?_ | refine blk_alloc ?_ _)); exact BK204.out) hb)
                  have n13_ := Aside0.mk (below_step (by repeat (first | (with_reducible first | exact HB.out | apply below_alloc | apply pw_below_drewN | apply below_drew1 | refine below_set ?_ GE173.out | refine below_set ?_ GE203.out | refine below_set ?_ GE204.out) | exact HB.out)) hb)
                  clear HO_204000
                  clear HO_204001
                  clear HO_204002
                  clear HO_204003
                  clear HO_204004
                  clear HO_205001
                  clear HO_205002
                  clear HO_205003
                  clear HO_205004
                  clear BK173
                  clear BK203
                  clear BK204
                  clear HB
                  have HO_204000 := n0_
                  have HO_204001 := n1_
                  have HO_204002 := n2_
                  have HO_204003 := n3_
                  have HO_204004 := n4_
                  have HO_205001 := n5_
                  have HO_205002 := n6_
                  have HO_205003 := n7_
                  have HO_205004 := n8_
                  have HO212 := n9_
                  have BK173 := n10_
                  have BK203 := n11_
                  have BK204 := n12_
                  have HB := n13_
                  clear n0_ n1_ n2_ n3_ n4_ n5_ n6_ n7_ n8_ n9_ n10_ n11_ n12_ n13_
                  clear hb ho41
                  obtain ⟨Ao42, co42, eo42⟩ := Kd.R_slice HO212.out
                  (first | subst eo42 | (injection eo42 with f1_ f2_ f3_; have f4_ := f1_.symm; have f5_ := f3_.symm; clear f1_ f2_ f3_; subst f4_; subst f5_))
                  refine hK.out _ _ ⟨(blk_cell BK203.out 0).trans rfl, (blk_cell BK203.out 1).trans rfl, (blk_cell BK203.out 2).trans rfl, (blk_cell BK203.out 3).trans rfl, (blk_cell BK203.out 4).trans rfl, (blk_cell BK204.out 0).trans rfl, (blk_cell BK204.out 1).trans rfl, (blk_cell BK204.out 2).trans rfl, (blk_cell BK204.out 3).trans rfl, (blk_cell BK204.out 4).trans rfl, ((HB.out.cell (World.block_lt_of_cell? w _ hw209_0)).trans hw209_0)⟩ (fun hHeld => ?_)
                  clear hK K
                  refine norm_ (a' := ?_) ?_ ?_
                  rotate_left
                  · show Act.put _ (some 45) _ = _
                    simp only [Act.put, List.setIfInBounds_toArray, List.set_cons_zero, List.set_cons_succ, i64_w, i32_w]
                    rfl
                  refine one_ (i := 8) (N := some 46) #[true, true, true, true, true, true, true, true, true, false] rfl rfl (one_of HT_.out (by kernel_rfl)) (by decide) (fun K hK => ?_)
                  refine goes_ Tryd.func24 (by kernel_rfl) rfl #[.agg #[.slice Ao13 t175.length co13, .slice Ao17 t178.length co17, .slice Ao18 t181.length co18, .slice Ao19 t184.length co19, .slice Ao20 t187.length co20], .agg #[.int .i64 t190, .slice Ao23 t191.length co23, .slice Ao24 t194.length co24, .slice Ao25 t197.length co25, .slice Ao26 t200.length co26], .slice Ao42 y210.length co42] (by rfl) rfl rfl (by (try simp only [List.map_toArray, List.map_cons, List.map_nil]); first | done | rfl | (simp only [List.length_drop, List.length_take]; rfl)) ?_
                  with_reducible refine (lift_Clause.calls _ _ t175 _ _ t178 _ _ t181 _ _ t184 _ _ t187 t190 _ _ t191 _ _ t194 _ _ t197 _ _ t200 _ _ y210 t213 _ (by first | exact HG.out | (refine tab_below HG.out ?_; repeat (first | (with_reducible first | exact HB.out | apply below_alloc | apply pw_below_drewN | apply below_drew1 | refine below_set ?_ GE173.out | refine below_set ?_ GE203.out | refine below_set ?_ GE204.out) | exact HB.out)) | (refine tab_drawn HG.out ?_; repeat (first | exact Drawn0.refl _ | apply drawn_drewN | apply drawn_drew))) ?side1 ?side2 ?side3 ?side4 ?side5 ?side6 ?side7 ?side8 ?side9 ?side10 ?side11 ?side12 ?side13 ?side14 ?side15 ?side16 ?side17 ?side18 ?side19 ?side20 A34.out).mono ?_
                  (case side1 => repeat (first | exact (Kd.R_reads' HO_204000.out).2.2 | (with_reducible refine Kd.C_alloc ?_ _) | (with_reducible refine Kd.C_drewN ?_ _) | (with_reducible refine Kd.C_drew ?_)))
                  (case side2 => exact (Kd.R_reads' HO_204000.out).2.1)
                  (case side3 => repeat (first | exact (Kd.R_reads' HO_204001.out).2.2 | (with_reducible refine Kd.C_alloc ?_ _) | (with_reducible refine Kd.C_drewN ?_ _) | (with_reducible refine Kd.C_drew ?_)))
                  (case side4 => exact (Kd.R_reads' HO_204001.out).2.1)
                  (case side5 => repeat (first | exact (Kd.R_reads' HO_204002.out).2.2 | (with_reducible refine Kd.C_alloc ?_ _) | (with_reducible refine Kd.C_drewN ?_ _) | (with_reducible refine Kd.C_drew ?_)))
                  (case side6 => exact (Kd.R_reads' HO_204002.out).2.1)
                  (case side7 => repeat (first | exact (Kd.R_reads' HO_204003.out).2.2 | (with_reducible refine Kd.C_alloc ?_ _) | (with_reducible refine Kd.C_drewN ?_ _) | (with_reducible refine Kd.C_drew ?_)))
                  (case side8 => exact (Kd.R_reads' HO_204003.out).2.1)
                  (case side9 => repeat (first | exact (Kd.R_reads' HO_204004.out).2.2 | (with_reducible refine Kd.C_alloc ?_ _) | (with_reducible refine Kd.C_drewN ?_ _) | (with_reducible refine Kd.C_drew ?_)))
                  (case side10 => exact (Kd.R_reads' HO_204004.out).2.1)
                  (case side11 => repeat (first | exact (Kd.R_reads' HO_205001.out).2.2 | (with_reducible refine Kd.C_alloc ?_ _) | (with_reducible refine Kd.C_drewN ?_ _) | (with_reducible refine Kd.C_drew ?_)))
                  (case side12 => exact (Kd.R_reads' HO_205001.out).2.1)
                  (case side13 => repeat (first | exact (Kd.R_reads' HO_205002.out).2.2 | (with_reducible refine Kd.C_alloc ?_ _) | (with_reducible refine Kd.C_drewN ?_ _) | (with_reducible refine Kd.C_drew ?_)))
                  (case side14 => exact (Kd.R_reads' HO_205002.out).2.1)
                  (case side15 => repeat (first | exact (Kd.R_reads' HO_205003.out).2.2 | (with_reducible refine Kd.C_alloc ?_ _) | (with_reducible refine Kd.C_drewN ?_ _) | (with_reducible refine Kd.C_drew ?_)))
                  (case side16 => exact (Kd.R_reads' HO_205003.out).2.1)
                  (case side17 => repeat (first | exact (Kd.R_reads' HO_205004.out).2.2 | (with_reducible refine Kd.C_alloc ?_ _) | (with_reducible refine Kd.C_drewN ?_ _) | (with_reducible refine Kd.C_drew ?_)))
                  (case side18 => exact (Kd.R_reads' HO_205004.out).2.1)
                  (case side19 => repeat (first | exact (Kd.R_reads' HO212.out).2.2 | (with_reducible refine Kd.C_alloc ?_ _) | (with_reducible refine Kd.C_drewN ?_ _) | (with_reducible refine Kd.C_drew ?_)))
                  (case side20 => exact (Kd.R_reads' HO212.out).2.1)
                  rintro e w43 ⟨rfl, hb⟩
                  refine ⟨_, rfl, ?_⟩
                  have n0_ := Aside0.mk (Kd.R_below (by (with_reducible repeat (first | apply Kd.R_alloc | apply Kd.R_drewN | apply Kd.R_drew)); exact HO_204000.out) hb)
                  have n1_ := Aside0.mk (Kd.R_below (by (with_reducible repeat (first | apply Kd.R_alloc | apply Kd.R_drewN | apply Kd.R_drew)); exact HO_204001.out) hb)
                  have n2_ := Aside0.mk (Kd.R_below (by (with_reducible repeat (first | apply Kd.R_alloc | apply Kd.R_drewN | apply Kd.R_drew)); exact HO_204002.out) hb)
                  have n3_ := Aside0.mk (Kd.R_below (by (with_reducible repeat (first | apply Kd.R_alloc | apply Kd.R_drewN | apply Kd.R_drew)); exact HO_204003.out) hb)
                  have n4_ := Aside0.mk (Kd.R_below (by (with_reducible repeat (first | apply Kd.R_alloc | apply Kd.R_drewN | apply Kd.R_drew)); exact HO_204004.out) hb)
                  have n5_ := Aside0.mk (Kd.R_below (by (with_reducible repeat (first | apply Kd.R_alloc | apply Kd.R_drewN | apply Kd.R_drew)); exact HO_205001.out) hb)
                  have n6_ := Aside0.mk (Kd.R_below (by (with_reducible repeat (first | apply Kd.R_alloc | apply Kd.R_drewN | apply Kd.R_drew)); exact HO_205002.out) hb)
                  have n7_ := Aside0.mk (Kd.R_below (by (with_reducible repeat (first | apply Kd.R_alloc | apply Kd.R_drewN | apply Kd.R_drew)); exact HO_205003.out) hb)
                  have n8_ := Aside0.mk (Kd.R_below (by (with_reducible repeat (first | apply Kd.R_alloc | apply Kd.R_drewN | apply Kd.R_drew)); exact HO_205004.out) hb)
                  have n9_ := Aside0.mk (Kd.R_below (by (with_reducible repeat (first | apply Kd.R_alloc | apply Kd.R_drewN | apply Kd.R_drew)); exact HO212.out) hb)
                  have n10_ := Aside0.mk (blk_below (g := gb173) (o := .cells #[.slice A0_0 l0_0.length c0_0, .slice A0_1 l0_1.length c0_1, .slice A0_2 l0_2.length c0_2, .slice A0_3 l0_3.length c0_3, .slice A0_4 l0_4.length c0_4, .int .i64 a0_5, .slice A0_6 l0_6.length c0_6, .slice A0_7 l0_7.length c0_7, .slice A0_8 l0_8.length c0_8, .slice A0_9 l0_9.length c0_9, .slice A0_10 l0_10.length c0_10, .slice (some ad209) l0_11.length c0_11, .string a0_12] 61 (0, 0)) (by (with_reducible repeat (first | refine blk_drewN ?_ _ | refine blk_drew ?_ | refine blk_alloc ?_ _)); exact BK173.out) hb)
                  have n11_ := Aside0.mk (blk_below (g := gb203) (o := .cells #[.slice Ao13 t175.length co13, .slice Ao17 t178.length co17, .slice Ao18 t181.length co18, .slice Ao19 t184.length co19, .slice Ao20 t187.length co20] 27 (0, 0)) (by (with_reducible repeat (first | refine blk_drewN ?_ _ | refine blk_drew ?_ | refine blk_alloc ?_ _)); exact BK203.out) hb)
                  have n12_ := Aside0.mk (blk_below (g := gb204) (o := .cells #[.int .i64 t190, .slice Ao23 t191.length co23, .slice Ao24 t194.length co24, .slice Ao25 t197.length co25, .slice Ao26 t200.length co26] 53 (0, 0)) (by (with_reducible repeat (first | refine blk_drewN ?_ _ | refine blk_drew ?_ | refine blk_alloc ?_ _)); exact BK204.out) hb)
                  have n13_ := Aside0.mk (below_step (by repeat (first | (with_reducible first | exact HB.out | apply below_alloc | apply pw_below_drewN | apply below_drew1 | refine below_set ?_ GE173.out | refine below_set ?_ GE203.out | refine below_set ?_ GE204.out) | exact HB.out)) hb)
                  clear HO_204000
                  clear HO_204001
                  clear HO_204002
                  clear HO_204003
                  clear HO_204004
                  clear HO_205001
                  clear HO_205002
                  clear HO_205003
                  clear HO_205004
                  clear HO212
                  clear BK173
                  clear BK203
                  clear BK204
                  clear HB
                  have HO_204000 := n0_
                  have HO_204001 := n1_
                  have HO_204002 := n2_
                  have HO_204003 := n3_
                  have HO_204004 := n4_
                  have HO_205001 := n5_
                  have HO_205002 := n6_
                  have HO_205003 := n7_
                  have HO_205004 := n8_
                  have HO212 := n9_
                  have BK173 := n10_
                  have BK203 := n11_
                  have BK204 := n12_
                  have HB := n13_
                  clear n0_ n1_ n2_ n3_ n4_ n5_ n6_ n7_ n8_ n9_ n10_ n11_ n12_ n13_
                  (try clear hb)
                  (try clear hb2)
                  (try clear hk)
                  (try clear hi)
                  refine hK.out _ _ ⟨(blk_cell BK203.out 0).trans rfl, (blk_cell BK203.out 1).trans rfl, (blk_cell BK203.out 2).trans rfl, (blk_cell BK203.out 3).trans rfl, (blk_cell BK203.out 4).trans rfl, (blk_cell BK204.out 0).trans rfl, (blk_cell BK204.out 1).trans rfl, (blk_cell BK204.out 2).trans rfl, (blk_cell BK204.out 3).trans rfl, (blk_cell BK204.out 4).trans rfl, ((HB.out.cell (World.block_lt_of_cell? w _ hw209_0)).trans hw209_0)⟩ (fun hHeld => ?_)
                  clear hK K
                  refine norm_ (a' := ?_) ?_ ?_
                  rotate_left
                  · show Act.put _ (some 46) _ = _
                    simp only [Act.put, List.setIfInBounds_toArray, List.set_cons_zero, List.set_cons_succ, i64_w, i32_w]
                    rfl
                  refine pure_ (i := 9) (N := some 10) (v := ?_) (a' := ?_) #[true, true, true, true, true, true, true, true, true, true] rfl rfl (any_of HT_.out (by kernel_rfl)) (fun _ _ _ h => h) (Or.inl ⟨by rfl, ?_⟩) ?_ ?_
                  rotate_left
                  · intro w'
                    go_simp
                    with_reducible rfl
                  rotate_left
                  · simp only [Act.put, List.setIfInBounds_toArray, List.set_cons_zero, List.set_cons_succ, i64_w, i32_w]
                    rfl
                  refine done_ (done_of HT_.out (by kernel_rfl)) ?_
                  go_upto_region 10 with (fail)
                  go_cut [68] (fun v68 wc => ∃ (kq : Nat) (x68_34 : Bool), v68 = .bool x68_34 ∧ Aside0 (proofmarklaw27_LiftParts.j1 kq t174 (l0_11.take ((ji4) : Int).toNat) x7_1 x8_1 t208 x68_34 t175 t178 t181 t184 t187 t190 t191 t194 t197 t200 = some r) ∧ Aside0 (kq ≤ k1) ∧ Aside0 (Kd.R k96 96 wc w.heap.size (fun _ => True) (.slice Ao13 t175.length co13) t175) ∧ Aside0 (Kd.R k111 111 wc w.heap.size (fun k_ => some k_ ≠ ((.slice Ao20 t187.length co20) : Value).ownBlock) (.slice Ao17 t178.length co17) t178) ∧ Aside0 (Kd.R k94 94 wc w.heap.size (fun _ => True) (.slice Ao18 t181.length co18) t181) ∧ Aside0 (Kd.R k73 73 wc w.heap.size (fun _ => True) (.slice Ao19 t184.length co19) t184) ∧ Aside0 (Kd.R k111 111 wc w.heap.size (fun k_ => some k_ ≠ ((.slice Ao17 t178.length co17) : Value).ownBlock) (.slice Ao20 t187.length co20) t187) ∧ Aside0 (Kd.R k201 201 wc w.heap.size (fun _ => True) (.slice Ao23 t191.length co23) t191) ∧ Aside0 (Kd.R k202 202 wc w.heap.size (fun _ => True) (.slice Ao24 t194.length co24) t194) ∧ Aside0 (Kd.R k98 98 wc w.heap.size (fun _ => True) (.slice Ao25 t197.length co25) t197) ∧ Aside0 (Kd.R k204 204 wc w.heap.size (fun _ => True) (.slice Ao26 t200.length co26) t200) ∧ Aside0 (wc.heap[gb173]? = some (.cells #[(.slice A0_0 l0_0.length c0_0), (.slice A0_1 l0_1.length c0_1), (.slice A0_2 l0_2.length c0_2), (.slice A0_3 l0_3.length c0_3), (.slice A0_4 l0_4.length c0_4), .int .i64 a0_5, (.slice A0_6 l0_6.length c0_6), (.slice A0_7 l0_7.length c0_7), (.slice A0_8 l0_8.length c0_8), (.slice A0_9 l0_9.length c0_9), (.slice A0_10 l0_10.length c0_10), (.slice (some ad209) l0_11.length c0_11), .string a0_12] 61 (0, 0))) ∧ Aside0 (wc.heap[gb203]? = some (.cells #[(.slice Ao13 t175.length co13), (.slice Ao17 t178.length co17), (.slice Ao18 t181.length co18), (.slice Ao19 t184.length co19), (.slice Ao20 t187.length co20)] 27 (0, 0))) ∧ Aside0 (wc.heap[gb204]? = some (.cells #[.int .i64 t190, (.slice Ao23 t191.length co23), (.slice Ao24 t194.length co24), (.slice Ao25 t197.length co25), (.slice Ao26 t200.length co26)] 53 (0, 0))) ∧ Aside0 (Below w.heap.size w wc))
                  case first =>
                    have H := HC35.out
                    clear HC35
                    by_cases c44 : ((t208.toList == ([] : List UInt8)) != (t213.toList == ([] : List UInt8))) = true
                    · rw [if_pos c44] at H
                      have c44b0 : ((t208.toList == ([] : List UInt8)) != (t213.toList == ([] : List UInt8))) = true := c44
                      (try (have c44b1 : decide ((t208.toList == ([] : List UInt8)) = (t213.toList == ([] : List UInt8))) = false := by simpa using c44))
                      (try (have c44b2 : ((t208.toList == ([] : List UInt8)) == (t213.toList == ([] : List UInt8))) = false := by simpa using c44))
                      (try (have c44b3 : ¬ ((t208.toList == ([] : List UInt8)) = (t213.toList == ([] : List UInt8))) := by simpa using c44))
                      clear c44
                      (first | rw [c44b0] | (simp only [i64_w, i32_w]; rw [c44b0]) | skip)
                      have H' := Aside0.mk H
                      clear H
                      have hz_ : ((t208.toList == ([] : List UInt8)) = true ∧ (t213.toList == ([] : List UInt8)) = false) ∨ ((t208.toList == ([] : List UInt8)) = false ∧ (t213.toList == ([] : List UInt8)) = true) := by revert c44b0; cases (t208.toList == ([] : List UInt8)) <;> cases (t213.toList == ([] : List UInt8)) <;> simp
                      clear c44b0
                      try clear c44b1
                      try clear c44b2
                      try clear c44b3
                      rcases hz_ with ⟨z1_, z2_⟩ | ⟨z1_, z2_⟩
                      · go_wp2
                        go_meet
                        case rel => exact ⟨_, (true), (by first | rfl | (simp; done) | (simp [*]; done)), H', ⟨by have := HK1.out; first | omega | exact Nat.le_refl _⟩, ⟨by (with_reducible repeat (first | apply Kd.R_alloc | apply Kd.R_drewN | apply Kd.R_drew)); exact HO_204000.out⟩, ⟨by (with_reducible repeat (first | apply Kd.R_alloc | apply Kd.R_drewN | apply Kd.R_drew)); exact HO_204001.out⟩, ⟨by (with_reducible repeat (first | apply Kd.R_alloc | apply Kd.R_drewN | apply Kd.R_drew)); exact HO_204002.out⟩, ⟨by (with_reducible repeat (first | apply Kd.R_alloc | apply Kd.R_drewN | apply Kd.R_drew)); exact HO_204003.out⟩, ⟨by (with_reducible repeat (first | apply Kd.R_alloc | apply Kd.R_drewN | apply Kd.R_drew)); exact HO_204004.out⟩, ⟨by (with_reducible repeat (first | apply Kd.R_alloc | apply Kd.R_drewN | apply Kd.R_drew)); exact HO_205001.out⟩, ⟨by (with_reducible repeat (first | apply Kd.R_alloc | apply Kd.R_drewN | apply Kd.R_drew)); exact HO_205002.out⟩, ⟨by (with_reducible repeat (first | apply Kd.R_alloc | apply Kd.R_drewN | apply Kd.R_drew)); exact HO_205003.out⟩, ⟨by (with_reducible repeat (first | apply Kd.R_alloc | apply Kd.R_drewN | apply Kd.R_drew)); exact HO_205004.out⟩, ⟨by (with_reducible repeat (first | refine blk_drewN ?_ _ | refine blk_drew ?_ | refine blk_alloc ?_ _)); exact BK173.out⟩, ⟨by (with_reducible repeat (first | refine blk_drewN ?_ _ | refine blk_drew ?_ | refine blk_alloc ?_ _)); exact BK203.out⟩, ⟨by (with_reducible repeat (first | refine blk_drewN ?_ _ | refine blk_drew ?_ | refine blk_alloc ?_ _)); exact BK204.out⟩, ⟨by repeat (first | (with_reducible first | exact HB.out | apply below_alloc | apply pw_below_drewN | apply below_drew1 | refine below_set ?_ GE173.out | refine below_set ?_ GE203.out | refine below_set ?_ GE204.out) | exact HB.out)⟩⟩
                      · go_wp2
                        go_meet
                        case rel => exact ⟨_, (true), (by first | rfl | (simp; done) | (simp [*]; done)), H', ⟨by have := HK1.out; first | omega | exact Nat.le_refl _⟩, ⟨by (with_reducible repeat (first | apply Kd.R_alloc | apply Kd.R_drewN | apply Kd.R_drew)); exact HO_204000.out⟩, ⟨by (with_reducible repeat (first | apply Kd.R_alloc | apply Kd.R_drewN | apply Kd.R_drew)); exact HO_204001.out⟩, ⟨by (with_reducible repeat (first | apply Kd.R_alloc | apply Kd.R_drewN | apply Kd.R_drew)); exact HO_204002.out⟩, ⟨by (with_reducible repeat (first | apply Kd.R_alloc | apply Kd.R_drewN | apply Kd.R_drew)); exact HO_204003.out⟩, ⟨by (with_reducible repeat (first | apply Kd.R_alloc | apply Kd.R_drewN | apply Kd.R_drew)); exact HO_204004.out⟩, ⟨by (with_reducible repeat (first | apply Kd.R_alloc | apply Kd.R_drewN | apply Kd.R_drew)); exact HO_205001.out⟩, ⟨by (with_reducible repeat (first | apply Kd.R_alloc | apply Kd.R_drewN | apply Kd.R_drew)); exact HO_205002.out⟩, ⟨by (with_reducible repeat (first | apply Kd.R_alloc | apply Kd.R_drewN | apply Kd.R_drew)); exact HO_205003.out⟩, ⟨by (with_reducible repeat (first | apply Kd.R_alloc | apply Kd.R_drewN | apply Kd.R_drew)); exact HO_205004.out⟩, ⟨by (with_reducible repeat (first | refine blk_drewN ?_ _ | refine blk_drew ?_ | refine blk_alloc ?_ _)); exact BK173.out⟩, ⟨by (with_reducible repeat (first | refine blk_drewN ?_ _ | refine blk_drew ?_ | refine blk_alloc ?_ _)); exact BK203.out⟩, ⟨by (with_reducible repeat (first | refine blk_drewN ?_ _ | refine blk_drew ?_ | refine blk_alloc ?_ _)); exact BK204.out⟩, ⟨by repeat (first | (with_reducible first | exact HB.out | apply below_alloc | apply pw_below_drewN | apply below_drew1 | refine below_set ?_ GE173.out | refine below_set ?_ GE203.out | refine below_set ?_ GE204.out) | exact HB.out)⟩⟩
                    · rw [if_neg c44] at H
                      have c44b0 : ((t208.toList == ([] : List UInt8)) != (t213.toList == ([] : List UInt8))) = false := by simpa using c44
                      (try (have c44b1 : decide ((t208.toList == ([] : List UInt8)) = (t213.toList == ([] : List UInt8))) = true := by simpa using c44))
                      (try (have c44b2 : ((t208.toList == ([] : List UInt8)) == (t213.toList == ([] : List UInt8))) = true := by simpa using c44))
                      clear c44
                      (first | rw [c44b0] | (simp only [i64_w, i32_w]; rw [c44b0]) | skip)
                      by_cases c45 : t208.toList = ([] : List UInt8)
                      · rw [if_pos c45] at H
                        have c45b0 : (t208.toList == ([] : List UInt8)) = true := beq_iff_eq.mpr c45
                        have z2_ : (t213.toList == ([] : List UInt8)) = true := by revert c44b0; rw [c45b0]; cases (t213.toList == ([] : List UInt8)) <;> simp
                        try clear c44b0
                        try clear c44b1
                        try clear c44b2
                        try clear c44b3
                        have c45b1 : (t208.toList != ([] : List UInt8)) = false := bne_eq_false_iff_eq.mpr c45
                        clear c45
                        have H' := Aside0.mk H
                        clear H
                        go_wp2
                        go_meet
                        case rel => exact ⟨_, (false), (by first | rfl | (simp; done) | (simp [*]; done)), H', ⟨by have := HK1.out; first | omega | exact Nat.le_refl _⟩, ⟨by (with_reducible repeat (first | apply Kd.R_alloc | apply Kd.R_drewN | apply Kd.R_drew)); exact HO_204000.out⟩, ⟨by (with_reducible repeat (first | apply Kd.R_alloc | apply Kd.R_drewN | apply Kd.R_drew)); exact HO_204001.out⟩, ⟨by (with_reducible repeat (first | apply Kd.R_alloc | apply Kd.R_drewN | apply Kd.R_drew)); exact HO_204002.out⟩, ⟨by (with_reducible repeat (first | apply Kd.R_alloc | apply Kd.R_drewN | apply Kd.R_drew)); exact HO_204003.out⟩, ⟨by (with_reducible repeat (first | apply Kd.R_alloc | apply Kd.R_drewN | apply Kd.R_drew)); exact HO_204004.out⟩, ⟨by (with_reducible repeat (first | apply Kd.R_alloc | apply Kd.R_drewN | apply Kd.R_drew)); exact HO_205001.out⟩, ⟨by (with_reducible repeat (first | apply Kd.R_alloc | apply Kd.R_drewN | apply Kd.R_drew)); exact HO_205002.out⟩, ⟨by (with_reducible repeat (first | apply Kd.R_alloc | apply Kd.R_drewN | apply Kd.R_drew)); exact HO_205003.out⟩, ⟨by (with_reducible repeat (first | apply Kd.R_alloc | apply Kd.R_drewN | apply Kd.R_drew)); exact HO_205004.out⟩, ⟨by (with_reducible repeat (first | refine blk_drewN ?_ _ | refine blk_drew ?_ | refine blk_alloc ?_ _)); exact BK173.out⟩, ⟨by (with_reducible repeat (first | refine blk_drewN ?_ _ | refine blk_drew ?_ | refine blk_alloc ?_ _)); exact BK203.out⟩, ⟨by (with_reducible repeat (first | refine blk_drewN ?_ _ | refine blk_drew ?_ | refine blk_alloc ?_ _)); exact BK204.out⟩, ⟨by repeat (first | (with_reducible first | exact HB.out | apply below_alloc | apply pw_below_drewN | apply below_drew1 | refine below_set ?_ GE173.out | refine below_set ?_ GE203.out | refine below_set ?_ GE204.out) | exact HB.out)⟩⟩
                      · rw [if_neg c45] at H
                        have c45b0 : (t208.toList == ([] : List UInt8)) = false := beq_eq_false_iff_ne.mpr c45
                        have z2_ : (t213.toList == ([] : List UInt8)) = false := by revert c44b0; rw [c45b0]; cases (t213.toList == ([] : List UInt8)) <;> simp
                        try clear c44b0
                        try clear c44b1
                        try clear c44b2
                        try clear c44b3
                        have c45b1 : (t208.toList != ([] : List UInt8)) = true := bne_iff_ne.mpr c45
                        by_cases c46 : (rd (l0_11.take ((ji4) : Int).toNat) x8_1) > 0
                        · rw [if_pos c46] at H
                          have c46b0 : decide (0 < (rd (l0_11.take ((ji4) : Int).toNat) x8_1)) = true := decide_eq_true c46
                          clear c46
                          by_cases c47 : 1 + t208.size ≤ 9223372036854775807
                          · rw [if_pos c47] at H
                            have c47b0 := eq_true c47
                            have c47b1 : decide (1 + t208.size ≤ 9223372036854775807) = true := decide_eq_true c47
                            try have c47b2 : (9223372036854775807 < 1 + t208.size) = False := eq_false (Nat.not_lt.2 c47)
                            have H' := Aside0.mk H
                            clear H
                            have p214 : 0 ≤ (x8_1 : Int) := of_decide_eq_true (by first | (with_reducible assumption) | assumption)
                            have q214 : x8_1 < ((l0_11.take ((ji4) : Int).toNat).length : Int) := of_decide_eq_true (by first | (with_reducible assumption) | assumption)
                            have q214m := q214; rw [HLM.out] at q214m
                            obtain ⟨ad214, e214, hx214_0⟩ := Kd.at_int HR205.out x8_1 p214 q214
                            obtain rfl : ad209 = ad214 := (by injection e214)
                            replace hx214_0 := (HB.out.cell (World.block_lt_of_cell? w _ hx214_0)).trans hx214_0
                            replace p214 := eq_true p214
                            replace q214 := eq_true q214
                            go_wp2
                            go_meet
                            case rel => exact ⟨_, ((t213.toList != ((⟨#[126]⟩ : ByteArray) ++ t208).toList)), (by first | rfl | (simp; done) | (simp [*]; done)), H', ⟨by have := HK1.out; first | omega | exact Nat.le_refl _⟩, ⟨by (with_reducible repeat (first | apply Kd.R_alloc | apply Kd.R_drewN | apply Kd.R_drew)); exact HO_204000.out⟩, ⟨by (with_reducible repeat (first | apply Kd.R_alloc | apply Kd.R_drewN | apply Kd.R_drew)); exact HO_204001.out⟩, ⟨by (with_reducible repeat (first | apply Kd.R_alloc | apply Kd.R_drewN | apply Kd.R_drew)); exact HO_204002.out⟩, ⟨by (with_reducible repeat (first | apply Kd.R_alloc | apply Kd.R_drewN | apply Kd.R_drew)); exact HO_204003.out⟩, ⟨by (with_reducible repeat (first | apply Kd.R_alloc | apply Kd.R_drewN | apply Kd.R_drew)); exact HO_204004.out⟩, ⟨by (with_reducible repeat (first | apply Kd.R_alloc | apply Kd.R_drewN | apply Kd.R_drew)); exact HO_205001.out⟩, ⟨by (with_reducible repeat (first | apply Kd.R_alloc | apply Kd.R_drewN | apply Kd.R_drew)); exact HO_205002.out⟩, ⟨by (with_reducible repeat (first | apply Kd.R_alloc | apply Kd.R_drewN | apply Kd.R_drew)); exact HO_205003.out⟩, ⟨by (with_reducible repeat (first | apply Kd.R_alloc | apply Kd.R_drewN | apply Kd.R_drew)); exact HO_205004.out⟩, ⟨by (with_reducible repeat (first | refine blk_drewN ?_ _ | refine blk_drew ?_ | refine blk_alloc ?_ _)); exact BK173.out⟩, ⟨by (with_reducible repeat (first | refine blk_drewN ?_ _ | refine blk_drew ?_ | refine blk_alloc ?_ _)); exact BK203.out⟩, ⟨by (with_reducible repeat (first | refine blk_drewN ?_ _ | refine blk_drew ?_ | refine blk_alloc ?_ _)); exact BK204.out⟩, ⟨by repeat (first | (with_reducible first | exact HB.out | apply below_alloc | apply pw_below_drewN | apply below_drew1 | refine below_set ?_ GE173.out | refine below_set ?_ GE203.out | refine below_set ?_ GE204.out) | exact HB.out)⟩⟩
                          · rw [if_neg c47] at H
                            exact absurd H (by simp)
                        · rw [if_neg c46] at H
                          have c46b0 : decide (0 < (rd (l0_11.take ((ji4) : Int).toNat) x8_1)) = false := decide_eq_false c46
                          clear c46
                          have H' := Aside0.mk H
                          clear H
                          have p214 : 0 ≤ (x8_1 : Int) := of_decide_eq_true (by first | (with_reducible assumption) | assumption)
                          have q214 : x8_1 < ((l0_11.take ((ji4) : Int).toNat).length : Int) := of_decide_eq_true (by first | (with_reducible assumption) | assumption)
                          have q214m := q214; rw [HLM.out] at q214m
                          obtain ⟨ad214, e214, hx214_0⟩ := Kd.at_int HR205.out x8_1 p214 q214
                          obtain rfl : ad209 = ad214 := (by injection e214)
                          replace hx214_0 := (HB.out.cell (World.block_lt_of_cell? w _ hx214_0)).trans hx214_0
                          replace p214 := eq_true p214
                          replace q214 := eq_true q214
                          go_wp2
                          go_meet
                          case rel => exact ⟨_, (false), (by first | rfl | (simp; done) | (simp [*]; done)), H', ⟨by have := HK1.out; first | omega | exact Nat.le_refl _⟩, ⟨by (with_reducible repeat (first | apply Kd.R_alloc | apply Kd.R_drewN | apply Kd.R_drew)); exact HO_204000.out⟩, ⟨by (with_reducible repeat (first | apply Kd.R_alloc | apply Kd.R_drewN | apply Kd.R_drew)); exact HO_204001.out⟩, ⟨by (with_reducible repeat (first | apply Kd.R_alloc | apply Kd.R_drewN | apply Kd.R_drew)); exact HO_204002.out⟩, ⟨by (with_reducible repeat (first | apply Kd.R_alloc | apply Kd.R_drewN | apply Kd.R_drew)); exact HO_204003.out⟩, ⟨by (with_reducible repeat (first | apply Kd.R_alloc | apply Kd.R_drewN | apply Kd.R_drew)); exact HO_204004.out⟩, ⟨by (with_reducible repeat (first | apply Kd.R_alloc | apply Kd.R_drewN | apply Kd.R_drew)); exact HO_205001.out⟩, ⟨by (with_reducible repeat (first | apply Kd.R_alloc | apply Kd.R_drewN | apply Kd.R_drew)); exact HO_205002.out⟩, ⟨by (with_reducible repeat (first | apply Kd.R_alloc | apply Kd.R_drewN | apply Kd.R_drew)); exact HO_205003.out⟩, ⟨by (with_reducible repeat (first | apply Kd.R_alloc | apply Kd.R_drewN | apply Kd.R_drew)); exact HO_205004.out⟩, ⟨by (with_reducible repeat (first | refine blk_drewN ?_ _ | refine blk_drew ?_ | refine blk_alloc ?_ _)); exact BK173.out⟩, ⟨by (with_reducible repeat (first | refine blk_drewN ?_ _ | refine blk_drew ?_ | refine blk_alloc ?_ _)); exact BK203.out⟩, ⟨by (with_reducible repeat (first | refine blk_drewN ?_ _ | refine blk_drew ?_ | refine blk_alloc ?_ _)); exact BK204.out⟩, ⟨by repeat (first | (with_reducible first | exact HB.out | apply below_alloc | apply pw_below_drewN | apply below_drew1 | refine below_set ?_ GE173.out | refine below_set ?_ GE203.out | refine below_set ?_ GE204.out) | exact HB.out)⟩⟩
                  case rest =>
                    clear HC35
                    try clear c2
                    try clear p2
                    try clear q2
                    try clear hx2
                    try clear c3
                    try clear c4
                    try clear p6
                    try clear p20
                    try clear q20
                    try clear hx20
                    try clear p21
                    try clear q21
                    try clear hx21
                    try clear c24
                    try clear c29
                    try clear c29b0
                    try clear c30
                    try clear c30b0
                    try clear c30b1
                    try clear c31
                    try clear c31b0
                    try clear c31b1
                    try clear c32
                    try clear c32b0
                    try clear c32b1
                    try clear c44
                    try clear c44b0
                    try clear c44b1
                    try clear c44b2
                    try clear c45
                    try clear c45b0
                    try clear c45b1
                    try clear c46
                    try clear c46b0
                    try clear c47
                    try clear c47b0
                    try clear c47b1
                    try clear c47b2
                    try clear hcz9_4
                    try clear hcz9_5
                    try clear hcz9_6
                    try clear hcz9_7
                    try clear hcz9_8
                    try clear hcz9_9
                    try clear hfz16_0
                    try clear hfz16_1
                    try clear hfz16_2
                    try clear hfz16_3
                    try clear hfz16_4
                    try clear hfz22_0
                    try clear hfz22_1
                    try clear hfz22_2
                    try clear hfz22_3
                    try clear hfz22_4
                    try clear hfz27_0
                    try clear hfz27_1
                    try clear hfz27_10
                    try clear hfz27_11
                    try clear hfz27_12
                    try clear hfz27_2
                    try clear hfz27_3
                    try clear hfz27_4
                    try clear hfz27_5
                    try clear hfz27_6
                    try clear hfz27_7
                    try clear hfz27_8
                    try clear hfz27_9
                    try clear hfz9_0
                    try clear hfz9_1
                    try clear hfz9_10
                    try clear hfz9_11
                    try clear hfz9_12
                    try clear hfz9_2
                    try clear hfz9_3
                    try clear hfz9_4
                    try clear hfz9_5
                    try clear hfz9_6
                    try clear hfz9_7
                    try clear hfz9_8
                    try clear hfz9_9
                    try clear hx209_0
                    try clear hx214_0
                    try clear p209
                    try clear p214
                    try clear q209
                    try clear q214
                    obtain ⟨kq, x68_34, rfl, HA, HJ34, HO_204000, HO_204001, HO_204002, HO_204003, HO_204004, HO_205001, HO_205002, HO_205003, HO_205004, BK173, BK203, BK204, HB⟩ := hcut
                    cases kq with
                    | zero => exact absurd HA.out (by simp [proofmarklaw27_LiftParts.j1])
                    | succ kj34 =>
                      have H := HA.out
                      clear HA
                      simp only [proofmarklaw27_LiftParts.j1] at H
                      by_cases c48 : x68_34 = true
                      · subst c48
                        have H1 : (some false) = some r := by rw [if_pos rfl] at H; exact H
                        exact absurd (Option.some.inj H1) (by rw [HRT.out]; decide)
                      · replace c48 := Bool.eq_false_iff.mpr c48
                        subst c48
                        have H1 : (if t208.toList = ([] : List UInt8) then (if t174 = true then ((lift_Clause.f t175 t178 t181 t184 t187 t190 t191 t194 t197 t200 (l0_11.take ((ji4) : Int).toNat)).bind fun t215 => (some (t215.toList == ([] : List UInt8)))) else (some false)) else (if x8_1 > 0 then (if x7_1.size + 3 ≤ 9223372036854775807 then (if (x7_1 ++ (⟨#[32, 124, 32]⟩ : ByteArray)).size + t208.size ≤ 9223372036854775807 then (proofmarklaw27_LiftParts.l0 kj34 t174 (l0_11.take ((ji4) : Int).toNat) ((x7_1 ++ (⟨#[32, 124, 32]⟩ : ByteArray)) ++ t208) (wrap64 (x8_1 + 1)) t175 t178 t181 t184 t187 t190 t191 t194 t197 t200) else (none)) else (none)) else (if x7_1.size + t208.size ≤ 9223372036854775807 then (proofmarklaw27_LiftParts.l0 kj34 t174 (l0_11.take ((ji4) : Int).toNat) (x7_1 ++ t208) (wrap64 (x8_1 + 1)) t175 t178 t181 t184 t187 t190 t191 t194 t197 t200) else (none)))) = some r := by rw [if_neg (show ¬ (false = true) by decide)] at H; exact H
                        clear H
                        have H := H1
                        clear H1
                        by_cases c49 : t208.toList = ([] : List UInt8)
                        · rw [if_pos c49] at H
                          have c49b0 : (t208.toList == ([] : List UInt8)) = true := beq_iff_eq.mpr c49
                          have c49b1 : (t208.toList != ([] : List UInt8)) = false := bne_eq_false_iff_eq.mpr c49
                          clear c49
                          by_cases c50 : t174 = true
                          · subst c50
                            have H1 : ((lift_Clause.f t175 t178 t181 t184 t187 t190 t191 t194 t197 t200 (l0_11.take ((ji4) : Int).toNat)).bind fun t215 => (some (t215.toList == ([] : List UInt8)))) = some r := by rw [if_pos rfl] at H; exact H
                            clear H
                            have H := H1
                            clear H1
                            replace H := Option.bind_eq_some_iff.mp H
                            obtain ⟨t215, A510, H⟩ := H
                            replace H : (some (t215.toList == ([] : List UInt8))) = some r := H
                            have A51 := Aside0.mk A510
                            clear A510
                            obtain rfl := Option.some.inj H
                            have hnb52 := NB203_173.out
                            have hnc52 := NB173_203.out
                            have hnb53 := NB203_204.out
                            have hnc53 := NB204_203.out
                            have hcz54_0 : wc.cell? ⟨gb203, 0, none⟩ = some (.slice Ao13 t175.length co13) := (blk_cell BK203.out 0).trans rfl
                            have hcz54_1 : wc.cell? ⟨gb203, 1, none⟩ = some (.slice Ao17 t178.length co17) := (blk_cell BK203.out 1).trans rfl
                            have hcz54_2 : wc.cell? ⟨gb203, 2, none⟩ = some (.slice Ao18 t181.length co18) := (blk_cell BK203.out 2).trans rfl
                            have hcz54_3 : wc.cell? ⟨gb203, 3, none⟩ = some (.slice Ao19 t184.length co19) := (blk_cell BK203.out 3).trans rfl
                            have hcz54_4 : wc.cell? ⟨gb203, 4, none⟩ = some (.slice Ao20 t187.length co20) := (blk_cell BK203.out 4).trans rfl
                            have hfz54_0 := blk_frozen BK203.out 0
                            have hfz54_1 := blk_frozen BK203.out 1
                            have hfz54_2 := blk_frozen BK203.out 2
                            have hfz54_3 := blk_frozen BK203.out 3
                            have hfz54_4 := blk_frozen BK203.out 4
                            have hnb55 := NB204_173.out
                            have hnc55 := NB173_204.out
                            have hcz56_0 : wc.cell? ⟨gb204, 0, none⟩ = some (.int .i64 t190) := (blk_cell BK204.out 0).trans rfl
                            have hcz56_1 : wc.cell? ⟨gb204, 1, none⟩ = some (.slice Ao23 t191.length co23) := (blk_cell BK204.out 1).trans rfl
                            have hcz56_2 : wc.cell? ⟨gb204, 2, none⟩ = some (.slice Ao24 t194.length co24) := (blk_cell BK204.out 2).trans rfl
                            have hcz56_3 : wc.cell? ⟨gb204, 3, none⟩ = some (.slice Ao25 t197.length co25) := (blk_cell BK204.out 3).trans rfl
                            have hcz56_4 : wc.cell? ⟨gb204, 4, none⟩ = some (.slice Ao26 t200.length co26) := (blk_cell BK204.out 4).trans rfl
                            have hfz56_0 := blk_frozen BK204.out 0
                            have hfz56_1 := blk_frozen BK204.out 1
                            have hfz56_2 := blk_frozen BK204.out 2
                            have hfz56_3 := blk_frozen BK204.out 3
                            have hfz56_4 := blk_frozen BK204.out 4
                            go_wp2_with (first | (go_at_call 24; refine calls_len3 HLJ.out ?_; (with_reducible refine (lift_Clause.calls _ _ t175 _ _ t178 _ _ t181 _ _ t184 _ _ t187 t190 _ _ t191 _ _ t194 _ _ t197 _ _ t200 _ _ (l0_11.take ((ji4) : Int).toNat) t215 _ (by first | exact HG.out | (refine tab_below HG.out ?_; repeat (first | (with_reducible first | exact HB.out | apply below_alloc | apply pw_below_drewN | apply below_drew1 | refine below_set ?_ GE173.out | refine below_set ?_ GE203.out | refine below_set ?_ GE204.out) | exact HB.out)) | (refine tab_drawn HG.out ?_; repeat (first | exact Drawn0.refl _ | apply drawn_drewN | apply drawn_drew))) ?side1 ?side2 ?side3 ?side4 ?side5 ?side6 ?side7 ?side8 ?side9 ?side10 ?side11 ?side12 ?side13 ?side14 ?side15 ?side16 ?side17 ?side18 ?side19 ?side20 A51.out).mono ?_); (case side1 => repeat (first | exact (Kd.R_reads' HO_204000.out).2.2 | (with_reducible refine Kd.C_alloc ?_ _) | (with_reducible refine Kd.C_drewN ?_ _) | (with_reducible refine Kd.C_drew ?_))); (case side2 => exact (Kd.R_reads' HO_204000.out).2.1); (case side3 => repeat (first | exact (Kd.R_reads' HO_204001.out).2.2 | (with_reducible refine Kd.C_alloc ?_ _) | (with_reducible refine Kd.C_drewN ?_ _) | (with_reducible refine Kd.C_drew ?_))); (case side4 => exact (Kd.R_reads' HO_204001.out).2.1); (case side5 => repeat (first | exact (Kd.R_reads' HO_204002.out).2.2 | (with_reducible refine Kd.C_alloc ?_ _) | (with_reducible refine Kd.C_drewN ?_ _) | (with_reducible refine Kd.C_drew ?_))); (case side6 => exact (Kd.R_reads' HO_204002.out).2.1); (case side7 => repeat (first | exact (Kd.R_reads' HO_204003.out).2.2 | (with_reducible refine Kd.C_alloc ?_ _) | (with_reducible refine Kd.C_drewN ?_ _) | (with_reducible refine Kd.C_drew ?_))); (case side8 => exact (Kd.R_reads' HO_204003.out).2.1); (case side9 => repeat (first | exact (Kd.R_reads' HO_204004.out).2.2 | (with_reducible refine Kd.C_alloc ?_ _) | (with_reducible refine Kd.C_drewN ?_ _) | (with_reducible refine Kd.C_drew ?_))); (case side10 => exact (Kd.R_reads' HO_204004.out).2.1); (case side11 => repeat (first | exact (Kd.R_reads' HO_205001.out).2.2 | (with_reducible refine Kd.C_alloc ?_ _) | (with_reducible refine Kd.C_drewN ?_ _) | (with_reducible refine Kd.C_drew ?_))); (case side12 => exact (Kd.R_reads' HO_205001.out).2.1); (case side13 => repeat (first | exact (Kd.R_reads' HO_205002.out).2.2 | (with_reducible refine Kd.C_alloc ?_ _) | (with_reducible refine Kd.C_drewN ?_ _) | (with_reducible refine Kd.C_drew ?_))); (case side14 => exact (Kd.R_reads' HO_205002.out).2.1); (case side15 => repeat (first | exact (Kd.R_reads' HO_205003.out).2.2 | (with_reducible refine Kd.C_alloc ?_ _) | (with_reducible refine Kd.C_drewN ?_ _) | (with_reducible refine Kd.C_drew ?_))); (case side16 => exact (Kd.R_reads' HO_205003.out).2.1); (case side17 => repeat (first | exact (Kd.R_reads' HO_205004.out).2.2 | (with_reducible refine Kd.C_alloc ?_ _) | (with_reducible refine Kd.C_drewN ?_ _) | (with_reducible refine Kd.C_drew ?_))); (case side18 => exact (Kd.R_reads' HO_205004.out).2.1); (case side19 => repeat (first | exact (Kd.C_below HR205.out HB.out) | (with_reducible refine Kd.C_alloc ?_ _) | (with_reducible refine Kd.C_drewN ?_ _) | (with_reducible refine Kd.C_drew ?_))); (case side20 => exact HC205.out); rintro e w57 ⟨rfl, hb⟩; have n0_ := Aside0.mk (Kd.R_below (by (with_reducible repeat (first | apply Kd.R_alloc | apply Kd.R_drewN | apply Kd.R_drew)); exact HO_204000.out) hb); have n1_ := Aside0.mk (Kd.R_below (by (with_reducible repeat (first | apply Kd.R_alloc | apply Kd.R_drewN | apply Kd.R_drew)); exact HO_204001.out) hb); have n2_ := Aside0.mk (Kd.R_below (by (with_reducible repeat (first | apply Kd.R_alloc | apply Kd.R_drewN | apply Kd.R_drew)); exact HO_204002.out) hb); have n3_ := Aside0.mk (Kd.R_below (by (with_reducible repeat (first | apply Kd.R_alloc | apply Kd.R_drewN | apply Kd.R_drew)); exact HO_204003.out) hb); have n4_ := Aside0.mk (Kd.R_below (by (with_reducible repeat (first | apply Kd.R_alloc | apply Kd.R_drewN | apply Kd.R_drew)); exact HO_204004.out) hb); have n5_ := Aside0.mk (Kd.R_below (by (with_reducible repeat (first | apply Kd.R_alloc | apply Kd.R_drewN | apply Kd.R_drew)); exact HO_205001.out) hb); have n6_ := Aside0.mk (Kd.R_below (by (with_reducible repeat (first | apply Kd.R_alloc | apply Kd.R_drewN | apply Kd.R_drew)); exact HO_205002.out) hb); have n7_ := Aside0.mk (Kd.R_below (by (with_reducible repeat (first | apply Kd.R_alloc | apply Kd.R_drewN | apply Kd.R_drew)); exact HO_205003.out) hb); have n8_ := Aside0.mk (Kd.R_below (by (with_reducible repeat (first | apply Kd.R_alloc | apply Kd.R_drewN | apply Kd.R_drew)); exact HO_205004.out) hb); have n9_ := Aside0.mk (blk_below (g := gb173) (o := .cells #[.slice A0_0 l0_0.length c0_0, .slice A0_1 l0_1.length c0_1, .slice A0_2 l0_2.length c0_2, .slice A0_3 l0_3.length c0_3, .slice A0_4 l0_4.length c0_4, .int .i64 a0_5, .slice A0_6 l0_6.length c0_6, .slice A0_7 l0_7.length c0_7, .slice A0_8 l0_8.length c0_8, .slice A0_9 l0_9.length c0_9, .slice A0_10 l0_10.length c0_10, .slice (some ad209) l0_11.length c0_11, .string a0_12] 61 (0, 0)) (by (with_reducible repeat (first | refine blk_drewN ?_ _ | refine blk_drew ?_ | refine blk_alloc ?_ _)); exact BK173.out) hb); have n10_ := Aside0.mk (blk_below (g := gb203) (o := .cells #[.slice Ao13 t175.length co13, .slice Ao17 t178.length co17, .slice Ao18 t181.length co18, .slice Ao19 t184.length co19, .slice Ao20 t187.length co20] 27 (0, 0)) (by (with_reducible repeat (first | refine blk_drewN ?_ _ | refine blk_drew ?_ | refine blk_alloc ?_ _)); exact BK203.out) hb); have n11_ := Aside0.mk (blk_below (g := gb204) (o := .cells #[.int .i64 t190, .slice Ao23 t191.length co23, .slice Ao24 t194.length co24, .slice Ao25 t197.length co25, .slice Ao26 t200.length co26] 53 (0, 0)) (by (with_reducible repeat (first | refine blk_drewN ?_ _ | refine blk_drew ?_ | refine blk_alloc ?_ _)); exact BK204.out) hb); have n12_ := Aside0.mk (below_step (by repeat (first | (with_reducible first | exact HB.out | apply below_alloc | apply pw_below_drewN | apply below_drew1 | refine below_set ?_ GE173.out | refine below_set ?_ GE203.out | refine below_set ?_ GE204.out) | exact HB.out)) hb); clear HO_204000; clear HO_204001; clear HO_204002; clear HO_204003; clear HO_204004; clear HO_205001; clear HO_205002; clear HO_205003; clear HO_205004; clear BK173; clear BK203; clear BK204; clear HB; have HO_204000 := n0_; have HO_204001 := n1_; have HO_204002 := n2_; have HO_204003 := n3_; have HO_204004 := n4_; have HO_205001 := n5_; have HO_205002 := n6_; have HO_205003 := n7_; have HO_205004 := n8_; have BK173 := n9_; have BK203 := n10_; have BK204 := n11_; have HB := n12_; clear n0_ n1_ n2_ n3_ n4_ n5_ n6_ n7_ n8_ n9_ n10_ n11_ n12_; (try clear hb); (try clear hb2); (try clear hk); (try clear hi)))
                            go_ret
                            exact ⟨by first | rfl | (simp [errW_none, errW_some] <;> rfl) | (simp only [← hji4]; first | rfl | (simp [errW_none, errW_some] <;> rfl)) | (simp [*, errW_none, errW_some] <;> rfl), by repeat (first | (with_reducible first | exact HB.out | apply below_alloc | apply pw_below_drewN | apply below_drew1 | refine below_set ?_ GE173.out | refine below_set ?_ GE203.out | refine below_set ?_ GE204.out) | exact HB.out)⟩
                          · replace c50 := Bool.eq_false_iff.mpr c50
                            subst c50
                            have H1 : (some false) = some r := by rw [if_neg (show ¬ (false = true) by decide)] at H; exact H
                            exact absurd (Option.some.inj H1) (by rw [HRT.out]; decide)
                        · rw [if_neg c49] at H
                          have c49b0 : (t208.toList == ([] : List UInt8)) = false := beq_eq_false_iff_ne.mpr c49
                          have c49b1 : (t208.toList != ([] : List UInt8)) = true := bne_iff_ne.mpr c49
                          by_cases c58 : x8_1 > 0
                          · rw [if_pos c58] at H
                            have c58b0 : decide (0 < x8_1) = true := decide_eq_true c58
                            clear c58
                            by_cases c59 : x7_1.size + 3 ≤ 9223372036854775807
                            · rw [if_pos c59] at H
                              have c59b0 := eq_true c59
                              have c59b1 : decide (x7_1.size + 3 ≤ 9223372036854775807) = true := decide_eq_true c59
                              try have c59b2 : (9223372036854775807 < x7_1.size + 3) = False := eq_false (Nat.not_lt.2 c59)
                              by_cases c60 : (x7_1 ++ (⟨#[32, 124, 32]⟩ : ByteArray)).size + t208.size ≤ 9223372036854775807
                              · rw [if_pos c60] at H
                                have c60b0 := eq_true c60
                                have c60b1 : decide ((x7_1 ++ (⟨#[32, 124, 32]⟩ : ByteArray)).size + t208.size ≤ 9223372036854775807) = true := decide_eq_true c60
                                try have c60b2 : (9223372036854775807 < (x7_1 ++ (⟨#[32, 124, 32]⟩ : ByteArray)).size + t208.size) = False := eq_false (Nat.not_lt.2 c60)
                                try have c60b3 : (9223372036854775807 < (x7_1).size + 3 + t208.size) = False := by (have z_ := c60; have l0_ : (⟨#[32, 124, 32]⟩ : ByteArray).size = 3 := rfl; (try simp only [ByteArray.size_append] at z_); exact eq_false (by omega))
                                try have c60b4 : (9223372036854775807 < (x7_1).size + 3) = False := by (have z_ := c60; have l0_ : (⟨#[32, 124, 32]⟩ : ByteArray).size = 3 := rfl; (try simp only [ByteArray.size_append] at z_); exact eq_false (by omega))
                                try have c60b5 : (9223372036854775807 < (x7_1).size) = False := by (have z_ := c60; have l0_ : (⟨#[32, 124, 32]⟩ : ByteArray).size = 3 := rfl; (try simp only [ByteArray.size_append] at z_); exact eq_false (by omega))
                                have H' := Aside0.mk H
                                clear H
                                go_wp2
                                go_roundg kj34
                                case measure => have := HK1.out; have := HJ34.out; omega
                                case rel => exact ⟨((x7_1 ++ (⟨#[32, 124, 32]⟩ : ByteArray)) ++ t208), (wrap64 (x8_1 + 1)), (by first | rfl | (simp; done) | (simp [*]; done)), (by first | rfl | (simp; done) | (simp [*]; done)), H', ⟨by have := HK1.out; have := HJ34.out; omega⟩, ⟨by (with_reducible repeat (first | apply Kd.R_alloc | apply Kd.R_drewN | apply Kd.R_drew)); exact HO_204000.out⟩, ⟨by (with_reducible repeat (first | apply Kd.R_alloc | apply Kd.R_drewN | apply Kd.R_drew)); exact HO_204001.out⟩, ⟨by (with_reducible repeat (first | apply Kd.R_alloc | apply Kd.R_drewN | apply Kd.R_drew)); exact HO_204002.out⟩, ⟨by (with_reducible repeat (first | apply Kd.R_alloc | apply Kd.R_drewN | apply Kd.R_drew)); exact HO_204003.out⟩, ⟨by (with_reducible repeat (first | apply Kd.R_alloc | apply Kd.R_drewN | apply Kd.R_drew)); exact HO_204004.out⟩, ⟨by (with_reducible repeat (first | apply Kd.R_alloc | apply Kd.R_drewN | apply Kd.R_drew)); exact HO_205001.out⟩, ⟨by (with_reducible repeat (first | apply Kd.R_alloc | apply Kd.R_drewN | apply Kd.R_drew)); exact HO_205002.out⟩, ⟨by (with_reducible repeat (first | apply Kd.R_alloc | apply Kd.R_drewN | apply Kd.R_drew)); exact HO_205003.out⟩, ⟨by (with_reducible repeat (first | apply Kd.R_alloc | apply Kd.R_drewN | apply Kd.R_drew)); exact HO_205004.out⟩, ⟨by (with_reducible repeat (first | refine blk_drewN ?_ _ | refine blk_drew ?_ | refine blk_alloc ?_ _)); exact BK173.out⟩, ⟨by (with_reducible repeat (first | refine blk_drewN ?_ _ | refine blk_drew ?_ | refine blk_alloc ?_ _)); exact BK203.out⟩, ⟨by (with_reducible repeat (first | refine blk_drewN ?_ _ | refine blk_drew ?_ | refine blk_alloc ?_ _)); exact BK204.out⟩, ⟨by repeat (first | (with_reducible first | exact HB.out | apply below_alloc | apply pw_below_drewN | apply below_drew1 | refine below_set ?_ GE173.out | refine below_set ?_ GE203.out | refine below_set ?_ GE204.out) | exact HB.out)⟩⟩
                              · rw [if_neg c60] at H
                                exact absurd H (by simp)
                            · rw [if_neg c59] at H
                              exact absurd H (by simp)
                          · rw [if_neg c58] at H
                            have c58b0 : decide (0 < x8_1) = false := decide_eq_false c58
                            clear c58
                            by_cases c61 : x7_1.size + t208.size ≤ 9223372036854775807
                            · rw [if_pos c61] at H
                              have c61b0 := eq_true c61
                              have c61b1 : decide (x7_1.size + t208.size ≤ 9223372036854775807) = true := decide_eq_true c61
                              try have c61b2 : (9223372036854775807 < x7_1.size + t208.size) = False := eq_false (Nat.not_lt.2 c61)
                              have H' := Aside0.mk H
                              clear H
                              go_wp2
                              go_roundg kj34
                              case measure => have := HK1.out; have := HJ34.out; omega
                              case rel => exact ⟨(x7_1 ++ t208), (wrap64 (x8_1 + 1)), (by first | rfl | (simp; done) | (simp [*]; done)), (by first | rfl | (simp; done) | (simp [*]; done)), H', ⟨by have := HK1.out; have := HJ34.out; omega⟩, ⟨by (with_reducible repeat (first | apply Kd.R_alloc | apply Kd.R_drewN | apply Kd.R_drew)); exact HO_204000.out⟩, ⟨by (with_reducible repeat (first | apply Kd.R_alloc | apply Kd.R_drewN | apply Kd.R_drew)); exact HO_204001.out⟩, ⟨by (with_reducible repeat (first | apply Kd.R_alloc | apply Kd.R_drewN | apply Kd.R_drew)); exact HO_204002.out⟩, ⟨by (with_reducible repeat (first | apply Kd.R_alloc | apply Kd.R_drewN | apply Kd.R_drew)); exact HO_204003.out⟩, ⟨by (with_reducible repeat (first | apply Kd.R_alloc | apply Kd.R_drewN | apply Kd.R_drew)); exact HO_204004.out⟩, ⟨by (with_reducible repeat (first | apply Kd.R_alloc | apply Kd.R_drewN | apply Kd.R_drew)); exact HO_205001.out⟩, ⟨by (with_reducible repeat (first | apply Kd.R_alloc | apply Kd.R_drewN | apply Kd.R_drew)); exact HO_205002.out⟩, ⟨by (with_reducible repeat (first | apply Kd.R_alloc | apply Kd.R_drewN | apply Kd.R_drew)); exact HO_205003.out⟩, ⟨by (with_reducible repeat (first | apply Kd.R_alloc | apply Kd.R_drewN | apply Kd.R_drew)); exact HO_205004.out⟩, ⟨by (with_reducible repeat (first | refine blk_drewN ?_ _ | refine blk_drew ?_ | refine blk_alloc ?_ _)); exact BK173.out⟩, ⟨by (with_reducible repeat (first | refine blk_drewN ?_ _ | refine blk_drew ?_ | refine blk_alloc ?_ _)); exact BK203.out⟩, ⟨by (with_reducible repeat (first | refine blk_drewN ?_ _ | refine blk_drew ?_ | refine blk_alloc ?_ _)); exact BK204.out⟩, ⟨by repeat (first | (with_reducible first | exact HB.out | apply below_alloc | apply pw_below_drewN | apply below_drew1 | refine below_set ?_ GE173.out | refine below_set ?_ GE203.out | refine below_set ?_ GE204.out) | exact HB.out)⟩⟩
                            · rw [if_neg c61] at H
                              exact absurd H (by simp)
                · rw [if_neg c32] at H
                  exact absurd H (by simp)
              · rw [if_neg c31] at H
                exact absurd H (by simp)
            · rw [if_neg c30] at H
              exact absurd H (by simp)
          · rw [if_neg c29] at H
            have c29b0 : decide (x8_1 < ((l0_11.take ((ji4) : Int).toNat).length : Int)) = false := decide_eq_false c29
            have c29b0m := c29b0; rw [HLM.out] at c29b0m
            clear c29
            by_cases c62 : t174 = true
            · subst c62
              have H1 : (if ((l0_11.take ((ji4) : Int).toNat).length : Int) = 0 then (some true) else ((lift_Clause.f t175 t178 t181 t184 t187 t190 t191 t194 t197 t200 (l0_11.take ((ji4) : Int).toNat)).bind fun t206 => (some (t206.toList == x7_1.toList)))) = some r := by rw [if_pos rfl] at H; exact H
              clear H
              have H := H1
              clear H1
              by_cases c63 : ((l0_11.take ((ji4) : Int).toNat).length : Int) = 0
              · rw [if_pos c63] at H
                have c63b0 : (((l0_11.take ((ji4) : Int).toNat).length : Int) == 0) = true := beq_iff_eq.mpr c63
                have c63b0m := c63b0; rw [HLM.out] at c63b0m
                have c63b1 : (((l0_11.take ((ji4) : Int).toNat).length : Int) != 0) = false := bne_eq_false_iff_eq.mpr c63
                have c63b1m := c63b1; rw [HLM.out] at c63b1m
                clear c63
                obtain rfl := Option.some.inj H
                go_wp2
                go_ret
                exact ⟨by first | rfl | (simp [errW_none, errW_some] <;> rfl) | (simp only [← hji4]; first | rfl | (simp [errW_none, errW_some] <;> rfl)) | (simp [*, errW_none, errW_some] <;> rfl), by repeat (first | (with_reducible first | exact HB.out | apply below_alloc | apply pw_below_drewN | apply below_drew1 | refine below_set ?_ GE173.out | refine below_set ?_ GE203.out | refine below_set ?_ GE204.out) | exact HB.out)⟩
              · rw [if_neg c63] at H
                have c63b0 : (((l0_11.take ((ji4) : Int).toNat).length : Int) == 0) = false := beq_eq_false_iff_ne.mpr c63
                have c63b0m := c63b0; rw [HLM.out] at c63b0m
                have c63b1 : (((l0_11.take ((ji4) : Int).toNat).length : Int) != 0) = true := bne_iff_ne.mpr c63
                have c63b1m := c63b1; rw [HLM.out] at c63b1m
                have c63b2 : ¬ ((l0_11.take ((ji4) : Int).toNat) = []) := fun h_ => c63 (by rw [h_]; rfl)
                replace H := Option.bind_eq_some_iff.mp H
                obtain ⟨t206, A640, H⟩ := H
                replace H : (some (t206.toList == x7_1.toList)) = some r := H
                have A64 := Aside0.mk A640
                clear A640
                obtain rfl := Option.some.inj H
                have hnb65 := NB203_173.out
                have hnc65 := NB173_203.out
                have hnb66 := NB203_204.out
                have hnc66 := NB204_203.out
                have hcz67_0 : wr.cell? ⟨gb203, 0, none⟩ = some (.slice Ao13 t175.length co13) := (blk_cell BK203.out 0).trans rfl
                have hcz67_1 : wr.cell? ⟨gb203, 1, none⟩ = some (.slice Ao17 t178.length co17) := (blk_cell BK203.out 1).trans rfl
                have hcz67_2 : wr.cell? ⟨gb203, 2, none⟩ = some (.slice Ao18 t181.length co18) := (blk_cell BK203.out 2).trans rfl
                have hcz67_3 : wr.cell? ⟨gb203, 3, none⟩ = some (.slice Ao19 t184.length co19) := (blk_cell BK203.out 3).trans rfl
                have hcz67_4 : wr.cell? ⟨gb203, 4, none⟩ = some (.slice Ao20 t187.length co20) := (blk_cell BK203.out 4).trans rfl
                have hfz67_0 := blk_frozen BK203.out 0
                have hfz67_1 := blk_frozen BK203.out 1
                have hfz67_2 := blk_frozen BK203.out 2
                have hfz67_3 := blk_frozen BK203.out 3
                have hfz67_4 := blk_frozen BK203.out 4
                have hnb68 := NB204_173.out
                have hnc68 := NB173_204.out
                have hcz69_0 : wr.cell? ⟨gb204, 0, none⟩ = some (.int .i64 t190) := (blk_cell BK204.out 0).trans rfl
                have hcz69_1 : wr.cell? ⟨gb204, 1, none⟩ = some (.slice Ao23 t191.length co23) := (blk_cell BK204.out 1).trans rfl
                have hcz69_2 : wr.cell? ⟨gb204, 2, none⟩ = some (.slice Ao24 t194.length co24) := (blk_cell BK204.out 2).trans rfl
                have hcz69_3 : wr.cell? ⟨gb204, 3, none⟩ = some (.slice Ao25 t197.length co25) := (blk_cell BK204.out 3).trans rfl
                have hcz69_4 : wr.cell? ⟨gb204, 4, none⟩ = some (.slice Ao26 t200.length co26) := (blk_cell BK204.out 4).trans rfl
                have hfz69_0 := blk_frozen BK204.out 0
                have hfz69_1 := blk_frozen BK204.out 1
                have hfz69_2 := blk_frozen BK204.out 2
                have hfz69_3 := blk_frozen BK204.out 3
                have hfz69_4 := blk_frozen BK204.out 4
                go_wp2_with (first | (go_at_call 24; refine calls_len3 HLJ.out ?_; (with_reducible refine (lift_Clause.calls _ _ t175 _ _ t178 _ _ t181 _ _ t184 _ _ t187 t190 _ _ t191 _ _ t194 _ _ t197 _ _ t200 _ _ (l0_11.take ((ji4) : Int).toNat) t206 _ (by first | exact HG.out | (refine tab_below HG.out ?_; repeat (first | (with_reducible first | exact HB.out | apply below_alloc | apply pw_below_drewN | apply below_drew1 | refine below_set ?_ GE173.out | refine below_set ?_ GE203.out | refine below_set ?_ GE204.out) | exact HB.out)) | (refine tab_drawn HG.out ?_; repeat (first | exact Drawn0.refl _ | apply drawn_drewN | apply drawn_drew))) ?side1 ?side2 ?side3 ?side4 ?side5 ?side6 ?side7 ?side8 ?side9 ?side10 ?side11 ?side12 ?side13 ?side14 ?side15 ?side16 ?side17 ?side18 ?side19 ?side20 A64.out).mono ?_); (case side1 => repeat (first | exact (Kd.R_reads' HO_204000.out).2.2 | (with_reducible refine Kd.C_alloc ?_ _) | (with_reducible refine Kd.C_drewN ?_ _) | (with_reducible refine Kd.C_drew ?_))); (case side2 => exact (Kd.R_reads' HO_204000.out).2.1); (case side3 => repeat (first | exact (Kd.R_reads' HO_204001.out).2.2 | (with_reducible refine Kd.C_alloc ?_ _) | (with_reducible refine Kd.C_drewN ?_ _) | (with_reducible refine Kd.C_drew ?_))); (case side4 => exact (Kd.R_reads' HO_204001.out).2.1); (case side5 => repeat (first | exact (Kd.R_reads' HO_204002.out).2.2 | (with_reducible refine Kd.C_alloc ?_ _) | (with_reducible refine Kd.C_drewN ?_ _) | (with_reducible refine Kd.C_drew ?_))); (case side6 => exact (Kd.R_reads' HO_204002.out).2.1); (case side7 => repeat (first | exact (Kd.R_reads' HO_204003.out).2.2 | (with_reducible refine Kd.C_alloc ?_ _) | (with_reducible refine Kd.C_drewN ?_ _) | (with_reducible refine Kd.C_drew ?_))); (case side8 => exact (Kd.R_reads' HO_204003.out).2.1); (case side9 => repeat (first | exact (Kd.R_reads' HO_204004.out).2.2 | (with_reducible refine Kd.C_alloc ?_ _) | (with_reducible refine Kd.C_drewN ?_ _) | (with_reducible refine Kd.C_drew ?_))); (case side10 => exact (Kd.R_reads' HO_204004.out).2.1); (case side11 => repeat (first | exact (Kd.R_reads' HO_205001.out).2.2 | (with_reducible refine Kd.C_alloc ?_ _) | (with_reducible refine Kd.C_drewN ?_ _) | (with_reducible refine Kd.C_drew ?_))); (case side12 => exact (Kd.R_reads' HO_205001.out).2.1); (case side13 => repeat (first | exact (Kd.R_reads' HO_205002.out).2.2 | (with_reducible refine Kd.C_alloc ?_ _) | (with_reducible refine Kd.C_drewN ?_ _) | (with_reducible refine Kd.C_drew ?_))); (case side14 => exact (Kd.R_reads' HO_205002.out).2.1); (case side15 => repeat (first | exact (Kd.R_reads' HO_205003.out).2.2 | (with_reducible refine Kd.C_alloc ?_ _) | (with_reducible refine Kd.C_drewN ?_ _) | (with_reducible refine Kd.C_drew ?_))); (case side16 => exact (Kd.R_reads' HO_205003.out).2.1); (case side17 => repeat (first | exact (Kd.R_reads' HO_205004.out).2.2 | (with_reducible refine Kd.C_alloc ?_ _) | (with_reducible refine Kd.C_drewN ?_ _) | (with_reducible refine Kd.C_drew ?_))); (case side18 => exact (Kd.R_reads' HO_205004.out).2.1); (case side19 => repeat (first | exact (Kd.C_below HR205.out HB.out) | (with_reducible refine Kd.C_alloc ?_ _) | (with_reducible refine Kd.C_drewN ?_ _) | (with_reducible refine Kd.C_drew ?_))); (case side20 => exact HC205.out); rintro e w70 ⟨rfl, hb⟩; have n0_ := Aside0.mk (Kd.R_below (by (with_reducible repeat (first | apply Kd.R_alloc | apply Kd.R_drewN | apply Kd.R_drew)); exact HO_204000.out) hb); have n1_ := Aside0.mk (Kd.R_below (by (with_reducible repeat (first | apply Kd.R_alloc | apply Kd.R_drewN | apply Kd.R_drew)); exact HO_204001.out) hb); have n2_ := Aside0.mk (Kd.R_below (by (with_reducible repeat (first | apply Kd.R_alloc | apply Kd.R_drewN | apply Kd.R_drew)); exact HO_204002.out) hb); have n3_ := Aside0.mk (Kd.R_below (by (with_reducible repeat (first | apply Kd.R_alloc | apply Kd.R_drewN | apply Kd.R_drew)); exact HO_204003.out) hb); have n4_ := Aside0.mk (Kd.R_below (by (with_reducible repeat (first | apply Kd.R_alloc | apply Kd.R_drewN | apply Kd.R_drew)); exact HO_204004.out) hb); have n5_ := Aside0.mk (Kd.R_below (by (with_reducible repeat (first | apply Kd.R_alloc | apply Kd.R_drewN | apply Kd.R_drew)); exact HO_205001.out) hb); have n6_ := Aside0.mk (Kd.R_below (by (with_reducible repeat (first | apply Kd.R_alloc | apply Kd.R_drewN | apply Kd.R_drew)); exact HO_205002.out) hb); have n7_ := Aside0.mk (Kd.R_below (by (with_reducible repeat (first | apply Kd.R_alloc | apply Kd.R_drewN | apply Kd.R_drew)); exact HO_205003.out) hb); have n8_ := Aside0.mk (Kd.R_below (by (with_reducible repeat (first | apply Kd.R_alloc | apply Kd.R_drewN | apply Kd.R_drew)); exact HO_205004.out) hb); have n9_ := Aside0.mk (blk_below (g := gb173) (o := .cells #[.slice A0_0 l0_0.length c0_0, .slice A0_1 l0_1.length c0_1, .slice A0_2 l0_2.length c0_2, .slice A0_3 l0_3.length c0_3, .slice A0_4 l0_4.length c0_4, .int .i64 a0_5, .slice A0_6 l0_6.length c0_6, .slice A0_7 l0_7.length c0_7, .slice A0_8 l0_8.length c0_8, .slice A0_9 l0_9.length c0_9, .slice A0_10 l0_10.length c0_10, .slice A0_11 l0_11.length c0_11, .string a0_12] 61 (0, 0)) (by (with_reducible repeat (first | refine blk_drewN ?_ _ | refine blk_drew ?_ | refine blk_alloc ?_ _)); exact BK173.out) hb); have n10_ := Aside0.mk (blk_below (g := gb203) (o := .cells #[.slice Ao13 t175.length co13, .slice Ao17 t178.length co17, .slice Ao18 t181.length co18, .slice Ao19 t184.length co19, .slice Ao20 t187.length co20] 27 (0, 0)) (by (with_reducible repeat (first | refine blk_drewN ?_ _ | refine blk_drew ?_ | refine blk_alloc ?_ _)); exact BK203.out) hb); have n11_ := Aside0.mk (blk_below (g := gb204) (o := .cells #[.int .i64 t190, .slice Ao23 t191.length co23, .slice Ao24 t194.length co24, .slice Ao25 t197.length co25, .slice Ao26 t200.length co26] 53 (0, 0)) (by (with_reducible repeat (first | refine blk_drewN ?_ _ | refine blk_drew ?_ | refine blk_alloc ?_ _)); exact BK204.out) hb); have n12_ := Aside0.mk (below_step (by repeat (first | (with_reducible first | exact HB.out | apply below_alloc | apply pw_below_drewN | apply below_drew1 | refine below_set ?_ GE173.out | refine below_set ?_ GE203.out | refine below_set ?_ GE204.out) | exact HB.out)) hb); clear HO_204000; clear HO_204001; clear HO_204002; clear HO_204003; clear HO_204004; clear HO_205001; clear HO_205002; clear HO_205003; clear HO_205004; clear BK173; clear BK203; clear BK204; clear HB; have HO_204000 := n0_; have HO_204001 := n1_; have HO_204002 := n2_; have HO_204003 := n3_; have HO_204004 := n4_; have HO_205001 := n5_; have HO_205002 := n6_; have HO_205003 := n7_; have HO_205004 := n8_; have BK173 := n9_; have BK203 := n10_; have BK204 := n11_; have HB := n12_; clear n0_ n1_ n2_ n3_ n4_ n5_ n6_ n7_ n8_ n9_ n10_ n11_ n12_; (try clear hb); (try clear hb2); (try clear hk); (try clear hi)))
                go_ret
                exact ⟨by first | rfl | (simp [errW_none, errW_some] <;> rfl) | (simp only [← hji4]; first | rfl | (simp [errW_none, errW_some] <;> rfl)) | (simp [*, errW_none, errW_some] <;> rfl), by repeat (first | (with_reducible first | exact HB.out | apply below_alloc | apply pw_below_drewN | apply below_drew1 | refine below_set ?_ GE173.out | refine below_set ?_ GE203.out | refine below_set ?_ GE204.out) | exact HB.out)⟩
            · replace c62 := Bool.eq_false_iff.mpr c62
              subst c62
              have H1 : (some false) = some r := by rw [if_neg (show ¬ (false = true) by decide)] at H; exact H
              exact absurd (Option.some.inj H1) (by rw [HRT.out]; decide)
    · rw [if_neg c6] at H
      exact absurd H (by simp)
  · rw [if_neg c5] at H
    exact absurd H (by simp)


end Go.Proofs.YtmfekngjhiofaaaDoor.Q
