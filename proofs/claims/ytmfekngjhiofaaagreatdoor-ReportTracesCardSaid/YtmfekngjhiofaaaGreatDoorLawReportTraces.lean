/-
  PROVED: proofmark/proofmarklaw30.ReportTraces: the law's function answers true at every input, and leaves its arguments as they were. Conditions: the package-level variables that report reads hold at the call what the program's own text lays there (the card ties that to the text).
-/
import Derived.Test.YtmfekngjhiofaaaGreatDoorCards
import Derived.Test.YtmfekngjhiofaaaGreatDoorTie
import Derived.Test.YtmfekngjhiofaaaGreatDoorHLaid
import Derived.Test.YtmfekngjhiofaaaGreatDoorHOpenNet
import Derived.Test.YtmfekngjhiofaaaGreatDoorPureReportTraces
import Derived.Carry
import Derived.WalkKit
import Derived.ProofKit
import Derived.OpenShut
import Derived.ShutString
import Derived.SizedLaws
import Derived.Stop.Joined
import Derived.Deep.DeepHandedRow
import Derived.Deep.DeepWitnessRowRef
set_option linter.unusedVariables false
set_option linter.unusedSimpArgs false
namespace Go.Proofs.YtmfekngjhiofaaaGreatDoor.reportTraces
open Go.ChangeShapes Go.WideShapes Go.ChangeAt Go.RowKit
open Go.ChangeMaps (open_string shut_string)
theorem laidOut : laidOutB Tryz.prog = true := by kernel_rfl
theorem own : ownKnob Tryz.prog.godebug = none := by kernel_rfl
theorem reads (os : Os) {H : Type} (enc : TypeId × Value → H) : ∃ places, DataW.whole enc Tryz.prog ((Q.doorC os).forCall (fun _ _ => 0) ⟨#[], #[.agg #[.slice none 0 0, .slice none 0 0, .slice none 0 0, .slice none 0 0, .slice none 0 0], .agg #[.int .i64 0, .int .i64 0, .slice none 0 0, .slice none 0 0], .int .i64 0], []⟩).memory Tryz.f5.params.toList Rows.reportTracesSpec.vars false #[.agg #[.slice none 0 0, .slice none 0 0, .slice none 0 0, .slice none 0 0, .slice none 0 0], .agg #[.int .i64 0, .int .i64 0, .slice none 0 0, .slice none 0 0], .int .i64 0].toList 8 = some ([.agg [.nil, .nil, .nil, .nil, .nil], .agg [.lit (.int .i64 0), .lit (.int .i64 0), .nil, .nil], .lit (.int .i64 0)], [], places) :=
  ⟨[], by kernel_rfl⟩
set_option maxRecDepth 100000 in
theorem lifted (os : Os) (started : os.Started) (H : Type) (enc : TypeId × Value → H) (F : Stop.Interp) :
    ReturnsInHanded {} Tryz.checked os 5 .any ((OpenSpec.ofChange Rows.reportTracesSpec).preRow enc Tryz.prog Tryz.f5 Rows.reportTracesRow.domain false Rows.reportTracesRow.laid) (((OpenSpec.ofChange Rows.reportTracesSpec).at F).post enc Tryz.prog Tryz.f5 false true false false) := by
  obtain ⟨places, hx⟩ := reads os enc
  refine returnsInHanded_of_row (C := Tryz.checked) (s := (OpenSpec.ofChange Rows.reportTracesSpec)) own started (by kernel_rfl) Tryz.func5
    (witness_row_atRef (enc := enc) (C := Tryz.checked) false (Q.doorC os) #[.agg #[.slice none 0 0, .slice none 0 0, .slice none 0 0, .slice none 0 0, .slice none 0 0], .agg #[.int .i64 0, .int .i64 0, .slice none 0 0, .slice none 0 0], .int .i64 0] rfl (by kernel_rfl) (by kernel_rfl) (by kernel_rfl)
      (OpenSpec.preRow_of_cond 8 hx (by kernel_rfl) (fun k hk => by cases hk) (by kernel_rfl) (Q.door_met os _))) ?_
  intro W base args ds gs before hval0 hW _ hcond hsz0 hL hsh _
  have hsz : (DataW.weightsEach Tryz.prog (Tryz.f5.params.toList ++ (OpenSpec.ofChange Rows.reportTracesSpec).bare.plain.varTypes Tryz.prog) (ds ++ gs)).all (· ≤ reachBytes) = true := hsz0
  have hval : ∀ (j : Nat) t v, Tryz.f5.params[j]? = some t → args[j]? = some v → Value.okWide Tryz.prog W .any base t v := hval0
  have hG : Q.Tab W := Q.tab_of_laid hL hsh
  have hW' := hW
  obtain ⟨p, q, hA0, hV, rfl, hfz, hnd⟩ := hW
  have hA : DataW.TrodAll enc Tryz.prog W 0 (fun _ => true) true Tryz.f5.params.toList args.toList ds p := hA0
  rw [Tryz.params5] at hA hval hsz
  obtain ⟨v0, vs0, d0, ds0, p0, q0, hargs, rfl, rfl, h0, r0⟩ := trodAll_cons hA
  obtain ⟨v1, vs1, d1, ds1, p1, q1, rfl, rfl, rfl, h1, r1⟩ := trodAll_cons r0
  obtain ⟨v2, vs2, d2, ds2, p2, q2, rfl, rfl, rfl, h2, r2⟩ := trodAll_cons r1
  obtain ⟨rfl, rfl, rfl⟩ := trodAll_nil r2
  obtain rfl : args = #[v0, v1, v2] := by cases args; simp_all
  obtain ⟨rfl, rfl⟩ := trodVars_none hV
  obtain ⟨g0, rfl, hz0⟩ := okWide_struct Tryz.underlying27 (hval 0 27 v0 rfl rfl)
  have k0 := h0
  have lt0 : ∀ x ∈ p0, x.block < W.heap.size := by obtain ⟨m, hm⟩ := k0; exact DataW.trod_lt m _ _ _ hm
  obtain ⟨fuel0, hf0⟩ := h0
  obtain ⟨⟨x00, x01, x02, x03, x04⟩, hK0, hw0, _⟩ := Q.open_net H enc W 0 _ true fuel0 _ _ hf0
  obtain ⟨_, _, e0, ⟨A00, c00, rfl, l00, C00⟩, _, _, rfl, ⟨A01, c01, rfl, l01, C01⟩, _, _, rfl, ⟨A02, c02, rfl, l02, C02⟩, _, _, rfl, ⟨A03, c03, rfl, l03, C03⟩, ⟨A04, c04, rfl, l04, C04⟩⟩ := hK0
  obtain rfl : g0 = #[.slice A00 x00.length c00, .slice A01 x01.length c01, .slice A02 x02.length c02, .slice A03 x03.length c03, .slice A04 x04.length c04] := Array.toList_inj.1 e0
  obtain ⟨g1, rfl, hz1⟩ := okWide_struct Tryz.underlying54 (hval 1 54 v1 rfl rfl)
  have k1 := h1
  have lt1 : ∀ x ∈ p1, x.block < W.heap.size := by obtain ⟨m, hm⟩ := k1; exact DataW.trod_lt m _ _ _ hm
  obtain ⟨fuel1, hf1⟩ := h1
  obtain ⟨⟨x10, x11, x12, x13⟩, hK1, hw1, _⟩ := Q.open_verdict H enc W 0 _ true fuel1 _ _ hf1
  obtain ⟨_, _, e1, rfl, _, _, rfl, rfl, _, _, rfl, ⟨A12, c12, rfl, l12, C12⟩, ⟨A13, c13, rfl, l13, C13⟩⟩ := hK1
  obtain rfl : g1 = #[.int .i64 x10, .int .i64 x11, .slice A12 x12.length c12, .slice A13 x13.length c13] := Array.toList_inj.1 e1
  obtain ⟨a2, rfl, rfl, rfl, w2⟩ := open_int Tryz.underlying3 (hval 2 3 v2 rfl rfl) h2
  clear hA0 hval0 hsz0 hsz
  obtain ⟨kk, hkk⟩ : ∃ kk : Nat, 400000000 ≤ kk := ⟨_, Nat.le_refl _⟩
  have hk := Q.ReportTraces kk hkk x00 x01 x02 x03 x04 x10 x11 x12 x13 a2 hw0 hw1.2.1
  refine (Q.proofmarklaw30_ReportTraces.calls kk _ _ x00 _ _ x01 _ _ x02 _ _ x03 _ _ x04 x10 x11 _ _ x12 _ _ x13 a2 true W hG C00 l00 C01 l01 C02 l02 C03 l03 C04 l04 C12 l12 C13 l13 hk).mono fun e W' ⟨he, bel⟩ => ?_
  subst he
  exact ⟨_, rfl, _, _, _, [], _, [], hW', trodAll_mk1 (shut_bool Tryz.underlying4 _), (trodAll_cons_mk (Below.trod laidOut (by kernel_rfl) (of_decide_eq_true (by kernel_rfl)) k0 bel lt0) (trodAll_cons_mk (Below.trod laidOut (by kernel_rfl) (of_decide_eq_true (by kernel_rfl)) k1 bel lt1) (trodAll_cons_mk (shut_int Tryz.underlying3 w2) trodAll_mk0))), rfl, bel.frame _, fun h => by cases h⟩
theorem said : Rows.ReportTracesSaid :=
  OpenClaim.holds_of_cond 5 Tryz.f5 rfl rfl rfl rfl rfl rfl rfl ⟨rfl, rfl, rfl, rfl, rfl⟩ rfl rfl rfl rfl rfl (by kernel_rfl) Tryz.func5 (by kernel_rfl)
    (of_decide_eq_true (by kernel_rfl)) (by unfold Func.isWrapper; first | (rw [if_pos (by decide +kernel)]; kernel_rfl) | (rw [if_neg (by decide +kernel)]; exact ⟨rfl, rfl⟩))
    (fun os started H enc _ F => by rw [OpenClaim.pre_eq_preRow]; exact lifted os started H enc F)
theorem plain (f : FuncId) (fn : Func) (hf : Tryz.pinned.checked.prog.funcNamed Rows.reportTracesRow.func = some f) (hfn : Tryz.pinned.checked.prog.funcs[f]? = some fn) :
    true = Tryz.pinned.checked.prog.looks [] ∧ ∀ (j : Nat) t, fn.params[j]? = some t → Tryz.pinned.checked.prog.wantsStandIn t = false := by
  obtain rfl : f = 5 := Option.some.inj ((show Tryz.prog.funcNamed Rows.reportTracesRow.func = some 5 by kernel_rfl).symm.trans hf) |>.symm
  obtain rfl : fn = Tryz.f5 := (Option.some.inj (Tryz.func5.symm.trans hfn)).symm
  refine ⟨by kernel_rfl, fun j t ht => ?_⟩
  rw [Tryz.params5] at ht
  have hm : t ∈ [27, 54, 3] := by simpa using Array.mem_of_getElem? ht
  have hall : ∀ t ∈ [27, 54, 3], Tryz.prog.wantsStandIn t = false := by
    intro t ht; simp only [List.mem_cons, List.not_mem_nil, or_false] at ht
    rcases ht with rfl | rfl | rfl <;> kernel_rfl
  exact hall t (by simp at hm ⊢; first | exact hm | omega)
theorem card : Rows.ReportTracesCardSaid :=
  Claim7.holds_tied_plain_at .later [] _ _ _ _ said (fun _ h => by cases h) (by kernel_rfl) (fun _ h => by cases h) reportTraces_row_tie rfl ⟨rfl, rfl⟩ (by kernel_rfl) rfl plain (by kernel_rfl)
#print axioms card
end Go.Proofs.YtmfekngjhiofaaaGreatDoor.reportTraces
namespace Go.Proofs.YtmfekngjhiofaaaGreatDoor
/-- The card, under a short name, for the claim. -/
theorem reportTraces_card : Rows.ReportTracesCardSaid := reportTraces.card
end Go.Proofs.YtmfekngjhiofaaaGreatDoor

