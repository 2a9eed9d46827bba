/-
  PROVED: proofmark/proofmarklaw27.LiftSays: the law's function answers true at every input, and leaves its arguments as they were. Conditions: the package-level variables that report reads hold at the call what the program's own text lays there (the card ties that to the text).
-/
import Derived.Test.YtmfekngjhiofaaaGreatDoorCards
import Derived.Test.YtmfekngjhiofaaaGreatDoorTie
import Derived.Test.YtmfekngjhiofaaaGreatDoorHLaid
import Derived.Test.YtmfekngjhiofaaaGreatDoorHOpenAsk
import Derived.Test.YtmfekngjhiofaaaGreatDoorPureLiftSays
import Derived.Carry
import Derived.WalkKit
import Derived.ProofKit
import Derived.OpenShut
import Derived.ShutString
import Derived.SizedLaws
import Derived.Stop.Joined
import Derived.Deep.DeepHandedRow
import Derived.Deep.DeepWitnessRowRef
set_option linter.unusedVariables false
set_option linter.unusedSimpArgs false
namespace Go.Proofs.YtmfekngjhiofaaaGreatDoor.liftSays
open Go.ChangeShapes Go.WideShapes Go.ChangeAt Go.RowKit
open Go.ChangeMaps (open_string shut_string)
theorem laidOut : laidOutB Tryz.prog = true := by kernel_rfl
theorem own : ownKnob Tryz.prog.godebug = none := by kernel_rfl
theorem reads (os : Os) {H : Type} (enc : TypeId × Value → H) : ∃ places, DataW.whole enc Tryz.prog ((Q.doorC os).forCall (fun _ _ => 0) ⟨#[], #[.agg #[.slice none 0 0, .slice none 0 0, .slice none 0 0, .slice none 0 0, .slice none 0 0, .int .i64 0, .slice none 0 0, .slice none 0 0, .slice none 0 0, .slice none 0 0, .slice none 0 0, .slice none 0 0, .string ⟨#[]⟩]], []⟩).memory Tryz.f4.params.toList Rows.liftSaysSpec.vars false #[.agg #[.slice none 0 0, .slice none 0 0, .slice none 0 0, .slice none 0 0, .slice none 0 0, .int .i64 0, .slice none 0 0, .slice none 0 0, .slice none 0 0, .slice none 0 0, .slice none 0 0, .slice none 0 0, .string ⟨#[]⟩]].toList 8 = some ([.agg [.agg [.nil, .nil, .nil, .nil, .nil], .agg [.agg [.lit (.int .i64 0), .nil], .nil, .nil, .nil], .nil, .nil, .lit (.string [])]], [], places) :=
  ⟨[], by kernel_rfl⟩
set_option maxRecDepth 100000 in
theorem lifted (os : Os) (started : os.Started) (H : Type) (enc : TypeId × Value → H) (F : Stop.Interp) :
    ReturnsInHanded {} Tryz.checked os 4 .any ((OpenSpec.ofChange Rows.liftSaysSpec).preRow enc Tryz.prog Tryz.f4 Rows.liftSaysRow.domain false Rows.liftSaysRow.laid) (((OpenSpec.ofChange Rows.liftSaysSpec).at F).post enc Tryz.prog Tryz.f4 false true false false) := by
  obtain ⟨places, hx⟩ := reads os enc
  refine returnsInHanded_of_row (C := Tryz.checked) (s := (OpenSpec.ofChange Rows.liftSaysSpec)) own started (by kernel_rfl) Tryz.func4
    (witness_row_atRef (enc := enc) (C := Tryz.checked) false (Q.doorC os) #[.agg #[.slice none 0 0, .slice none 0 0, .slice none 0 0, .slice none 0 0, .slice none 0 0, .int .i64 0, .slice none 0 0, .slice none 0 0, .slice none 0 0, .slice none 0 0, .slice none 0 0, .slice none 0 0, .string ⟨#[]⟩]] rfl (by kernel_rfl) (by kernel_rfl) (by kernel_rfl)
      (OpenSpec.preRow_of_cond 8 hx (by kernel_rfl) (fun k hk => by cases hk) (by kernel_rfl) (Q.door_met os _))) ?_
  intro W base args ds gs before hval0 hW _ hcond hsz0 hL hsh _
  have hsz : (DataW.weightsEach Tryz.prog (Tryz.f4.params.toList ++ (OpenSpec.ofChange Rows.liftSaysSpec).bare.plain.varTypes Tryz.prog) (ds ++ gs)).all (· ≤ reachBytes) = true := hsz0
  have hval : ∀ (j : Nat) t v, Tryz.f4.params[j]? = some t → args[j]? = some v → Value.okWide Tryz.prog W .any base t v := hval0
  have hG : Q.Tab W := Q.tab_of_laid hL hsh
  have hW' := hW
  obtain ⟨p, q, hA0, hV, rfl, hfz, hnd⟩ := hW
  have hA : DataW.TrodAll enc Tryz.prog W 0 (fun _ => true) true Tryz.f4.params.toList args.toList ds p := hA0
  rw [Tryz.params4] at hA hval hsz
  obtain ⟨v0, vs0, d0, ds0, p0, q0, hargs, rfl, rfl, h0, r0⟩ := trodAll_cons hA
  obtain ⟨rfl, rfl, rfl⟩ := trodAll_nil r0
  obtain rfl : args = #[v0] := by cases args; simp_all
  obtain ⟨rfl, rfl⟩ := trodVars_none hV
  obtain ⟨g0, rfl, hz0⟩ := okWide_struct Tryz.underlying39 (hval 0 39 v0 rfl rfl)
  have k0 := h0
  have lt0 : ∀ x ∈ p0, x.block < W.heap.size := by obtain ⟨m, hm⟩ := k0; exact DataW.trod_lt m _ _ _ hm
  obtain ⟨fuel0, hf0⟩ := h0
  obtain ⟨⟨⟨x00, x01, x02, x03, x04⟩, ⟨⟨x05, x06⟩, x07, x08, x09⟩, x10, x11, x12⟩, hK0, hw0, _⟩ := Q.open_ask H enc W 0 _ true fuel0 _ _ hf0
  obtain ⟨_, _, e0, ⟨_, _, rfl, ⟨A00, c00, rfl, l00, C00⟩, _, _, rfl, ⟨A01, c01, rfl, l01, C01⟩, _, _, rfl, ⟨A02, c02, rfl, l02, C02⟩, _, _, rfl, ⟨A03, c03, rfl, l03, C03⟩, ⟨A04, c04, rfl, l04, C04⟩⟩, _, _, rfl, ⟨_, _, rfl, ⟨_, _, rfl, rfl, ⟨A06, c06, rfl, l06, C06⟩⟩, _, _, rfl, ⟨A07, c07, rfl, l07, C07⟩, _, _, rfl, ⟨A08, c08, rfl, l08, C08⟩, ⟨A09, c09, rfl, l09, C09⟩⟩, _, _, rfl, ⟨A10, c10, rfl, l10, C10⟩, _, _, rfl, ⟨A11, c11, rfl, l11, C11⟩, rfl⟩ := hK0
  obtain rfl : g0 = #[.slice A00 x00.length c00, .slice A01 x01.length c01, .slice A02 x02.length c02, .slice A03 x03.length c03, .slice A04 x04.length c04, .int .i64 x05, .slice A06 x06.length c06, .slice A07 x07.length c07, .slice A08 x08.length c08, .slice A09 x09.length c09, .slice A10 x10.length c10, .slice A11 x11.length c11, .string x12] := Array.toList_inj.1 e0
  clear hA0 hval0 hsz0 hsz
  obtain ⟨kk, hkk⟩ : ∃ kk : Nat, 400000000 ≤ kk := ⟨_, Nat.le_refl _⟩
  have hk := Q.LiftSays kk (by omega) x00 x01 x02 x03 x04 x05 x06 x07 x08 x09 x10 x11 x12 hw0.1 hw0.2.2.1
  refine (Q.proofmarklaw27_LiftSays.calls1 kk _ _ x00 _ _ x01 _ _ x02 _ _ x03 _ _ x04 x05 _ _ x06 _ _ x07 _ _ x08 _ _ x09 _ _ x10 _ _ x11 x12 true W hG C00 l00 C01 l01 C02 l02 C03 l03 C04 l04 C06 l06 C07 l07 C08 l08 C09 l09 C10 l10 C11 l11 hk rfl).mono fun e W' ⟨he, bel⟩ => ?_
  subst he
  exact ⟨_, rfl, _, _, _, [], _, [], hW', trodAll_mk1 (shut_bool Tryz.underlying4 _), (trodAll_cons_mk (Below.trod laidOut (by kernel_rfl) (of_decide_eq_true (by kernel_rfl)) k0 bel lt0) trodAll_mk0), rfl, bel.frame _, fun h => by cases h⟩
theorem said : Rows.LiftSaysSaid :=
  OpenClaim.holds_of_cond 4 Tryz.f4 rfl rfl rfl rfl rfl rfl rfl ⟨rfl, rfl, rfl, rfl, rfl⟩ rfl rfl rfl rfl rfl (by kernel_rfl) Tryz.func4 (by kernel_rfl)
    (of_decide_eq_true (by kernel_rfl)) (by unfold Func.isWrapper; first | (rw [if_pos (by decide +kernel)]; kernel_rfl) | (rw [if_neg (by decide +kernel)]; exact ⟨rfl, rfl⟩))
    (fun os started H enc _ F => by rw [OpenClaim.pre_eq_preRow]; exact lifted os started H enc F)
theorem plain (f : FuncId) (fn : Func) (hf : Tryz.pinned.checked.prog.funcNamed Rows.liftSaysRow.func = some f) (hfn : Tryz.pinned.checked.prog.funcs[f]? = some fn) :
    true = Tryz.pinned.checked.prog.looks [] ∧ ∀ (j : Nat) t, fn.params[j]? = some t → Tryz.pinned.checked.prog.wantsStandIn t = false := by
  obtain rfl : f = 4 := Option.some.inj ((show Tryz.prog.funcNamed Rows.liftSaysRow.func = some 4 by kernel_rfl).symm.trans hf) |>.symm
  obtain rfl : fn = Tryz.f4 := (Option.some.inj (Tryz.func4.symm.trans hfn)).symm
  refine ⟨by kernel_rfl, fun j t ht => ?_⟩
  rw [Tryz.params4] at ht
  have hm : t ∈ [39] := by simpa using Array.mem_of_getElem? ht
  have hall : ∀ t ∈ [39], Tryz.prog.wantsStandIn t = false := by
    intro t ht; simp only [List.mem_cons, List.not_mem_nil, or_false] at ht
    subst ht; kernel_rfl
  exact hall t (by simp at hm ⊢; first | exact hm | omega)
theorem card : Rows.LiftSaysCardSaid :=
  Claim7.holds_tied_plain_at .later [] _ _ _ _ said (fun _ h => by cases h) (by kernel_rfl) (fun _ h => by cases h) liftSays_row_tie rfl ⟨rfl, rfl⟩ (by kernel_rfl) rfl plain (by kernel_rfl)
#print axioms card
end Go.Proofs.YtmfekngjhiofaaaGreatDoor.liftSays
namespace Go.Proofs.YtmfekngjhiofaaaGreatDoor
/-- The card, under a short name, for the claim. -/
theorem liftSays_card : Rows.LiftSaysCardSaid := liftSays.card
end Go.Proofs.YtmfekngjhiofaaaGreatDoor

