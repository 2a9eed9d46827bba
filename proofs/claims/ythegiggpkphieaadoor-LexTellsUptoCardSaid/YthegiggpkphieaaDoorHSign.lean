/-
  HAND: lex.sign: the first sign of the table that a text begins with.
-/
import Derived.Test.YthegiggpkphieaaDoorHSpan
import Derived.Test.YthegiggpkphieaaDoorHTab
import Derived.Test.YthegiggpkphieaaDoorQx2
set_option linter.unusedVariables false
set_option linter.unusedSimpArgs false
namespace Go.Proofs.YthegiggpkphieaaDoor.Q
open Go.RowKit Go.Proofs.YthegiggpkphieaaDoorW.PrintWords Go.Proofs.YthegiggpkphieaaDoorW.PrintLast Go.Proofs.YthegiggpkphieaaDoorW.PrintMore

theorem hasPrefix_f (s x : ByteArray) : strings_HasPrefix.f s x = some (x.data.toList.isPrefixOf s.data.toList) := by
  unfold strings_HasPrefix.f stringslite_HasPrefix.f
  rw [ByteArray.toList_eq, ByteArray.toList_eq]
  by_cases h : (s.size : Int) ≥ (x.size : Int)
  · rw [if_pos h, if_pos (by omega), if_pos (by omega)]
    simp only [Option.bind_some]
    congr 1
    rw [Bool.eq_iff_iff, beq_iff_eq, List.isPrefixOf_iff_prefix, List.prefix_iff_eq_take]
    simp
    constructor
    · intro h; exact h.symm
    · intro h; exact h.symm
  · rw [if_neg h]
    simp only [Option.bind_some]
    congr 1
    rw [eq_comm, Bool.eq_false_iff, ne_eq, List.isPrefixOf_iff_prefix]
    intro hp
    have := hp.length_le
    simp at this
    omega
theorem signs_data : signsB.map (fun x => x.data.toList) = LexP.signs := by decide
theorem sign_run (k : Nat) (hk : k < 25) (w : World) : (Instr.index 57 (.agg signsA) (.int .i64 (k : Int))).run Tryd.prog w = .ok (signsA.toList.getD k undef) w := by
  obtain rfl | rfl | rfl | rfl | rfl | rfl | rfl | rfl | rfl | rfl | rfl | rfl | rfl | rfl | rfl | rfl | rfl | rfl | rfl | rfl | rfl | rfl | rfl | rfl | rfl : k = 0 ∨ k = 1 ∨ k = 2 ∨ k = 3 ∨ k = 4 ∨ k = 5 ∨ k = 6 ∨ k = 7 ∨ k = 8 ∨ k = 9 ∨ k = 10 ∨ k = 11 ∨ k = 12 ∨ k = 13 ∨ k = 14 ∨ k = 15 ∨ k = 16 ∨ k = 17 ∨ k = 18 ∨ k = 19 ∨ k = 20 ∨ k = 21 ∨ k = 22 ∨ k = 23 ∨ k = 24 := by omega
  all_goals kernel_rfl
theorem sign_at (k : Nat) (hk : k < 25) : ∃ x, signsB[k]? = some x ∧ ∀ w : World, (Instr.index 57 (.agg signsA) (.int .i64 (k : Int))).run Tryd.prog w = .ok (.string x) w := by
  have hl : k < signsB.length := by simpa [signsB] using hk
  refine ⟨signsB[k], List.getElem?_eq_getElem hl, fun w => ?_⟩
  rw [sign_run k hk w]
  simp [signsA, List.getD_eq_getElem?_getD, hl]
theorem signs_at (k : Nat) (x : ByteArray) (h : signsB[k]? = some x) : LexP.signs[k]? = some x.data.toList := by
  rw [← signs_data, List.getElem?_map, h]; rfl
/-- the sign that a text begins with, looked for from place k on -/
def sgnFrom (k : Nat) (l : List UInt8) : Option (List UInt8) := (LexP.signs.drop k).find? (fun x => x.isPrefixOf l)
theorem sgnFrom_hit (k : Nat) (x : ByteArray) (l : List UInt8) (h : signsB[k]? = some x) (hp : x.data.toList.isPrefixOf l = true) : sgnFrom k l = some x.data.toList := by
  have h1 := signs_at k x h
  have hk : k < LexP.signs.length := (List.getElem?_eq_some_iff.1 h1).1
  unfold sgnFrom
  rw [List.drop_eq_getElem_cons hk, (List.getElem?_eq_some_iff.1 h1).2]
  simp [List.find?_cons, hp]
theorem sgnFrom_miss (k : Nat) (x : ByteArray) (l : List UInt8) (h : signsB[k]? = some x) (hp : x.data.toList.isPrefixOf l = false) : sgnFrom k l = sgnFrom (k + 1) l := by
  have h1 := signs_at k x h
  have hk : k < LexP.signs.length := (List.getElem?_eq_some_iff.1 h1).1
  unfold sgnFrom
  rw [List.drop_eq_getElem_cons hk, (List.getElem?_eq_some_iff.1 h1).2]
  simp [List.find?_cons, hp]

/-- what 'one' and its kin hand back for a step: the token (its place left 0), and whether there is one -/
def OnePost (o : LexP.Step) (e : Ending) : Prop :=
  match o with
  | .tok k t v => e = .returned (.tuple #[.agg #[.int .i64 (k : Int), .string ⟨t.toArray⟩, .int .i64 (v : Int), .int .i64 0], .bool true])
  | _ => ∃ (k : Int) (t : ByteArray) (n p : Int), e = .returned (.tuple #[.agg #[.int .i64 k, .string t, .int .i64 n, .int .i64 p], .bool false])
theorem sgn_from (l : List UInt8) : LexP.sgn l = match sgnFrom 0 l with | some x => .tok 3 x 0 | none => .err := rfl
theorem sgn_hit (l : List UInt8) (k : Nat) (x : ByteArray) (h1 : sgnFrom 0 l = sgnFrom k l) (h2 : sgnFrom k l = some x.data.toList) : OnePost (LexP.sgn l) (.returned (.tuple #[.agg #[.int .i64 3, .string x, .int .i64 0, .int .i64 0], .bool true])) := by
  rw [sgn_from, h1, h2]
  rfl
theorem sgn_none (l : List UInt8) (h1 : sgnFrom 0 l = sgnFrom 25 l) : OnePost (LexP.sgn l) (.returned (.tuple #[.agg #[.int .i64 0, .string ⟨#[]⟩, .int .i64 0, .int .i64 0], .bool false])) := by
  have h2 : sgnFrom 25 l = none := rfl
  rw [sgn_from, h1, h2]
  exact ⟨0, ⟨#[]⟩, 0, 0, rfl⟩

set_option maxHeartbeats 4000000 in
set_option maxRecDepth 100000 in
theorem sign_calls (s : ByteArray) (w : World) (hG : Tab w) :
    Calls Tryd.prog 33 #[.string s] w fun e w' => OnePost (LexP.sgn s.data.toList) e ∧ Below w.heap.size w w' := by
  have HG := Aside0.mk hG
  clear hG
  go_enter Tryd.func33, Tryd.ntmps33
  go_wp2_with (first | ((with_reducible refine gate_dst (N := 6) rfl ?_); refine wpList_load_cells rfl 57 (.global 0) rfl 0 rfl signsA _ (signsA_cells (tab_below HG.out (below_alloc (Below.refl _ _) _))) Tryd.underlying57 rfl (by kernel_rfl) ?_))
  go_loopg [7] 25 (fun kq v7 w' => ∃ k m : Nat, v7 = .int .i64 k ∧ k ≤ 25 ∧ Aside0 (kq = 25 - k) ∧ w' = (w.alloc (.cells #[.int .i64 0, .string ⟨#[]⟩, .int .i64 0, .int .i64 0] 33)).drewN m ∧ Aside0 (sgnFrom 0 s.data.toList = sgnFrom k s.data.toList))
  case atStart => exact ⟨0, 0, rfl, by omega, ⟨rfl⟩, rfl, ⟨rfl⟩⟩
  case round =>
    obtain ⟨k, m, rfl, hk, HQ, rfl, HE⟩ := hrel
    by_cases hlt : k < 25
    · obtain ⟨x, hx, hrun⟩ := sign_at k hlt
      have HX := Aside0.mk hx
      clear hx
      have HC := Aside0.mk (hasPrefix_f s x)
      by_cases hp : x.data.toList.isPrefixOf s.data.toList = true
      · have HP := Aside0.mk hp
        clear hp
        go_wp2_with (first | (go_at_call 21; refine (strings_HasPrefix.calls _ _ _ _ HC.out).mono ?_; rintro e w' ⟨rfl, ⟨nd, rfl⟩⟩; rw [HP.out]))
        refine bodyPost_ret (v := .tuple #[.agg #[.int .i64 3, .string x, .int .i64 0, .int .i64 0], .bool true]) (by simp [results, Tryd.results33, go_sem]) rfl ⟨sgn_hit _ k x HE.out (sgnFrom_hit k x _ HX.out HP.out), ?_⟩
        exact ((((pw_below_drewN (below_alloc (Below.refl _ _) _) _).setCell (by simp) _).setCell (by simp) _).setCell (by simp) _).setCell (by simp) _
      · have HP := Aside0.mk (show x.data.toList.isPrefixOf s.data.toList = false by simpa using hp)
        clear hp
        go_wp2_with (first | (go_at_call 21; refine (strings_HasPrefix.calls _ _ _ _ HC.out).mono ?_; rintro e w' ⟨rfl, ⟨nd, rfl⟩⟩; rw [HP.out]))
        go_roundg (25 - (k + 1))
        case measure => have := HQ.out; omega
        case rel => exact ⟨k + 1, m + nd, by go_num, by omega, ⟨rfl⟩, rfl, ⟨HE.out.trans (sgnFrom_miss k x _ HX.out HP.out)⟩⟩
    · obtain rfl : k = 25 := by omega
      go_wp2
      refine bodyPost_ret (v := .tuple #[.agg #[.int .i64 0, .string ⟨#[]⟩, .int .i64 0, .int .i64 0], .bool false]) (by simp [results, Tryd.results33, go_sem]) rfl ⟨sgn_none _ HE.out, ?_⟩
      exact ((((pw_below_drewN (below_alloc (Below.refl _ _) _) _).setCell (by simp) _).setCell (by simp) _).setCell (by simp) _).setCell (by simp) _
end Go.Proofs.YthegiggpkphieaaDoor.Q
