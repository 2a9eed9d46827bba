/-
  HAND: proofmarkref01.Moved: tokens so much further.
-/
import Derived.Test.YthegiggpkphieaaDoorQx0
set_option linter.unusedVariables false
set_option linter.unusedSimpArgs false
namespace Go.Proofs.YthegiggpkphieaaDoor.Q
open Go.RowKit Go.Proofs.YthegiggpkphieaaDoorW.PrintWords Go.Proofs.YthegiggpkphieaaDoorW.PrintLast Go.Proofs.YthegiggpkphieaaDoorW.PrintMore

def moveS (d : Int) (t : S33) : S33 := ⟨t.f0, t.f1, t.f2, wrap64 (t.f3 + d)⟩
def proofmarkref01_Moved.f (l0 : List (S33)) (a1 : Int) : Option ((List (S33))) := if l0.length < 3518437208883 then some (l0.map (moveS a1)) else none
theorem moved_step (l : List S33) (a1 : Int) (k : Nat) (hk : k < l.length) : (l.take k).map (moveS a1) ++ [moveS a1 (rd_T33 l (k : Int))] = (l.take (k + 1)).map (moveS a1) := by
  have : rd_T33 l (k : Int) = l[k] := by simp [rd_T33, hk]
  rw [this, List.take_add_one, List.getElem?_eq_getElem hk, List.map_append]
  rfl
set_option maxHeartbeats 4000000 in
set_option maxRecDepth 100000 in
theorem proofmarkref01_Moved.calls (A0 : Option Addr) (c0 : Nat) (l0 : List (S33)) (a1 : Int) (r : List (S33)) (w : World) (hr0 : Kd.C k33 w A0 l0.length l0) (hc0 : l0.length ≤ c0) (h : proofmarkref01_Moved.f l0 a1 = some r) :
    Calls Tryd.prog 20 #[.slice A0 l0.length c0, .int .i64 a1] w fun e w' => ∃ v0_ : Value, e = .returned (v0_) ∧ Kd.R k33 33 w' w.heap.size (fun _ => True) v0_ r ∧ Below w.heap.size w w' := by
  have HR0 := Aside0.mk hr0
  clear hr0
  have HB := Aside0.mk (Below.refl w.heap.size w)
  unfold proofmarkref01_Moved.f at h
  by_cases hb1 : l0.length < 3518437208883
  · rw [if_pos hb1] at h
    have HF := Aside0.mk (Option.some.inj h)
    clear h
    go_enter Tryd.func20, Tryd.ntmps20
    go_wp2_with (first | ((with_reducible refine gate_dst (N := 8) rfl ?_); refine Kd.R_lit k33 _ 33 ?hg (N := 8) ?hd (xs := ([] : List (S33))) (inner := []) (ok := fun _ => True) (okp := fun _ => True) ?hr ?hp (fun _ hk => hk) trivial (Below.refl _ _) (Nat.le_refl _) (by simp) ?_; (case hd => rfl); (case hg => rfl); (case hr => first | (go_simp; done) | (go_simp; rfl)); (case hp => exact (Reps.none _ _)); intro v217 w3 ho4 hb hg_ hnew_; clear hg_ hnew_; have HO := Aside0.mk ho4; have HB3 := Aside0.mk hb; clear HB; clear hb ho4))
    try simp only [Act.put, List.setIfInBounds_toArray, List.set_cons_succ, List.set_cons_zero]
    go_loopg [5, 6] l0.length (fun kq v5 v6 w' => ∃ (k : Nat) (ws : List S33), v6 = .int .i64 k ∧ k ≤ l0.length ∧ Aside0 (kq = l0.length - k) ∧ Aside0 (ws = (l0.take k).map (moveS a1)) ∧ Aside0 (Kd.R k33 33 w' w.heap.size (fun _ => True) v5 ws) ∧ Aside0 (Below w.heap.size w w'))
    case atStart => exact ⟨0, [], rfl, by omega, ⟨by omega⟩, ⟨by simp⟩, HO, HB3⟩
    case round =>
      clear HO HB3
      obtain ⟨k, ws, rfl, hk, HQ, HW, HO, HB⟩ := hrel
      by_cases hlt : k < l0.length
      · have hi0 : 0 ≤ (k : Int) := by omega
        have hi1 : (k : Int) < l0.length := by omega
        obtain ⟨ad, e, x0, x1, x2, x3⟩ := at_T33 (Kd.C_below HR0.out HB.out) k hi0 hi1
        cases e
        have hto : (k : Int).toNat = k := by omega
        simp only [hto] at x0 x1 x2 x3
        clear hto
        have HL := Aside0.mk (show ws.length ≤ k by rw [HW.out]; simp; omega)
        generalize hy : rd_T33 l0 (k : Int) = y at x0 x1 x2 x3
        have HY := Aside0.mk hy
        clear hy
        go_wp2_with (first | ((with_reducible refine gate_dst (N := 27) rfl ?_); refine Kd.R_append k33 (w0 := w) w.heap.size rfl (.tmp 24) (.tmp 26) 22 33 (.agg #[(.int .i64 0), (.string ⟨#[]⟩), (.int .i64 0), (.int .i64 0)]) 40 rfl Tryd.underlying22 info33 rfl (by decide) (by omega) u5 ws (moveS a1 y) [.int .i64 y.f0, .string y.f1, .int .i64 y.f2, .int .i64 (wrap64 (y.f3 + a1))] (fun _ => True) (fun _ => False) rfl (by first | (go_simp; done) | (go_simp; rfl)) ?aP (fun _ hk => hk.elim) (fun _ _ => trivial) ?aO ?aB ?aS ?aL ?_; (case aP => exact k33_mkM _ _ _ (moveS a1 y)); (case aO => exact Kd.R_alloc HO.out _); (case aB => exact below_alloc HB.out _); (case aS => exact below_size (below_alloc HB.out _)); (case aL => have := HL.out; omega); intro v2 w2 hR hB hg hat; have HO2 := Aside0.mk hR; have HB2' := Aside0.mk hB; clear hR hB hg hat))
        go_roundg (l0.length - (k + 1))
        case measure => have := HQ.out; omega
        case rel => exact ⟨k + 1, ws ++ [moveS a1 y], by go_num, by omega, ⟨rfl⟩, ⟨by rw [HW.out, ← HY.out]; exact moved_step l0 a1 k hlt⟩, HO2, HB2'⟩
      · obtain rfl : k = l0.length := by omega
        go_wp2
        go_ret
        exact ⟨_, rfl, by have h1 := HO.out; rw [HW.out, List.take_length, HF.out] at h1; exact h1, HB.out⟩
  · rw [if_neg hb1] at h
    exact absurd h (by simp)
end Go.Proofs.YthegiggpkphieaaDoor.Q
