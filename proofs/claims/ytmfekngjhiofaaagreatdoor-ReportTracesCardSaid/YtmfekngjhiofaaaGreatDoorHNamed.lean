/-
  HAND: lift.unlike at its two types, and lift.named.
-/
import Derived.Test.YtmfekngjhiofaaaGreatDoorQx0
import Derived.Test.YtmfekngjhiofaaaGreatDoorHAny
import Derived.Test.YtmfekngjhiofaaaGreatDoorHTab
import Derived.Maps.OwnOps
import Derived.Maps.Views
import Derived.Maps.OwnSet
set_option linter.unusedVariables false
set_option linter.unusedSimpArgs false
namespace Go.Proofs.YtmfekngjhiofaaaGreatDoor.Q
open Go.RowKit Go.Maps Go.WideMaps Go.Proofs.YtmfekngjhiofaaaGreatDoorW.PrintWords Go.Proofs.YtmfekngjhiofaaaGreatDoorW.PrintLast Go.Proofs.YtmfekngjhiofaaaGreatDoorW.PrintMore

/-- names that are plain, no two the same -/
def badL (s : List UInt8) : Bool := Lib.containsAny s badC.data.toList
def unlikeB (l : List (List UInt8)) : Bool := decide l.Nodup && l.all (fun s => !badL s)
theorem unlikeB_snoc (l : List (List UInt8)) (s : List UInt8) : unlikeB (l ++ [s]) = (unlikeB l && (!decide (s ∈ l) && !badL s)) := by
  have e : decide (l ++ [s]).Nodup = (decide l.Nodup && !decide (s ∈ l)) := by
    rw [Bool.eq_iff_iff]
    simp only [decide_eq_true_eq, Bool.and_eq_true, Bool.not_eq_true', decide_eq_false_iff_not, List.nodup_append, List.nodup_cons, List.not_mem_nil, not_false_eq_true, List.nodup_nil, and_self, true_and, List.mem_singleton]
    constructor
    · rintro ⟨h1, h2⟩; exact ⟨h1, fun h => h2 s h s rfl rfl⟩
    · rintro ⟨h1, h2⟩; exact ⟨h1, fun a ha b hb e => h2 (by rw [← hb, ← e]; exact ha)⟩
  unfold unlikeB
  rw [e, List.all_append, List.all_cons, List.all_nil, Bool.and_true]
  cases decide l.Nodup <;> cases decide (s ∈ l) <;> cases l.all (fun s => !badL s) <;> cases badL s <;> rfl
theorem unlikeB_take (l : List (List UInt8)) (k : Nat) (h : unlikeB (l.take k) = false) : unlikeB l = false := by
  cases hq : unlikeB l with
  | false => rfl
  | true =>
    unfold unlikeB at hq h
    simp only [Bool.and_eq_true, decide_eq_true_eq, List.all_eq_true] at hq
    have h1 : (l.take k).Nodup := hq.1.sublist (List.take_sublist k l)
    have h2 : (l.take k).all (fun s => !badL s) = true := List.all_eq_true.2 fun x hx => hq.2 x (List.mem_of_mem_take hx)
    rw [h2, decide_eq_true h1] at h
    exact absurd h (by decide)
theorem owns_below {P : Program} {t : TypeId} {R : Value → Option (DataW Unit × List MemPlace)} {b n : Nat} {D : DataW Unit} {w w1 : World} (h : w.ownsMap P t R b n D) (hb : Below w.heap.size w w1) : w1.ownsMap P t R b n D := by
  have hlt := h.lt
  obtain ⟨es, clock, g1, g2, g3, g4⟩ := h
  exact ⟨es, clock, (hb.block b hlt).trans g1, g2, g3, g4⟩
theorem below_owned {B b : Nat} {w w1 w2 : World} (h : Below B w w1) (hg : w1.grownBy w2 (some b)) (hB : B ≤ b) (hsz : B ≤ w1.heap.size) : Below B w w2 :=
  h.grown hg hsz (fun k hk => by cases hk; exact hB)
/-- how often each name is met so far -/
def MetK (l : List (List UInt8)) (D : DataW Unit) : Prop := ∀ s : List UInt8, D.atKey (.string s) (.lit (.int .i64 0)) = .lit (.int .i64 (if s ∈ l then 1 else 0))
theorem MetK.nil : MetK [] (.map []) := fun s => rfl
theorem strlit_ne {s t : List UInt8} (h : s ≠ t) : (Lit.string s) ≠ Lit.string t := fun e => h (by injection e)
theorem MetK.snoc {l : List (List UInt8)} {D : DataW Unit} (h : MetK l D) (hM : Maps.IsMap D) (s : List UInt8) (hk : WideAt.IsKeyLit (.string s)) : MetK (l ++ [s]) (D.put (.string s) (.lit (.int .i64 1))) := fun t => by
  by_cases e : t = s
  · subst e
    rw [atKey_put_same hM hk, if_pos (by simp)]
  · rw [atKey_put_other (strlit_ne e), h t]
    have : (t ∈ l ++ [s]) ↔ t ∈ l := by simp [e]
    by_cases hm : t ∈ l
    · rw [if_pos hm, if_pos (this.2 hm)]
    · rw [if_neg hm, if_neg (fun q => hm (this.1 q))]
theorem strKey : Maps.Keyed Tryz.prog 9 := Maps.string_keyed Tryz.underlying9
theorem zeroInt (w : World) : (zeroValue 3).run Tryz.prog w = .ok (.int .i64 0) w := by kernel_rfl
theorem names_snoc {α : Type} (f : α → List UInt8) (l : List α) (k : Nat) (hk : k < l.length) : (l.map f).take (k + 1) = (l.map f).take k ++ [f l[k]] := by
  rw [List.take_add_one, List.getElem?_map, List.getElem?_eq_getElem hk]
  rfl

/-! ### unlikePin -/
set_option maxHeartbeats 1000000 in
theorem namePin.calls (s : ByteArray) (n1 : Int) (w : World) :
    Calls Tryz.prog 60 #[.agg #[.string s, .int .i64 n1]] w fun e w' => e = .returned (.string s) ∧ Below w.heap.size w w' := by
  go_enter Tryz.func60, Tryz.ntmps60
  go_wp2
  go_ret
  exact ⟨rfl, below_alloc (Below.refl _ _) _⟩
set_option maxHeartbeats 8000000 in
set_option maxRecDepth 100000 in
theorem unlikePin.calls (A0 : Option Addr) (c0 : Nat) (l0 : List S72) (w : World) (hr0 : Kd.C k72 w A0 l0.length l0) (hc0 : l0.length ≤ c0) (hs : ∀ x ∈ l0, x.f0.size < 4294967281) :
    Calls Tryz.prog 59 #[.slice A0 l0.length c0, .func (.func 60) #[] #[]] w fun e w' => e = .returned (.bool (unlikeB (l0.map (·.f0.data.toList)))) ∧ Below w.heap.size w w' := by
  have HR0 := Aside0.mk hr0
  have HS := Aside0.mk hs
  have hlen : l0.length ≤ 9223372036854775807 := hr0.2.1
  clear hr0 hs
  have hmm := @run_makeMap Tryz.prog
  go_enter Tryz.func59, Tryz.ntmps59
  go_wp2
  try simp only [Act.put, List.setIfInBounds_toArray, List.set_cons_succ, List.set_cons_zero]
  go_loopg [12] l0.length (fun kq v12 wr => ∃ k : Nat, v12 = .int .i64 k ∧ k ≤ l0.length ∧ Aside0 (kq = l0.length - k) ∧ Aside0 (∃ D : DataW Unit, wr.ownsMap Tryz.prog 9 (plainElem Tryz.prog 3) w.heap.size k D ∧ MetK ((l0.map (·.f0.data.toList)).take k) D) ∧ Aside0 (unlikeB ((l0.map (·.f0.data.toList)).take k) = true) ∧ Aside0 (Below w.heap.size w wr))
  case atStart => exact ⟨0, rfl, by omega, ⟨by omega⟩, ⟨_, World.ownsMap_made _ _ _ _, MetK.nil⟩, ⟨rfl⟩, ⟨below_alloc (Below.refl _ _) _⟩⟩
  case round =>
    clear hmm
    obtain ⟨k, rfl, hk, HQ, HM, HU, HB⟩ := hrel
    by_cases hlt : k < l0.length
    · have hi0 : 0 ≤ (k : Int) := by omega
      have hi1 : (k : Int) < l0.length := by omega
      obtain ⟨ad, e, x0, x1⟩ := at_T72 (Kd.C_below HR0.out HB.out) k hi0 hi1
      cases e
      have hto : (k : Int).toNat = k := by omega
      simp only [hto] at x0 x1
      clear hto
      generalize hy : rd_T72 l0 (k : Int) = y at x0 x1
      have hyk : y = l0[k] := by rw [← hy]; simp [rd_T72, hlt]
      clear hy
      have hsz : y.f0.size < 4294967281 := by rw [hyk]; exact HS.out _ (List.getElem_mem hlt)
      have hsn := names_snoc (·.f0.data.toList) l0 k hlt
      rw [← hyk] at hsn
      have HSN := Aside0.mk hsn
      clear hsn hyk
      obtain ⟨D, hown, hmet⟩ := HM.out
      have HKEY := Aside0.mk (keyOf_string_mk (s := y.f0) Tryz.underlying9 (by unfold maxLen; omega))
      have HZ := Aside0.mk hsz
      clear HM hsz
      by_cases hmem : y.f0.data.toList ∈ (l0.map (·.f0.data.toList)).take k
      · have hF : unlikeB (l0.map (·.f0.data.toList)) = false := unlikeB_take _ (k + 1) (by rw [HSN.out, unlikeB_snoc, decide_eq_true hmem]; simp)
        have LK : Aside0 (∀ W : World, W.ownsMap Tryz.prog 9 (plainElem Tryz.prog 3) w.heap.size k D → (Instr.lookup 92 (.map (some w.heap.size)) (.string y.f0) false).run Tryz.prog W = .ok (.int .i64 1) W) := ⟨fun W hW => by
          obtain ⟨c, hrun, hat, hwc⟩ := hW.lookup_int strKey Tryz.underlying92 Tryz.underlying3 (zeroInt _) HKEY.out
          rw [hmet y.f0.data.toList, if_pos hmem] at hat
          cases hat
          exact hrun⟩
        have LK2 : Aside0 (∀ W : World, W.ownsMap Tryz.prog 9 (plainElem Tryz.prog 3) w.heap.size (k + 1) (D.put (.string y.f0.data.toList) (.lit (.int .i64 2))) → (Instr.lookup 92 (.map (some w.heap.size)) (.string y.f0) false).run Tryz.prog W = .ok (.int .i64 2) W) := ⟨fun W hW => by
          obtain ⟨c, hrun, hat, hwc⟩ := hW.lookup_int strKey Tryz.underlying92 Tryz.underlying3 (zeroInt _) HKEY.out
          rw [atKey_put_same hown.isMap (show WideAt.IsKeyLit (.string y.f0.data.toList) from trivial)] at hat
          cases hat
          exact hrun⟩
        have HO := Aside0.mk hown
        have HF := Aside0.mk hF
        clear hmem hmet hown hF
        go_wp2_with (first | (go_at_call 60; refine (namePin.calls _ _ _).mono ?_; rintro e w' ⟨rfl, hb⟩; have n0 := Aside0.mk (below_step (below_alloc HB.out _) hb); have n1 := Aside0.mk (owns_below HO.out (below_step (below_alloc (Below.refl _ _) _) hb)); clear HB HO hb; have HB := n0; have HO := n1; clear n0 n1; have hl1 := LK.out _ HO.out) | (at_mapUpdate; refine wpList_mapUpdate_own _ rfl _ _ _ 92 rfl 9 3 strKey Tryz.underlying92 _ w.heap.size k _ rfl HO.out (by unfold maxLen; omega) _ _ _ rfl rfl HKEY.out _ [] (plainElem_int Tryz.underlying3 (by decide)) ?_; intro w3 hown3 hg3; have n0 := Aside0.mk (below_owned HB.out hg3 (Nat.le_refl _) HB.out.size); clear HB hl1 HO; have HB := n0; clear n0 hg3; have hl2 := LK2.out _ hown3; clear hown3))
        go_ret
        exact ⟨by rw [HF.out]; rfl, HB.out⟩
      · have LK : Aside0 (∀ W : World, W.ownsMap Tryz.prog 9 (plainElem Tryz.prog 3) w.heap.size k D → (Instr.lookup 92 (.map (some w.heap.size)) (.string y.f0) false).run Tryz.prog W = .ok (.int .i64 0) W) := ⟨fun W hW => by
          obtain ⟨c, hrun, hat, hwc⟩ := hW.lookup_int strKey Tryz.underlying92 Tryz.underlying3 (zeroInt _) HKEY.out
          rw [hmet y.f0.data.toList, if_neg hmem] at hat
          cases hat
          exact hrun⟩
        have LK2 : Aside0 (∀ W : World, W.ownsMap Tryz.prog 9 (plainElem Tryz.prog 3) w.heap.size (k + 1) (D.put (.string y.f0.data.toList) (.lit (.int .i64 1))) → (Instr.lookup 92 (.map (some w.heap.size)) (.string y.f0) false).run Tryz.prog W = .ok (.int .i64 1) W) := ⟨fun W hW => by
          obtain ⟨c, hrun, hat, hwc⟩ := hW.lookup_int strKey Tryz.underlying92 Tryz.underlying3 (zeroInt _) HKEY.out
          rw [atKey_put_same hown.isMap (show WideAt.IsKeyLit (.string y.f0.data.toList) from trivial)] at hat
          cases hat
          exact hrun⟩
        have HMET := Aside0.mk (hmet.snoc hown.isMap y.f0.data.toList trivial)
        have HO := Aside0.mk hown
        have HMEM := Aside0.mk hmem
        clear hmem hmet hown
        cases hbad : badL y.f0.data.toList
        · have HF := Aside0.mk (show unlikeB ((l0.map (·.f0.data.toList)).take (k + 1)) = true by rw [HSN.out, unlikeB_snoc, HU.out, decide_eq_false HMEM.out, hbad]; rfl)
          have HBAD := Aside0.mk hbad
          clear hbad
          go_wp2_with (first | (go_at_call 60; refine (namePin.calls _ _ _).mono ?_; rintro e w' ⟨rfl, hb⟩; have n0 := Aside0.mk (below_step (below_alloc HB.out _) hb); have n1 := Aside0.mk (owns_below HO.out (below_step (below_alloc (Below.refl _ _) _) hb)); clear HB HO hb; have HB := n0; have HO := n1; clear n0 n1; have hl1 := LK.out _ HO.out) | (at_mapUpdate; refine wpList_mapUpdate_own _ rfl _ _ _ 92 rfl 9 3 strKey Tryz.underlying92 _ w.heap.size k _ rfl HO.out (by unfold maxLen; omega) _ _ _ rfl rfl HKEY.out _ [] (plainElem_int Tryz.underlying3 (by decide)) ?_; intro w3 hown3 hg3; have n0 := Aside0.mk (below_owned HB.out hg3 (Nat.le_refl _) HB.out.size); clear HB hl1 HO; have HB := n0; clear n0 hg3; have hl2 := LK2.out _ hown3; have HO3 := Aside0.mk hown3; clear hown3) | (go_at_call 76; refine (containsAny_any y.f0 _ _ HZ.out HBAD.out).mono ?_; rintro e w' ⟨rfl, hb⟩; have n0 := Aside0.mk (below_step HB.out hb); have n1 := Aside0.mk (owns_below HO3.out hb); clear HB HO3 hl2 hb; have HB := n0; have HO3 := n1; clear n0 n1))
          go_roundg (l0.length - (k + 1))
          case measure => have := HQ.out; omega
          case rel => exact ⟨k + 1, by go_num, by omega, ⟨rfl⟩, ⟨_, HO3.out, by rw [HSN.out]; exact HMET.out⟩, HF, HB⟩
        · have HF := Aside0.mk (show unlikeB (l0.map (·.f0.data.toList)) = false from unlikeB_take _ (k + 1) (by rw [HSN.out, unlikeB_snoc, hbad]; simp))
          have HBAD := Aside0.mk hbad
          clear hbad
          go_wp2_with (first | (go_at_call 60; refine (namePin.calls _ _ _).mono ?_; rintro e w' ⟨rfl, hb⟩; have n0 := Aside0.mk (below_step (below_alloc HB.out _) hb); have n1 := Aside0.mk (owns_below HO.out (below_step (below_alloc (Below.refl _ _) _) hb)); clear HB HO hb; have HB := n0; have HO := n1; clear n0 n1; have hl1 := LK.out _ HO.out) | (at_mapUpdate; refine wpList_mapUpdate_own _ rfl _ _ _ 92 rfl 9 3 strKey Tryz.underlying92 _ w.heap.size k _ rfl HO.out (by unfold maxLen; omega) _ _ _ rfl rfl HKEY.out _ [] (plainElem_int Tryz.underlying3 (by decide)) ?_; intro w3 hown3 hg3; have n0 := Aside0.mk (below_owned HB.out hg3 (Nat.le_refl _) HB.out.size); clear HB hl1 HO; have HB := n0; clear n0 hg3; have hl2 := LK2.out _ hown3; clear hown3) | (go_at_call 76; refine (containsAny_any y.f0 _ _ HZ.out HBAD.out).mono ?_; rintro e w' ⟨rfl, hb⟩; have n0 := Aside0.mk (below_step HB.out hb); clear HB hl2 hb; have HB := n0; clear n0))
          go_ret
          exact ⟨by rw [HF.out]; rfl, HB.out⟩
    · obtain rfl : k = l0.length := by omega
      go_wp2
      go_ret
      exact ⟨by have := HU.out; rw [List.take_of_length_le (by simp)] at this; rw [this]; rfl, HB.out⟩

/-! ### unlikeCell -/
set_option maxHeartbeats 1000000 in
theorem nameCell.calls (s : ByteArray) (n1 n2 n3 : Int) (w : World) :
    Calls Tryz.prog 62 #[.agg #[.string s, .int .i64 n1, .int .i64 n2, .int .i64 n3]] w fun e w' => e = .returned (.string s) ∧ Below w.heap.size w w' := by
  go_enter Tryz.func62, Tryz.ntmps62
  go_wp2
  go_ret
  exact ⟨rfl, below_alloc (Below.refl _ _) _⟩
set_option maxHeartbeats 8000000 in
set_option maxRecDepth 100000 in
theorem unlikeCell.calls (A0 : Option Addr) (c0 : Nat) (l0 : List S114) (w : World) (hr0 : Kd.C k114 w A0 l0.length l0) (hc0 : l0.length ≤ c0) (hs : ∀ x ∈ l0, x.f0.size < 4294967281) :
    Calls Tryz.prog 61 #[.slice A0 l0.length c0, .func (.func 62) #[] #[]] w fun e w' => e = .returned (.bool (unlikeB (l0.map (·.f0.data.toList)))) ∧ Below w.heap.size w w' := by
  have HR0 := Aside0.mk hr0
  have HS := Aside0.mk hs
  have hlen : l0.length ≤ 9223372036854775807 := hr0.2.1
  clear hr0 hs
  have hmm := @run_makeMap Tryz.prog
  go_enter Tryz.func61, Tryz.ntmps61
  go_wp2
  try simp only [Act.put, List.setIfInBounds_toArray, List.set_cons_succ, List.set_cons_zero]
  go_loopg [12] l0.length (fun kq v12 wr => ∃ k : Nat, v12 = .int .i64 k ∧ k ≤ l0.length ∧ Aside0 (kq = l0.length - k) ∧ Aside0 (∃ D : DataW Unit, wr.ownsMap Tryz.prog 9 (plainElem Tryz.prog 3) w.heap.size k D ∧ MetK ((l0.map (·.f0.data.toList)).take k) D) ∧ Aside0 (unlikeB ((l0.map (·.f0.data.toList)).take k) = true) ∧ Aside0 (Below w.heap.size w wr))
  case atStart => exact ⟨0, rfl, by omega, ⟨by omega⟩, ⟨_, World.ownsMap_made _ _ _ _, MetK.nil⟩, ⟨rfl⟩, ⟨below_alloc (Below.refl _ _) _⟩⟩
  case round =>
    clear hmm
    obtain ⟨k, rfl, hk, HQ, HM, HU, HB⟩ := hrel
    by_cases hlt : k < l0.length
    · have hi0 : 0 ≤ (k : Int) := by omega
      have hi1 : (k : Int) < l0.length := by omega
      obtain ⟨ad, e, x0, x1, x2, x3⟩ := at_T114 (Kd.C_below HR0.out HB.out) k hi0 hi1
      cases e
      have hto : (k : Int).toNat = k := by omega
      simp only [hto] at x0 x1 x2 x3
      clear hto
      generalize hy : rd_T114 l0 (k : Int) = y at x0 x1 x2 x3
      have hyk : y = l0[k] := by rw [← hy]; simp [rd_T114, hlt]
      clear hy
      have hsz : y.f0.size < 4294967281 := by rw [hyk]; exact HS.out _ (List.getElem_mem hlt)
      have hsn := names_snoc (·.f0.data.toList) l0 k hlt
      rw [← hyk] at hsn
      have HSN := Aside0.mk hsn
      clear hsn hyk
      obtain ⟨D, hown, hmet⟩ := HM.out
      have HKEY := Aside0.mk (keyOf_string_mk (s := y.f0) Tryz.underlying9 (by unfold maxLen; omega))
      have HZ := Aside0.mk hsz
      clear HM hsz
      by_cases hmem : y.f0.data.toList ∈ (l0.map (·.f0.data.toList)).take k
      · have hF : unlikeB (l0.map (·.f0.data.toList)) = false := unlikeB_take _ (k + 1) (by rw [HSN.out, unlikeB_snoc, decide_eq_true hmem]; simp)
        have LK : Aside0 (∀ W : World, W.ownsMap Tryz.prog 9 (plainElem Tryz.prog 3) w.heap.size k D → (Instr.lookup 92 (.map (some w.heap.size)) (.string y.f0) false).run Tryz.prog W = .ok (.int .i64 1) W) := ⟨fun W hW => by
          obtain ⟨c, hrun, hat, hwc⟩ := hW.lookup_int strKey Tryz.underlying92 Tryz.underlying3 (zeroInt _) HKEY.out
          rw [hmet y.f0.data.toList, if_pos hmem] at hat
          cases hat
          exact hrun⟩
        have LK2 : Aside0 (∀ W : World, W.ownsMap Tryz.prog 9 (plainElem Tryz.prog 3) w.heap.size (k + 1) (D.put (.string y.f0.data.toList) (.lit (.int .i64 2))) → (Instr.lookup 92 (.map (some w.heap.size)) (.string y.f0) false).run Tryz.prog W = .ok (.int .i64 2) W) := ⟨fun W hW => by
          obtain ⟨c, hrun, hat, hwc⟩ := hW.lookup_int strKey Tryz.underlying92 Tryz.underlying3 (zeroInt _) HKEY.out
          rw [atKey_put_same hown.isMap (show WideAt.IsKeyLit (.string y.f0.data.toList) from trivial)] at hat
          cases hat
          exact hrun⟩
        have HO := Aside0.mk hown
        have HF := Aside0.mk hF
        clear hmem hmet hown hF
        go_wp2_with (first | (go_at_call 62; refine (nameCell.calls _ _ _ _ _).mono ?_; rintro e w' ⟨rfl, hb⟩; have n0 := Aside0.mk (below_step (below_alloc HB.out _) hb); have n1 := Aside0.mk (owns_below HO.out (below_step (below_alloc (Below.refl _ _) _) hb)); clear HB HO hb; have HB := n0; have HO := n1; clear n0 n1; have hl1 := LK.out _ HO.out) | (at_mapUpdate; refine wpList_mapUpdate_own _ rfl _ _ _ 92 rfl 9 3 strKey Tryz.underlying92 _ w.heap.size k _ rfl HO.out (by unfold maxLen; omega) _ _ _ rfl rfl HKEY.out _ [] (plainElem_int Tryz.underlying3 (by decide)) ?_; intro w3 hown3 hg3; have n0 := Aside0.mk (below_owned HB.out hg3 (Nat.le_refl _) HB.out.size); clear HB hl1 HO; have HB := n0; clear n0 hg3; have hl2 := LK2.out _ hown3; clear hown3))
        go_ret
        exact ⟨by rw [HF.out]; rfl, HB.out⟩
      · have LK : Aside0 (∀ W : World, W.ownsMap Tryz.prog 9 (plainElem Tryz.prog 3) w.heap.size k D → (Instr.lookup 92 (.map (some w.heap.size)) (.string y.f0) false).run Tryz.prog W = .ok (.int .i64 0) W) := ⟨fun W hW => by
          obtain ⟨c, hrun, hat, hwc⟩ := hW.lookup_int strKey Tryz.underlying92 Tryz.underlying3 (zeroInt _) HKEY.out
          rw [hmet y.f0.data.toList, if_neg hmem] at hat
          cases hat
          exact hrun⟩
        have LK2 : Aside0 (∀ W : World, W.ownsMap Tryz.prog 9 (plainElem Tryz.prog 3) w.heap.size (k + 1) (D.put (.string y.f0.data.toList) (.lit (.int .i64 1))) → (Instr.lookup 92 (.map (some w.heap.size)) (.string y.f0) false).run Tryz.prog W = .ok (.int .i64 1) W) := ⟨fun W hW => by
          obtain ⟨c, hrun, hat, hwc⟩ := hW.lookup_int strKey Tryz.underlying92 Tryz.underlying3 (zeroInt _) HKEY.out
          rw [atKey_put_same hown.isMap (show WideAt.IsKeyLit (.string y.f0.data.toList) from trivial)] at hat
          cases hat
          exact hrun⟩
        have HMET := Aside0.mk (hmet.snoc hown.isMap y.f0.data.toList trivial)
        have HO := Aside0.mk hown
        have HMEM := Aside0.mk hmem
        clear hmem hmet hown
        cases hbad : badL y.f0.data.toList
        · have HF := Aside0.mk (show unlikeB ((l0.map (·.f0.data.toList)).take (k + 1)) = true by rw [HSN.out, unlikeB_snoc, HU.out, decide_eq_false HMEM.out, hbad]; rfl)
          have HBAD := Aside0.mk hbad
          clear hbad
          go_wp2_with (first | (go_at_call 62; refine (nameCell.calls _ _ _ _ _).mono ?_; rintro e w' ⟨rfl, hb⟩; have n0 := Aside0.mk (below_step (below_alloc HB.out _) hb); have n1 := Aside0.mk (owns_below HO.out (below_step (below_alloc (Below.refl _ _) _) hb)); clear HB HO hb; have HB := n0; have HO := n1; clear n0 n1; have hl1 := LK.out _ HO.out) | (at_mapUpdate; refine wpList_mapUpdate_own _ rfl _ _ _ 92 rfl 9 3 strKey Tryz.underlying92 _ w.heap.size k _ rfl HO.out (by unfold maxLen; omega) _ _ _ rfl rfl HKEY.out _ [] (plainElem_int Tryz.underlying3 (by decide)) ?_; intro w3 hown3 hg3; have n0 := Aside0.mk (below_owned HB.out hg3 (Nat.le_refl _) HB.out.size); clear HB hl1 HO; have HB := n0; clear n0 hg3; have hl2 := LK2.out _ hown3; have HO3 := Aside0.mk hown3; clear hown3) | (go_at_call 76; refine (containsAny_any y.f0 _ _ HZ.out HBAD.out).mono ?_; rintro e w' ⟨rfl, hb⟩; have n0 := Aside0.mk (below_step HB.out hb); have n1 := Aside0.mk (owns_below HO3.out hb); clear HB HO3 hl2 hb; have HB := n0; have HO3 := n1; clear n0 n1))
          go_roundg (l0.length - (k + 1))
          case measure => have := HQ.out; omega
          case rel => exact ⟨k + 1, by go_num, by omega, ⟨rfl⟩, ⟨_, HO3.out, by rw [HSN.out]; exact HMET.out⟩, HF, HB⟩
        · have HF := Aside0.mk (show unlikeB (l0.map (·.f0.data.toList)) = false from unlikeB_take _ (k + 1) (by rw [HSN.out, unlikeB_snoc, hbad]; simp))
          have HBAD := Aside0.mk hbad
          clear hbad
          go_wp2_with (first | (go_at_call 62; refine (nameCell.calls _ _ _ _ _).mono ?_; rintro e w' ⟨rfl, hb⟩; have n0 := Aside0.mk (below_step (below_alloc HB.out _) hb); have n1 := Aside0.mk (owns_below HO.out (below_step (below_alloc (Below.refl _ _) _) hb)); clear HB HO hb; have HB := n0; have HO := n1; clear n0 n1; have hl1 := LK.out _ HO.out) | (at_mapUpdate; refine wpList_mapUpdate_own _ rfl _ _ _ 92 rfl 9 3 strKey Tryz.underlying92 _ w.heap.size k _ rfl HO.out (by unfold maxLen; omega) _ _ _ rfl rfl HKEY.out _ [] (plainElem_int Tryz.underlying3 (by decide)) ?_; intro w3 hown3 hg3; have n0 := Aside0.mk (below_owned HB.out hg3 (Nat.le_refl _) HB.out.size); clear HB hl1 HO; have HB := n0; clear n0 hg3; have hl2 := LK2.out _ hown3; clear hown3) | (go_at_call 76; refine (containsAny_any y.f0 _ _ HZ.out HBAD.out).mono ?_; rintro e w' ⟨rfl, hb⟩; have n0 := Aside0.mk (below_step HB.out hb); clear HB hl2 hb; have HB := n0; clear n0))
          go_ret
          exact ⟨by rw [HF.out]; rfl, HB.out⟩
    · obtain rfl : k = l0.length := by omega
      go_wp2
      go_ret
      exact ⟨by have := HU.out; rw [List.take_of_length_le (by simp)] at this; rw [this]; rfl, HB.out⟩

/-! ### lift.named -/
def namesP (l : List S72) : List (List UInt8) := l.map (·.f0.data.toList)
def namesC (l : List S114) : List (List UInt8) := l.map (·.f0.data.toList)
def shortP (l : List S72) : Bool := l.all fun x => decide (x.f0.size < 4294967281)
def shortC (l : List S114) : Bool := l.all fun x => decide (x.f0.size < 4294967281)
def lift_named.f (l0_0 : List S125) (l0_1 : List S72) (l0_2 : List S114) (l0_3 : List S105) (l0_4 : List S72) : Option (Bool) :=
  if shortP l0_1 = true ∧ shortC l0_2 = true then some (unlikeB (namesP l0_1) && unlikeB (namesC l0_2)) else none
set_option maxHeartbeats 4000000 in
set_option maxRecDepth 100000 in
theorem lift_named.calls (A0_0 : Option Addr) (c0_0 : Nat) (l0_0 : List S125) (A0_1 : Option Addr) (c0_1 : Nat) (l0_1 : List S72) (A0_2 : Option Addr) (c0_2 : Nat) (l0_2 : List S114) (A0_3 : Option Addr) (c0_3 : Nat) (l0_3 : List S105) (A0_4 : Option Addr) (c0_4 : Nat) (l0_4 : List S72) (r : Bool) (w : World) (hG : Tab w) (hr0_0 : Kd.C k125 w A0_0 l0_0.length l0_0) (hc0_0 : l0_0.length ≤ c0_0) (hr0_1 : Kd.C k72 w A0_1 l0_1.length l0_1) (hc0_1 : l0_1.length ≤ c0_1) (hr0_2 : Kd.C k114 w A0_2 l0_2.length l0_2) (hc0_2 : l0_2.length ≤ c0_2) (hr0_3 : Kd.C k105 w A0_3 l0_3.length l0_3) (hc0_3 : l0_3.length ≤ c0_3) (hr0_4 : Kd.C k72 w A0_4 l0_4.length l0_4) (hc0_4 : l0_4.length ≤ c0_4) (h : lift_named.f l0_0 l0_1 l0_2 l0_3 l0_4 = some r) :
    Calls Tryz.prog 28 #[.agg #[.slice A0_0 l0_0.length c0_0, .slice A0_1 l0_1.length c0_1, .slice A0_2 l0_2.length c0_2, .slice A0_3 l0_3.length c0_3, .slice A0_4 l0_4.length c0_4]] w fun e w' => e = .returned (.bool r) ∧ Below w.heap.size w w' := by
  unfold lift_named.f at h
  by_cases hb : shortP l0_1 = true ∧ shortC l0_2 = true
  · rw [if_pos hb] at h
    have HF := Aside0.mk (Option.some.inj h)
    have HP := Aside0.mk (show ∀ x ∈ l0_1, x.f0.size < 4294967281 from fun x hx => of_decide_eq_true (List.all_eq_true.1 hb.1 x hx))
    have HC := Aside0.mk (show ∀ x ∈ l0_2, x.f0.size < 4294967281 from fun x hx => of_decide_eq_true (List.all_eq_true.1 hb.2 x hx))
    have H1 := Aside0.mk (And.intro hr0_1 hc0_1)
    have H2 := Aside0.mk (And.intro hr0_2 hc0_2)
    clear h hb hG hr0_0 hc0_0 hr0_1 hc0_1 hr0_2 hc0_2 hr0_3 hc0_3 hr0_4 hc0_4
    have hO := (MapKept.heap_alloc w (.cells #[.slice A0_0 l0_0.length c0_0, .slice A0_1 l0_1.length c0_1, .slice A0_2 l0_2.length c0_2, .slice A0_3 l0_3.length c0_3, .slice A0_4 l0_4.length c0_4] 27)).1
    have HO := Aside0.mk hO
    clear hO
    cases hU : unlikeB (namesP l0_1)
    · have HR := Aside0.mk (show r = false by rw [← HF.out, hU]; rfl)
      have HU := Aside0.mk hU
      clear hU
      go_enter Tryz.func28, Tryz.ntmps28
      go_wp2_with (first | (go_at_call 59; refine (unlikePin.calls A0_1 c0_1 l0_1 _ (Kd.C_below H1.out.1 (below_alloc (Below.refl _ _) _)) H1.out.2 HP.out).mono ?_; rintro e w' ⟨he, hb⟩; rw [show unlikeB (l0_1.map (·.f0.data.toList)) = false from HU.out] at he; subst he))
      go_ret
      exact ⟨by rw [HR.out]; rfl, below_step (below_alloc (Below.refl _ _) _) hb⟩
    · have HR := Aside0.mk (show r = unlikeB (namesC l0_2) by rw [← HF.out, hU]; rfl)
      have HU := Aside0.mk hU
      clear hU
      go_enter Tryz.func28, Tryz.ntmps28
      go_wp2_with (first | (go_at_call 59; refine (unlikePin.calls A0_1 c0_1 l0_1 _ (Kd.C_below H1.out.1 (below_alloc (Below.refl _ _) _)) H1.out.2 HP.out).mono ?_; rintro e w' ⟨he, hb⟩; rw [show unlikeB (l0_1.map (·.f0.data.toList)) = true from HU.out] at he; subst he; have hx := Lib.cell_of_heap ((hb.block _ (Array.getElem?_eq_some_iff.1 HO.out).1).trans HO.out) 2; have HB := Aside0.mk (below_step (below_alloc (Below.refl _ _) _) hb); clear hb) | (go_at_call 61; refine (unlikeCell.calls A0_2 c0_2 l0_2 _ (Kd.C_below H2.out.1 HB.out) H2.out.2 HC.out).mono ?_; rintro e w2 ⟨rfl, hb2⟩))
      go_ret
      exact ⟨by rw [HR.out]; rfl, below_step HB.out hb2⟩
  · rw [if_neg hb] at h; exact absurd h (by simp)
end Go.Proofs.YtmfekngjhiofaaaGreatDoor.Q
