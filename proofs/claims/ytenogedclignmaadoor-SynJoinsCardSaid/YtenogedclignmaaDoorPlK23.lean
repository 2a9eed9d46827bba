/-
  HELPER.
-/
import Derived.Test.YtenogedclignmaaDoorPlKA
import Derived.Test.YtenogedclignmaaDoorPlK22
set_option linter.unusedVariables false
set_option linter.unusedSimpArgs false
namespace Go.Proofs.YtenogedclignmaaDoor.Q
open Go.RowKit Go.Maps Go.WideMaps Go.Proofs.YtenogedclignmaaDoorW.PrintWords Go.Proofs.YtenogedclignmaaDoorW.PrintLast Go.Proofs.YtenogedclignmaaDoorW.PrintMore
theorem load_exec {P : Program} {oi : Oper} {a : Act} {w : World} {ty : TypeId} {x : Operand} {ad : Addr} (cs : Array Value) (d : TypeDesc) (hc : ∀ j v, cs.toList[j]? = some v → w.cell? (ad.add j) = some v) (hu : P.underlying ty = some d) (hd : d.isRow = true) (hi : (P.info? ty).map (·.size) = some cs.toList.length) (hop : oi.op = .load ty x) (hx : a.eval x = .pointer (some ad)) : (execOp a.eval oi).run P w = .ok (.value (.agg cs)) w := by
 have hl : (loadCells ad cs.size).run P w = .ok cs w := by have h := run_loadCells_list (P := P) w ad cs.toList hc; simpa using h
 have hv : (loadVar ty ad).run P w = .ok (.agg cs) w := by
  cases hq : P.info? ty with
  | none => simp [hq] at hi
  | some i =>
   have hs : i.size = cs.size := by simpa [hq] using hi
   have hagg : (isAgg ty).run P w = .ok true w := by
    unfold isAgg
    rw [Sem.run_bind, run_underlying hu w]
    cases d <;> simp_all
   simp only [loadVar, Sem.run_bind, hagg, sizeOf, typeInfo, hq, hs]
   simp [hl, hq, hs, Sem.run_bind]
 have hz : (Instr.loadAt ty (.pointer (some ad))).run P w = .ok (.agg cs) w := by simp only [Instr.loadAt, Instr.sureAddr, Sem.run_bind, Sem.run_pure, Result.andThen_ok, hv]
 unfold execOp
 simp [hop, hx, Instr.loadAt, Instr.sureAddr, Sem.run_bind, hv]
theorem item_at {w : World} {A : Option Addr} {n : Nat} {xs : List Itm} (h : Kd.C k58 w A n xs) (i : Int) (h0 : 0 ≤ i) (h1 : i < n) : ∃ ad A7 c7 A8 c8 A19 c19 A30 c30 A41 c41, A = some ad ∧ (∀ j v, (itV (rd_T58 xs i) (.slice A7 (rd_T58 xs i).f5.length c7) (.slice A8 (rd_T58 xs i).f6.length c8) (.slice A19 (rd_T58 xs i).f7.f6.length c19) (.slice A30 (rd_T58 xs i).f8.f6.length c30) (.slice A41 (rd_T58 xs i).f9.f6.length c41)).toList[j]? = some v → w.cell? ((ad.add (i.toNat * 42)).add j) = some v) ∧
  Kd.C k51 w A7 (rd_T58 xs i).f5.length (rd_T58 xs i).f5 ∧ Kd.C k79 w A8 (rd_T58 xs i).f6.length (rd_T58 xs i).f6 ∧ Kd.C k56 w A19 (rd_T58 xs i).f7.f6.length (rd_T58 xs i).f7.f6 ∧ Kd.C k56 w A30 (rd_T58 xs i).f8.f6.length (rd_T58 xs i).f8.f6 ∧ Kd.C k56 w A41 (rd_T58 xs i).f9.f6.length (rd_T58 xs i).f9.f6 := by
 obtain ⟨ad, c, e, _, hK, hc0⟩ := Kd.C_get h z58 i h0 h1
 have hc : ∀ j u, c[j]? = some u → w.cell? (ad.add (i.toNat * 42 + j)) = some u := hc0
 obtain ⟨A7, c7, A8, c8, A19, c19, A30, c30, A41, c41, rfl, l7, g7, l8, g8, l19, g19, l30, g30, l41, g41⟩ := k58_open hK
 exact ⟨ad, A7, c7, A8, c8, A19, c19, A30, c30, A41, c41, e, fun j v hv => by rw [Addr.add_add]; exact hc j v hv, g7, g8, g19, g30, g41⟩
set_option maxHeartbeats 8000000 in
set_option maxRecDepth 100000 in
theorem same_module (x : S47) (Al1 : Option Addr) (cl1 : Nat) (Al2 : Option Addr) (cl2 : Nat) (Al3 : Option Addr) (cl3 : Nat) (Ar1 : Option Addr) (cr1 : Nat) (Ar2 : Option Addr) (cr2 : Nat) (Ar3 : Option Addr) (cr3 : Nat) (w : World) (hl1 : Kd.C Kd.string w Al1 x.f1.length x.f1) (hl2 : Kd.C k64 w Al2 x.f2.length x.f2) (hl3 : Kd.C k58 w Al3 x.f3.length x.f3) (hr1 : Kd.C Kd.string w Ar1 x.f1.length x.f1) (hr2 : Kd.C k64 w Ar2 x.f2.length x.f2) (hr3 : Kd.C k58 w Ar3 x.f3.length x.f3) :
  Calls Tryd.prog 16 #[.agg #[.string x.f0, (.slice Al1 x.f1.length cl1), (.slice Al2 x.f2.length cl2), (.slice Al3 x.f3.length cl3)], .agg #[.string x.f0, (.slice Ar1 x.f1.length cr1), (.slice Ar2 x.f2.length cr2), (.slice Ar3 x.f3.length cr3)]] w fun e w' => e = .returned (.bool true) ∧ Below w.heap.size w w' := by
 have hb1 := below_alloc (bR w.heap.size w) (.cells #[.string x.f0, (.slice Al1 x.f1.length cl1), (.slice Al2 x.f2.length cl2), (.slice Al3 x.f3.length cl3)] 47)
 have hx1 := (MapKept.heap_alloc w (.cells #[.string x.f0, (.slice Al1 x.f1.length cl1), (.slice Al2 x.f2.length cl2), (.slice Al3 x.f3.length cl3)] 47)).1
 have hz1 : (w.alloc (.cells #[.string x.f0, (.slice Al1 x.f1.length cl1), (.slice Al2 x.f2.length cl2), (.slice Al3 x.f3.length cl3)] 47)).heap.size = w.heap.size + 1 := by show (w.heap.push _).size = _; simp
 have hb2 := below_alloc hb1 (.cells #[.string x.f0, (.slice Ar1 x.f1.length cr1), (.slice Ar2 x.f2.length cr2), (.slice Ar3 x.f3.length cr3)] 47)
 have hx2 := (MapKept.heap_alloc (w.alloc (.cells #[.string x.f0, (.slice Al1 x.f1.length cl1), (.slice Al2 x.f2.length cl2), (.slice Al3 x.f3.length cl3)] 47)) (.cells #[.string x.f0, (.slice Ar1 x.f1.length cr1), (.slice Ar2 x.f2.length cr2), (.slice Ar3 x.f3.length cr3)] 47)).1
 rw [hz1] at hx2
 have hx12 := fbelow hx1 (below_alloc (bR (w.alloc (.cells #[.string x.f0, (.slice Al1 x.f1.length cl1), (.slice Al2 x.f2.length cl2), (.slice Al3 x.f3.length cl3)] 47)).heap.size (w.alloc (.cells #[.string x.f0, (.slice Al1 x.f1.length cl1), (.slice Al2 x.f2.length cl2), (.slice Al3 x.f3.length cl3)] 47))) (.cells #[.string x.f0, (.slice Ar1 x.f1.length cr1), (.slice Ar2 x.f2.length cr2), (.slice Ar3 x.f3.length cr3)] 47))
 have HB := aS hb2
 have HX1 := aS hx12
 have HX2 := aS hx2
 have HM1 := aS hl1.2.1
 have HM2 := aS hl2.2.1
 have HM3 := aS hl3.2.1
 have Hl1 := aS hl1
 have Hl2 := aS hl2
 have Hl3 := aS hl3
 have Hr1 := aS hr1
 have Hr2 := aS hr2
 have Hr3 := aS hr3
 clear hl1 hl2 hl3 hr1 hr2 hr3
 clear hb1 hx1 hz1 hb2 hx2 hx12
 go_enter Tryd.func16, Tryd.ntmps16
 go_upto_region 1 with (fail)
 generalize (w.alloc (.cells #[.string x.f0, (.slice Al1 x.f1.length cl1), (.slice Al2 x.f2.length cl2), (.slice Al3 x.f3.length cl3)] 47)).alloc (.cells #[.string x.f0, (.slice Ar1 x.f1.length cr1), (.slice Ar2 x.f2.length cr2), (.slice Ar3 x.f3.length cr3)] 47) = w1 at *
 generalize hg1 : w.heap.size = g1 at *
 obtain ⟨g2, hg2⟩ : ∃ g2, g1 + 1 = g2 := ⟨_, rfl⟩
 rw [hg2] at HX2
 rw [hg2]
 have j0 := cH HX1.out 0
 have j1 := cH HX1.out 1
 have j2 := cH HX1.out 2
 have j3 := cH HX1.out 3
 have k0 := cH HX2.out 0
 have k1 := cH HX2.out 1
 have k2 := cH HX2.out 2
 have k3 := cH HX2.out 3
 go_upto_region 3 with (fail)
 clear j0 k0 j1 k1 j2 k2 j3 k3
 go_wp2
 try simp only [Act.put, List.setIfInBounds_toArray, List.set_cons_succ, List.set_cons_zero]
 go_loopg [5] x.f1.length (fun kq v5 w' => ∃ i : Int, v5 = .int .i64 i ∧ 0 ≤ i ∧ i ≤ (x.f1.length : Int) ∧ (kq : Int) = x.f1.length - i ∧ Aside0 (w'.heap[g1]? = some (.cells #[.string x.f0, (.slice Al1 x.f1.length cl1), (.slice Al2 x.f2.length cl2), (.slice Al3 x.f3.length cl3)] 47)) ∧ Aside0 (w'.heap[g2]? = some (.cells #[.string x.f0, (.slice Ar1 x.f1.length cr1), (.slice Ar2 x.f2.length cr2), (.slice Ar3 x.f3.length cr3)] 47)) ∧ Aside0 (Below g1 w w'))
 case atStart => exact ⟨0, rfl, by omega, by omega, by omega, HX1, HX2, HB⟩
 case round =>
  clear HX1 HX2 HB
  obtain ⟨i, rfl, hi0, hi, hk, HX1, HX2, HB⟩ := hrel
  by_cases hlt : i < (x.f1.length : Int)
  ·have HK := aS hk
   have HLT := aS hlt
   have hd1 : decide (i < (x.f1.length : Int)) = true := decide_eq_true hlt
   clear hk
   have h10 := cH HX1.out 1
   have h20 := cH HX2.out 1
   obtain ⟨adl, el, xl_0⟩ := Kd.at_string (Kd.C_below Hl1.out (hg1 ▸ HB.out)) i hi0 hlt
   subst el
   obtain ⟨adr, er, xr_0⟩ := Kd.at_string (Kd.C_below Hr1.out (hg1 ▸ HB.out)) i hi0 hlt
   subst er
   generalize rdOf ByteArray.empty x.f1 i = y at *
   have HI0 := aS hi0
   replace hi0 := eq_true hi0
   replace hlt := eq_true hlt
   go_upto_region 6 with (fail)
   refine start_ (n := 11) (S := fun w' => w'.cell? ⟨g1, 1, none⟩ = some (.slice (some adl) x.f1.length cl1) ∧ w'.cell? ⟨g2, 1, none⟩ = some (.slice (some adr) x.f1.length cr1) ∧ w'.cell? (adl.add i.toNat) = some (.string y) ∧ w'.cell? (adr.add i.toNat) = some (.string y)) (ds := []) #[false, false, false, false, false, false, false, false, false, false, false] (by kernel_rfl) rfl rfl ⟨h10, h20, xl_0, xr_0⟩ (fun hHeld => ?_)
   refine pure_ (i := 0) (N := some 47) (v := ?_) (a' := ?_) #[true, false, false, false, false, false, false, false, false, false, false] rfl rfl (by kernel_rfl) (fun _ _ _ h => h) (Or.inl ⟨by rfl, ?_⟩) ?_ ?_
   rotate_left
   ·intro w'
    go_simp
    try with_reducible rfl
   rotate_left
   ·simp only [putAll, Act.put, sI, s0', s1']
    rfl
   refine pure_ (i := 2) (N := some 49) (v := ?_) (a' := ?_) #[true, false, true, false, false, false, false, false, false, false, false] rfl rfl (by kernel_rfl) (fun _ _ _ h => h) (Or.inl ⟨by rfl, ?_⟩) ?_ ?_
   rotate_left
   ·intro w'
    go_simp
    try with_reducible rfl
   rotate_left
   ·simp only [putAll, Act.put, sI, s0', s1']
    rfl
   refine pure_ (i := 5) (N := some 52) (v := ?_) (a' := ?_) #[true, false, true, false, false, true, false, false, false, false, false] rfl rfl (by kernel_rfl) (fun _ _ _ h => h) (Or.inl ⟨by rfl, ?_⟩) ?_ ?_
   rotate_left
   ·intro w'
    go_simp
    try with_reducible rfl
   rotate_left
   ·simp only [putAll, Act.put, sI, s0', s1']
    rfl
   refine pure_ (i := 7) (N := some 54) (v := ?_) (a' := ?_) #[true, false, true, false, false, true, false, true, false, false, false] rfl rfl (by kernel_rfl) (fun _ _ _ h => h) (Or.inl ⟨by rfl, ?_⟩) ?_ ?_
   rotate_left
   ·intro w'
    go_simp
    try with_reducible rfl
   rotate_left
   ·simp only [putAll, Act.put, sI, s0', s1']
    rfl
   refine take_ (i := 1) (N := some 48) (v := ?_) (a' := ?_) #[true, true, true, false, false, true, false, true, false, false, false] rfl rfl (by kernel_rfl) (fun _ _ _ h => h) (Or.inl ⟨by rfl, ?_⟩) hHeld ?_ ?_
   rotate_left
   ·rintro w' ⟨s0, s1, s2, s3⟩
    go_simp
    try with_reducible rfl
   rotate_left
   ·simp only [putAll, Act.put, sI, s0', s1']
    rfl
   refine pure_ (i := 3) (N := some 50) (v := ?_) (a' := ?_) #[true, true, true, true, false, true, false, true, false, false, false] rfl rfl (by kernel_rfl) (fun _ _ _ h => h) (Or.inl ⟨by rfl, ?_⟩) ?_ ?_
   rotate_left
   ·intro w'
    go_simp
    try with_reducible rfl
   rotate_left
   ·simp only [putAll, Act.put, sI, s0', s1']
    rfl
   refine take_ (i := 4) (N := some 51) (v := ?_) (a' := ?_) #[true, true, true, true, true, true, false, true, false, false, false] rfl rfl (by kernel_rfl) (fun _ _ _ h => h) (Or.inl ⟨by rfl, ?_⟩) hHeld ?_ ?_
   rotate_left
   ·rintro w' ⟨s0, s1, s2, s3⟩
    go_simp
    try with_reducible rfl
   rotate_left
   ·simp only [putAll, Act.put, sI, s0', s1']
    rfl
   refine take_ (i := 6) (N := some 53) (v := ?_) (a' := ?_) #[true, true, true, true, true, true, true, true, false, false, false] rfl rfl (by kernel_rfl) (fun _ _ _ h => h) (Or.inl ⟨by rfl, ?_⟩) hHeld ?_ ?_
   rotate_left
   ·rintro w' ⟨s0, s1, s2, s3⟩
    go_simp
    try with_reducible rfl
   rotate_left
   ·simp only [putAll, Act.put, sI, s0', s1']
    rfl
   refine pure_ (i := 8) (N := some 55) (v := ?_) (a' := ?_) #[true, true, true, true, true, true, true, true, true, false, false] rfl rfl (by kernel_rfl) (fun _ _ _ h => h) (Or.inl ⟨by rfl, ?_⟩) ?_ ?_
   rotate_left
   ·intro w'
    go_simp
    try with_reducible rfl
   rotate_left
   ·simp only [putAll, Act.put, sI, s0', s1']
    rfl
   refine take_ (i := 9) (N := some 56) (v := ?_) (a' := ?_) #[true, true, true, true, true, true, true, true, true, true, false] rfl rfl (by kernel_rfl) (fun _ _ _ h => h) (Or.inl ⟨by rfl, ?_⟩) hHeld ?_ ?_
   rotate_left
   ·rintro w' ⟨s0, s1, s2, s3⟩
    go_simp
    try with_reducible rfl
   rotate_left
   ·simp only [putAll, Act.put, sI, s0', s1']
    rfl
   refine pure_ (i := 10) (N := some 57) (v := ?_) (a' := ?_) #[true, true, true, true, true, true, true, true, true, true, true] rfl rfl (by kernel_rfl) (fun _ _ _ h => h) (Or.inl ⟨by rfl, ?_⟩) ?_ ?_
   rotate_left
   ·intro w'
    go_simp
    try with_reducible rfl
   rotate_left
   ·simp only [putAll, Act.put, sI, s0', s1']
    rfl
   refine done_ (by kernel_rfl) ?_
   have HX3 := aS (heap_drew HX1.out)
   have HX4 := aS (heap_drew HX2.out)
   have HB2 := aS (show Below g1 w wr.drew by rw [← hg1]; exact below_drew1 (hg1.symm ▸ HB.out))
   clear hHeld xl_0 xr_0
   try go_wp2
   go_roundg (gk - 1)
   case measure => have := HK.out; have := HLT.out; omega
   case rel => exact ⟨i + 1, by have h1 := HI0.out; have h2 := HLT.out; have h3 := HM1.out; rw [show wrap64 (i + 1) = i + 1 by unfold wrap64; omega], by have := HI0.out; omega, by have := HLT.out; omega, by have := HK.out; have := HLT.out; omega, HX3, HX4, HB2⟩
  ·have hd1 : decide (i < (x.f1.length : Int)) = false := decide_eq_false hlt
   have h10 := cH HX1.out 1
   go_upto_region 8 with (fail)
   generalize wr = w1 at *
   go_wp2
   try simp only [Act.put, List.setIfInBounds_toArray, List.set_cons_succ, List.set_cons_zero]
   go_loopg [6] x.f2.length (fun kq v6 w' => ∃ i : Int, v6 = .int .i64 i ∧ 0 ≤ i ∧ i ≤ (x.f2.length : Int) ∧ (kq : Int) = x.f2.length - i ∧ Aside0 (w'.heap[g1]? = some (.cells #[.string x.f0, (.slice Al1 x.f1.length cl1), (.slice Al2 x.f2.length cl2), (.slice Al3 x.f3.length cl3)] 47)) ∧ Aside0 (w'.heap[g2]? = some (.cells #[.string x.f0, (.slice Ar1 x.f1.length cr1), (.slice Ar2 x.f2.length cr2), (.slice Ar3 x.f3.length cr3)] 47)) ∧ Aside0 (Below g1 w w'))
   case atStart => exact ⟨0, rfl, by omega, by omega, by omega, HX1, HX2, HB⟩
   case round =>
    clear HX1 HX2 HB
    obtain ⟨i, rfl, hi0, hi, hk, HX1, HX2, HB⟩ := hrel
    by_cases hlt : i < (x.f2.length : Int)
    ·have HK := aS hk
     have HLT := aS hlt
     have hd1 : decide (i < (x.f2.length : Int)) = true := decide_eq_true hlt
     clear hk
     have h10 := cH HX1.out 2
     have h20 := cH HX2.out 2
     obtain ⟨adl, el, xl_0, xl_1, xl_2, xl_3⟩ := at_T64 (Kd.C_below Hl2.out (hg1 ▸ HB.out)) i hi0 hlt
     subst el
     obtain ⟨adr, er, xr_0, xr_1, xr_2, xr_3⟩ := at_T64 (Kd.C_below Hr2.out (hg1 ▸ HB.out)) i hi0 hlt
     subst er
     generalize rd_T64 x.f2 i = y at *
     have HI0 := aS hi0
     replace hi0 := eq_true hi0
     replace hlt := eq_true hlt
     go_upto_region 11 with (fail)
     refine start_ (n := 11) (S := fun w' => w'.cell? ⟨g1, 2, none⟩ = some (.slice (some adl) x.f2.length cl2) ∧ w'.cell? ⟨g2, 2, none⟩ = some (.slice (some adr) x.f2.length cr2) ∧ w'.cell? (adl.add (i.toNat * 4)) = some (.bool y.f0) ∧ w'.cell? ⟨(adl.add (i.toNat * 4)).block, (adl.add (i.toNat * 4)).off + 1, none⟩ = some (.string y.f1) ∧ w'.cell? ⟨(adl.add (i.toNat * 4)).block, (adl.add (i.toNat * 4)).off + 2, none⟩ = some (.string y.f2.f0) ∧ w'.cell? ⟨(adl.add (i.toNat * 4)).block, (adl.add (i.toNat * 4)).off + 3, none⟩ = some (.int .i64 y.f2.f1) ∧ w'.cell? (adr.add (i.toNat * 4)) = some (.bool y.f0) ∧ w'.cell? ⟨(adr.add (i.toNat * 4)).block, (adr.add (i.toNat * 4)).off + 1, none⟩ = some (.string y.f1) ∧ w'.cell? ⟨(adr.add (i.toNat * 4)).block, (adr.add (i.toNat * 4)).off + 2, none⟩ = some (.string y.f2.f0) ∧ w'.cell? ⟨(adr.add (i.toNat * 4)).block, (adr.add (i.toNat * 4)).off + 3, none⟩ = some (.int .i64 y.f2.f1)) (ds := []) #[false, false, false, false, false, false, false, false, false, false, false] (by kernel_rfl) rfl rfl ⟨h10, h20, xl_0, xl_1, xl_2, xl_3, xr_0, xr_1, xr_2, xr_3⟩ (fun hHeld => ?_)
     refine pure_ (i := 0) (N := some 65) (v := ?_) (a' := ?_) #[true, false, false, false, false, false, false, false, false, false, false] rfl rfl (by kernel_rfl) (fun _ _ _ h => h) (Or.inl ⟨by rfl, ?_⟩) ?_ ?_
     rotate_left
     ·intro w'
      go_simp
      try with_reducible rfl
     rotate_left
     ·simp only [putAll, Act.put, sI, s0', s1']
      rfl
     refine pure_ (i := 2) (N := some 67) (v := ?_) (a' := ?_) #[true, false, true, false, false, false, false, false, false, false, false] rfl rfl (by kernel_rfl) (fun _ _ _ h => h) (Or.inl ⟨by rfl, ?_⟩) ?_ ?_
     rotate_left
     ·intro w'
      go_simp
      try with_reducible rfl
     rotate_left
     ·simp only [putAll, Act.put, sI, s0', s1']
      rfl
     refine pure_ (i := 5) (N := some 70) (v := ?_) (a' := ?_) #[true, false, true, false, false, true, false, false, false, false, false] rfl rfl (by kernel_rfl) (fun _ _ _ h => h) (Or.inl ⟨by rfl, ?_⟩) ?_ ?_
     rotate_left
     ·intro w'
      go_simp
      try with_reducible rfl
     rotate_left
     ·simp only [putAll, Act.put, sI, s0', s1']
      rfl
     refine pure_ (i := 7) (N := some 72) (v := ?_) (a' := ?_) #[true, false, true, false, false, true, false, true, false, false, false] rfl rfl (by kernel_rfl) (fun _ _ _ h => h) (Or.inl ⟨by rfl, ?_⟩) ?_ ?_
     rotate_left
     ·intro w'
      go_simp
      try with_reducible rfl
     rotate_left
     ·simp only [putAll, Act.put, sI, s0', s1']
      rfl
     refine take_ (i := 1) (N := some 66) (v := ?_) (a' := ?_) #[true, true, true, false, false, true, false, true, false, false, false] rfl rfl (by kernel_rfl) (fun _ _ _ h => h) (Or.inl ⟨by rfl, ?_⟩) hHeld ?_ ?_
     rotate_left
     ·rintro w' ⟨s0, s1, s2, s3, s4, s5, s6, s7, s8, s9⟩
      go_simp
      try with_reducible rfl
     rotate_left
     ·simp only [putAll, Act.put, sI, s0', s1']
      rfl
     refine pure_ (i := 3) (N := some 68) (v := ?_) (a' := ?_) #[true, true, true, true, false, true, false, true, false, false, false] rfl rfl (by kernel_rfl) (fun _ _ _ h => h) (Or.inl ⟨by rfl, ?_⟩) ?_ ?_
     rotate_left
     ·intro w'
      go_simp
      try with_reducible rfl
     rotate_left
     ·simp only [putAll, Act.put, sI, s0', s1']
      rfl
     refine take_ (i := 4) (N := some 69) (v := ?_) (a' := ?_) #[true, true, true, true, true, true, false, true, false, false, false] rfl rfl (by kernel_rfl) (fun _ _ _ h => h) (Or.inl ⟨by rfl, ?_⟩) hHeld ?_ ?_
     rotate_left
     ·rintro w' ⟨s0, s1, s2, s3, s4, s5, s6, s7, s8, s9⟩
      go_simp
      try with_reducible rfl
     rotate_left
     ·simp only [putAll, Act.put, sI, s0', s1']
      rfl
     refine take_ (i := 6) (N := some 71) (v := ?_) (a' := ?_) #[true, true, true, true, true, true, true, true, false, false, false] rfl rfl (by kernel_rfl) (fun _ _ _ h => h) (Or.inl ⟨by rfl, ?_⟩) hHeld ?_ ?_
     rotate_left
     ·rintro w' ⟨s0, s1, s2, s3, s4, s5, s6, s7, s8, s9⟩
      go_simp
      try with_reducible rfl
     rotate_left
     ·simp only [putAll, Act.put, sI, s0', s1']
      rfl
     refine pure_ (i := 8) (N := some 73) (v := ?_) (a' := ?_) #[true, true, true, true, true, true, true, true, true, false, false] rfl rfl (by kernel_rfl) (fun _ _ _ h => h) (Or.inl ⟨by rfl, ?_⟩) ?_ ?_
     rotate_left
     ·intro w'
      go_simp
      try with_reducible rfl
     rotate_left
     ·simp only [putAll, Act.put, sI, s0', s1']
      rfl
     refine take_ (i := 9) (N := some 74) (v := ?_) (a' := ?_) #[true, true, true, true, true, true, true, true, true, true, false] rfl rfl (by kernel_rfl) (fun _ _ _ h => h) (Or.inl ⟨by rfl, ?_⟩) hHeld ?_ ?_
     rotate_left
     ·rintro w' ⟨s0, s1, s2, s3, s4, s5, s6, s7, s8, s9⟩
      go_simp
      try with_reducible rfl
     rotate_left
     ·simp only [putAll, Act.put, sI, s0', s1']
      rfl
     refine pure_ (i := 10) (N := some 75) (v := ?_) (a' := ?_) #[true, true, true, true, true, true, true, true, true, true, true] rfl rfl (by kernel_rfl) (fun _ _ _ h => h) (Or.inl ⟨by rfl, ?_⟩) ?_ ?_
     rotate_left
     ·intro w'
      go_simp
      try with_reducible rfl
     rotate_left
     ·simp only [putAll, Act.put, sI, s0', s1']
      rfl
     refine done_ (by kernel_rfl) ?_
     have HX3 := aS (heap_drew HX1.out)
     have HX4 := aS (heap_drew HX2.out)
     have HB2 := aS (show Below g1 w wr.drew by rw [← hg1]; exact below_drew1 (hg1.symm ▸ HB.out))
     clear hHeld xl_0 xl_1 xl_2 xl_3 xr_0 xr_1 xr_2 xr_3
     try go_wp2
     go_roundg (gk - 1)
     case measure => have := HK.out; have := HLT.out; omega
     case rel => exact ⟨i + 1, by have h1 := HI0.out; have h2 := HLT.out; have h3 := HM2.out; rw [show wrap64 (i + 1) = i + 1 by unfold wrap64; omega], by have := HI0.out; omega, by have := HLT.out; omega, by have := HK.out; have := HLT.out; omega, HX3, HX4, HB2⟩
    ·have hd1 : decide (i < (x.f2.length : Int)) = false := decide_eq_false hlt
     have h10 := cH HX1.out 2
     go_upto_region 13 with (fail)
     generalize wr = w1 at *
     go_wp2
     try simp only [Act.put, List.setIfInBounds_toArray, List.set_cons_succ, List.set_cons_zero]
     go_loopg [7] x.f3.length (fun kq v7 w' => ∃ i : Int, v7 = .int .i64 i ∧ 0 ≤ i ∧ i ≤ (x.f3.length : Int) ∧ (kq : Int) = x.f3.length - i ∧ Aside0 (w'.heap[g1]? = some (.cells #[.string x.f0, (.slice Al1 x.f1.length cl1), (.slice Al2 x.f2.length cl2), (.slice Al3 x.f3.length cl3)] 47)) ∧ Aside0 (w'.heap[g2]? = some (.cells #[.string x.f0, (.slice Ar1 x.f1.length cr1), (.slice Ar2 x.f2.length cr2), (.slice Ar3 x.f3.length cr3)] 47)) ∧ Aside0 (Below g1 w w'))
     case atStart => exact ⟨0, rfl, by omega, by omega, by omega, HX1, HX2, HB⟩
     case round =>
      clear HX1 HX2 HB
      obtain ⟨i, rfl, hi0, hi, hk, HX1, HX2, HB⟩ := hrel
      by_cases hlt : i < (x.f3.length : Int)
      ·have HK := aS hk
       have HLT := aS hlt
       have hd1 : decide (i < (x.f3.length : Int)) = true := decide_eq_true hlt
       clear hk
       have h10 := cH HX1.out 3
       have h20 := cH HX2.out 3
       obtain ⟨adl, Bl7, dl7, Bl8, dl8, Bl19, dl19, Bl30, dl30, Bl41, dl41, el, xl, hcl7, hcl8, hcl19, hcl30, hcl41⟩ := item_at (Kd.C_below Hl3.out (hg1 ▸ HB.out)) i hi0 hlt
       subst el
       have HCl := aS xl
       clear xl
       have HKl7 := aS hcl7
       clear hcl7
       have HKl8 := aS hcl8
       clear hcl8
       have HKl19 := aS hcl19
       clear hcl19
       have HKl30 := aS hcl30
       clear hcl30
       have HKl41 := aS hcl41
       clear hcl41
       obtain ⟨adr, Br7, dr7, Br8, dr8, Br19, dr19, Br30, dr30, Br41, dr41, er, xr, hcr7, hcr8, hcr19, hcr30, hcr41⟩ := item_at (Kd.C_below Hr3.out (hg1 ▸ HB.out)) i hi0 hlt
       subst er
       have HCr := aS xr
       clear xr
       have HKr7 := aS hcr7
       clear hcr7
       have HKr8 := aS hcr8
       clear hcr8
       have HKr19 := aS hcr19
       clear hcr19
       have HKr30 := aS hcr30
       clear hcr30
       have HKr41 := aS hcr41
       clear hcr41
       generalize rd_T58 x.f3 i = y at *
       have HI0 := aS hi0
       replace hi0 := eq_true hi0
       replace hlt := eq_true hlt
       go_upto_region 16 with (fail)
       refine start_ (n := 12) (S := fun w' => w'.cell? ⟨g1, 3, none⟩ = some (.slice (some adl) x.f3.length cl3) ∧ w'.cell? ⟨g2, 3, none⟩ = some (.slice (some adr) x.f3.length cr3) ∧ Aside0 (∀ j v, (itV y (.slice Bl7 y.f5.length dl7) (.slice Bl8 y.f6.length dl8) (.slice Bl19 y.f7.f6.length dl19) (.slice Bl30 y.f8.f6.length dl30) (.slice Bl41 y.f9.f6.length dl41)).toList[j]? = some v → w'.cell? ((adl.add (i.toNat * 42)).add j) = some v) ∧ Aside0 (∀ j v, (itV y (.slice Br7 y.f5.length dr7) (.slice Br8 y.f6.length dr8) (.slice Br19 y.f7.f6.length dr19) (.slice Br30 y.f8.f6.length dr30) (.slice Br41 y.f9.f6.length dr41)).toList[j]? = some v → w'.cell? ((adr.add (i.toNat * 42)).add j) = some v)) (ds := []) #[false, false, false, false, false, false, false, false, false, false, false, false] (by kernel_rfl) rfl rfl ⟨h10, h20, HCl, HCr⟩ (fun hHeld => ?_)
       refine pure_ (i := 0) (N := some 83) (v := ?_) (a' := ?_) #[true, false, false, false, false, false, false, false, false, false, false, false] rfl rfl (by kernel_rfl) (fun _ _ _ h => h) (Or.inl ⟨by rfl, ?_⟩) ?_ ?_
       rotate_left
       ·intro w'
        go_simp
        try with_reducible rfl
       rotate_left
       ·simp only [putAll, Act.put, sI, s0', s1']
        rfl
       refine pure_ (i := 2) (N := some 85) (v := ?_) (a' := ?_) #[true, false, true, false, false, false, false, false, false, false, false, false] rfl rfl (by kernel_rfl) (fun _ _ _ h => h) (Or.inl ⟨by rfl, ?_⟩) ?_ ?_
       rotate_left
       ·intro w'
        go_simp
        try with_reducible rfl
       rotate_left
       ·simp only [putAll, Act.put, sI, s0', s1']
        rfl
       refine pure_ (i := 5) (N := some 88) (v := ?_) (a' := ?_) #[true, false, true, false, false, true, false, false, false, false, false, false] rfl rfl (by kernel_rfl) (fun _ _ _ h => h) (Or.inl ⟨by rfl, ?_⟩) ?_ ?_
       rotate_left
       ·intro w'
        go_simp
        try with_reducible rfl
       rotate_left
       ·simp only [putAll, Act.put, sI, s0', s1']
        rfl
       refine pure_ (i := 7) (N := some 90) (v := ?_) (a' := ?_) #[true, false, true, false, false, true, false, true, false, false, false, false] rfl rfl (by kernel_rfl) (fun _ _ _ h => h) (Or.inl ⟨by rfl, ?_⟩) ?_ ?_
       rotate_left
       ·intro w'
        go_simp
        try with_reducible rfl
       rotate_left
       ·simp only [putAll, Act.put, sI, s0', s1']
        rfl
       refine take_ (i := 1) (N := some 84) (v := ?_) (a' := ?_) #[true, true, true, false, false, true, false, true, false, false, false, false] rfl rfl (by kernel_rfl) (fun _ _ _ h => h) (Or.inl ⟨by rfl, ?_⟩) hHeld ?_ ?_
       rotate_left
       ·rintro w' ⟨s0, s1, s2, s3⟩
        go_simp
        try with_reducible rfl
       rotate_left
       ·simp only [putAll, Act.put, sI, s0', s1']
        rfl
       refine pure_ (i := 3) (N := some 86) (v := ?_) (a' := ?_) #[true, true, true, true, false, true, false, true, false, false, false, false] rfl rfl (by kernel_rfl) (fun _ _ _ h => h) (Or.inl ⟨by rfl, ?_⟩) ?_ ?_
       rotate_left
       ·intro w'
        go_simp
        try with_reducible rfl
       rotate_left
       ·simp only [putAll, Act.put, sI, s0', s1']
        rfl
       refine take_ (i := 4) (N := some 87) (v := .agg (itV y (.slice Bl7 y.f5.length dl7) (.slice Bl8 y.f6.length dl8) (.slice Bl19 y.f7.f6.length dl19) (.slice Bl30 y.f8.f6.length dl30) (.slice Bl41 y.f9.f6.length dl41))) (a' := ?_) #[true, true, true, true, true, true, false, true, false, false, false, false] rfl rfl (by kernel_rfl) (fun _ _ _ h => h) (Or.inl ⟨by rfl, ?_⟩) hHeld ?_ ?_
       ·rintro w' ⟨s0, s1, s2, s3⟩
        exact load_exec (itV y (.slice Bl7 y.f5.length dl7) (.slice Bl8 y.f6.length dl8) (.slice Bl19 y.f7.f6.length dl19) (.slice Bl30 y.f8.f6.length dl30) (.slice Bl41 y.f9.f6.length dl41)) _ s2.out Tryd.underlying58 rfl (by kernel_rfl) rfl rfl
       rotate_left
       ·simp only [putAll, Act.put, sI, s0', s1']
        rfl
       refine take_ (i := 6) (N := some 89) (v := ?_) (a' := ?_) #[true, true, true, true, true, true, true, true, false, false, false, false] rfl rfl (by kernel_rfl) (fun _ _ _ h => h) (Or.inl ⟨by rfl, ?_⟩) hHeld ?_ ?_
       rotate_left
       ·rintro w' ⟨s0, s1, s2, s3⟩
        go_simp
        try with_reducible rfl
       rotate_left
       ·simp only [putAll, Act.put, sI, s0', s1']
        rfl
       refine pure_ (i := 8) (N := some 91) (v := ?_) (a' := ?_) #[true, true, true, true, true, true, true, true, true, false, false, false] rfl rfl (by kernel_rfl) (fun _ _ _ h => h) (Or.inl ⟨by rfl, ?_⟩) ?_ ?_
       rotate_left
       ·intro w'
        go_simp
        try with_reducible rfl
       rotate_left
       ·simp only [putAll, Act.put, sI, s0', s1']
        rfl
       refine take_ (i := 9) (N := some 92) (v := .agg (itV y (.slice Br7 y.f5.length dr7) (.slice Br8 y.f6.length dr8) (.slice Br19 y.f7.f6.length dr19) (.slice Br30 y.f8.f6.length dr30) (.slice Br41 y.f9.f6.length dr41))) (a' := ?_) #[true, true, true, true, true, true, true, true, true, true, false, false] rfl rfl (by kernel_rfl) (fun _ _ _ h => h) (Or.inl ⟨by rfl, ?_⟩) hHeld ?_ ?_
       ·rintro w' ⟨s0, s1, s2, s3⟩
        exact load_exec (itV y (.slice Br7 y.f5.length dr7) (.slice Br8 y.f6.length dr8) (.slice Br19 y.f7.f6.length dr19) (.slice Br30 y.f8.f6.length dr30) (.slice Br41 y.f9.f6.length dr41)) _ s3.out Tryd.underlying58 rfl (by kernel_rfl) rfl rfl
       rotate_left
       ·simp only [putAll, Act.put, sI, s0', s1']
        rfl
       refine one_ (i := 10) (N := some 93) #[true, true, true, true, true, true, true, true, true, true, true, false] rfl rfl (by kernel_rfl) (by decide) (fun K hK => ?_)
       refine step_goes Tryd.func17 (by kernel_rfl) rfl #[.agg (itV y (.slice Bl7 y.f5.length dl7) (.slice Bl8 y.f6.length dl8) (.slice Bl19 y.f7.f6.length dl19) (.slice Bl30 y.f8.f6.length dl30) (.slice Bl41 y.f9.f6.length dl41)), .agg (itV y (.slice Br7 y.f5.length dr7) (.slice Br8 y.f6.length dr8) (.slice Br19 y.f7.f6.length dr19) (.slice Br30 y.f8.f6.length dr30) (.slice Br41 y.f9.f6.length dr41))] (by rfl) rfl rfl (by (try simp only [List.map_toArray, List.map_cons, List.map_nil]); rfl) ?_
       refine (same_item y Bl7 dl7 Bl8 dl8 Bl19 dl19 Bl30 dl30 Bl41 dl41 Br7 dr7 Br8 dr8 Br19 dr19 Br30 dr30 Br41 dr41 _ (Kd.C_below HKl7.out (below_drew (bR wr.heap.size wr))) (Kd.C_below HKl8.out (below_drew (bR wr.heap.size wr))) (Kd.C_below HKl19.out (below_drew (bR wr.heap.size wr))) (Kd.C_below HKl30.out (below_drew (bR wr.heap.size wr))) (Kd.C_below HKl41.out (below_drew (bR wr.heap.size wr))) (Kd.C_below HKr7.out (below_drew (bR wr.heap.size wr))) (Kd.C_below HKr8.out (below_drew (bR wr.heap.size wr))) (Kd.C_below HKr19.out (below_drew (bR wr.heap.size wr))) (Kd.C_below HKr30.out (below_drew (bR wr.heap.size wr))) (Kd.C_below HKr41.out (below_drew (bR wr.heap.size wr)))).mono ?_
       rintro e w2 ⟨rfl, hb⟩
       have HX3 := aS (fbelow (heap_drew HX1.out) hb)
       have HX4 := aS (fbelow (heap_drew HX2.out) hb)
       have HB2 := aS (show Below g1 w w2 by rw [← hg1]; exact below_step (below_drew1 (hg1.symm ▸ HB.out)) hb)
       refine hK.out _ _ (by obtain ⟨s0, s1, s2, s3⟩ := hHeld; exact ⟨(hb.cell (World.block_lt_of_cell? _ _ s0)).trans s0, (hb.cell (World.block_lt_of_cell? _ _ s1)).trans s1, ⟨fun j v hv => (hb.cell (World.block_lt_of_cell? _ _ (s2.out j v hv))).trans (s2.out j v hv)⟩, ⟨fun j v hv => (hb.cell (World.block_lt_of_cell? _ _ (s3.out j v hv))).trans (s3.out j v hv)⟩⟩) (fun hHeld => ?_)
       clear hK K
       refine norm_ (a' := ?_) ?_ ?_
       rotate_left
       ·show Act.put _ (some 93) _ = _
        simp only [putAll, Act.put, sI, s0', s1']
        rfl
       refine pure_ (i := 11) (N := some 94) (v := ?_) (a' := ?_) #[true, true, true, true, true, true, true, true, true, true, true, true] rfl rfl (by kernel_rfl) (fun _ _ _ h => h) (Or.inl ⟨by rfl, ?_⟩) ?_ ?_
       rotate_left
       ·intro w'
        go_simp
        try with_reducible rfl
       rotate_left
       ·simp only [putAll, Act.put, sI, s0', s1']
        rfl
       refine done_ (by kernel_rfl) ?_
       clear hb hHeld
       try go_wp2
       go_roundg (gk - 1)
       case measure => have := HK.out; have := HLT.out; omega
       case rel => exact ⟨i + 1, by have h1 := HI0.out; have h2 := HLT.out; have h3 := HM3.out; rw [show wrap64 (i + 1) = i + 1 by unfold wrap64; omega], by have := HI0.out; omega, by have := HLT.out; omega, by have := HK.out; have := HLT.out; omega, HX3, HX4, HB2⟩
      ·have hd1 : decide (i < (x.f3.length : Int)) = false := decide_eq_false hlt
       have h10 := cH HX1.out 3
       go_wp2
       go_ret
       exact ⟨rfl, hg1.symm ▸ HB.out⟩
set_option maxHeartbeats 8000000 in
set_option maxRecDepth 100000 in
theorem same_faults (fs : List S35) (Al : Option Addr) (cl : Nat) (Ar : Option Addr) (cr : Nat) (w : World) (hl : Kd.C k35 w Al fs.length fs) (hr : Kd.C k35 w Ar fs.length fs) :
  Calls Tryd.prog 15 #[.slice Al fs.length cl, .slice Ar fs.length cr] w fun e w' => e = .returned (.bool true) ∧ Below w.heap.size w w' := by
 have HM := aS hl.2.1
 have Hl := aS hl
 have Hr := aS hr
 have HB := aS (bR w.heap.size w)
 clear hl hr
 go_enter Tryd.func15, Tryd.ntmps15
 go_upto_region 3 with (fail)
 go_wp2
 try simp only [Act.put, List.setIfInBounds_toArray, List.set_cons_succ, List.set_cons_zero]
 go_loopg [5] fs.length (fun kq v5 w' => ∃ i : Int, v5 = .int .i64 i ∧ 0 ≤ i ∧ i ≤ (fs.length : Int) ∧ (kq : Int) = fs.length - i ∧ Aside0 (Below w.heap.size w w'))
 case atStart => exact ⟨0, rfl, by omega, by omega, by omega, HB⟩
 case round =>
  clear HB
  obtain ⟨i, rfl, hi0, hi, hk, HB⟩ := hrel
  by_cases hlt : i < (fs.length : Int)
  ·have HK := aS hk
   have HLT := aS hlt
   have hd1 : decide (i < (fs.length : Int)) = true := decide_eq_true hlt
   clear hk
   obtain ⟨adl, el, xl_0, xl_1, xl_2, xl_3⟩ := at_T35 (Kd.C_below Hl.out HB.out) i hi0 hlt
   subst el
   obtain ⟨adr, er, xr_0, xr_1, xr_2, xr_3⟩ := at_T35 (Kd.C_below Hr.out HB.out) i hi0 hlt
   subst er
   generalize rd_T35 fs i = y at *
   have HI0 := aS hi0
   replace hi0 := eq_true hi0
   replace hlt := eq_true hlt
   go_upto_region 6 with (fail)
   refine start_ (n := 9) (S := fun w' => w'.cell? (adl.add (i.toNat * 4)) = some (.int .i64 y.f0) ∧ w'.cell? ⟨(adl.add (i.toNat * 4)).block, (adl.add (i.toNat * 4)).off + 1, none⟩ = some (.int .i64 y.f1) ∧ w'.cell? ⟨(adl.add (i.toNat * 4)).block, (adl.add (i.toNat * 4)).off + 2, none⟩ = some (.int .i64 y.f2) ∧ w'.cell? ⟨(adl.add (i.toNat * 4)).block, (adl.add (i.toNat * 4)).off + 3, none⟩ = some (.int .i64 y.f3) ∧ w'.cell? (adr.add (i.toNat * 4)) = some (.int .i64 y.f0) ∧ w'.cell? ⟨(adr.add (i.toNat * 4)).block, (adr.add (i.toNat * 4)).off + 1, none⟩ = some (.int .i64 y.f1) ∧ w'.cell? ⟨(adr.add (i.toNat * 4)).block, (adr.add (i.toNat * 4)).off + 2, none⟩ = some (.int .i64 y.f2) ∧ w'.cell? ⟨(adr.add (i.toNat * 4)).block, (adr.add (i.toNat * 4)).off + 3, none⟩ = some (.int .i64 y.f3)) (ds := []) #[false, false, false, false, false, false, false, false, false] (by kernel_rfl) rfl rfl ⟨xl_0, xl_1, xl_2, xl_3, xr_0, xr_1, xr_2, xr_3⟩ (fun hHeld => ?_)
   refine pure_ (i := 0) (N := some 17) (v := ?_) (a' := ?_) #[true, false, false, false, false, false, false, false, false] rfl rfl (by kernel_rfl) (fun _ _ _ h => h) (Or.inl ⟨by rfl, ?_⟩) ?_ ?_
   rotate_left
   ·intro w'
    go_simp
    try with_reducible rfl
   rotate_left
   ·simp only [putAll, Act.put, sI, s0', s1']
    rfl
   refine pure_ (i := 1) (N := some 18) (v := ?_) (a' := ?_) #[true, true, false, false, false, false, false, false, false] rfl rfl (by kernel_rfl) (fun _ _ _ h => h) (Or.inl ⟨by rfl, ?_⟩) ?_ ?_
   rotate_left
   ·intro w'
    go_simp
    try with_reducible rfl
   rotate_left
   ·simp only [putAll, Act.put, sI, s0', s1']
    rfl
   refine pure_ (i := 2) (N := some 19) (v := ?_) (a' := ?_) #[true, true, true, false, false, false, false, false, false] rfl rfl (by kernel_rfl) (fun _ _ _ h => h) (Or.inl ⟨by rfl, ?_⟩) ?_ ?_
   rotate_left
   ·intro w'
    go_simp
    try with_reducible rfl
   rotate_left
   ·simp only [putAll, Act.put, sI, s0', s1']
    rfl
   refine take_ (i := 3) (N := some 20) (v := ?_) (a' := ?_) #[true, true, true, true, false, false, false, false, false] rfl rfl (by kernel_rfl) (fun _ _ _ h => h) (Or.inl ⟨by rfl, ?_⟩) hHeld ?_ ?_
   rotate_left
   ·rintro w' ⟨s0, s1, s2, s3, s4, s5, s6, s7⟩
    go_simp
    try with_reducible rfl
   rotate_left
   ·simp only [putAll, Act.put, sI, s0', s1']
    rfl
   refine pure_ (i := 4) (N := some 21) (v := ?_) (a' := ?_) #[true, true, true, true, true, false, false, false, false] rfl rfl (by kernel_rfl) (fun _ _ _ h => h) (Or.inl ⟨by rfl, ?_⟩) ?_ ?_
   rotate_left
   ·intro w'
    go_simp
    try with_reducible rfl
   rotate_left
   ·simp only [putAll, Act.put, sI, s0', s1']
    rfl
   refine pure_ (i := 5) (N := some 22) (v := ?_) (a' := ?_) #[true, true, true, true, true, true, false, false, false] rfl rfl (by kernel_rfl) (fun _ _ _ h => h) (Or.inl ⟨by rfl, ?_⟩) ?_ ?_
   rotate_left
   ·intro w'
    go_simp
    try with_reducible rfl
   rotate_left
   ·simp only [putAll, Act.put, sI, s0', s1']
    rfl
   refine pure_ (i := 6) (N := some 23) (v := ?_) (a' := ?_) #[true, true, true, true, true, true, true, false, false] rfl rfl (by kernel_rfl) (fun _ _ _ h => h) (Or.inl ⟨by rfl, ?_⟩) ?_ ?_
   rotate_left
   ·intro w'
    go_simp
    try with_reducible rfl
   rotate_left
   ·simp only [putAll, Act.put, sI, s0', s1']
    rfl
   refine take_ (i := 7) (N := some 24) (v := ?_) (a' := ?_) #[true, true, true, true, true, true, true, true, false] rfl rfl (by kernel_rfl) (fun _ _ _ h => h) (Or.inl ⟨by rfl, ?_⟩) hHeld ?_ ?_
   rotate_left
   ·rintro w' ⟨s0, s1, s2, s3, s4, s5, s6, s7⟩
    go_simp
    try with_reducible rfl
   rotate_left
   ·simp only [putAll, Act.put, sI, s0', s1']
    rfl
   refine pure_ (i := 8) (N := some 25) (v := ?_) (a' := ?_) #[true, true, true, true, true, true, true, true, true] rfl rfl (by kernel_rfl) (fun _ _ _ h => h) (Or.inl ⟨by rfl, ?_⟩) ?_ ?_
   rotate_left
   ·intro w'
    go_simp
    try with_reducible rfl
   rotate_left
   ·simp only [putAll, Act.put, sI, s0', s1']
    rfl
   refine done_ (by kernel_rfl) ?_
   clear hHeld xl_0 xl_1 xl_2 xl_3 xr_0 xr_1 xr_2 xr_3
   have HB2 := aS (below_drew1 HB.out)
   try go_wp2
   go_roundg (gk - 1)
   case measure => have := HK.out; have := HLT.out; omega
   case rel => exact ⟨i + 1, by have h1 := HI0.out; have h2 := HLT.out; have h3 := HM.out; rw [show wrap64 (i + 1) = i + 1 by unfold wrap64; omega], by have := HI0.out; omega, by have := HLT.out; omega, by have := HK.out; have := HLT.out; omega, HB2⟩
  ·have hd1 : decide (i < (fs.length : Int)) = false := decide_eq_false hlt
   go_wp2
   go_ret
   exact ⟨rfl, HB.out⟩
end Go.Proofs.YtenogedclignmaaDoor.Q
