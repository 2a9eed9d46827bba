/-
  HELPER.
-/
import Derived.Test.YtenogedclignmaaDoorPlKA
import Derived.Test.YtenogedclignmaaDoorPlK21
import Derived.Test.YtenogedclignmaaDoorPlK23
set_option linter.unusedVariables false
set_option linter.unusedSimpArgs false
namespace Go.Proofs.YtenogedclignmaaDoor.Q
open Go.RowKit Go.Maps Go.WideMaps Go.Proofs.YtenogedclignmaaDoorW.PrintWords Go.Proofs.YtenogedclignmaaDoorW.PrintLast Go.Proofs.YtenogedclignmaaDoorW.PrintMore
abbrev txA : ByteArray := ⟨#[109, 111, 100, 117, 108, 101, 32, 109, 40, 105, 110, 32, 97, 32, 58, 32, 49, 41, 32, 123, 32, 97, 115, 115, 101, 114, 116, 32, 112, 32, 58, 32, 97, 59, 32, 125]⟩
abbrev txB : ByteArray := ⟨#[109, 111, 100, 117, 108, 101, 32, 109, 40, 41, 32, 123, 32, 119, 105, 114, 101, 32, 120, 32, 49, 59, 32, 99, 111, 118, 101, 114, 32, 99, 32, 58, 32, 49, 39, 49, 59, 32, 125]⟩
abbrev txC : ByteArray := ⟨#[109, 111, 100, 117, 108, 101, 32, 109, 40, 41, 32, 123]⟩
abbrev e0 : Ex := ⟨0, zDm, zDm, zDm, zDm, ⟨#[]⟩, []⟩
abbrev mdA : Mdl := ⟨⟨#[109]⟩, [], [⟨true, ⟨#[97]⟩, ⟨⟨#[]⟩, 1⟩⟩], [⟨8, ⟨#[112]⟩, zDm, zDm, ⟨#[]⟩, [], [], ⟨2, zDm, zDm, zDm, zDm, ⟨#[97]⟩, []⟩, e0, e0⟩]⟩
abbrev mdB : Mdl := ⟨⟨#[109]⟩, [], [], [⟨10, ⟨#[99]⟩, zDm, zDm, ⟨#[]⟩, [], [], ⟨1, ⟨⟨#[]⟩, 1⟩, ⟨⟨#[]⟩, 1⟩, zDm, zDm, ⟨#[]⟩, []⟩, e0, e0⟩]⟩
section
set_option maxRecDepth 100000
theorem parse_c : syn_Parse.f txC = some ([], [⟨21, 12, 0, 0⟩]) := by kernel_rfl
theorem parse_a : syn_Parse.f txA = some ([mdA], []) := by kernel_rfl
theorem parse_b : syn_Parse.f txB = some ([mdB], [⟨20, 20, 0, 0⟩]) := by kernel_rfl
theorem word_at : syn_Word.f ⟨#[97, 116]⟩ = some true := by kernel_rfl
theorem word_m : syn_Word.f ⟨#[109]⟩ = some false := by kernel_rfl
end
theorem C_one {α : Type} (d : Kd α) {w : World} {g : Nat} {cs : List Value} {T : TypeId} {fr : Nat × Nat} {x : α} (h : w.heap[g]? = some (.cells cs.toArray T fr)) (hk : d.K w x cs) (hz : cs.length = d.sz) : d.C w (some ⟨g, 0, none⟩) 1 [x] :=
 ⟨rfl, by omega, fun _ => ⟨_, rfl, fun j p hj => by
  cases j with
  | zero =>
   cases hj
   refine ⟨cs, hz, hk, fun i u hu => ?_⟩
   rw [Nat.zero_mul, Nat.zero_add, Addr.add_mid, Nat.zero_add]
   exact (cH h i).trans (by simpa using hu)
  | succ j => simp at hj⟩⟩
theorem size_alloc (w : World) (o : Obj) : (w.alloc o).heap.size = w.heap.size + 1 := by show (w.heap.push _).size = _; simp
theorem later {P : Program} {c : Code} {Q : Exit → Act → World → Prop} {a : Act} {w : World} (h : ∀ w', w' = w → Code.wp P c Q a w') : Code.wp P c Q a w := h w rfl
theorem alloc1_of {w w' : World} {c1 : Array Value} {T1 : TypeId} (h : w' = w.alloc (.cells c1 T1)) : Below w.heap.size w w' ∧ w'.heap[w.heap.size]? = some (.cells c1 T1 (0, 0)) := by
 subst h; exact ⟨below_alloc (bR _ _) _, (MapKept.heap_alloc w _).1⟩
theorem alloc2_of {w w' : World} {c1 c2 : Array Value} {T1 T2 : TypeId} (h : w' = (w.alloc (.cells c1 T1)).alloc (.cells c2 T2)) : Below w.heap.size w w' ∧ w'.heap[w.heap.size]? = some (.cells c1 T1 (0, 0)) ∧ w'.heap[w.heap.size + 1]? = some (.cells c2 T2 (0, 0)) := by
 obtain ⟨b1, p1⟩ := alloc1_of (w := w) (c1 := c1) (T1 := T1) rfl
 obtain ⟨b2, p2⟩ := alloc1_of h
 exact ⟨below_step b1 b2, fbelow p1 b2, by rw [size_alloc] at p2; exact p2⟩
theorem alloc3_of {w w' : World} {c1 c2 c3 : Array Value} {T1 T2 T3 : TypeId} (h : w' = ((w.alloc (.cells c1 T1)).alloc (.cells c2 T2)).alloc (.cells c3 T3)) : Below w.heap.size w w' ∧ w'.heap[w.heap.size]? = some (.cells c1 T1 (0, 0)) ∧ w'.heap[w.heap.size + 1]? = some (.cells c2 T2 (0, 0)) ∧ w'.heap[w.heap.size + 2]? = some (.cells c3 T3 (0, 0)) := by
 obtain ⟨b1, p1, q1⟩ := alloc2_of (w := w) (c1 := c1) (T1 := T1) (c2 := c2) (T2 := T2) rfl
 obtain ⟨b2, p2⟩ := alloc1_of h
 exact ⟨below_step b1 b2, fbelow p1 b2, fbelow q1 b2, by rw [size_alloc, size_alloc] at p2; exact p2⟩
set_option maxHeartbeats 8000000 in
set_option maxRecDepth 100000 in
theorem head_calls (w : World) (hG : Tab w) : Calls Tryd.prog 9 #[] w fun e w' => e = .returned (.bool true) ∧ Below w.heap.size w w' := by
 have HG := aS hG
 have HB := aS (bR w.heap.size w)
 clear hG
 go_enter Tryd.func9, Tryd.ntmps9
 go_upto_region 2 with (go_at_call 11; refine (syn_Parse.calls txA [mdA] [] _ HG.out parse_a).mono ?_; rintro e w1 ⟨v0, v1, rfl, hR0, hR1, hb⟩; obtain ⟨A1, q1, rfl, hA⟩ := Kd.R_reads hR0; obtain ⟨B1, p1, rfl, hC⟩ := Kd.R_reads hR1)
 have hbn := below_alloc (bR w1.heap.size w1) (.cells #[.slice A1 1 q1] 26)
 have hb2 := below_step hb hbn
 have HGn := aS (tab_below HG.out hb2)
 have HBn := aS (below_step HB.out hb2)
 have HP1n := aS (MapKept.heap_alloc w1 (.cells #[.slice A1 1 q1] 26)).1
 have HM1n := aS (show Kd.C k47 _ A1 1 [mdA] from Kd.C_below hA.2 hbn)
 have HF1n := aS (show Kd.C k35 _ B1 0 [] from Kd.C_below hC.2 hbn)
 generalize hg1 : w1.heap.size = g1 at *
 generalize w1.alloc (.cells #[.slice A1 1 q1] 26) = w11 at *
 clear hb hbn hb2 hA hC hR0 hR1 hg1 HG HB
 have HG := HGn
 have HB := HBn
 have HP1 := HP1n
 have HM1 := HM1n
 have HF1 := HF1n
 clear HGn HBn HP1n HM1n HF1n
 go_upto_region 3 with (go_at_call 11; refine (syn_Parse.calls txB [mdB] [⟨20, 20, 0, 0⟩] _ HG.out parse_b).mono ?_; rintro e w1 ⟨v0, v1, rfl, hR0, hR1, hb⟩; obtain ⟨A2, q2, rfl, hA⟩ := Kd.R_reads hR0; obtain ⟨B2, p2, rfl, hC⟩ := Kd.R_reads hR1)
 have hbn := below_alloc (bR w1.heap.size w1) (.cells #[.slice A2 1 q2] 26)
 have hb2 := below_step hb hbn
 have HGn := aS (tab_below HG.out hb2)
 have HBn := aS (below_step HB.out hb2)
 have HP1n := aS (fbelow HP1.out hb2)
 have HM1n := aS (Kd.C_below HM1.out hb2)
 have HF1n := aS (Kd.C_below HF1.out hb2)
 have HP2n := aS (MapKept.heap_alloc w1 (.cells #[.slice A2 1 q2] 26)).1
 have HM2n := aS (show Kd.C k47 _ A2 1 [mdB] from Kd.C_below hA.2 hbn)
 have HF2n := aS (show Kd.C k35 _ B2 1 [⟨20, 20, 0, 0⟩] from Kd.C_below hC.2 hbn)
 generalize hg2 : w1.heap.size = g2 at *
 generalize w1.alloc (.cells #[.slice A2 1 q2] 26) = w12 at *
 clear hb hbn hb2 hA hC hR0 hR1 hg2 HG HB HP1 HM1 HF1
 have HG := HGn
 have HB := HBn
 have HP1 := HP1n
 have HM1 := HM1n
 have HF1 := HF1n
 have HP2 := HP2n
 have HM2 := HM2n
 have HF2 := HF2n
 clear HGn HBn HP1n HM1n HF1n HP2n HM2n HF2n
 go_upto_region 4 with (go_at_call 11; refine (syn_Parse.calls txC [] [⟨21, 12, 0, 0⟩] _ HG.out parse_c).mono ?_; rintro e w1 ⟨v0, v1, rfl, hR0, hR1, hb⟩; obtain ⟨A3, q3, rfl, hA⟩ := Kd.R_reads hR0; obtain ⟨B3, p3, rfl, hC⟩ := Kd.R_reads hR1)
 have hbn := below_alloc (bR w1.heap.size w1) (.cells #[.slice A3 0 q3] 26)
 have hb2 := below_step hb hbn
 have HGn := aS (tab_below HG.out hb2)
 have HBn := aS (below_step HB.out hb2)
 have HP1n := aS (fbelow HP1.out hb2)
 have HP2n := aS (fbelow HP2.out hb2)
 have HM1n := aS (Kd.C_below HM1.out hb2)
 have HM2n := aS (Kd.C_below HM2.out hb2)
 have HF1n := aS (Kd.C_below HF1.out hb2)
 have HF2n := aS (Kd.C_below HF2.out hb2)
 have HP3n := aS (MapKept.heap_alloc w1 (.cells #[.slice A3 0 q3] 26)).1
 have HM3n := aS (show Kd.C k47 _ A3 0 [] from Kd.C_below hA.2 hbn)
 have HF3n := aS (show Kd.C k35 _ B3 1 [⟨21, 12, 0, 0⟩] from Kd.C_below hC.2 hbn)
 generalize hg3 : w1.heap.size = g3 at *
 generalize w1.alloc (.cells #[.slice A3 0 q3] 26) = w13 at *
 clear hb hbn hb2 hA hC hR0 hR1 hg3 HG HB HP1 HM1 HF1 HP2 HM2 HF2
 have HG := HGn
 have HB := HBn
 have HP1 := HP1n
 have HM1 := HM1n
 have HF1 := HF1n
 have HP2 := HP2n
 have HM2 := HM2n
 have HF2 := HF2n
 have HP3 := HP3n
 have HM3 := HM3n
 have HF3 := HF3n
 clear HGn HBn HP1n HM1n HF1n HP2n HM2n HF2n HP3n HM3n HF3n
 have j1 := cH HP1.out 0
 have j2 := cH HP2.out 0
 have j3 := cH HP3.out 0
 go_upto_region 6 with (fail)
 clear j1 j2 j3
 go_upto_region 7 with (fail)
 clear HP3 HM3 HF1
 refine later ?_
 intro w16 hw
 obtain ⟨hb, hn0, hn1, hn2⟩ := alloc3_of hw
 clear hw
 have n_HG := aS (tab_below HG.out hb)
 have n_HB := aS (below_step HB.out hb)
 have n_HP1 := aS (fbelow HP1.out hb)
 have n_HP2 := aS (fbelow HP2.out hb)
 have n_HM1 := aS (Kd.C_below HM1.out hb)
 have n_HM2 := aS (Kd.C_below HM2.out hb)
 have n_HF2 := aS (Kd.C_below HF2.out hb)
 have n_HF3 := aS (Kd.C_below HF3.out hb)
 clear HG HB HP1 HP2 HM1 HM2 HF2 HF3
 have HG := n_HG
 have HB := n_HB
 have HP1 := n_HP1
 have HP2 := n_HP2
 have HM1 := n_HM1
 have HM2 := n_HM2
 have HF2 := n_HF2
 have HF3 := n_HF3
 clear n_HG n_HB n_HP1 n_HP2 n_HM1 n_HM2 n_HF2 n_HF3
 have HW1 := aS hn2
 have HPC := aS (show Kd.C k64 _ (some ⟨_, 0, none⟩) 1 mdA.f2 from C_one k64 hn0 (k64_mk _ ⟨true, ⟨#[97]⟩, ⟨⟨#[]⟩, 1⟩⟩) rfl)
 have HIC := aS (show Kd.C k58 _ (some ⟨_, 0, none⟩) 1 mdA.f3 from C_one k58 hn1 (k58_mk _ _ (Nat.zero_le _) (Kd.C_nil _ _) (Nat.zero_le _) (Kd.C_nil _ _) (Nat.zero_le _) (Kd.C_nil _ _) (Nat.zero_le _) (Kd.C_nil _ _) (Nat.zero_le _) (Kd.C_nil _ _)) rfl)
 clear hn0 hn1 hn2 hb
 generalize w13.heap.size = h0 at *
 go_upto_region 8 with (fail)
 refine later ?_
 intro w17 hw
 obtain ⟨hb, hn0⟩ := alloc1_of hw
 clear hw
 have n_HG := aS (tab_below HG.out hb)
 have n_HB := aS (below_step HB.out hb)
 have n_HP1 := aS (fbelow HP1.out hb)
 have n_HP2 := aS (fbelow HP2.out hb)
 have n_HM1 := aS (Kd.C_below HM1.out hb)
 have n_HM2 := aS (Kd.C_below HM2.out hb)
 have n_HF2 := aS (Kd.C_below HF2.out hb)
 have n_HF3 := aS (Kd.C_below HF3.out hb)
 have n_HW1 := aS (fbelow HW1.out hb)
 have n_HPC := aS (Kd.C_below HPC.out hb)
 have n_HIC := aS (Kd.C_below HIC.out hb)
 clear HG HB HP1 HP2 HM1 HM2 HF2 HF3 HW1 HPC HIC
 have HG := n_HG
 have HB := n_HB
 have HP1 := n_HP1
 have HP2 := n_HP2
 have HM1 := n_HM1
 have HM2 := n_HM2
 have HF2 := n_HF2
 have HF3 := n_HF3
 have HW1 := n_HW1
 have HPC := n_HPC
 have HIC := n_HIC
 clear n_HG n_HB n_HP1 n_HP2 n_HM1 n_HM2 n_HF2 n_HF3 n_HW1 n_HPC n_HIC
 clear hb
 generalize w16.heap.size = h3 at *
 have j0 := cH hn0 0
 have j1 := cH hn0 1
 clear hn0
 go_upto_region 9 with (fail)
 clear j0 j1
 refine later ?_
 intro w18 hw
 obtain ⟨hb, hn0, hn1⟩ := alloc2_of hw
 clear hw
 have n_HG := aS (tab_below HG.out hb)
 have n_HB := aS (below_step HB.out hb)
 have n_HP1 := aS (fbelow HP1.out hb)
 have n_HP2 := aS (fbelow HP2.out hb)
 have n_HM1 := aS (Kd.C_below HM1.out hb)
 have n_HM2 := aS (Kd.C_below HM2.out hb)
 have n_HF2 := aS (Kd.C_below HF2.out hb)
 have n_HF3 := aS (Kd.C_below HF3.out hb)
 have n_HW1 := aS (fbelow HW1.out hb)
 have n_HPC := aS (Kd.C_below HPC.out hb)
 have n_HIC := aS (Kd.C_below HIC.out hb)
 clear HG HB HP1 HP2 HM1 HM2 HF2 HF3 HW1 HPC HIC
 have HG := n_HG
 have HB := n_HB
 have HP1 := n_HP1
 have HP2 := n_HP2
 have HM1 := n_HM1
 have HM2 := n_HM2
 have HF2 := n_HF2
 have HF3 := n_HF3
 have HW1 := n_HW1
 have HPC := n_HPC
 have HIC := n_HIC
 clear n_HG n_HB n_HP1 n_HP2 n_HM1 n_HM2 n_HF2 n_HF3 n_HW1 n_HPC n_HIC
 have HW2 := aS hn1
 have HJC := aS (show Kd.C k58 _ (some ⟨_, 0, none⟩) 1 mdB.f3 from C_one k58 hn0 (k58_mk _ _ (Nat.zero_le _) (Kd.C_nil _ _) (Nat.zero_le _) (Kd.C_nil _ _) (Nat.zero_le _) (Kd.C_nil _ _) (Nat.zero_le _) (Kd.C_nil _ _) (Nat.zero_le _) (Kd.C_nil _ _)) rfl)
 clear hn0 hn1 hb
 generalize w17.heap.size = h4 at *
 have c1 := cH HP1.out 0
 have c2 := cH HP2.out 0
 obtain ⟨ad1, X1, y1, Y1, z1, Z1, u1, e, a10, a11, a12, a13, -, hx, -, hy, -, hz⟩ := at_T47 HM1.out 0 (by decide) (by decide)
 subst e
 have HX1 := aS (show Kd.C Kd.string _ X1 mdA.f1.length mdA.f1 from hx)
 have HY1 := aS (show Kd.C k64 _ Y1 mdA.f2.length mdA.f2 from hy)
 have HZ1 := aS (show Kd.C k58 _ Z1 mdA.f3.length mdA.f3 from hz)
 clear hx hy hz
 obtain ⟨ad2, X2, y2, Y2, z2, Z2, u2, e, a20, a21, a22, a23, -, hx, -, hy, -, hz⟩ := at_T47 HM2.out 0 (by decide) (by decide)
 subst e
 have HX2 := aS (show Kd.C Kd.string _ X2 mdB.f1.length mdB.f1 from hx)
 have HY2 := aS (show Kd.C k64 _ Y2 mdB.f2.length mdB.f2 from hy)
 have HZ2 := aS (show Kd.C k58 _ Z2 mdB.f3.length mdB.f3 from hz)
 clear hx hy hz
 have b0 := cH HW1.out 0
 have b1 := cH HW1.out 1
 have b2 := cH HW1.out 2
 have b3 := cH HW1.out 3
 have d0 := cH HW2.out 0
 have d1 := cH HW2.out 1
 have d2 := cH HW2.out 2
 have d3 := cH HW2.out 3
 have ha1 : ad1.add ((0 : Int).toNat * 4) = ad1 := by simp [Addr.add]
 have ha2 : ad2.add ((0 : Int).toNat * 4) = ad2 := by simp [Addr.add]
 rw [ha1] at a10 a11 a12 a13
 rw [ha2] at a20 a21 a22 a23
 have hA0 : w18.cell? ad1 = some (.string ⟨#[109]⟩) := a10
 have hA1 : w18.cell? ⟨ad1.block, ad1.off + 1, none⟩ = some (.slice X1 0 y1) := a11
 have hA2 : w18.cell? ⟨ad1.block, ad1.off + 2, none⟩ = some (.slice Y1 1 z1) := a12
 have hA3 : w18.cell? ⟨ad1.block, ad1.off + 3, none⟩ = some (.slice Z1 1 u1) := a13
 have hB0 : w18.cell? ad2 = some (.string ⟨#[109]⟩) := a20
 have hB1 : w18.cell? ⟨ad2.block, ad2.off + 1, none⟩ = some (.slice X2 0 y2) := a21
 have hB2 : w18.cell? ⟨ad2.block, ad2.off + 2, none⟩ = some (.slice Y2 0 z2) := a22
 have hB3 : w18.cell? ⟨ad2.block, ad2.off + 3, none⟩ = some (.slice Z2 1 u2) := a23
 refine start_ (n := 34) (S := fun w' => w'.cell? ⟨g1, 0, none⟩ = some (.slice (some ad1) 1 q1) ∧ w'.cell? ⟨g2, 0, none⟩ = some (.slice (some ad2) 1 q2) ∧ w'.cell? ad1 = some (.string ⟨#[109]⟩) ∧ w'.cell? ⟨ad1.block, ad1.off + 1, none⟩ = some (.slice X1 0 y1) ∧ w'.cell? ⟨ad1.block, ad1.off + 2, none⟩ = some (.slice Y1 1 z1) ∧ w'.cell? ⟨ad1.block, ad1.off + 3, none⟩ = some (.slice Z1 1 u1) ∧ w'.cell? ad2 = some (.string ⟨#[109]⟩) ∧ w'.cell? ⟨ad2.block, ad2.off + 1, none⟩ = some (.slice X2 0 y2) ∧ w'.cell? ⟨ad2.block, ad2.off + 2, none⟩ = some (.slice Y2 0 z2) ∧ w'.cell? ⟨ad2.block, ad2.off + 3, none⟩ = some (.slice Z2 1 u2) ∧ w'.cell? ⟨h0 + 2, 0, none⟩ = some (.string ⟨#[109]⟩) ∧ w'.cell? ⟨h0 + 2, 1, none⟩ = some (.slice none 0 0) ∧ w'.cell? ⟨h0 + 2, 2, none⟩ = some (.slice (some ⟨h0, 0, none⟩) 1 1) ∧ w'.cell? ⟨h0 + 2, 3, none⟩ = some (.slice (some ⟨h0 + 1, 0, none⟩) 1 1) ∧ w'.cell? ⟨h4 + 1, 0, none⟩ = some (.string ⟨#[109]⟩) ∧ w'.cell? ⟨h4 + 1, 1, none⟩ = some (.slice none 0 0) ∧ w'.cell? ⟨h4 + 1, 2, none⟩ = some (.slice none 0 0) ∧ w'.cell? ⟨h4 + 1, 3, none⟩ = some (.slice (some ⟨h4, 0, none⟩) 1 1)) (ds := []) #[false, false, false, false, false, false, false, false, false, false, false, false, false, false, false, false, false, false, false, false, false, false, false, false, false, false, false, false, false, false, false, false, false, false] (by kernel_rfl) rfl rfl ⟨c1, c2, hA0, hA1, hA2, hA3, hB0, hB1, hB2, hB3, b0, b1, b2, b3, d0, d1, d2, d3⟩ (fun hHeld => ?_)
 have hb := below_drew (bR w18.heap.size w18)
 clear c1 c2 HM1 HM2 HP1 HP2 HW1 HW2 ha1 ha2 a10 a20 b0 d0 hA0 hB0 a11 a21 b1 d1 hA1 hB1 a12 a22 b2 d2 hA2 hB2 a13 a23 b3 d3 hA3 hB3
 have n_HG := aS (tab_below HG.out hb)
 have n_HB := aS (below_step HB.out hb)
 have n_HF2 := aS (Kd.C_below HF2.out hb)
 have n_HF3 := aS (Kd.C_below HF3.out hb)
 have n_HPC := aS (Kd.C_below HPC.out hb)
 have n_HIC := aS (Kd.C_below HIC.out hb)
 have n_HJC := aS (Kd.C_below HJC.out hb)
 have n_HX1 := aS (Kd.C_below HX1.out hb)
 have n_HY1 := aS (Kd.C_below HY1.out hb)
 have n_HZ1 := aS (Kd.C_below HZ1.out hb)
 have n_HX2 := aS (Kd.C_below HX2.out hb)
 have n_HY2 := aS (Kd.C_below HY2.out hb)
 have n_HZ2 := aS (Kd.C_below HZ2.out hb)
 clear HG HB HF2 HF3 HPC HIC HJC HX1 HY1 HZ1 HX2 HY2 HZ2
 have HG := n_HG
 have HB := n_HB
 have HF2 := n_HF2
 have HF3 := n_HF3
 have HPC := n_HPC
 have HIC := n_HIC
 have HJC := n_HJC
 have HX1 := n_HX1
 have HY1 := n_HY1
 have HZ1 := n_HZ1
 have HX2 := n_HX2
 have HY2 := n_HY2
 have HZ2 := n_HZ2
 clear n_HG n_HB n_HF2 n_HF3 n_HPC n_HIC n_HJC n_HX1 n_HY1 n_HZ1 n_HX2 n_HY2 n_HZ2
 clear hb
 generalize w18.drew = w19 at *
 refine pure_ (i := 0) (N := some 57) (v := ?_) (a' := ?_) #[true, false, false, false, false, false, false, false, false, false, false, false, false, false, false, false, false, false, false, false, false, false, false, false, false, false, false, false, false, false, false, false, false, false] rfl rfl (by kernel_rfl) (fun _ _ _ h => h) (Or.inl ⟨by rfl, ?_⟩) ?_ ?_
 rotate_left
 ·intro w'
  go_simp
  try with_reducible rfl
 rotate_left
 ·simp only [putAll, Act.put, sI, s0', s1']
  rfl
 refine take_ (i := 1) (N := some 58) (v := ?_) (a' := ?_) #[true, true, false, false, false, false, false, false, false, false, false, false, false, false, false, false, false, false, false, false, false, false, false, false, false, false, false, false, false, false, false, false, false, false] rfl rfl (by kernel_rfl) (fun _ _ _ h => h) (Or.inl ⟨by rfl, ?_⟩) hHeld ?_ ?_
 rotate_left
 ·rintro w' ⟨s0, s1, s2, s3, s4, s5, s6, s7, s8, s9, s10, s11, s12, s13, s14, s15, s16, s17⟩
  go_simp
  try with_reducible rfl
 rotate_left
 ·simp only [putAll, Act.put, sI, s0', s1']
  rfl
 refine pure_ (i := 2) (N := some 59) (v := ?_) (a' := ?_) #[true, true, true, false, false, false, false, false, false, false, false, false, false, false, false, false, false, false, false, false, false, false, false, false, false, false, false, false, false, false, false, false, false, false] rfl rfl (by kernel_rfl) (fun _ _ _ h => h) (Or.inl ⟨by rfl, ?_⟩) ?_ ?_
 rotate_left
 ·intro w'
  go_simp
  try with_reducible rfl
 rotate_left
 ·simp only [putAll, Act.put, sI, s0', s1']
  rfl
 refine take_ (i := 3) (N := some 60) (v := ?_) (a' := ?_) #[true, true, true, true, false, false, false, false, false, false, false, false, false, false, false, false, false, false, false, false, false, false, false, false, false, false, false, false, false, false, false, false, false, false] rfl rfl (by kernel_rfl) (fun _ _ _ h => h) (Or.inl ⟨by rfl, ?_⟩) hHeld ?_ ?_
 rotate_left
 ·rintro w' ⟨s0, s1, s2, s3, s4, s5, s6, s7, s8, s9, s10, s11, s12, s13, s14, s15, s16, s17⟩
  go_simp
  try with_reducible rfl
 rotate_left
 ·simp only [putAll, Act.put, sI, s0', s1']
  rfl
 refine take_ (i := 4) (N := some 61) (v := ?_) (a' := ?_) #[true, true, true, true, true, false, false, false, false, false, false, false, false, false, false, false, false, false, false, false, false, false, false, false, false, false, false, false, false, false, false, false, false, false] rfl rfl (by kernel_rfl) (fun _ _ _ h => h) (Or.inl ⟨by rfl, ?_⟩) hHeld ?_ ?_
 rotate_left
 ·rintro w' ⟨s0, s1, s2, s3, s4, s5, s6, s7, s8, s9, s10, s11, s12, s13, s14, s15, s16, s17⟩
  go_simp
  try with_reducible rfl
 rotate_left
 ·simp only [putAll, Act.put, sI, s0', s1']
  rfl
 refine one_ (i := 5) (N := some 62) #[true, true, true, true, true, true, false, false, false, false, false, false, false, false, false, false, false, false, false, false, false, false, false, false, false, false, false, false, false, false, false, false, false, false] rfl rfl (by kernel_rfl) (by decide) (fun K hK => ?_)
 refine step_goes Tryd.func16 (by kernel_rfl) rfl #[.agg #[.string ⟨#[109]⟩, .slice X1 0 y1, .slice Y1 1 z1, .slice Z1 1 u1], .agg #[.string ⟨#[109]⟩, .slice none 0 0, .slice (some ⟨h0, 0, none⟩) 1 1, .slice (some ⟨h0 + 1, 0, none⟩) 1 1]] (by rfl) rfl rfl (by (try simp only [List.map_toArray, List.map_cons, List.map_nil]); rfl) ?_
 refine (same_module mdA X1 y1 Y1 z1 Z1 u1 none 0 (some ⟨h0, 0, none⟩) 1 (some ⟨h0 + 1, 0, none⟩) 1 _ HX1.out HY1.out HZ1.out (Kd.C_nil _ _) HPC.out HIC.out).mono ?_
 rintro e w20 ⟨rfl, hb⟩
 refine hK.out _ _ (by obtain ⟨s0, s1, s2, s3, s4, s5, s6, s7, s8, s9, s10, s11, s12, s13, s14, s15, s16, s17⟩ := hHeld; exact ⟨(hb.cell (World.block_lt_of_cell? _ _ s0)).trans s0, (hb.cell (World.block_lt_of_cell? _ _ s1)).trans s1, (hb.cell (World.block_lt_of_cell? _ _ s2)).trans s2, (hb.cell (World.block_lt_of_cell? _ _ s3)).trans s3, (hb.cell (World.block_lt_of_cell? _ _ s4)).trans s4, (hb.cell (World.block_lt_of_cell? _ _ s5)).trans s5, (hb.cell (World.block_lt_of_cell? _ _ s6)).trans s6, (hb.cell (World.block_lt_of_cell? _ _ s7)).trans s7, (hb.cell (World.block_lt_of_cell? _ _ s8)).trans s8, (hb.cell (World.block_lt_of_cell? _ _ s9)).trans s9, (hb.cell (World.block_lt_of_cell? _ _ s10)).trans s10, (hb.cell (World.block_lt_of_cell? _ _ s11)).trans s11, (hb.cell (World.block_lt_of_cell? _ _ s12)).trans s12, (hb.cell (World.block_lt_of_cell? _ _ s13)).trans s13, (hb.cell (World.block_lt_of_cell? _ _ s14)).trans s14, (hb.cell (World.block_lt_of_cell? _ _ s15)).trans s15, (hb.cell (World.block_lt_of_cell? _ _ s16)).trans s16, (hb.cell (World.block_lt_of_cell? _ _ s17)).trans s17⟩) (fun hHeld => ?_)
 clear hK K
 refine norm_ (a' := ?_) ?_ ?_
 rotate_left
 ·show Act.put _ (some 62) _ = _
  simp only [putAll, Act.put, sI, s0', s1']
  rfl
 have n_HG := aS (tab_below HG.out hb)
 have n_HB := aS (below_step HB.out hb)
 have n_HF2 := aS (Kd.C_below HF2.out hb)
 have n_HF3 := aS (Kd.C_below HF3.out hb)
 have n_HPC := aS (Kd.C_below HPC.out hb)
 have n_HIC := aS (Kd.C_below HIC.out hb)
 have n_HJC := aS (Kd.C_below HJC.out hb)
 have n_HX1 := aS (Kd.C_below HX1.out hb)
 have n_HY1 := aS (Kd.C_below HY1.out hb)
 have n_HZ1 := aS (Kd.C_below HZ1.out hb)
 have n_HX2 := aS (Kd.C_below HX2.out hb)
 have n_HY2 := aS (Kd.C_below HY2.out hb)
 have n_HZ2 := aS (Kd.C_below HZ2.out hb)
 clear HG HB HF2 HF3 HPC HIC HJC HX1 HY1 HZ1 HX2 HY2 HZ2
 have HG := n_HG
 have HB := n_HB
 have HF2 := n_HF2
 have HF3 := n_HF3
 have HPC := n_HPC
 have HIC := n_HIC
 have HJC := n_HJC
 have HX1 := n_HX1
 have HY1 := n_HY1
 have HZ1 := n_HZ1
 have HX2 := n_HX2
 have HY2 := n_HY2
 have HZ2 := n_HZ2
 clear n_HG n_HB n_HF2 n_HF3 n_HPC n_HIC n_HJC n_HX1 n_HY1 n_HZ1 n_HX2 n_HY2 n_HZ2
 clear hb
 refine pure_ (i := 6) (N := some 63) (v := ?_) (a' := ?_) #[true, true, true, true, true, true, true, false, false, false, false, false, false, false, false, false, false, false, false, false, false, false, false, false, false, false, false, false, false, false, false, false, false, false] rfl rfl (by kernel_rfl) (fun _ _ _ h => h) (Or.inl ⟨by rfl, ?_⟩) ?_ ?_
 rotate_left
 ·intro w'
  go_simp
  try with_reducible rfl
 rotate_left
 ·simp only [putAll, Act.put, sI, s0', s1']
  rfl
 refine pure_ (i := 7) (N := some 64) (v := ?_) (a' := ?_) #[true, true, true, true, true, true, true, true, false, false, false, false, false, false, false, false, false, false, false, false, false, false, false, false, false, false, false, false, false, false, false, false, false, false] rfl rfl (by kernel_rfl) (fun _ _ _ h => h) (Or.inl ⟨by rfl, ?_⟩) ?_ ?_
 rotate_left
 ·intro w'
  go_simp
  try with_reducible rfl
 rotate_left
 ·simp only [putAll, Act.put, sI, s0', s1']
  rfl
 refine take_ (i := 8) (N := some 65) (v := ?_) (a' := ?_) #[true, true, true, true, true, true, true, true, true, false, false, false, false, false, false, false, false, false, false, false, false, false, false, false, false, false, false, false, false, false, false, false, false, false] rfl rfl (by kernel_rfl) (fun _ _ _ h => h) (Or.inl ⟨by rfl, ?_⟩) hHeld ?_ ?_
 rotate_left
 ·rintro w' ⟨s0, s1, s2, s3, s4, s5, s6, s7, s8, s9, s10, s11, s12, s13, s14, s15, s16, s17⟩
  go_simp
  try with_reducible rfl
 rotate_left
 ·simp only [putAll, Act.put, sI, s0', s1']
  rfl
 refine pure_ (i := 9) (N := some 66) (v := ?_) (a' := ?_) #[true, true, true, true, true, true, true, true, true, true, false, false, false, false, false, false, false, false, false, false, false, false, false, false, false, false, false, false, false, false, false, false, false, false] rfl rfl (by kernel_rfl) (fun _ _ _ h => h) (Or.inl ⟨by rfl, ?_⟩) ?_ ?_
 rotate_left
 ·intro w'
  go_simp
  try with_reducible rfl
 rotate_left
 ·simp only [putAll, Act.put, sI, s0', s1']
  rfl
 refine take_ (i := 10) (N := some 67) (v := ?_) (a' := ?_) #[true, true, true, true, true, true, true, true, true, true, true, false, false, false, false, false, false, false, false, false, false, false, false, false, false, false, false, false, false, false, false, false, false, false] rfl rfl (by kernel_rfl) (fun _ _ _ h => h) (Or.inl ⟨by rfl, ?_⟩) hHeld ?_ ?_
 rotate_left
 ·rintro w' ⟨s0, s1, s2, s3, s4, s5, s6, s7, s8, s9, s10, s11, s12, s13, s14, s15, s16, s17⟩
  go_simp
  try with_reducible rfl
 rotate_left
 ·simp only [putAll, Act.put, sI, s0', s1']
  rfl
 refine take_ (i := 11) (N := some 68) (v := ?_) (a' := ?_) #[true, true, true, true, true, true, true, true, true, true, true, true, false, false, false, false, false, false, false, false, false, false, false, false, false, false, false, false, false, false, false, false, false, false] rfl rfl (by kernel_rfl) (fun _ _ _ h => h) (Or.inl ⟨by rfl, ?_⟩) hHeld ?_ ?_
 rotate_left
 ·rintro w' ⟨s0, s1, s2, s3, s4, s5, s6, s7, s8, s9, s10, s11, s12, s13, s14, s15, s16, s17⟩
  go_simp
  try with_reducible rfl
 rotate_left
 ·simp only [putAll, Act.put, sI, s0', s1']
  rfl
 refine one_ (i := 12) (N := some 69) #[true, true, true, true, true, true, true, true, true, true, true, true, true, false, false, false, false, false, false, false, false, false, false, false, false, false, false, false, false, false, false, false, false, false] rfl rfl (by kernel_rfl) (by decide) (fun K hK => ?_)
 refine step_goes Tryd.func16 (by kernel_rfl) rfl #[.agg #[.string ⟨#[109]⟩, .slice X2 0 y2, .slice Y2 0 z2, .slice Z2 1 u2], .agg #[.string ⟨#[109]⟩, .slice none 0 0, .slice none 0 0, .slice (some ⟨h4, 0, none⟩) 1 1]] (by rfl) rfl rfl (by (try simp only [List.map_toArray, List.map_cons, List.map_nil]); rfl) ?_
 refine (same_module mdB X2 y2 Y2 z2 Z2 u2 none 0 none 0 (some ⟨h4, 0, none⟩) 1 _ HX2.out HY2.out HZ2.out (Kd.C_nil _ _) (Kd.C_nil _ _) HJC.out).mono ?_
 rintro e w21 ⟨rfl, hb⟩
 refine hK.out _ _ (by obtain ⟨s0, s1, s2, s3, s4, s5, s6, s7, s8, s9, s10, s11, s12, s13, s14, s15, s16, s17⟩ := hHeld; exact ⟨(hb.cell (World.block_lt_of_cell? _ _ s0)).trans s0, (hb.cell (World.block_lt_of_cell? _ _ s1)).trans s1, (hb.cell (World.block_lt_of_cell? _ _ s2)).trans s2, (hb.cell (World.block_lt_of_cell? _ _ s3)).trans s3, (hb.cell (World.block_lt_of_cell? _ _ s4)).trans s4, (hb.cell (World.block_lt_of_cell? _ _ s5)).trans s5, (hb.cell (World.block_lt_of_cell? _ _ s6)).trans s6, (hb.cell (World.block_lt_of_cell? _ _ s7)).trans s7, (hb.cell (World.block_lt_of_cell? _ _ s8)).trans s8, (hb.cell (World.block_lt_of_cell? _ _ s9)).trans s9, (hb.cell (World.block_lt_of_cell? _ _ s10)).trans s10, (hb.cell (World.block_lt_of_cell? _ _ s11)).trans s11, (hb.cell (World.block_lt_of_cell? _ _ s12)).trans s12, (hb.cell (World.block_lt_of_cell? _ _ s13)).trans s13, (hb.cell (World.block_lt_of_cell? _ _ s14)).trans s14, (hb.cell (World.block_lt_of_cell? _ _ s15)).trans s15, (hb.cell (World.block_lt_of_cell? _ _ s16)).trans s16, (hb.cell (World.block_lt_of_cell? _ _ s17)).trans s17⟩) (fun hHeld => ?_)
 clear hK K
 refine norm_ (a' := ?_) ?_ ?_
 rotate_left
 ·show Act.put _ (some 69) _ = _
  simp only [putAll, Act.put, sI, s0', s1']
  rfl
 have n_HG := aS (tab_below HG.out hb)
 have n_HB := aS (below_step HB.out hb)
 have n_HF2 := aS (Kd.C_below HF2.out hb)
 have n_HF3 := aS (Kd.C_below HF3.out hb)
 have n_HPC := aS (Kd.C_below HPC.out hb)
 have n_HIC := aS (Kd.C_below HIC.out hb)
 have n_HJC := aS (Kd.C_below HJC.out hb)
 have n_HX1 := aS (Kd.C_below HX1.out hb)
 have n_HY1 := aS (Kd.C_below HY1.out hb)
 have n_HZ1 := aS (Kd.C_below HZ1.out hb)
 have n_HX2 := aS (Kd.C_below HX2.out hb)
 have n_HY2 := aS (Kd.C_below HY2.out hb)
 have n_HZ2 := aS (Kd.C_below HZ2.out hb)
 clear HG HB HF2 HF3 HPC HIC HJC HX1 HY1 HZ1 HX2 HY2 HZ2
 have HG := n_HG
 have HB := n_HB
 have HF2 := n_HF2
 have HF3 := n_HF3
 have HPC := n_HPC
 have HIC := n_HIC
 have HJC := n_HJC
 have HX1 := n_HX1
 have HY1 := n_HY1
 have HZ1 := n_HZ1
 have HX2 := n_HX2
 have HY2 := n_HY2
 have HZ2 := n_HZ2
 clear n_HG n_HB n_HF2 n_HF3 n_HPC n_HIC n_HJC n_HX1 n_HY1 n_HZ1 n_HX2 n_HY2 n_HZ2
 clear hb
 refine pure_ (i := 13) (N := some 70) (v := ?_) (a' := ?_) #[true, true, true, true, true, true, true, true, true, true, true, true, true, true, false, false, false, false, false, false, false, false, false, false, false, false, false, false, false, false, false, false, false, false] rfl rfl (by kernel_rfl) (fun _ _ _ h => h) (Or.inl ⟨by rfl, ?_⟩) ?_ ?_
 rotate_left
 ·intro w'
  go_simp
  try with_reducible rfl
 rotate_left
 ·simp only [putAll, Act.put, sI, s0', s1']
  rfl
 refine pure_ (i := 14) (N := some 71) (v := ?_) (a' := ?_) #[true, true, true, true, true, true, true, true, true, true, true, true, true, true, true, false, false, false, false, false, false, false, false, false, false, false, false, false, false, false, false, false, false, false] rfl rfl (by kernel_rfl) (fun _ _ _ h => h) (Or.inl ⟨by rfl, ?_⟩) ?_ ?_
 rotate_left
 ·intro w'
  go_simp
  try with_reducible rfl
 rotate_left
 ·simp only [putAll, Act.put, sI, s0', s1']
  rfl
 refine pure_ (i := 15) (N := some 72) (v := ?_) (a' := ?_) #[true, true, true, true, true, true, true, true, true, true, true, true, true, true, true, true, false, false, false, false, false, false, false, false, false, false, false, false, false, false, false, false, false, false] rfl rfl (by kernel_rfl) (fun _ _ _ h => h) (Or.inl ⟨by rfl, ?_⟩) ?_ ?_
 rotate_left
 ·intro w'
  go_simp
  try with_reducible rfl
 rotate_left
 ·simp only [putAll, Act.put, sI, s0', s1']
  rfl
 refine pure_ (i := 16) (N := some 73) (v := ?_) (a' := ?_) #[true, true, true, true, true, true, true, true, true, true, true, true, true, true, true, true, true, false, false, false, false, false, false, false, false, false, false, false, false, false, false, false, false, false] rfl rfl (by kernel_rfl) (fun _ _ _ h => h) (Or.inl ⟨by rfl, ?_⟩) ?_ ?_
 rotate_left
 ·intro w'
  go_simp
  try with_reducible rfl
 rotate_left
 ·simp only [putAll, Act.put, sI, s0', s1']
  rfl
 refine one_ (i := 17) (N := some 74) #[true, true, true, true, true, true, true, true, true, true, true, true, true, true, true, true, true, true, false, false, false, false, false, false, false, false, false, false, false, false, false, false, false, false] rfl rfl (by kernel_rfl) (by decide) (fun K hK => ?_)
 refine value_ (w1 := w21.alloc (.cells #[.int .i64 20, .int .i64 20, .int .i64 0, .int .i64 0] 35)) (v := .slice (some ⟨w21.heap.size, 0, none⟩) 1 1) (by rfl) rfl ?_ ?_
 ·go_simp
  try rfl
 have HN1 := aS (show Kd.C k35 (w21.alloc (.cells #[.int .i64 20, .int .i64 20, .int .i64 0, .int .i64 0] 35)) (some ⟨w21.heap.size, 0, none⟩) 1 [⟨20, 20, 0, 0⟩] from C_one k35 (MapKept.heap_alloc w21 (.cells #[.int .i64 20, .int .i64 20, .int .i64 0, .int .i64 0] 35)).1 (k35_mk _ _) rfl)
 have hb := below_alloc (bR w21.heap.size w21) (.cells #[.int .i64 20, .int .i64 20, .int .i64 0, .int .i64 0] 35)
 refine hK.out _ _ (by obtain ⟨s0, s1, s2, s3, s4, s5, s6, s7, s8, s9, s10, s11, s12, s13, s14, s15, s16, s17⟩ := hHeld; exact ⟨(hb.cell (World.block_lt_of_cell? _ _ s0)).trans s0, (hb.cell (World.block_lt_of_cell? _ _ s1)).trans s1, (hb.cell (World.block_lt_of_cell? _ _ s2)).trans s2, (hb.cell (World.block_lt_of_cell? _ _ s3)).trans s3, (hb.cell (World.block_lt_of_cell? _ _ s4)).trans s4, (hb.cell (World.block_lt_of_cell? _ _ s5)).trans s5, (hb.cell (World.block_lt_of_cell? _ _ s6)).trans s6, (hb.cell (World.block_lt_of_cell? _ _ s7)).trans s7, (hb.cell (World.block_lt_of_cell? _ _ s8)).trans s8, (hb.cell (World.block_lt_of_cell? _ _ s9)).trans s9, (hb.cell (World.block_lt_of_cell? _ _ s10)).trans s10, (hb.cell (World.block_lt_of_cell? _ _ s11)).trans s11, (hb.cell (World.block_lt_of_cell? _ _ s12)).trans s12, (hb.cell (World.block_lt_of_cell? _ _ s13)).trans s13, (hb.cell (World.block_lt_of_cell? _ _ s14)).trans s14, (hb.cell (World.block_lt_of_cell? _ _ s15)).trans s15, (hb.cell (World.block_lt_of_cell? _ _ s16)).trans s16, (hb.cell (World.block_lt_of_cell? _ _ s17)).trans s17⟩) (fun hHeld => ?_)
 clear hK K
 refine norm_ (a' := ?_) ?_ ?_
 rotate_left
 ·show Act.put _ (some 74) _ = _
  simp only [putAll, Act.put, sI, s0', s1']
  rfl
 have n_HG := aS (tab_below HG.out hb)
 have n_HB := aS (below_step HB.out hb)
 have n_HF2 := aS (Kd.C_below HF2.out hb)
 have n_HF3 := aS (Kd.C_below HF3.out hb)
 have n_HPC := aS (Kd.C_below HPC.out hb)
 have n_HIC := aS (Kd.C_below HIC.out hb)
 have n_HJC := aS (Kd.C_below HJC.out hb)
 have n_HX1 := aS (Kd.C_below HX1.out hb)
 have n_HY1 := aS (Kd.C_below HY1.out hb)
 have n_HZ1 := aS (Kd.C_below HZ1.out hb)
 have n_HX2 := aS (Kd.C_below HX2.out hb)
 have n_HY2 := aS (Kd.C_below HY2.out hb)
 have n_HZ2 := aS (Kd.C_below HZ2.out hb)
 clear HG HB HF2 HF3 HPC HIC HJC HX1 HY1 HZ1 HX2 HY2 HZ2
 have HG := n_HG
 have HB := n_HB
 have HF2 := n_HF2
 have HF3 := n_HF3
 have HPC := n_HPC
 have HIC := n_HIC
 have HJC := n_HJC
 have HX1 := n_HX1
 have HY1 := n_HY1
 have HZ1 := n_HZ1
 have HX2 := n_HX2
 have HY2 := n_HY2
 have HZ2 := n_HZ2
 clear n_HG n_HB n_HF2 n_HF3 n_HPC n_HIC n_HJC n_HX1 n_HY1 n_HZ1 n_HX2 n_HY2 n_HZ2
 clear hb
 generalize w21.heap.size = gHN1 at *
 generalize w21.alloc (.cells #[.int .i64 20, .int .i64 20, .int .i64 0, .int .i64 0] 35) = w22 at *
 refine one_ (i := 18) (N := some 75) #[true, true, true, true, true, true, true, true, true, true, true, true, true, true, true, true, true, true, true, false, false, false, false, false, false, false, false, false, false, false, false, false, false, false] rfl rfl (by kernel_rfl) (by decide) (fun K hK => ?_)
 refine step_goes Tryd.func15 (by kernel_rfl) rfl #[.slice B2 1 p2, .slice (some ⟨gHN1, 0, none⟩) 1 1] (by rfl) rfl rfl (by (try simp only [List.map_toArray, List.map_cons, List.map_nil]); rfl) ?_
 refine (same_faults [⟨20, 20, 0, 0⟩] B2 p2 (some ⟨gHN1, 0, none⟩) 1 _ HF2.out HN1.out).mono ?_
 rintro e w23 ⟨rfl, hb⟩
 refine hK.out _ _ (by obtain ⟨s0, s1, s2, s3, s4, s5, s6, s7, s8, s9, s10, s11, s12, s13, s14, s15, s16, s17⟩ := hHeld; exact ⟨(hb.cell (World.block_lt_of_cell? _ _ s0)).trans s0, (hb.cell (World.block_lt_of_cell? _ _ s1)).trans s1, (hb.cell (World.block_lt_of_cell? _ _ s2)).trans s2, (hb.cell (World.block_lt_of_cell? _ _ s3)).trans s3, (hb.cell (World.block_lt_of_cell? _ _ s4)).trans s4, (hb.cell (World.block_lt_of_cell? _ _ s5)).trans s5, (hb.cell (World.block_lt_of_cell? _ _ s6)).trans s6, (hb.cell (World.block_lt_of_cell? _ _ s7)).trans s7, (hb.cell (World.block_lt_of_cell? _ _ s8)).trans s8, (hb.cell (World.block_lt_of_cell? _ _ s9)).trans s9, (hb.cell (World.block_lt_of_cell? _ _ s10)).trans s10, (hb.cell (World.block_lt_of_cell? _ _ s11)).trans s11, (hb.cell (World.block_lt_of_cell? _ _ s12)).trans s12, (hb.cell (World.block_lt_of_cell? _ _ s13)).trans s13, (hb.cell (World.block_lt_of_cell? _ _ s14)).trans s14, (hb.cell (World.block_lt_of_cell? _ _ s15)).trans s15, (hb.cell (World.block_lt_of_cell? _ _ s16)).trans s16, (hb.cell (World.block_lt_of_cell? _ _ s17)).trans s17⟩) (fun hHeld => ?_)
 clear hK K
 refine norm_ (a' := ?_) ?_ ?_
 rotate_left
 ·show Act.put _ (some 75) _ = _
  simp only [putAll, Act.put, sI, s0', s1']
  rfl
 have n_HG := aS (tab_below HG.out hb)
 have n_HB := aS (below_step HB.out hb)
 have n_HF2 := aS (Kd.C_below HF2.out hb)
 have n_HF3 := aS (Kd.C_below HF3.out hb)
 have n_HPC := aS (Kd.C_below HPC.out hb)
 have n_HIC := aS (Kd.C_below HIC.out hb)
 have n_HJC := aS (Kd.C_below HJC.out hb)
 have n_HX1 := aS (Kd.C_below HX1.out hb)
 have n_HY1 := aS (Kd.C_below HY1.out hb)
 have n_HZ1 := aS (Kd.C_below HZ1.out hb)
 have n_HX2 := aS (Kd.C_below HX2.out hb)
 have n_HY2 := aS (Kd.C_below HY2.out hb)
 have n_HZ2 := aS (Kd.C_below HZ2.out hb)
 clear HG HB HF2 HF3 HPC HIC HJC HX1 HY1 HZ1 HX2 HY2 HZ2
 have HG := n_HG
 have HB := n_HB
 have HF2 := n_HF2
 have HF3 := n_HF3
 have HPC := n_HPC
 have HIC := n_HIC
 have HJC := n_HJC
 have HX1 := n_HX1
 have HY1 := n_HY1
 have HZ1 := n_HZ1
 have HX2 := n_HX2
 have HY2 := n_HY2
 have HZ2 := n_HZ2
 clear n_HG n_HB n_HF2 n_HF3 n_HPC n_HIC n_HJC n_HX1 n_HY1 n_HZ1 n_HX2 n_HY2 n_HZ2
 clear hb
 refine pure_ (i := 19) (N := some 76) (v := ?_) (a' := ?_) #[true, true, true, true, true, true, true, true, true, true, true, true, true, true, true, true, true, true, true, true, false, false, false, false, false, false, false, false, false, false, false, false, false, false] rfl rfl (by kernel_rfl) (fun _ _ _ h => h) (Or.inl ⟨by rfl, ?_⟩) ?_ ?_
 rotate_left
 ·intro w'
  go_simp
  try with_reducible rfl
 rotate_left
 ·simp only [putAll, Act.put, sI, s0', s1']
  rfl
 refine pure_ (i := 20) (N := some 77) (v := ?_) (a' := ?_) #[true, true, true, true, true, true, true, true, true, true, true, true, true, true, true, true, true, true, true, true, true, false, false, false, false, false, false, false, false, false, false, false, false, false] rfl rfl (by kernel_rfl) (fun _ _ _ h => h) (Or.inl ⟨by rfl, ?_⟩) ?_ ?_
 rotate_left
 ·intro w'
  go_simp
  try with_reducible rfl
 rotate_left
 ·simp only [putAll, Act.put, sI, s0', s1']
  rfl
 refine pure_ (i := 21) (N := some 78) (v := ?_) (a' := ?_) #[true, true, true, true, true, true, true, true, true, true, true, true, true, true, true, true, true, true, true, true, true, true, false, false, false, false, false, false, false, false, false, false, false, false] rfl rfl (by kernel_rfl) (fun _ _ _ h => h) (Or.inl ⟨by rfl, ?_⟩) ?_ ?_
 rotate_left
 ·intro w'
  go_simp
  try with_reducible rfl
 rotate_left
 ·simp only [putAll, Act.put, sI, s0', s1']
  rfl
 refine pure_ (i := 22) (N := some 79) (v := ?_) (a' := ?_) #[true, true, true, true, true, true, true, true, true, true, true, true, true, true, true, true, true, true, true, true, true, true, true, false, false, false, false, false, false, false, false, false, false, false] rfl rfl (by kernel_rfl) (fun _ _ _ h => h) (Or.inl ⟨by rfl, ?_⟩) ?_ ?_
 rotate_left
 ·intro w'
  go_simp
  try with_reducible rfl
 rotate_left
 ·simp only [putAll, Act.put, sI, s0', s1']
  rfl
 refine one_ (i := 23) (N := some 80) #[true, true, true, true, true, true, true, true, true, true, true, true, true, true, true, true, true, true, true, true, true, true, true, true, false, false, false, false, false, false, false, false, false, false] rfl rfl (by kernel_rfl) (by decide) (fun K hK => ?_)
 refine value_ (w1 := w23.alloc (.cells #[.int .i64 21, .int .i64 12, .int .i64 0, .int .i64 0] 35)) (v := .slice (some ⟨w23.heap.size, 0, none⟩) 1 1) (by rfl) rfl ?_ ?_
 ·go_simp
  try rfl
 have HN2 := aS (show Kd.C k35 (w23.alloc (.cells #[.int .i64 21, .int .i64 12, .int .i64 0, .int .i64 0] 35)) (some ⟨w23.heap.size, 0, none⟩) 1 [⟨21, 12, 0, 0⟩] from C_one k35 (MapKept.heap_alloc w23 (.cells #[.int .i64 21, .int .i64 12, .int .i64 0, .int .i64 0] 35)).1 (k35_mk _ _) rfl)
 have hb := below_alloc (bR w23.heap.size w23) (.cells #[.int .i64 21, .int .i64 12, .int .i64 0, .int .i64 0] 35)
 refine hK.out _ _ (by obtain ⟨s0, s1, s2, s3, s4, s5, s6, s7, s8, s9, s10, s11, s12, s13, s14, s15, s16, s17⟩ := hHeld; exact ⟨(hb.cell (World.block_lt_of_cell? _ _ s0)).trans s0, (hb.cell (World.block_lt_of_cell? _ _ s1)).trans s1, (hb.cell (World.block_lt_of_cell? _ _ s2)).trans s2, (hb.cell (World.block_lt_of_cell? _ _ s3)).trans s3, (hb.cell (World.block_lt_of_cell? _ _ s4)).trans s4, (hb.cell (World.block_lt_of_cell? _ _ s5)).trans s5, (hb.cell (World.block_lt_of_cell? _ _ s6)).trans s6, (hb.cell (World.block_lt_of_cell? _ _ s7)).trans s7, (hb.cell (World.block_lt_of_cell? _ _ s8)).trans s8, (hb.cell (World.block_lt_of_cell? _ _ s9)).trans s9, (hb.cell (World.block_lt_of_cell? _ _ s10)).trans s10, (hb.cell (World.block_lt_of_cell? _ _ s11)).trans s11, (hb.cell (World.block_lt_of_cell? _ _ s12)).trans s12, (hb.cell (World.block_lt_of_cell? _ _ s13)).trans s13, (hb.cell (World.block_lt_of_cell? _ _ s14)).trans s14, (hb.cell (World.block_lt_of_cell? _ _ s15)).trans s15, (hb.cell (World.block_lt_of_cell? _ _ s16)).trans s16, (hb.cell (World.block_lt_of_cell? _ _ s17)).trans s17⟩) (fun hHeld => ?_)
 clear hK K
 refine norm_ (a' := ?_) ?_ ?_
 rotate_left
 ·show Act.put _ (some 80) _ = _
  simp only [putAll, Act.put, sI, s0', s1']
  rfl
 have n_HG := aS (tab_below HG.out hb)
 have n_HB := aS (below_step HB.out hb)
 have n_HF2 := aS (Kd.C_below HF2.out hb)
 have n_HF3 := aS (Kd.C_below HF3.out hb)
 have n_HPC := aS (Kd.C_below HPC.out hb)
 have n_HIC := aS (Kd.C_below HIC.out hb)
 have n_HJC := aS (Kd.C_below HJC.out hb)
 have n_HX1 := aS (Kd.C_below HX1.out hb)
 have n_HY1 := aS (Kd.C_below HY1.out hb)
 have n_HZ1 := aS (Kd.C_below HZ1.out hb)
 have n_HX2 := aS (Kd.C_below HX2.out hb)
 have n_HY2 := aS (Kd.C_below HY2.out hb)
 have n_HZ2 := aS (Kd.C_below HZ2.out hb)
 clear HG HB HF2 HF3 HPC HIC HJC HX1 HY1 HZ1 HX2 HY2 HZ2
 have HG := n_HG
 have HB := n_HB
 have HF2 := n_HF2
 have HF3 := n_HF3
 have HPC := n_HPC
 have HIC := n_HIC
 have HJC := n_HJC
 have HX1 := n_HX1
 have HY1 := n_HY1
 have HZ1 := n_HZ1
 have HX2 := n_HX2
 have HY2 := n_HY2
 have HZ2 := n_HZ2
 clear n_HG n_HB n_HF2 n_HF3 n_HPC n_HIC n_HJC n_HX1 n_HY1 n_HZ1 n_HX2 n_HY2 n_HZ2
 clear hb
 generalize w23.heap.size = gHN2 at *
 generalize w23.alloc (.cells #[.int .i64 21, .int .i64 12, .int .i64 0, .int .i64 0] 35) = w24 at *
 refine one_ (i := 24) (N := some 81) #[true, true, true, true, true, true, true, true, true, true, true, true, true, true, true, true, true, true, true, true, true, true, true, true, true, false, false, false, false, false, false, false, false, false] rfl rfl (by kernel_rfl) (by decide) (fun K hK => ?_)
 refine step_goes Tryd.func15 (by kernel_rfl) rfl #[.slice B3 1 p3, .slice (some ⟨gHN2, 0, none⟩) 1 1] (by rfl) rfl rfl (by (try simp only [List.map_toArray, List.map_cons, List.map_nil]); rfl) ?_
 refine (same_faults [⟨21, 12, 0, 0⟩] B3 p3 (some ⟨gHN2, 0, none⟩) 1 _ HF3.out HN2.out).mono ?_
 rintro e w25 ⟨rfl, hb⟩
 refine hK.out _ _ (by obtain ⟨s0, s1, s2, s3, s4, s5, s6, s7, s8, s9, s10, s11, s12, s13, s14, s15, s16, s17⟩ := hHeld; exact ⟨(hb.cell (World.block_lt_of_cell? _ _ s0)).trans s0, (hb.cell (World.block_lt_of_cell? _ _ s1)).trans s1, (hb.cell (World.block_lt_of_cell? _ _ s2)).trans s2, (hb.cell (World.block_lt_of_cell? _ _ s3)).trans s3, (hb.cell (World.block_lt_of_cell? _ _ s4)).trans s4, (hb.cell (World.block_lt_of_cell? _ _ s5)).trans s5, (hb.cell (World.block_lt_of_cell? _ _ s6)).trans s6, (hb.cell (World.block_lt_of_cell? _ _ s7)).trans s7, (hb.cell (World.block_lt_of_cell? _ _ s8)).trans s8, (hb.cell (World.block_lt_of_cell? _ _ s9)).trans s9, (hb.cell (World.block_lt_of_cell? _ _ s10)).trans s10, (hb.cell (World.block_lt_of_cell? _ _ s11)).trans s11, (hb.cell (World.block_lt_of_cell? _ _ s12)).trans s12, (hb.cell (World.block_lt_of_cell? _ _ s13)).trans s13, (hb.cell (World.block_lt_of_cell? _ _ s14)).trans s14, (hb.cell (World.block_lt_of_cell? _ _ s15)).trans s15, (hb.cell (World.block_lt_of_cell? _ _ s16)).trans s16, (hb.cell (World.block_lt_of_cell? _ _ s17)).trans s17⟩) (fun hHeld => ?_)
 clear hK K
 refine norm_ (a' := ?_) ?_ ?_
 rotate_left
 ·show Act.put _ (some 81) _ = _
  simp only [putAll, Act.put, sI, s0', s1']
  rfl
 have n_HG := aS (tab_below HG.out hb)
 have n_HB := aS (below_step HB.out hb)
 have n_HF2 := aS (Kd.C_below HF2.out hb)
 have n_HF3 := aS (Kd.C_below HF3.out hb)
 have n_HPC := aS (Kd.C_below HPC.out hb)
 have n_HIC := aS (Kd.C_below HIC.out hb)
 have n_HJC := aS (Kd.C_below HJC.out hb)
 have n_HX1 := aS (Kd.C_below HX1.out hb)
 have n_HY1 := aS (Kd.C_below HY1.out hb)
 have n_HZ1 := aS (Kd.C_below HZ1.out hb)
 have n_HX2 := aS (Kd.C_below HX2.out hb)
 have n_HY2 := aS (Kd.C_below HY2.out hb)
 have n_HZ2 := aS (Kd.C_below HZ2.out hb)
 clear HG HB HF2 HF3 HPC HIC HJC HX1 HY1 HZ1 HX2 HY2 HZ2
 have HG := n_HG
 have HB := n_HB
 have HF2 := n_HF2
 have HF3 := n_HF3
 have HPC := n_HPC
 have HIC := n_HIC
 have HJC := n_HJC
 have HX1 := n_HX1
 have HY1 := n_HY1
 have HZ1 := n_HZ1
 have HX2 := n_HX2
 have HY2 := n_HY2
 have HZ2 := n_HZ2
 clear n_HG n_HB n_HF2 n_HF3 n_HPC n_HIC n_HJC n_HX1 n_HY1 n_HZ1 n_HX2 n_HY2 n_HZ2
 clear hb
 refine pure_ (i := 25) (N := some 82) (v := ?_) (a' := ?_) #[true, true, true, true, true, true, true, true, true, true, true, true, true, true, true, true, true, true, true, true, true, true, true, true, true, true, false, false, false, false, false, false, false, false] rfl rfl (by kernel_rfl) (fun _ _ _ h => h) (Or.inl ⟨by rfl, ?_⟩) ?_ ?_
 rotate_left
 ·intro w'
  go_simp
  try with_reducible rfl
 rotate_left
 ·simp only [putAll, Act.put, sI, s0', s1']
  rfl
 refine pure_ (i := 26) (N := some 83) (v := ?_) (a' := ?_) #[true, true, true, true, true, true, true, true, true, true, true, true, true, true, true, true, true, true, true, true, true, true, true, true, true, true, true, false, false, false, false, false, false, false] rfl rfl (by kernel_rfl) (fun _ _ _ h => h) (Or.inl ⟨by rfl, ?_⟩) ?_ ?_
 rotate_left
 ·intro w'
  go_simp
  try with_reducible rfl
 rotate_left
 ·simp only [putAll, Act.put, sI, s0', s1']
  rfl
 refine one_ (i := 27) (N := some 84) #[true, true, true, true, true, true, true, true, true, true, true, true, true, true, true, true, true, true, true, true, true, true, true, true, true, true, true, true, false, false, false, false, false, false] rfl rfl (by kernel_rfl) (by decide) (fun K hK => ?_)
 refine step_goes Tryd.func18 (by kernel_rfl) rfl #[.string ⟨#[97, 116]⟩] (by rfl) rfl rfl (by (try simp only [List.map_toArray, List.map_cons, List.map_nil]); rfl) ?_
 refine (syn_Word.calls ⟨#[97, 116]⟩ true _ HG.out word_at).mono ?_
 rintro e w26 ⟨rfl, hb⟩
 refine hK.out _ _ (by obtain ⟨s0, s1, s2, s3, s4, s5, s6, s7, s8, s9, s10, s11, s12, s13, s14, s15, s16, s17⟩ := hHeld; exact ⟨(hb.cell (World.block_lt_of_cell? _ _ s0)).trans s0, (hb.cell (World.block_lt_of_cell? _ _ s1)).trans s1, (hb.cell (World.block_lt_of_cell? _ _ s2)).trans s2, (hb.cell (World.block_lt_of_cell? _ _ s3)).trans s3, (hb.cell (World.block_lt_of_cell? _ _ s4)).trans s4, (hb.cell (World.block_lt_of_cell? _ _ s5)).trans s5, (hb.cell (World.block_lt_of_cell? _ _ s6)).trans s6, (hb.cell (World.block_lt_of_cell? _ _ s7)).trans s7, (hb.cell (World.block_lt_of_cell? _ _ s8)).trans s8, (hb.cell (World.block_lt_of_cell? _ _ s9)).trans s9, (hb.cell (World.block_lt_of_cell? _ _ s10)).trans s10, (hb.cell (World.block_lt_of_cell? _ _ s11)).trans s11, (hb.cell (World.block_lt_of_cell? _ _ s12)).trans s12, (hb.cell (World.block_lt_of_cell? _ _ s13)).trans s13, (hb.cell (World.block_lt_of_cell? _ _ s14)).trans s14, (hb.cell (World.block_lt_of_cell? _ _ s15)).trans s15, (hb.cell (World.block_lt_of_cell? _ _ s16)).trans s16, (hb.cell (World.block_lt_of_cell? _ _ s17)).trans s17⟩) (fun hHeld => ?_)
 clear hK K
 refine norm_ (a' := ?_) ?_ ?_
 rotate_left
 ·show Act.put _ (some 84) _ = _
  simp only [putAll, Act.put, sI, s0', s1']
  rfl
 have n_HG := aS (tab_below HG.out hb)
 have n_HB := aS (below_step HB.out hb)
 have n_HF2 := aS (Kd.C_below HF2.out hb)
 have n_HF3 := aS (Kd.C_below HF3.out hb)
 have n_HPC := aS (Kd.C_below HPC.out hb)
 have n_HIC := aS (Kd.C_below HIC.out hb)
 have n_HJC := aS (Kd.C_below HJC.out hb)
 have n_HX1 := aS (Kd.C_below HX1.out hb)
 have n_HY1 := aS (Kd.C_below HY1.out hb)
 have n_HZ1 := aS (Kd.C_below HZ1.out hb)
 have n_HX2 := aS (Kd.C_below HX2.out hb)
 have n_HY2 := aS (Kd.C_below HY2.out hb)
 have n_HZ2 := aS (Kd.C_below HZ2.out hb)
 clear HG HB HF2 HF3 HPC HIC HJC HX1 HY1 HZ1 HX2 HY2 HZ2
 have HG := n_HG
 have HB := n_HB
 have HF2 := n_HF2
 have HF3 := n_HF3
 have HPC := n_HPC
 have HIC := n_HIC
 have HJC := n_HJC
 have HX1 := n_HX1
 have HY1 := n_HY1
 have HZ1 := n_HZ1
 have HX2 := n_HX2
 have HY2 := n_HY2
 have HZ2 := n_HZ2
 clear n_HG n_HB n_HF2 n_HF3 n_HPC n_HIC n_HJC n_HX1 n_HY1 n_HZ1 n_HX2 n_HY2 n_HZ2
 clear hb
 refine pure_ (i := 28) (N := some 85) (v := ?_) (a' := ?_) #[true, true, true, true, true, true, true, true, true, true, true, true, true, true, true, true, true, true, true, true, true, true, true, true, true, true, true, true, true, false, false, false, false, false] rfl rfl (by kernel_rfl) (fun _ _ _ h => h) (Or.inl ⟨by rfl, ?_⟩) ?_ ?_
 rotate_left
 ·intro w'
  go_simp
  try with_reducible rfl
 rotate_left
 ·simp only [putAll, Act.put, sI, s0', s1']
  rfl
 refine pure_ (i := 29) (N := some 86) (v := ?_) (a' := ?_) #[true, true, true, true, true, true, true, true, true, true, true, true, true, true, true, true, true, true, true, true, true, true, true, true, true, true, true, true, true, true, false, false, false, false] rfl rfl (by kernel_rfl) (fun _ _ _ h => h) (Or.inl ⟨by rfl, ?_⟩) ?_ ?_
 rotate_left
 ·intro w'
  go_simp
  try with_reducible rfl
 rotate_left
 ·simp only [putAll, Act.put, sI, s0', s1']
  rfl
 refine one_ (i := 30) (N := some 87) #[true, true, true, true, true, true, true, true, true, true, true, true, true, true, true, true, true, true, true, true, true, true, true, true, true, true, true, true, true, true, true, false, false, false] rfl rfl (by kernel_rfl) (by decide) (fun K hK => ?_)
 refine step_goes Tryd.func18 (by kernel_rfl) rfl #[.string ⟨#[109]⟩] (by rfl) rfl rfl (by (try simp only [List.map_toArray, List.map_cons, List.map_nil]); rfl) ?_
 refine (syn_Word.calls ⟨#[109]⟩ false _ HG.out word_m).mono ?_
 rintro e w27 ⟨rfl, hb⟩
 refine hK.out _ _ (by obtain ⟨s0, s1, s2, s3, s4, s5, s6, s7, s8, s9, s10, s11, s12, s13, s14, s15, s16, s17⟩ := hHeld; exact ⟨(hb.cell (World.block_lt_of_cell? _ _ s0)).trans s0, (hb.cell (World.block_lt_of_cell? _ _ s1)).trans s1, (hb.cell (World.block_lt_of_cell? _ _ s2)).trans s2, (hb.cell (World.block_lt_of_cell? _ _ s3)).trans s3, (hb.cell (World.block_lt_of_cell? _ _ s4)).trans s4, (hb.cell (World.block_lt_of_cell? _ _ s5)).trans s5, (hb.cell (World.block_lt_of_cell? _ _ s6)).trans s6, (hb.cell (World.block_lt_of_cell? _ _ s7)).trans s7, (hb.cell (World.block_lt_of_cell? _ _ s8)).trans s8, (hb.cell (World.block_lt_of_cell? _ _ s9)).trans s9, (hb.cell (World.block_lt_of_cell? _ _ s10)).trans s10, (hb.cell (World.block_lt_of_cell? _ _ s11)).trans s11, (hb.cell (World.block_lt_of_cell? _ _ s12)).trans s12, (hb.cell (World.block_lt_of_cell? _ _ s13)).trans s13, (hb.cell (World.block_lt_of_cell? _ _ s14)).trans s14, (hb.cell (World.block_lt_of_cell? _ _ s15)).trans s15, (hb.cell (World.block_lt_of_cell? _ _ s16)).trans s16, (hb.cell (World.block_lt_of_cell? _ _ s17)).trans s17⟩) (fun hHeld => ?_)
 clear hK K
 refine norm_ (a' := ?_) ?_ ?_
 rotate_left
 ·show Act.put _ (some 87) _ = _
  simp only [putAll, Act.put, sI, s0', s1']
  rfl
 have n_HG := aS (tab_below HG.out hb)
 have n_HB := aS (below_step HB.out hb)
 have n_HF2 := aS (Kd.C_below HF2.out hb)
 have n_HF3 := aS (Kd.C_below HF3.out hb)
 have n_HPC := aS (Kd.C_below HPC.out hb)
 have n_HIC := aS (Kd.C_below HIC.out hb)
 have n_HJC := aS (Kd.C_below HJC.out hb)
 have n_HX1 := aS (Kd.C_below HX1.out hb)
 have n_HY1 := aS (Kd.C_below HY1.out hb)
 have n_HZ1 := aS (Kd.C_below HZ1.out hb)
 have n_HX2 := aS (Kd.C_below HX2.out hb)
 have n_HY2 := aS (Kd.C_below HY2.out hb)
 have n_HZ2 := aS (Kd.C_below HZ2.out hb)
 clear HG HB HF2 HF3 HPC HIC HJC HX1 HY1 HZ1 HX2 HY2 HZ2
 have HG := n_HG
 have HB := n_HB
 have HF2 := n_HF2
 have HF3 := n_HF3
 have HPC := n_HPC
 have HIC := n_HIC
 have HJC := n_HJC
 have HX1 := n_HX1
 have HY1 := n_HY1
 have HZ1 := n_HZ1
 have HX2 := n_HX2
 have HY2 := n_HY2
 have HZ2 := n_HZ2
 clear n_HG n_HB n_HF2 n_HF3 n_HPC n_HIC n_HJC n_HX1 n_HY1 n_HZ1 n_HX2 n_HY2 n_HZ2
 clear hb
 refine pure_ (i := 31) (N := some 88) (v := ?_) (a' := ?_) #[true, true, true, true, true, true, true, true, true, true, true, true, true, true, true, true, true, true, true, true, true, true, true, true, true, true, true, true, true, true, true, true, false, false] rfl rfl (by kernel_rfl) (fun _ _ _ h => h) (Or.inl ⟨by rfl, ?_⟩) ?_ ?_
 rotate_left
 ·intro w'
  go_simp
  try with_reducible rfl
 rotate_left
 ·simp only [putAll, Act.put, sI, s0', s1']
  rfl
 refine pure_ (i := 32) (N := some 89) (v := ?_) (a' := ?_) #[true, true, true, true, true, true, true, true, true, true, true, true, true, true, true, true, true, true, true, true, true, true, true, true, true, true, true, true, true, true, true, true, true, false] rfl rfl (by kernel_rfl) (fun _ _ _ h => h) (Or.inl ⟨by rfl, ?_⟩) ?_ ?_
 rotate_left
 ·intro w'
  go_simp
  try with_reducible rfl
 rotate_left
 ·simp only [putAll, Act.put, sI, s0', s1']
  rfl
 refine pure_ (i := 33) (N := some 0) (v := ?_) (a' := ?_) #[true, true, true, true, true, true, true, true, true, true, true, true, true, true, true, true, true, true, true, true, true, true, true, true, true, true, true, true, true, true, true, true, true, true] rfl rfl (by kernel_rfl) (fun _ _ _ h => h) (Or.inl ⟨by rfl, ?_⟩) ?_ ?_
 rotate_left
 ·intro w'
  go_simp
  try with_reducible rfl
 rotate_left
 ·simp only [putAll, Act.put, sI, s0', s1']
  rfl
 refine done_ (by kernel_rfl) ?_
 go_wp2
 go_ret
 exact ⟨rfl, HB.out⟩
end Go.Proofs.YtenogedclignmaaDoor.Q
namespace Go.Proofs.YtenogedclignmaaDoor.Q
open Go.RowKit Go.Proofs.YtenogedclignmaaDoorW.PrintWords Go.Proofs.YtenogedclignmaaDoorW.PrintLast Go.Proofs.YtenogedclignmaaDoorW.PrintMore
attribute [local go_sem] max2_int min2_int max_two min_two
def proofmarklaw02_head.f : Option (Bool) := some true
theorem proofmarklaw02_head.calls (r : Bool) (w : World) (hG : Tab w) (h : proofmarklaw02_head.f = some r) :
  Calls Tryd.prog 9 #[] w fun e w' => e = .returned (.bool r) ∧ Below w.heap.size w w' := by
 cases h
 exact head_calls w hG
open Classical in
noncomputable def proofmarkref02_Same.f (l0_0 l1_0 : List Mdl) : Option (Bool) := if l0_0 = l1_0 then some true else none
open Classical in
noncomputable def proofmarkref02_SameFaults.f (l0 l1 : List Flt) : Option (Bool) := if l0 = l1 then some true else none
end Go.Proofs.YtenogedclignmaaDoor.Q
