-- Written by the session's own program (wip/tools/ownprint.py) for this claim.
import Derived.Test.YtmfekngjhiofaaaDoorQx0
import Derived.Test.YtmfekngjhiofaaaDoorQx12
import Derived.Test.YtmfekngjhiofaaaDoorQx16
import Derived.Test.YtmfekngjhiofaaaDoorHTab
namespace Go.Proofs.YtmfekngjhiofaaaDoor.Q
open Go.RowKit Go.Proofs.YtmfekngjhiofaaaDoorW.PrintWords Go.Proofs.YtmfekngjhiofaaaDoorW.PrintLast Go.Proofs.YtmfekngjhiofaaaDoorW.PrintMore
attribute [local go_sem] max2_int min2_int max_two min_two max_three min_three max_four min_four   -- for this text's walks alone
set_option linter.unusedVariables false
set_option linter.unusedSimpArgs false
/-! ### proofmarklaw30_tidy: function 20 -/
def proofmarklaw30_tidy.l0 : Nat → Int → List (S96) → List (S111) → List (S94) → List (S73) → List (S111) → Option ((List (S96)) × (List (S111)) × (List (S94)) × (List (S73)) × (List (S111)))
  | 0, _, _, _, _, _, _ => none
  | k + 1, x4, x399000, x399001, x399002, x399003, x399004 => if x4 < (x399003.length : Int) then (if 0 ≤ x4 then ((proofmarkref27_Plain.f k ((rd_T73 x399003 x4).f1)).bind fun t400 => (if t400 = true then (proofmarklaw30_tidy.l0 k (wrap64 (x4 + 1)) x399000 x399001 x399002 x399003 x399004) else (proofmarklaw30_tidy.l0 k (wrap64 (x4 + 1)) x399000 x399001 x399002 (x399003.set (x4 : Int).toNat (⟨(rd_T73 x399003 x4).f0, (⟨#[112]⟩ : ByteArray), (rd_T73 x399003 x4).f2⟩ : S73)) x399004))) else (none)) else (some (x399000, x399001, x399002, x399003, x399004))
def proofmarklaw30_tidy.f (k : Nat) (l0_0 : List (S96)) (l0_1 : List (S111)) (l0_2 : List (S94)) (l0_3 : List (S73)) (l0_4 : List (S111)) : Option ((List (S96)) × (List (S111)) × (List (S94)) × (List (S73)) × (List (S111))) := (proofmarkref30_Few.f k l0_0 l0_1 l0_2 l0_3 l0_4).bind fun bt383 => (proofmarklaw30_tidy.l0 k 0 bt383.1 bt383.2.1 bt383.2.2.1 bt383.2.2.2.1 bt383.2.2.2.2)
theorem proofmarklaw30_tidy.mono_l : ∀ k, (∀ y0 y1 y2 y3 y4 y5, LeO (proofmarklaw30_tidy.l0 k y0 y1 y2 y3 y4 y5) (proofmarklaw30_tidy.l0 (k + 1) y0 y1 y2 y3 y4 y5))
  | 0 => fun _ _ _ _ _ _ r h => by simp [proofmarklaw30_tidy.l0] at h
  | k + 1 => by
    have ih0 := proofmarklaw30_tidy.mono_l k
    · intro y0 y1 y2 y3 y4 y5
      unfold proofmarklaw30_tidy.l0
      repeat' first
      | (with_reducible exact ih0 _ _ _ _ _ _)
      | (with_reducible exact proofmarkref27_Plain.mono _ _)
      | (with_reducible exact proofmarkref30_Few.mono _ _ _ _ _ _)
      | (with_reducible exact LeO.refl _)
      | (with_reducible exact LeO.none _)
      | (with_reducible refine LeO.ite ?_ ?_)
      | (with_reducible refine LeO.bind ?_ (fun _ => ?_))
      | exact ih0 _ _ _ _ _ _
      | exact proofmarkref27_Plain.mono _ _
      | exact proofmarkref30_Few.mono _ _ _ _ _ _
      | exact LeO.none _
      | refine LeO.ite ?_ ?_
      | refine LeO.bind ?_ (fun _ => ?_)
theorem proofmarklaw30_tidy.mono : ∀ a0 a1 a2 a3 a4 k, LeO (proofmarklaw30_tidy.f k a0 a1 a2 a3 a4) (proofmarklaw30_tidy.f (k + 1) a0 a1 a2 a3 a4) := by
  intro a0 a1 a2 a3 a4 k
  have ih0 := proofmarklaw30_tidy.mono_l k
  unfold proofmarklaw30_tidy.f
  repeat' first
      | (with_reducible exact ih0 _ _ _ _ _ _)
      | (with_reducible exact proofmarkref27_Plain.mono _ _)
      | (with_reducible exact proofmarkref30_Few.mono _ _ _ _ _ _)
      | (with_reducible exact LeO.refl _)
      | (with_reducible exact LeO.none _)
      | (with_reducible refine LeO.ite ?_ ?_)
      | (with_reducible refine LeO.bind ?_ (fun _ => ?_))
      | exact ih0 _ _ _ _ _ _
      | exact proofmarkref27_Plain.mono _ _
      | exact proofmarkref30_Few.mono _ _ _ _ _ _
      | exact LeO.none _
      | refine LeO.ite ?_ ?_
      | refine LeO.bind ?_ (fun _ => ?_)
set_option maxHeartbeats 8000000 in
set_option maxRecDepth 100000 in
theorem proofmarklaw30_tidy.calls (k : Nat) (A0_0 : Option Addr) (c0_0 : Nat) (l0_0 : List (S96)) (A0_1 : Option Addr) (c0_1 : Nat) (l0_1 : List (S111)) (A0_2 : Option Addr) (c0_2 : Nat) (l0_2 : List (S94)) (A0_3 : Option Addr) (c0_3 : Nat) (l0_3 : List (S73)) (A0_4 : Option Addr) (c0_4 : Nat) (l0_4 : List (S111)) (r1 : List (S96)) (r2 : List (S111)) (r3 : List (S94)) (r4 : List (S73)) (r5 : List (S111)) (w : World) (hr0_0 : Kd.C k96 w A0_0 l0_0.length l0_0) (hc0_0 : l0_0.length ≤ c0_0) (hr0_1 : Kd.C k111 w A0_1 l0_1.length l0_1) (hc0_1 : l0_1.length ≤ c0_1) (hr0_2 : Kd.C k94 w A0_2 l0_2.length l0_2) (hc0_2 : l0_2.length ≤ c0_2) (hr0_3 : Kd.C k73 w A0_3 l0_3.length l0_3) (hc0_3 : l0_3.length ≤ c0_3) (hr0_4 : Kd.C k111 w A0_4 l0_4.length l0_4) (hc0_4 : l0_4.length ≤ c0_4) (h : proofmarklaw30_tidy.f k l0_0 l0_1 l0_2 l0_3 l0_4 = some (r1, r2, r3, r4, r5)) :
    Calls Tryd.prog 20 #[.agg #[.slice A0_0 l0_0.length c0_0, .slice A0_1 l0_1.length c0_1, .slice A0_2 l0_2.length c0_2, .slice A0_3 l0_3.length c0_3, .slice A0_4 l0_4.length c0_4]] w fun e w' => ∃ v0_ v1_ v2_ v3_ v4_ : Value, e = .returned (.agg #[v0_, v1_, v2_, v3_, v4_]) ∧ Kd.R k96 96 w' w.heap.size (fun _ => True) v0_ r1 ∧ Kd.R k111 111 w' w.heap.size (fun k_ => some k_ ≠ (v4_ : Value).ownBlock) v1_ r2 ∧ Kd.R k94 94 w' w.heap.size (fun _ => True) v2_ r3 ∧ Kd.R k73 73 w' w.heap.size (fun _ => True) v3_ r4 ∧ Kd.R k111 111 w' w.heap.size (fun k_ => some k_ ≠ (v1_ : Value).ownBlock) v4_ r5 ∧ Below w.heap.size w w' := by
  have hu27 := Tryd.underlying27
  have HR0_0 := Aside0.mk hr0_0
  have HC0_0 := Aside0.mk hc0_0
  clear hr0_0 hc0_0
  have HR0_1 := Aside0.mk hr0_1
  have HC0_1 := Aside0.mk hc0_1
  clear hr0_1 hc0_1
  have HR0_2 := Aside0.mk hr0_2
  have HC0_2 := Aside0.mk hc0_2
  clear hr0_2 hc0_2
  have HR0_3 := Aside0.mk hr0_3
  have HC0_3 := Aside0.mk hc0_3
  clear hr0_3 hc0_3
  have HR0_4 := Aside0.mk hr0_4
  have HC0_4 := Aside0.mk hc0_4
  clear hr0_4 hc0_4
  have HB := Aside0.mk (Below.refl w.heap.size w)
  have H : ((proofmarkref30_Few.f k l0_0 l0_1 l0_2 l0_3 l0_4).bind fun bt383 => (proofmarklaw30_tidy.l0 k 0 bt383.1 bt383.2.1 bt383.2.2.1 bt383.2.2.2.1 bt383.2.2.2.2)) = some (r1, r2, r3, r4, r5) := h
  clear h
  replace H := Option.bind_eq_some_iff.mp H
  obtain ⟨⟨t383, t386, t389, t392, t395⟩, A20, H⟩ := H
  replace H : (proofmarklaw30_tidy.l0 k 0 t383 t386 t389 t392 t395) = some (r1, r2, r3, r4, r5) := H
  have A2 := Aside0.mk A20
  clear A20
  have H' := Aside0.mk H
  clear H
  go_enter Tryd.func20, Tryd.ntmps20
  go_wp2_with (first | ((with_reducible refine gate_dst (N := 1) rfl ?_); refine box_event ?hg (N := 1) ?hd (cs := #[.slice A0_0 l0_0.length c0_0, .slice A0_1 l0_1.length c0_1, .slice A0_2 l0_2.length c0_2, .slice A0_3 l0_3.length c0_3, .slice A0_4 l0_4.length c0_4]) (t := 27) ?hr ?_; (case hd => rfl); (case hg => rfl); (case hr => first | (go_simp; done)); intro gb381 hg w3 hbox hb; have n0_ := Aside0.mk (below_step HB.out hb); have n1_ := Aside0.mk (hbox); have n2_ := Aside0.mk ((by rw [hg]; exact (below_size HB.out) : w.heap.size ≤ gb381)); have n3_ := Aside0.mk ((by rw [hg]; exact (below_size HB.out) : w.heap.size ≤ gb381)); clear HB; have HB := n0_; have BK381 := n1_; have GW381 := n2_; have GE381 := n3_; clear n0_ n1_ n2_ n3_; clear hb hbox hg) | ((with_reducible refine gate_dst (N := 2) rfl ?_); refine box_event ?hg (N := 2) ?hd (cs := #[.slice none 0 0, .slice none 0 0, .slice none 0 0, .slice none 0 0, .slice none 0 0]) (t := 27) ?hr ?_; (case hd => rfl); (case hg => rfl); (case hr => first | (go_simp; done)); intro gb382 hg w4 hbox hb; have n0_ := Aside0.mk (blk_below BK381.out hb); have n1_ := Aside0.mk (below_step HB.out hb); have n2_ := Aside0.mk (hbox); have n3_ := Aside0.mk ((by rw [hg]; exact (below_size HB.out) : w.heap.size ≤ gb382)); have n4_ := Aside0.mk ((by rw [hg]; exact (below_size HB.out) : w.heap.size ≤ gb382)); have n5_ := Aside0.mk ((by rw [hg]; exact Nat.ne_of_lt (blk_lt BK381.out) : gb381 ≠ gb382)); have n6_ := Aside0.mk ((by rw [hg]; exact Nat.ne_of_gt (blk_lt BK381.out) : gb382 ≠ gb381)); clear BK381; clear HB; have BK381 := n0_; have HB := n1_; have BK382 := n2_; have GW382 := n3_; have GE382 := n4_; have NB381_382 := n5_; have NB382_381 := n6_; clear n0_ n1_ n2_ n3_ n4_ n5_ n6_; clear hb hbox hg; have hnb5 := NB381_382.out; have hnc5 := NB382_381.out; have hcz6_0 : w4.cell? ⟨gb381, 0, none⟩ = some (.slice A0_0 l0_0.length c0_0) := (blk_cell BK381.out 0).trans rfl; have hcz6_1 : w4.cell? ⟨gb381, 1, none⟩ = some (.slice A0_1 l0_1.length c0_1) := (blk_cell BK381.out 1).trans rfl; have hcz6_2 : w4.cell? ⟨gb381, 2, none⟩ = some (.slice A0_2 l0_2.length c0_2) := (blk_cell BK381.out 2).trans rfl; have hcz6_3 : w4.cell? ⟨gb381, 3, none⟩ = some (.slice A0_3 l0_3.length c0_3) := (blk_cell BK381.out 3).trans rfl; have hcz6_4 : w4.cell? ⟨gb381, 4, none⟩ = some (.slice A0_4 l0_4.length c0_4) := (blk_cell BK381.out 4).trans rfl; have hfz6_0 := blk_frozen BK381.out 0; have hfz6_1 := blk_frozen BK381.out 1; have hfz6_2 := blk_frozen BK381.out 2; have hfz6_3 := blk_frozen BK381.out 3; have hfz6_4 := blk_frozen BK381.out 4) | ((with_reducible refine gate_callee (f := 14) rfl ?_); refine goesL_ (some 6) rfl rfl Tryd.func14 (by kernel_rfl) rfl #[.agg #[.slice A0_0 l0_0.length c0_0, .slice A0_1 l0_1.length c0_1, .slice A0_2 l0_2.length c0_2, .slice A0_3 l0_3.length c0_3, .slice A0_4 l0_4.length c0_4]] rfl (by (try simp only [List.map_toArray, List.map_cons, List.map_nil]); first | rfl) ?_; (with_reducible refine (proofmarkref30_Few.calls k _ _ l0_0 _ _ l0_1 _ _ l0_2 _ _ l0_3 _ _ l0_4 t383 t386 t389 t392 t395 _ ?side1 ?side2 ?side3 ?side4 ?side5 ?side6 ?side7 ?side8 ?side9 ?side10 A2.out).mono ?_); (case side1 => repeat (first | exact (Kd.C_below HR0_0.out HB.out))); (case side2 => exact HC0_0.out); (case side3 => repeat (first | exact (Kd.C_below HR0_1.out HB.out))); (case side4 => exact HC0_1.out); (case side5 => repeat (first | exact (Kd.C_below HR0_2.out HB.out))); (case side6 => exact HC0_2.out); (case side7 => repeat (first | exact (Kd.C_below HR0_3.out HB.out))); (case side8 => exact HC0_3.out); (case side9 => repeat (first | exact (Kd.C_below HR0_4.out HB.out))); (case side10 => exact HC0_4.out); rintro e w7 ⟨v384, v387, v390, v393, v396, rfl, ho0, ho1, ho2, ho3, ho4, hb⟩; refine ⟨_, rfl, ?_⟩; have n0_ := Aside0.mk (Kd.R_lower ho0 (below_size HB.out)); have n1_ := Aside0.mk (Kd.R_lower ho1 (below_size HB.out)); have n2_ := Aside0.mk (Kd.R_lower ho2 (below_size HB.out)); have n3_ := Aside0.mk (Kd.R_lower ho3 (below_size HB.out)); have n4_ := Aside0.mk (Kd.R_lower ho4 (below_size HB.out)); have n5_ := Aside0.mk (blk_below BK381.out hb); have n6_ := Aside0.mk (blk_below BK382.out hb); have n7_ := Aside0.mk (below_step HB.out hb); clear BK381; clear BK382; clear HB; have HO385 := n0_; have HO388 := n1_; have HO391 := n2_; have HO394 := n3_; have HO397 := n4_; have BK381 := n5_; have BK382 := n6_; have HB := n7_; clear n0_ n1_ n2_ n3_ n4_ n5_ n6_ n7_; (try clear hb); (try clear hb2); (try clear hk); (try clear hi); (try clear ho0); (try clear ho1); (try clear ho2); (try clear ho3); (try clear ho4)) | ((with_reducible refine gate_dst (N := 3) rfl ?_); refine box_event ?hg (N := 3) ?hd (cs := #[.slice none 0 0, .slice none 0 0, .slice none 0 0, .slice none 0 0, .slice none 0 0]) (t := 27) ?hr ?_; (case hd => rfl); (case hg => rfl); (case hr => first | (go_simp; done)); intro gb398 hg w8 hbox hb; have n0_ := Aside0.mk (Kd.R_below HO385.out hb); have n1_ := Aside0.mk (Kd.R_below HO388.out hb); have n2_ := Aside0.mk (Kd.R_below HO391.out hb); have n3_ := Aside0.mk (Kd.R_below HO394.out hb); have n4_ := Aside0.mk (Kd.R_below HO397.out hb); have n5_ := Aside0.mk (blk_below BK381.out hb); have n6_ := Aside0.mk (blk_below BK382.out hb); have n7_ := Aside0.mk (below_step HB.out hb); have n8_ := Aside0.mk (hbox); have n9_ := Aside0.mk ((by rw [hg]; exact (below_size HB.out) : w.heap.size ≤ gb398)); have n10_ := Aside0.mk ((by rw [hg]; exact (below_size HB.out) : w.heap.size ≤ gb398)); have n11_ := Aside0.mk ((by rw [hg]; exact Nat.ne_of_lt (blk_lt BK381.out) : gb381 ≠ gb398)); have n12_ := Aside0.mk ((by rw [hg]; exact Nat.ne_of_gt (blk_lt BK381.out) : gb398 ≠ gb381)); have n13_ := Aside0.mk ((by rw [hg]; exact Nat.ne_of_lt (blk_lt BK382.out) : gb382 ≠ gb398)); have n14_ := Aside0.mk ((by rw [hg]; exact Nat.ne_of_gt (blk_lt BK382.out) : gb398 ≠ gb382)); clear HO385; clear HO388; clear HO391; clear HO394; clear HO397; clear BK381; clear BK382; clear HB; have HO385 := n0_; have HO388 := n1_; have HO391 := n2_; have HO394 := n3_; have HO397 := n4_; have BK381 := n5_; have BK382 := n6_; have HB := n7_; have BK398 := n8_; have GW398 := n9_; have GE398 := n10_; have NB381_398 := n11_; have NB398_381 := n12_; have NB382_398 := n13_; have NB398_382 := n14_; clear n0_ n1_ n2_ n3_ n4_ n5_ n6_ n7_ n8_ n9_ n10_ n11_ n12_ n13_ n14_; clear hb hbox hg; obtain ⟨Ao9, co9, eo9⟩ := Kd.R_slice HO385.out; subst eo9; have hnb10 := NB398_381.out; have hnc10 := NB381_398.out; have hnb11 := NB398_382.out; have hnc11 := NB382_398.out; have hcz12_0 : w8.cell? ⟨gb398, 0, none⟩ = some (.slice none 0 0) := (blk_cell BK398.out 0).trans rfl; have hcz12_1 : w8.cell? ⟨gb398, 1, none⟩ = some (.slice none 0 0) := (blk_cell BK398.out 1).trans rfl; have hcz12_2 : w8.cell? ⟨gb398, 2, none⟩ = some (.slice none 0 0) := (blk_cell BK398.out 2).trans rfl; have hcz12_3 : w8.cell? ⟨gb398, 3, none⟩ = some (.slice none 0 0) := (blk_cell BK398.out 3).trans rfl; have hcz12_4 : w8.cell? ⟨gb398, 4, none⟩ = some (.slice none 0 0) := (blk_cell BK398.out 4).trans rfl; have hfz12_0 := blk_frozen BK398.out 0; have hfz12_1 := blk_frozen BK398.out 1; have hfz12_2 := blk_frozen BK398.out 2; have hfz12_3 := blk_frozen BK398.out 3; have hfz12_4 := blk_frozen BK398.out 4; obtain ⟨Ao13, co13, eo13⟩ := Kd.R_slice HO388.out; subst eo13; obtain ⟨Ao14, co14, eo14⟩ := Kd.R_slice HO391.out; subst eo14; obtain ⟨Ao15, co15, eo15⟩ := Kd.R_slice HO394.out; subst eo15; obtain ⟨Ao16, co16, eo16⟩ := Kd.R_slice HO397.out; subst eo16))
  try simp only [Act.put, List.setIfInBounds_toArray, List.set_cons_succ, List.set_cons_zero]
  go_loopg [4] k (fun kq v4 w' => ∃ (x4_1 : Int) (x399003_1 : List (S73)) (u399003 : Value), v4 = .int .i64 x4_1 ∧ Aside0 (proofmarklaw30_tidy.l0 kq x4_1 t383 t386 t389 x399003_1 t395 = some (r1, r2, r3, r4, r5)) ∧ Aside0 (kq ≤ k) ∧ Aside0 (Kd.R k96 96 w' w.heap.size (fun _ => True) (.slice Ao9 t383.length co9) t383) ∧ Aside0 (Kd.R k111 111 w' w.heap.size (fun k_ => some k_ ≠ ((.slice Ao16 t395.length co16) : Value).ownBlock) (.slice Ao13 t386.length co13) t386) ∧ Aside0 (Kd.R k94 94 w' w.heap.size (fun _ => True) (.slice Ao14 t389.length co14) t389) ∧ Aside0 (Kd.R k73 73 w' w.heap.size (fun _ => True) u399003 x399003_1) ∧ Aside0 (Kd.R k111 111 w' w.heap.size (fun k_ => some k_ ≠ ((.slice Ao13 t386.length co13) : Value).ownBlock) (.slice Ao16 t395.length co16) t395) ∧ Aside0 (w'.heap[gb381]? = some (.cells #[(.slice A0_0 l0_0.length c0_0), (.slice A0_1 l0_1.length c0_1), (.slice A0_2 l0_2.length c0_2), (.slice A0_3 l0_3.length c0_3), (.slice A0_4 l0_4.length c0_4)] 27 (0, 0))) ∧ Aside0 (w'.heap[gb382]? = some (.cells #[(.slice none 0 0), (.slice none 0 0), (.slice none 0 0), (.slice none 0 0), (.slice none 0 0)] 27 (0, 0))) ∧ Aside0 (w'.heap[gb398]? = some (.cells #[(.slice Ao9 t383.length co9), (.slice Ao13 t386.length co13), (.slice Ao14 t389.length co14), u399003, (.slice Ao16 t395.length co16)] 27 (0, 0))) ∧ Aside0 (Below w.heap.size w w'))
  case atStart => exact ⟨(0), (t392), (.slice Ao15 t392.length co15), rfl, H', ⟨Nat.le_refl _⟩, ⟨by exact Kd.R_mono (Kd.R_far (p := ⟨gb398, 4, none⟩) (Kd.R_far (p := ⟨gb398, 3, none⟩) (Kd.R_far (p := ⟨gb398, 2, none⟩) (Kd.R_far (p := ⟨gb398, 1, none⟩) (Kd.R_far (p := ⟨gb398, 0, none⟩) (Kd.R_types HO385.out BK398.out (by decide)) (fun _ hk => hk.2) (.slice Ao9 t383.length co9)) (fun _ hk => hk.2) (.slice Ao13 t386.length co13)) (fun _ hk => hk.2) (.slice Ao14 t389.length co14)) (fun _ hk => hk.2) (.slice Ao15 t392.length co15)) (fun _ hk => hk.2) (.slice Ao16 t395.length co16)) (fun _ hk => trivial)⟩, ⟨by exact Kd.R_mono (Kd.R_far (p := ⟨gb398, 4, none⟩) (Kd.R_far (p := ⟨gb398, 3, none⟩) (Kd.R_far (p := ⟨gb398, 2, none⟩) (Kd.R_far (p := ⟨gb398, 1, none⟩) (Kd.R_far (p := ⟨gb398, 0, none⟩) (Kd.R_types HO388.out BK398.out (by decide)) (fun _ hk => hk.2) (.slice Ao9 t383.length co9)) (fun _ hk => hk.2) (.slice Ao13 t386.length co13)) (fun _ hk => hk.2) (.slice Ao14 t389.length co14)) (fun _ hk => hk.2) (.slice Ao15 t392.length co15)) (fun _ hk => hk.2) (.slice Ao16 t395.length co16)) (fun _ hk => hk.1)⟩, ⟨by exact Kd.R_mono (Kd.R_far (p := ⟨gb398, 4, none⟩) (Kd.R_far (p := ⟨gb398, 3, none⟩) (Kd.R_far (p := ⟨gb398, 2, none⟩) (Kd.R_far (p := ⟨gb398, 1, none⟩) (Kd.R_far (p := ⟨gb398, 0, none⟩) (Kd.R_types HO391.out BK398.out (by decide)) (fun _ hk => hk.2) (.slice Ao9 t383.length co9)) (fun _ hk => hk.2) (.slice Ao13 t386.length co13)) (fun _ hk => hk.2) (.slice Ao14 t389.length co14)) (fun _ hk => hk.2) (.slice Ao15 t392.length co15)) (fun _ hk => hk.2) (.slice Ao16 t395.length co16)) (fun _ hk => trivial)⟩, ⟨by exact Kd.R_mono (Kd.R_far (p := ⟨gb398, 4, none⟩) (Kd.R_far (p := ⟨gb398, 3, none⟩) (Kd.R_far (p := ⟨gb398, 2, none⟩) (Kd.R_far (p := ⟨gb398, 1, none⟩) (Kd.R_far (p := ⟨gb398, 0, none⟩) (Kd.R_types HO394.out BK398.out (by decide)) (fun _ hk => hk.2) (.slice Ao9 t383.length co9)) (fun _ hk => hk.2) (.slice Ao13 t386.length co13)) (fun _ hk => hk.2) (.slice Ao14 t389.length co14)) (fun _ hk => hk.2) (.slice Ao15 t392.length co15)) (fun _ hk => hk.2) (.slice Ao16 t395.length co16)) (fun _ hk => trivial)⟩, ⟨by exact Kd.R_mono (Kd.R_far (p := ⟨gb398, 4, none⟩) (Kd.R_far (p := ⟨gb398, 3, none⟩) (Kd.R_far (p := ⟨gb398, 2, none⟩) (Kd.R_far (p := ⟨gb398, 1, none⟩) (Kd.R_far (p := ⟨gb398, 0, none⟩) (Kd.R_types HO397.out BK398.out (by decide)) (fun _ hk => hk.2) (.slice Ao9 t383.length co9)) (fun _ hk => hk.2) (.slice Ao13 t386.length co13)) (fun _ hk => hk.2) (.slice Ao14 t389.length co14)) (fun _ hk => hk.2) (.slice Ao15 t392.length co15)) (fun _ hk => hk.2) (.slice Ao16 t395.length co16)) (fun _ hk => hk.1)⟩, ⟨by refine blk_far ?_ NB381_398.out _; refine blk_far ?_ NB381_398.out _; refine blk_far ?_ NB381_398.out _; refine blk_far ?_ NB381_398.out _; refine blk_far ?_ NB381_398.out _; exact BK381.out⟩, ⟨by refine blk_far ?_ NB382_398.out _; refine blk_far ?_ NB382_398.out _; refine blk_far ?_ NB382_398.out _; refine blk_far ?_ NB382_398.out _; refine blk_far ?_ NB382_398.out _; exact BK382.out⟩, ⟨by refine blk_put (cs := #[.slice Ao9 t383.length co9, .slice Ao13 t386.length co13, .slice Ao14 t389.length co14, .slice Ao15 t392.length co15, .slice none 0 0]) ?_ 4 _ rfl; refine blk_put (cs := #[.slice Ao9 t383.length co9, .slice Ao13 t386.length co13, .slice Ao14 t389.length co14, .slice none 0 0, .slice none 0 0]) ?_ 3 _ rfl; refine blk_put (cs := #[.slice Ao9 t383.length co9, .slice Ao13 t386.length co13, .slice none 0 0, .slice none 0 0, .slice none 0 0]) ?_ 2 _ rfl; refine blk_put (cs := #[.slice Ao9 t383.length co9, .slice none 0 0, .slice none 0 0, .slice none 0 0, .slice none 0 0]) ?_ 1 _ rfl; refine blk_put (cs := #[.slice none 0 0, .slice none 0 0, .slice none 0 0, .slice none 0 0, .slice none 0 0]) ?_ 0 _ rfl; exact BK398.out⟩, ⟨by repeat (first | (with_reducible first | exact HB.out | refine below_set ?_ GE398.out))⟩⟩
  case round =>
    clear H'
    try clear c1
    try clear c2
    try clear p2
    try clear c5
    try clear c10
    try clear c11
    try clear c14
    try clear hcz12_0
    try clear hcz12_1
    try clear hcz12_2
    try clear hcz12_3
    try clear hcz12_4
    try clear hcz6_0
    try clear hcz6_1
    try clear hcz6_2
    try clear hcz6_3
    try clear hcz6_4
    try clear hfz12_0
    try clear hfz12_1
    try clear hfz12_2
    try clear hfz12_3
    try clear hfz12_4
    try clear hfz6_0
    try clear hfz6_1
    try clear hfz6_2
    try clear hfz6_3
    try clear hfz6_4
    obtain ⟨x4_1, x399003_1, u399003, rfl, HA, HK1, HO_399000, HO_399001, HO_399002, HO_399003, HO_399004, BK381, BK382, BK398, HB⟩ := hrel
    cases gk with
    | zero => exact absurd HA.out (by simp [proofmarklaw30_tidy.l0])
    | succ k1 =>
      have H := HA.out
      clear HA
      simp only [proofmarklaw30_tidy.l0] at H
      by_cases c17 : x4_1 < (x399003_1.length : Int)
      · rw [if_pos c17] at H
        have c17b0 : decide (x4_1 < (x399003_1.length : Int)) = true := decide_eq_true c17
        clear c17
        by_cases c18 : 0 ≤ x4_1
        · rw [if_pos c18] at H
          have c18b0 : decide (0 ≤ x4_1) = true := decide_eq_true c18
          clear c18
          replace H := Option.bind_eq_some_iff.mp H
          obtain ⟨t400, A190, H⟩ := H
          replace H : (if t400 = true then (proofmarklaw30_tidy.l0 k1 (wrap64 (x4_1 + 1)) t383 t386 t389 x399003_1 t395) else (proofmarklaw30_tidy.l0 k1 (wrap64 (x4_1 + 1)) t383 t386 t389 (x399003_1.set (x4_1 : Int).toNat (⟨(rd_T73 x399003_1 x4_1).f0, (⟨#[112]⟩ : ByteArray), (rd_T73 x399003_1 x4_1).f2⟩ : S73)) t395)) = some (r1, r2, r3, r4, r5) := H
          have A19 := Aside0.mk A190
          clear A190
          by_cases c20 : t400 = true
          · subst c20
            have H1 : (proofmarklaw30_tidy.l0 k1 (wrap64 (x4_1 + 1)) t383 t386 t389 x399003_1 t395) = some (r1, r2, r3, r4, r5) := by rw [if_pos rfl] at H; exact H
            clear H
            have H := H1
            clear H1
            have H' := Aside0.mk H
            clear H
            have hnb21 := NB398_381.out
            have hnc21 := NB381_398.out
            have hnb22 := NB398_382.out
            have hnc22 := NB382_398.out
            have hcz23_0 : wr.cell? ⟨gb398, 0, none⟩ = some (.slice Ao9 t383.length co9) := (blk_cell BK398.out 0).trans rfl
            have hcz23_1 : wr.cell? ⟨gb398, 1, none⟩ = some (.slice Ao13 t386.length co13) := (blk_cell BK398.out 1).trans rfl
            have hcz23_2 : wr.cell? ⟨gb398, 2, none⟩ = some (.slice Ao14 t389.length co14) := (blk_cell BK398.out 2).trans rfl
            have hcz23_3 : wr.cell? ⟨gb398, 3, none⟩ = some (u399003) := (blk_cell BK398.out 3).trans rfl
            have hcz23_4 : wr.cell? ⟨gb398, 4, none⟩ = some (.slice Ao16 t395.length co16) := (blk_cell BK398.out 4).trans rfl
            have hfz23_0 := blk_frozen BK398.out 0
            have hfz23_1 := blk_frozen BK398.out 1
            have hfz23_2 := blk_frozen BK398.out 2
            have hfz23_3 := blk_frozen BK398.out 3
            have hfz23_4 := blk_frozen BK398.out 4
            obtain ⟨Ao24, co24, eo24⟩ := Kd.R_slice HO_399003.out
            subst eo24
            have p399 : 0 ≤ (x4_1 : Int) := of_decide_eq_true (by first | (with_reducible assumption))
            have q399 : x4_1 < (x399003_1.length : Int) := of_decide_eq_true (by first | (with_reducible assumption))
            obtain ⟨ad399, e399, hx399_0, hx399_1, hx399_2⟩ := at_T73 (Kd.R_reads' HO_399003.out).2.2 x4_1 p399 q399
            cases e399
            replace p399 := eq_true p399
            replace q399 := eq_true q399
            go_wp2_with (first | ((with_reducible refine gate_callee (f := 47) rfl ?_); refine goesL_ (some 20) rfl rfl Tryd.func47 (by kernel_rfl) rfl #[.string ((rd_T73 x399003_1 x4_1).f1)] rfl (by (try simp only [List.map_toArray, List.map_cons, List.map_nil]); first | rfl) ?_; (with_reducible refine (proofmarkref27_Plain.calls k1 ((rd_T73 x399003_1 x4_1).f1) true _ A19.out).mono ?_); rintro e w' ⟨rfl, ⟨nd, rfl⟩⟩; refine ⟨_, rfl, ?_⟩))
            go_roundg k1
            case measure => have := HK1.out; omega
            case rel => exact ⟨(wrap64 (x4_1 + 1)), (x399003_1), (.slice (some ad399) x399003_1.length co24), rfl, H', ⟨by have := HK1.out; omega⟩, ⟨by (with_reducible repeat (first | apply Kd.R_drewN)); exact HO_399000.out⟩, ⟨by (with_reducible repeat (first | apply Kd.R_drewN)); exact HO_399001.out⟩, ⟨by (with_reducible repeat (first | apply Kd.R_drewN)); exact HO_399002.out⟩, ⟨by (with_reducible repeat (first | apply Kd.R_drewN)); exact HO_399003.out⟩, ⟨by (with_reducible repeat (first | apply Kd.R_drewN)); exact HO_399004.out⟩, ⟨by (with_reducible repeat (first | refine blk_drewN ?_ _)); exact BK381.out⟩, ⟨by (with_reducible repeat (first | refine blk_drewN ?_ _)); exact BK382.out⟩, ⟨by (with_reducible repeat (first | refine blk_drewN ?_ _)); exact BK398.out⟩, ⟨by repeat (first | (with_reducible first | exact HB.out | apply pw_below_drewN))⟩⟩
          · replace c20 := Bool.eq_false_iff.mpr c20
            subst c20
            have H1 : (proofmarklaw30_tidy.l0 k1 (wrap64 (x4_1 + 1)) t383 t386 t389 (x399003_1.set (x4_1 : Int).toNat (⟨(rd_T73 x399003_1 x4_1).f0, (⟨#[112]⟩ : ByteArray), (rd_T73 x399003_1 x4_1).f2⟩ : S73)) t395) = some (r1, r2, r3, r4, r5) := by rw [if_neg (show ¬ (false = true) by decide)] at H; exact H
            clear H
            have H := H1
            clear H1
            obtain ⟨y401, hy401⟩ : ∃ y_ : List (S73), y_ = (x399003_1.set (x4_1 : Int).toNat (⟨(rd_T73 x399003_1 x4_1).f0, (⟨#[112]⟩ : ByteArray), (rd_T73 x399003_1 x4_1).f2⟩ : S73)) := ⟨_, rfl⟩
            replace H : (proofmarklaw30_tidy.l0 k1 (wrap64 (x4_1 + 1)) t383 t386 t389 y401 t395) = some (r1, r2, r3, r4, r5) := by first | (rw [hy401]; with_reducible exact H)
            have Ny401 := Aside0.mk hy401
            clear hy401
            have H' := Aside0.mk H
            clear H
            have hnb26 := NB398_381.out
            have hnc26 := NB381_398.out
            have hnb27 := NB398_382.out
            have hnc27 := NB382_398.out
            have hcz28_0 : wr.cell? ⟨gb398, 0, none⟩ = some (.slice Ao9 t383.length co9) := (blk_cell BK398.out 0).trans rfl
            have hcz28_1 : wr.cell? ⟨gb398, 1, none⟩ = some (.slice Ao13 t386.length co13) := (blk_cell BK398.out 1).trans rfl
            have hcz28_2 : wr.cell? ⟨gb398, 2, none⟩ = some (.slice Ao14 t389.length co14) := (blk_cell BK398.out 2).trans rfl
            have hcz28_3 : wr.cell? ⟨gb398, 3, none⟩ = some (u399003) := (blk_cell BK398.out 3).trans rfl
            have hcz28_4 : wr.cell? ⟨gb398, 4, none⟩ = some (.slice Ao16 t395.length co16) := (blk_cell BK398.out 4).trans rfl
            have hfz28_0 := blk_frozen BK398.out 0
            have hfz28_1 := blk_frozen BK398.out 1
            have hfz28_2 := blk_frozen BK398.out 2
            have hfz28_3 := blk_frozen BK398.out 3
            have hfz28_4 := blk_frozen BK398.out 4
            obtain ⟨Ao29, co29, eo29⟩ := Kd.R_slice HO_399003.out
            subst eo29
            have p399 : 0 ≤ (x4_1 : Int) := of_decide_eq_true (by first | (with_reducible assumption))
            have q399 : x4_1 < (x399003_1.length : Int) := of_decide_eq_true (by first | (with_reducible assumption))
            obtain ⟨ad399, e399, hx399_0, hx399_1, hx399_2⟩ := at_T73 (Kd.R_reads' HO_399003.out).2.2 x4_1 p399 q399
            cases e399
            replace p399 := eq_true p399
            replace q399 := eq_true q399
            go_wp2_with (first | ((with_reducible refine gate_callee (f := 47) rfl ?_); refine goesL_ (some 20) rfl rfl Tryd.func47 (by kernel_rfl) rfl #[.string ((rd_T73 x399003_1 x4_1).f1)] rfl (by (try simp only [List.map_toArray, List.map_cons, List.map_nil]); first | rfl) ?_; (with_reducible refine (proofmarkref27_Plain.calls k1 ((rd_T73 x399003_1 x4_1).f1) false _ A19.out).mono ?_); rintro e w' ⟨rfl, ⟨nd, rfl⟩⟩; refine ⟨_, rfl, ?_⟩; (try (rw [drewN_self wr]; generalize hq_ : World.drewN wr _ = wr; have n0_ : Aside0 (Kd.R k96 96 wr w.heap.size (fun _ => True) (.slice Ao9 t383.length co9) t383) := ⟨by rw [← hq_]; exact (by (with_reducible repeat (first | apply Kd.R_drewN)); exact HO_399000.out)⟩; have n1_ : Aside0 (Kd.R k111 111 wr w.heap.size (fun k_ => some k_ ≠ (.slice Ao16 t395.length co16 : Value).ownBlock) (.slice Ao13 t386.length co13) t386) := ⟨by rw [← hq_]; exact (by (with_reducible repeat (first | apply Kd.R_drewN)); exact HO_399001.out)⟩; have n2_ : Aside0 (Kd.R k94 94 wr w.heap.size (fun _ => True) (.slice Ao14 t389.length co14) t389) := ⟨by rw [← hq_]; exact (by (with_reducible repeat (first | apply Kd.R_drewN)); exact HO_399002.out)⟩; have n3_ : Aside0 (Kd.R k73 73 wr w.heap.size (fun _ => True) (.slice (some ad399) x399003_1.length co29) x399003_1) := ⟨by rw [← hq_]; exact (by (with_reducible repeat (first | apply Kd.R_drewN)); exact HO_399003.out)⟩; have n4_ : Aside0 (Kd.R k111 111 wr w.heap.size (fun k_ => some k_ ≠ (.slice Ao13 t386.length co13 : Value).ownBlock) (.slice Ao16 t395.length co16) t395) := ⟨by rw [← hq_]; exact (by (with_reducible repeat (first | apply Kd.R_drewN)); exact HO_399004.out)⟩; have n5_ : Aside0 (wr.heap[gb381]? = some (.cells #[.slice A0_0 l0_0.length c0_0, .slice A0_1 l0_1.length c0_1, .slice A0_2 l0_2.length c0_2, .slice A0_3 l0_3.length c0_3, .slice A0_4 l0_4.length c0_4] 27 (0, 0))) := ⟨by rw [← hq_]; exact (by (with_reducible repeat (first | refine blk_drewN ?_ _)); exact BK381.out)⟩; have n6_ : Aside0 (wr.heap[gb382]? = some (.cells #[.slice none 0 0, .slice none 0 0, .slice none 0 0, .slice none 0 0, .slice none 0 0] 27 (0, 0))) := ⟨by rw [← hq_]; exact (by (with_reducible repeat (first | refine blk_drewN ?_ _)); exact BK382.out)⟩; have n7_ : Aside0 (wr.heap[gb398]? = some (.cells #[.slice Ao9 t383.length co9, .slice Ao13 t386.length co13, .slice Ao14 t389.length co14, .slice (some ad399) x399003_1.length co29, .slice Ao16 t395.length co16] 27 (0, 0))) := ⟨by rw [← hq_]; exact (by (with_reducible repeat (first | refine blk_drewN ?_ _)); exact BK398.out)⟩; have n8_ : Aside0 (Below w.heap.size w wr) := ⟨by rw [← hq_]; exact (by repeat (first | (with_reducible first | exact HB.out | apply pw_below_drewN)))⟩; clear HO_399000 HO_399001 HO_399002 HO_399003 HO_399004 BK381 BK382 BK398 HB hq_; have HO_399000 := n0_; have HO_399001 := n1_; have HO_399002 := n2_; have HO_399003 := n3_; have HO_399004 := n4_; have BK381 := n5_; have BK382 := n6_; have BK398 := n7_; have HB := n8_; clear n0_ n1_ n2_ n3_ n4_ n5_ n6_ n7_ n8_)); have p25 : 0 ≤ (x4_1 : Int) := of_decide_eq_true (by first | (with_reducible assumption)); have q25 : (x4_1 : Int) < ((x399003_1.length : Int) : Int) := of_decide_eq_true (by first | (with_reducible assumption)); obtain ⟨go25, co25, eo25, gb25, gl25, cl25, HG25⟩ := Kd.R_form HO_399003.out (by omega); (first | cases eo25); have GB25 := Aside0.mk gb25; have GG25 := Aside0.mk HG25; clear gb25 gl25 HG25; (first | simp only [add_plain] at hx399_0); (first | simp only [add_plain] at hx399_1); (first | simp only [add_plain] at hx399_2); obtain ⟨ce25, hcl25, hM25, hcc25, hfr25⟩ := Kd.R_elem HO_399003.out z73 (x4_1 : Int) p25 q25; obtain rfl := k73_openM hM25; have hx25_0 : wr.cell? ⟨go25, (x4_1 : Int).toNat * 3, none⟩ = some (.int .i64 ((rd_T73 x399003_1 x4_1).f0)) := hcc25 0 _ rfl; have hx25_1 : wr.cell? ⟨go25, (x4_1 : Int).toNat * 3 + 1, none⟩ = some (.string ((rd_T73 x399003_1 x4_1).f1)) := hcc25 1 _ rfl; have hx25_2 : wr.cell? ⟨go25, (x4_1 : Int).toNat * 3 + 2, none⟩ = some (.int .i64 ((rd_T73 x399003_1 x4_1).f2)) := hcc25 2 _ rfl; have hf25_0 : wr.frozen? ⟨go25, (x4_1 : Int).toNat * 3, none⟩ = false := hfr25 0; have hf25_1 : wr.frozen? ⟨go25, (x4_1 : Int).toNat * 3 + 1, none⟩ = false := hfr25 1; have hf25_2 : wr.frozen? ⟨go25, (x4_1 : Int).toNat * 3 + 2, none⟩ = false := hfr25 2; clear hcl25 hcc25 hfr25 hM25; replace p25 := eq_true p25; replace q25 := eq_true q25; have HX30 := Aside0.mk (show Kd.R k73 73 wr w.heap.size (fun _ => True) (.slice (some ⟨go25, 0, none⟩) x399003_1.length co29) x399003_1 from HO_399003.out); obtain ⟨ce30, hcl30, hM30, hcc30, hfr30⟩ := Kd.R_elem HX30.out z73 (x4_1 : Int) (of_decide_eq_true (by first | (with_reducible assumption))) (by have h_ : (x4_1 : Int) < ((x399003_1.length : Int) : Int) := of_decide_eq_true (by first | (with_reducible assumption)); first | exact h_); obtain rfl := k73_openM hM30; have HP30 := Kd.R_seg HX30.out (x4_1 : Int) (of_decide_eq_true (by first | (with_reducible assumption))) (by have h_ : (x4_1 : Int) < ((x399003_1.length : Int) : Int) := of_decide_eq_true (by first | (with_reducible assumption)); first | exact h_) (seg := [.string (⟨#[112]⟩ : ByteArray)]) (j := 1) hcl30 hcc30 (show 2 ≤ 3 from by decide) (x' := (⟨(rd_T73 x399003_1 x4_1).f0, (⟨#[112]⟩ : ByteArray), (rd_T73 x399003_1 x4_1).f2⟩ : S73)) (k73_mkM _ _ _ (⟨(rd_T73 x399003_1 x4_1).f0, (⟨#[112]⟩ : ByteArray), (rd_T73 x399003_1 x4_1).f2⟩ : S73) ) (fun _ hk => hk); have hx30_1 := hcc30 1 _ rfl; (try simp only [show (k73).sz = 3 from rfl, Nat.mul_one, Nat.add_zero] at hx30_1); have hf30_1 := hfr30 1; (try simp only [show (k73).sz = 3 from rfl, Nat.mul_one, Nat.add_zero] at hf30_1); clear hcl30 hcc30 hfr30 hM30; have hcz29_3 : wr.cell? ⟨gb398, 3, none⟩ = some (.slice (some ⟨go25, 0, none⟩) x399003_1.length co29) := (blk_cell BK398.out 3).trans rfl) | ((with_reducible refine gate_store (t := 9) (p := 26) rfl ?_); refine store_event (t := 9) (p := 26) (v := ?vo_w31) (w1 := (wr.setCell ⟨go25, (x4_1 : Int).toNat * 3 + 1, none⟩ (.string (⟨#[112]⟩ : ByteArray)))) ?hg ?ho ?hn ?hr ?_; (case ho => rfl); (case hg => rfl); (case hn => rfl); (case hr => first | (go_simp; done)); intro w31 hw; have hg : wr.grownBy w31 (some go25) := (by rw [hw]; exact HP30.2); have hp_ : Kd.R k73 73 w31 w.heap.size (fun _ => True) (.slice (some ⟨go25, 0, none⟩) x399003_1.length co29) y401 := (by rw [hw, Ny401.out]; exact HP30.1); clear HP30; have n0_ := Aside0.mk (Kd.R_over' (v := (.slice (some ⟨go25, 0, none⟩) x399003_1.length co29)) HO_399000.out (Kd.R_typed HO_399003.out) (by decide) hg); have n1_ := Aside0.mk (Kd.R_over' (v := (.slice (some ⟨go25, 0, none⟩) x399003_1.length co29)) HO_399001.out (Kd.R_typed HO_399003.out) (by decide) hg); have n2_ := Aside0.mk (Kd.R_over' (v := (.slice (some ⟨go25, 0, none⟩) x399003_1.length co29)) HO_399002.out (Kd.R_typed HO_399003.out) (by decide) hg); have n3_ := Aside0.mk (hp_); have n4_ := Aside0.mk (Kd.R_over' (v := (.slice (some ⟨go25, 0, none⟩) x399003_1.length co29)) HO_399004.out (Kd.R_typed HO_399003.out) (by decide) hg); have n5_ := Aside0.mk (blk_grown (g := gb381) (o := .cells #[.slice A0_0 l0_0.length c0_0, .slice A0_1 l0_1.length c0_1, .slice A0_2 l0_2.length c0_2, .slice A0_3 l0_3.length c0_3, .slice A0_4 l0_4.length c0_4] 27 (0, 0)) BK381.out hg (Kd.R_ne HO_399003.out BK381.out (by decide))); have n6_ := Aside0.mk (blk_grown (g := gb382) (o := .cells #[.slice none 0 0, .slice none 0 0, .slice none 0 0, .slice none 0 0, .slice none 0 0] 27 (0, 0)) BK382.out hg (Kd.R_ne HO_399003.out BK382.out (by decide))); have n7_ := Aside0.mk (blk_grown (g := gb398) (o := .cells #[.slice Ao9 t383.length co9, .slice Ao13 t386.length co13, .slice Ao14 t389.length co14, .slice (some ⟨go25, 0, none⟩) x399003_1.length co29, .slice Ao16 t395.length co16] 27 (0, 0)) BK398.out hg (Kd.R_ne HO_399003.out BK398.out (by decide))); have n8_ := Aside0.mk ((by rw [hw]; exact below_set (HB.out) GB25.out : Below w.heap.size w w31)); clear HO_399000; clear HO_399001; clear HO_399002; clear HO_399003; clear HO_399004; clear BK381; clear BK382; clear BK398; clear HB; have HO_399000 := n0_; have HO_399001 := n1_; have HO_399002 := n2_; have HO_399003 := n3_; have HO_399004 := n4_; have BK381 := n5_; have BK382 := n6_; have BK398 := n7_; have HB := n8_; clear n0_ n1_ n2_ n3_ n4_ n5_ n6_ n7_ n8_; clear hg hw hp_))
            go_roundg k1
            case measure => have := HK1.out; omega
            case rel => exact ⟨(wrap64 (x4_1 + 1)), (y401), (.slice (some ⟨go25, 0, none⟩) x399003_1.length co29), rfl, H', ⟨by have := HK1.out; omega⟩, ⟨by exact HO_399000.out⟩, ⟨by exact HO_399001.out⟩, ⟨by exact HO_399002.out⟩, ⟨by exact HO_399003.out⟩, ⟨by exact HO_399004.out⟩, ⟨by exact BK381.out⟩, ⟨by exact BK382.out⟩, ⟨by exact BK398.out⟩, ⟨by exact HB.out⟩⟩
        · rw [if_neg c18] at H
          exact absurd H (by simp)
      · rw [if_neg c17] at H
        have c17b0 : decide (x4_1 < (x399003_1.length : Int)) = false := decide_eq_false c17
        clear c17
        simp only [Option.some.injEq, Prod.mk.injEq] at H
        obtain ⟨rfl, rfl, rfl, rfl, rfl⟩ := H
        have hnb32 := NB398_381.out
        have hnc32 := NB381_398.out
        have hnb33 := NB398_382.out
        have hnc33 := NB382_398.out
        have hcz34_0 : wr.cell? ⟨gb398, 0, none⟩ = some (.slice Ao9 t383.length co9) := (blk_cell BK398.out 0).trans rfl
        have hcz34_1 : wr.cell? ⟨gb398, 1, none⟩ = some (.slice Ao13 t386.length co13) := (blk_cell BK398.out 1).trans rfl
        have hcz34_2 : wr.cell? ⟨gb398, 2, none⟩ = some (.slice Ao14 t389.length co14) := (blk_cell BK398.out 2).trans rfl
        have hcz34_3 : wr.cell? ⟨gb398, 3, none⟩ = some (u399003) := (blk_cell BK398.out 3).trans rfl
        have hcz34_4 : wr.cell? ⟨gb398, 4, none⟩ = some (.slice Ao16 t395.length co16) := (blk_cell BK398.out 4).trans rfl
        have hfz34_0 := blk_frozen BK398.out 0
        have hfz34_1 := blk_frozen BK398.out 1
        have hfz34_2 := blk_frozen BK398.out 2
        have hfz34_3 := blk_frozen BK398.out 3
        have hfz34_4 := blk_frozen BK398.out 4
        obtain ⟨Ao35, co35, eo35⟩ := Kd.R_slice HO_399003.out
        subst eo35
        have hnb36 := NB382_381.out
        have hnc36 := NB381_382.out
        have hcz37_0 : wr.cell? ⟨gb382, 0, none⟩ = some (.slice none 0 0) := (blk_cell BK382.out 0).trans rfl
        have hcz37_1 : wr.cell? ⟨gb382, 1, none⟩ = some (.slice none 0 0) := (blk_cell BK382.out 1).trans rfl
        have hcz37_2 : wr.cell? ⟨gb382, 2, none⟩ = some (.slice none 0 0) := (blk_cell BK382.out 2).trans rfl
        have hcz37_3 : wr.cell? ⟨gb382, 3, none⟩ = some (.slice none 0 0) := (blk_cell BK382.out 3).trans rfl
        have hcz37_4 : wr.cell? ⟨gb382, 4, none⟩ = some (.slice none 0 0) := (blk_cell BK382.out 4).trans rfl
        have hfz37_0 := blk_frozen BK382.out 0
        have hfz37_1 := blk_frozen BK382.out 1
        have hfz37_2 := blk_frozen BK382.out 2
        have hfz37_3 := blk_frozen BK382.out 3
        have hfz37_4 := blk_frozen BK382.out 4
        go_wp2
        refine bodyPost_ret (results_cell_row rfl _ _ gb382 27 #[.slice Ao9 t383.length co9, .slice Ao13 t386.length co13, .slice Ao14 t389.length co14, .slice Ao35 x399003_1.length co35, .slice Ao16 t395.length co16] (0, 0) _ rfl (by refine blk_put (cs := #[.slice Ao9 t383.length co9, .slice Ao13 t386.length co13, .slice Ao14 t389.length co14, .slice Ao35 x399003_1.length co35, .slice none 0 0]) ?_ 4 _ rfl; refine blk_put (cs := #[.slice Ao9 t383.length co9, .slice Ao13 t386.length co13, .slice Ao14 t389.length co14, .slice none 0 0, .slice none 0 0]) ?_ 3 _ rfl; refine blk_put (cs := #[.slice Ao9 t383.length co9, .slice Ao13 t386.length co13, .slice none 0 0, .slice none 0 0, .slice none 0 0]) ?_ 2 _ rfl; refine blk_put (cs := #[.slice Ao9 t383.length co9, .slice none 0 0, .slice none 0 0, .slice none 0 0, .slice none 0 0]) ?_ 1 _ rfl; refine blk_put (cs := #[.slice none 0 0, .slice none 0 0, .slice none 0 0, .slice none 0 0, .slice none 0 0]) ?_ 0 _ rfl; exact BK382.out) Tryd.underlying27 rfl (by kernel_rfl)) rfl ?_
        exact ⟨_, _, _, _, _, by first | rfl, by exact Kd.R_mono (Kd.R_far (p := ⟨gb382, 4, none⟩) (Kd.R_far (p := ⟨gb382, 3, none⟩) (Kd.R_far (p := ⟨gb382, 2, none⟩) (Kd.R_far (p := ⟨gb382, 1, none⟩) (Kd.R_far (p := ⟨gb382, 0, none⟩) (Kd.R_types HO_399000.out BK382.out (by decide)) (fun _ hk => hk.2) (.slice Ao9 t383.length co9)) (fun _ hk => hk.2) (.slice Ao13 t386.length co13)) (fun _ hk => hk.2) (.slice Ao14 t389.length co14)) (fun _ hk => hk.2) (.slice Ao35 x399003_1.length co35)) (fun _ hk => hk.2) (.slice Ao16 t395.length co16)) (fun _ hk => trivial), by exact Kd.R_mono (Kd.R_far (p := ⟨gb382, 4, none⟩) (Kd.R_far (p := ⟨gb382, 3, none⟩) (Kd.R_far (p := ⟨gb382, 2, none⟩) (Kd.R_far (p := ⟨gb382, 1, none⟩) (Kd.R_far (p := ⟨gb382, 0, none⟩) (Kd.R_types HO_399001.out BK382.out (by decide)) (fun _ hk => hk.2) (.slice Ao9 t383.length co9)) (fun _ hk => hk.2) (.slice Ao13 t386.length co13)) (fun _ hk => hk.2) (.slice Ao14 t389.length co14)) (fun _ hk => hk.2) (.slice Ao35 x399003_1.length co35)) (fun _ hk => hk.2) (.slice Ao16 t395.length co16)) (fun _ hk => hk.1), by exact Kd.R_mono (Kd.R_far (p := ⟨gb382, 4, none⟩) (Kd.R_far (p := ⟨gb382, 3, none⟩) (Kd.R_far (p := ⟨gb382, 2, none⟩) (Kd.R_far (p := ⟨gb382, 1, none⟩) (Kd.R_far (p := ⟨gb382, 0, none⟩) (Kd.R_types HO_399002.out BK382.out (by decide)) (fun _ hk => hk.2) (.slice Ao9 t383.length co9)) (fun _ hk => hk.2) (.slice Ao13 t386.length co13)) (fun _ hk => hk.2) (.slice Ao14 t389.length co14)) (fun _ hk => hk.2) (.slice Ao35 x399003_1.length co35)) (fun _ hk => hk.2) (.slice Ao16 t395.length co16)) (fun _ hk => trivial), by exact Kd.R_mono (Kd.R_far (p := ⟨gb382, 4, none⟩) (Kd.R_far (p := ⟨gb382, 3, none⟩) (Kd.R_far (p := ⟨gb382, 2, none⟩) (Kd.R_far (p := ⟨gb382, 1, none⟩) (Kd.R_far (p := ⟨gb382, 0, none⟩) (Kd.R_types HO_399003.out BK382.out (by decide)) (fun _ hk => hk.2) (.slice Ao9 t383.length co9)) (fun _ hk => hk.2) (.slice Ao13 t386.length co13)) (fun _ hk => hk.2) (.slice Ao14 t389.length co14)) (fun _ hk => hk.2) (.slice Ao35 x399003_1.length co35)) (fun _ hk => hk.2) (.slice Ao16 t395.length co16)) (fun _ hk => trivial), by exact Kd.R_mono (Kd.R_far (p := ⟨gb382, 4, none⟩) (Kd.R_far (p := ⟨gb382, 3, none⟩) (Kd.R_far (p := ⟨gb382, 2, none⟩) (Kd.R_far (p := ⟨gb382, 1, none⟩) (Kd.R_far (p := ⟨gb382, 0, none⟩) (Kd.R_types HO_399004.out BK382.out (by decide)) (fun _ hk => hk.2) (.slice Ao9 t383.length co9)) (fun _ hk => hk.2) (.slice Ao13 t386.length co13)) (fun _ hk => hk.2) (.slice Ao14 t389.length co14)) (fun _ hk => hk.2) (.slice Ao35 x399003_1.length co35)) (fun _ hk => hk.2) (.slice Ao16 t395.length co16)) (fun _ hk => hk.1), by repeat (first | (with_reducible first | exact HB.out | refine below_set ?_ GE382.out))⟩

end Go.Proofs.YtmfekngjhiofaaaDoor.Q
