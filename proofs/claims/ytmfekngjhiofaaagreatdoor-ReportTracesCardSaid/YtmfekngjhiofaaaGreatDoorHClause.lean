/-
  HAND: lift.lit, lift.Clause.
-/
import Derived.Test.YtmfekngjhiofaaaGreatDoorQx0
import Derived.Test.YtmfekngjhiofaaaGreatDoorHGoes
import Derived.Test.YtmfekngjhiofaaaGreatDoorHTrace
import Derived.Test.YtmfekngjhiofaaaGreatDoorHStrs
attribute [local go_sem] Go.Proofs.YtmfekngjhiofaaaGreatDoorW.PrintMore.max2_int Go.Proofs.YtmfekngjhiofaaaGreatDoorW.PrintMore.min2_int Go.Proofs.YtmfekngjhiofaaaGreatDoorW.PrintMore.max_two Go.Proofs.YtmfekngjhiofaaaGreatDoorW.PrintMore.min_two
set_option linter.unusedVariables false
set_option linter.unusedSimpArgs false
namespace Go.Proofs.YtmfekngjhiofaaaGreatDoor.Q
open Go.RowKit Go.Proofs.YtmfekngjhiofaaaGreatDoorW.PrintWords Go.Proofs.YtmfekngjhiofaaaGreatDoorW.PrintLast Go.Proofs.YtmfekngjhiofaaaGreatDoorW.PrintMore

theorem infoStr : (Tryz.prog.info? 9).map (fun i => (i.zero, i.size, i.bytes)) = some (some (.string ⟨#[]⟩), 1, 16) := by kernel_rfl
def litB (cells : List S114) (cell bit : Int) : ByteArray := (((rd_T114 cells cell).f0 ++ (⟨#[91]⟩ : ByteArray)) ++ numB bit) ++ (⟨#[93]⟩ : ByteArray)
def lift_lit.f (l0_0 : List S125) (l0_1 : List S72) (l0_2 : List S114) (l0_3 : List S105) (l0_4 : List S72) (a1_0 a1_1 : Int) (a1_2 : Bool) (a1_3 a1_4 : Int) : Option (ByteArray) :=
  if (0 ≤ a1_3 ∧ a1_3 < (l0_2.length : Int)) ∧ (rd_T114 l0_2 a1_3).f0.size ≤ 10000 ∧ (Lit.int .i64 a1_4).wf = true then some (litB l0_2 a1_3 a1_4) else none
set_option maxHeartbeats 4000000 in
set_option maxRecDepth 100000 in
theorem lift_lit.calls (A0_0 : Option Addr) (c0_0 : Nat) (l0_0 : List S125) (A0_1 : Option Addr) (c0_1 : Nat) (l0_1 : List S72) (A0_2 : Option Addr) (c0_2 : Nat) (l0_2 : List S114) (A0_3 : Option Addr) (c0_3 : Nat) (l0_3 : List S105) (A0_4 : Option Addr) (c0_4 : Nat) (l0_4 : List S72) (a1_0 a1_1 : Int) (a1_2 : Bool) (a1_3 a1_4 : Int) (r : ByteArray) (w : World) (hG : Tab w) (hr0_0 : Kd.C k125 w A0_0 l0_0.length l0_0) (hc0_0 : l0_0.length ≤ c0_0) (hr0_1 : Kd.C k72 w A0_1 l0_1.length l0_1) (hc0_1 : l0_1.length ≤ c0_1) (hr0_2 : Kd.C k114 w A0_2 l0_2.length l0_2) (hc0_2 : l0_2.length ≤ c0_2) (hr0_3 : Kd.C k105 w A0_3 l0_3.length l0_3) (hc0_3 : l0_3.length ≤ c0_3) (hr0_4 : Kd.C k72 w A0_4 l0_4.length l0_4) (hc0_4 : l0_4.length ≤ c0_4) (h : lift_lit.f l0_0 l0_1 l0_2 l0_3 l0_4 a1_0 a1_1 a1_2 a1_3 a1_4 = some r) :
    Calls Tryz.prog 46 #[.agg #[.slice A0_0 l0_0.length c0_0, .slice A0_1 l0_1.length c0_1, .slice A0_2 l0_2.length c0_2, .slice A0_3 l0_3.length c0_3, .slice A0_4 l0_4.length c0_4], .agg #[.int .i64 a1_0, .int .i64 a1_1, .bool a1_2, .int .i64 a1_3, .int .i64 a1_4]] w fun e w' => e = .returned (.string r) ∧ Below w.heap.size w w' := by
  unfold lift_lit.f at h
  by_cases hb : (0 ≤ a1_3 ∧ a1_3 < (l0_2.length : Int)) ∧ (rd_T114 l0_2 a1_3).f0.size ≤ 10000 ∧ (Lit.int .i64 a1_4).wf = true
  · rw [if_pos hb] at h
    have HF := Aside0.mk (Option.some.inj h)
    have HG := Aside0.mk hG
    obtain ⟨⟨g0, g1⟩, g2, g3⟩ := hb
    have HWF := Aside0.mk g3
    obtain ⟨ad, e, x0, _, _, _⟩ := at_T114 hr0_2 a1_3 g0 g1
    cases e
    unfold litB at HF
    generalize (rd_T114 l0_2 a1_3).f0 = nm at x0 g2 HF
    obtain ⟨j, hj⟩ : ∃ j : Nat, a1_3 = j := ⟨a1_3.toNat, by omega⟩
    subst hj
    have hto : (j : Int).toNat = j := by omega
    simp only [hto] at x0
    clear hto h hG hr0_0 hc0_0 hr0_1 hc0_1 hr0_2 hc0_2 hr0_3 hc0_3 hr0_4 hc0_4 g3
    have H2 := Aside0.mk (two_boxes w (.cells #[.slice A0_0 l0_0.length c0_0, .slice A0_1 l0_1.length c0_1, .slice (some ad) l0_2.length c0_2, .slice A0_3 l0_3.length c0_3, .slice A0_4 l0_4.length c0_4] 27) (.cells #[.int .i64 a1_0, .int .i64 a1_1, .bool a1_2, .int .i64 j, .int .i64 a1_4] 94))
    have HB2 := Aside0.mk (below_alloc (below_alloc (Below.refl w.heap.size w) (.cells #[.slice A0_0 l0_0.length c0_0, .slice A0_1 l0_1.length c0_1, .slice (some ad) l0_2.length c0_2, .slice A0_3 l0_3.length c0_3, .slice A0_4 l0_4.length c0_4] 27)) (.cells #[.int .i64 a1_0, .int .i64 a1_1, .bool a1_2, .int .i64 j, .int .i64 a1_4] 94))
    have hsz := numB_size a1_4 HWF.out
    have z1 : (9223372036854775807 < nm.size + 1) = False := eq_false (by omega)
    have z2 : (9223372036854775807 < nm.size + 1 + (numB a1_4).size) = False := eq_false (by omega)
    have z3 : (9223372036854775807 < nm.size + 1 + (numB a1_4).size + 1) = False := eq_false (by omega)
    clear hsz g2
    go_enter Tryz.func46, Tryz.ntmps46
    go_wp2
    generalize (w.alloc (.cells #[.slice A0_0 l0_0.length c0_0, .slice A0_1 l0_1.length c0_1, .slice (some ad) l0_2.length c0_2, .slice A0_3 l0_3.length c0_3, .slice A0_4 l0_4.length c0_4] 27)).alloc (.cells #[.int .i64 a1_0, .int .i64 a1_1, .bool a1_2, .int .i64 j, .int .i64 a1_4] 94) = w2 at H2 HB2 ⊢
    have TS := Aside0.mk (show ∀ w' : World, Below w2.heap.size w2 w' → (w'.cell? ⟨w.heap.size, 2, none⟩ = some (.slice (some ad) l0_2.length c0_2) ∧ w'.cell? ⟨w.heap.size + 1, 3, none⟩ = some (.int .i64 j) ∧ w'.cell? ⟨w.heap.size + 1, 4, none⟩ = some (.int .i64 a1_4) ∧ w'.cell? (ad.add (j * 4)) = some (.string nm)) from fun w' q =>
      ⟨Lib.cell_of_heap ((q.block _ (Array.getElem?_eq_some_iff.1 H2.out.1).1).trans H2.out.1) 2, Lib.cell_of_heap ((q.block _ (Array.getElem?_eq_some_iff.1 H2.out.2).1).trans H2.out.2) 3, Lib.cell_of_heap ((q.block _ (Array.getElem?_eq_some_iff.1 H2.out.2).1).trans H2.out.2) 4, pw_cell_below (below_step HB2.out q) x0⟩)
    clear x0
    have HB := Aside0.mk (below_drew (Below.refl w2.heap.size w2))
    have HT := Aside0.mk (tab_below HG.out (below_step HB2.out HB.out))
    go_region_held3 (fun w' => w'.cell? ⟨w.heap.size, 2, none⟩ = some (.slice (some ad) l0_2.length c0_2) ∧ w'.cell? ⟨w.heap.size + 1, 3, none⟩ = some (.int .i64 j) ∧ w'.cell? ⟨w.heap.size + 1, 4, none⟩ = some (.int .i64 a1_4) ∧ w'.cell? (ad.add (j * 4)) = some (.string nm)) (exact TS.out _ HB.out) (first | (go_at_call 33; refine (strconv_Itoa.calls _ (numB a1_4) _ HT.out (itoa_f _ HWF.out)).mono ?_; rintro e w' ⟨rfl, hb⟩; have n0 := Aside0.mk (below_step HB.out hb); clear HB HT hb; have HB := n0; clear n0))
    all_goals (
      go_wp2
      go_ret
      exact ⟨by rw [← HF.out]; rfl, below_step HB2.out HB.out⟩)
  · rw [if_neg hb] at h; exact absurd h (by simp)
theorem R_C {α : Type} {d : Kd α} {e : Nat} {w : World} {base cc : Nat} {ok : Nat → Prop} {A : Option Addr} {xs : List α} (h : d.R e w base ok (.slice A xs.length cc) xs) : xs.length ≤ cc ∧ d.C w A xs.length xs := by
  obtain ⟨A', c', e', hl, hC⟩ := Kd.R_reads h
  cases e'
  exact ⟨hl, hC⟩
/-! ### the clause -/
def magI (x : Int) : Int := mx x (wrap64 (-x))
def wordB (cells : List S114) (lats : List S94) (x : Int) : ByteArray :=
  if x < 0 then (⟨#[126]⟩ : ByteArray) ++ litB cells (rd_T94 lats (magI x - 1)).f3 (rd_T94 lats (magI x - 1)).f4 else litB cells (rd_T94 lats (magI x - 1)).f3 (rd_T94 lats (magI x - 1)).f4
def litOk (n : Nat) (x : Int) : Bool := decide (1 ≤ magI x ∧ magI x ≤ n)
def barB : ByteArray := ⟨#[32, 124, 32]⟩
def clauseB (l1 : List S72) (l2 : List S114) (lats : List S94) (l : List Int) : List UInt8 :=
  if (unlikeB (namesP l1) && unlikeB (namesC l2)) = true ∧ goesB l2.length lats = true then
    if l = [] then [102, 97, 108, 115, 101] else if l.all (litOk lats.length) = true then joinB (l.map (wordB l2 lats)) barB else []
  else []
def clauseFit (l1 : List S72) (l2 : List S114) (lats : List S94) (l : List Int) : Bool :=
  shortP l1 && shortC l2 && l2.all (fun x => decide (x.f0.size ≤ 10000)) && lats.all (fun x => (Lit.int .i64 x.f4).wf) && decide (l.length ≤ 10000)
def lift_Clause.f (l0_0 : List S125) (l0_1 : List S72) (l0_2 : List S114) (l0_3 : List S105) (l0_4 : List S72) (a1_0 : Int) (l1_1 : List S199) (l1_2 : List S200) (l1_3 : List S94) (l1_4 : List S202) (l2 : List Int) : Option (ByteArray) :=
  if clauseFit l0_1 l0_2 l1_3 l2 = true then some ⟨(clauseB l0_1 l0_2 l1_3 l2).toArray⟩ else none
theorem goesFrom_mem (nc : Int) : ∀ (l : List S94) (c b : Int), goesFrom nc c b l = true → ∀ x ∈ l, 0 ≤ x.f4 ∧ 0 ≤ x.f3 ∧ x.f3 < nc
  | [], _, _, _, x, hx => by cases hx
  | y :: l, c, b, h, x, hx => by
    unfold goesFrom at h
    simp only [Bool.and_eq_true, latOk, decide_eq_true_eq] at h
    rcases List.mem_cons.1 hx with rfl | hx
    · exact ⟨h.1.1, h.1.2.2.1, h.1.2.2.2⟩
    · exact goesFrom_mem nc l _ _ h.2 x hx
theorem litB_size (cells : List S114) (c b : Int) (h1 : ∀ x ∈ cells, x.f0.size ≤ 10000) (h2 : (Lit.int .i64 b).wf = true) : (litB cells c b).size ≤ 10023 := by
  have h3 := numB_size b h2
  have h4 : (rd_T114 cells c).f0.size ≤ 10000 := by
    unfold rd_T114
    rw [List.getD_eq_getElem?_getD]
    cases hq : cells[c.toNat]? with
    | none => show (⟨#[]⟩ : ByteArray).size ≤ 10000; decide
    | some x => exact h1 x (List.mem_of_getElem? hq)
  unfold litB
  simp only [ByteArray.size_append]
  have e1 : (⟨#[91]⟩ : ByteArray).size = 1 := rfl
  have e2 : (⟨#[93]⟩ : ByteArray).size = 1 := rfl
  omega
theorem rdL_mem {lats : List S94} {x : Int} (h : litOk lats.length x = true) : rd_T94 lats (magI x - 1) ∈ lats := by
  simp only [litOk, decide_eq_true_eq] at h
  have : (magI x - 1).toNat < lats.length := by omega
  unfold rd_T94
  rw [List.getD_eq_getElem?_getD, List.getElem?_eq_getElem this]
  exact List.getElem_mem this
theorem wordB_size (cells : List S114) (lats : List S94) (x : Int) (h1 : ∀ x ∈ cells, x.f0.size ≤ 10000) (h2 : lats.all (fun x => (Lit.int .i64 x.f4).wf) = true) (h : litOk lats.length x = true) : (wordB cells lats x).size ≤ 10024 := by
  have h3 := litB_size cells (rd_T94 lats (magI x - 1)).f3 (rd_T94 lats (magI x - 1)).f4 h1 (List.all_eq_true.1 h2 _ (rdL_mem h))
  unfold wordB
  have e1 : (⟨#[126]⟩ : ByteArray).size = 1 := rfl
  split
  · rw [ByteArray.size_append]; omega
  · omega
theorem joinTail_len (s : List UInt8) (b : Nat) : ∀ (l : List (List UInt8)), (∀ x ∈ l, x.length ≤ b) → (Lib.joinTail s l).length ≤ (b + s.length) * l.length
  | [], _ => by simp [Lib.joinTail]
  | x :: l, h => by
    have ih := joinTail_len s b l (fun z hz => h z (List.mem_cons_of_mem _ hz))
    have h1 := h x (by simp)
    unfold Lib.joinTail at ih ⊢
    simp only [List.map_cons, List.flatten_cons, List.length_append, List.length_cons]
    rw [Nat.mul_add]
    omega
theorem join_len (s : List UInt8) (b : Nat) (l : List (List UInt8)) (h : ∀ x ∈ l, x.length ≤ b) : (Lib.join l s).length ≤ (b + s.length) * l.length := by
  cases l with
  | nil => simp [Lib.join_nil]
  | cons x r =>
    have ih := joinTail_len s b r (fun z hz => h z (List.mem_cons_of_mem _ hz))
    have h1 := h x (by simp)
    rw [Lib.join_cons, List.length_append, List.length_cons, Nat.mul_add]
    omega
theorem magI_wrap (x : Int) (h1 : -9223372036854775808 ≤ x) (h2 : x ≤ 9223372036854775807) : magI x ≤ 9223372036854775807 ∧ -9223372036854775808 ≤ magI x := by
  unfold magI mx wrap64; omega
set_option maxHeartbeats 16000000 in
set_option maxRecDepth 100000 in
theorem lift_Clause.calls (A0_0 : Option Addr) (c0_0 : Nat) (l0_0 : List S125) (A0_1 : Option Addr) (c0_1 : Nat) (l0_1 : List S72) (A0_2 : Option Addr) (c0_2 : Nat) (l0_2 : List S114) (A0_3 : Option Addr) (c0_3 : Nat) (l0_3 : List S105) (A0_4 : Option Addr) (c0_4 : Nat) (l0_4 : List S72) (a1_0 : Int) (A1_1 : Option Addr) (c1_1 : Nat) (l1_1 : List S199) (A1_2 : Option Addr) (c1_2 : Nat) (l1_2 : List S200) (A1_3 : Option Addr) (c1_3 : Nat) (l1_3 : List S94) (A1_4 : Option Addr) (c1_4 : Nat) (l1_4 : List S202) (A2 : Option Addr) (c2 : Nat) (l2 : List Int) (r : ByteArray) (w : World) (hG : Tab w) (hr0_0 : Kd.C k125 w A0_0 l0_0.length l0_0) (hc0_0 : l0_0.length ≤ c0_0) (hr0_1 : Kd.C k72 w A0_1 l0_1.length l0_1) (hc0_1 : l0_1.length ≤ c0_1) (hr0_2 : Kd.C k114 w A0_2 l0_2.length l0_2) (hc0_2 : l0_2.length ≤ c0_2) (hr0_3 : Kd.C k105 w A0_3 l0_3.length l0_3) (hc0_3 : l0_3.length ≤ c0_3) (hr0_4 : Kd.C k72 w A0_4 l0_4.length l0_4) (hc0_4 : l0_4.length ≤ c0_4) (hr1_1 : Kd.C k199 w A1_1 l1_1.length l1_1) (hc1_1 : l1_1.length ≤ c1_1) (hr1_2 : Kd.C k200 w A1_2 l1_2.length l1_2) (hc1_2 : l1_2.length ≤ c1_2) (hr1_3 : Kd.C k94 w A1_3 l1_3.length l1_3) (hc1_3 : l1_3.length ≤ c1_3) (hr1_4 : Kd.C k202 w A1_4 l1_4.length l1_4) (hc1_4 : l1_4.length ≤ c1_4) (hr2 : Kd.C (Kd.int .i64) w A2 l2.length l2) (hc2 : l2.length ≤ c2) (h : lift_Clause.f l0_0 l0_1 l0_2 l0_3 l0_4 a1_0 l1_1 l1_2 l1_3 l1_4 l2 = some r) :
    Calls Tryz.prog 16 #[.agg #[.slice A0_0 l0_0.length c0_0, .slice A0_1 l0_1.length c0_1, .slice A0_2 l0_2.length c0_2, .slice A0_3 l0_3.length c0_3, .slice A0_4 l0_4.length c0_4], .agg #[.int .i64 a1_0, .slice A1_1 l1_1.length c1_1, .slice A1_2 l1_2.length c1_2, .slice A1_3 l1_3.length c1_3, .slice A1_4 l1_4.length c1_4], .slice A2 l2.length c2] w fun e w' => e = .returned (.string r) ∧ Below w.heap.size w w' := by
  unfold lift_Clause.f at h
  by_cases hb : clauseFit l0_1 l0_2 l1_3 l2 = true
  · rw [if_pos hb] at h
    have HF := Aside0.mk (show (⟨(clauseB l0_1 l0_2 l1_3 l2).toArray⟩ : ByteArray) = r from Option.some.inj h)
    have HG := Aside0.mk hG
    have H0 := Aside0.mk (And.intro hr0_0 hc0_0)
    have H1 := Aside0.mk (And.intro hr0_1 hc0_1)
    have H2 := Aside0.mk (And.intro hr0_2 hc0_2)
    have H3 := Aside0.mk (And.intro hr0_3 hc0_3)
    have H4 := Aside0.mk (And.intro hr0_4 hc0_4)
    have K1 := Aside0.mk (And.intro hr1_1 hc1_1)
    have K2 := Aside0.mk (And.intro hr1_2 hc1_2)
    have K3 := Aside0.mk (And.intro hr1_3 hc1_3)
    have K4 := Aside0.mk (And.intro hr1_4 hc1_4)
    have HR2 := Aside0.mk hr2
    have hl3 : l1_3.length ≤ 9223372036854775807 := hr1_3.2.1
    simp only [clauseFit, Bool.and_eq_true, decide_eq_true_eq] at hb
    obtain ⟨⟨⟨⟨f1, f2⟩, f3⟩, f4⟩, f5⟩ := hb
    have HCN := Aside0.mk (show ∀ x ∈ l0_2, x.f0.size ≤ 10000 from fun x hx => of_decide_eq_true (List.all_eq_true.1 f3 x hx))
    have HLW := Aside0.mk f4
    have HNF := Aside0.mk (show lift_named.f l0_0 l0_1 l0_2 l0_3 l0_4 = some (unlikeB (namesP l0_1) && unlikeB (namesC l0_2)) by unfold lift_named.f; rw [if_pos ⟨f1, f2⟩])
    have HGF := Aside0.mk (show lift_goes.f l0_0 l0_1 l0_2 l0_3 l0_4 a1_0 l1_1 l1_2 l1_3 l1_4 = some (goesB l0_2.length l1_3) from rfl)
    clear h hG hr0_0 hc0_0 hr0_1 hc0_1 hr0_2 hc0_2 hr0_3 hc0_3 hr0_4 hc0_4 hr1_1 hc1_1 hr1_2 hc1_2 hr1_3 hc1_3 hr1_4 hc1_4 hr2 f1 f2 f3 f4
    have HO := Aside0.mk (two_boxes w (.cells #[.slice A0_0 l0_0.length c0_0, .slice A0_1 l0_1.length c0_1, .slice A0_2 l0_2.length c0_2, .slice A0_3 l0_3.length c0_3, .slice A0_4 l0_4.length c0_4] 27) (.cells #[.int .i64 a1_0, .slice A1_1 l1_1.length c1_1, .slice A1_2 l1_2.length c1_2, .slice A1_3 l1_3.length c1_3, .slice A1_4 l1_4.length c1_4] 35))
    have HB2 := Aside0.mk (below_alloc (below_alloc (Below.refl w.heap.size w) (.cells #[.slice A0_0 l0_0.length c0_0, .slice A0_1 l0_1.length c0_1, .slice A0_2 l0_2.length c0_2, .slice A0_3 l0_3.length c0_3, .slice A0_4 l0_4.length c0_4] 27)) (.cells #[.int .i64 a1_0, .slice A1_1 l1_1.length c1_1, .slice A1_2 l1_2.length c1_2, .slice A1_3 l1_3.length c1_3, .slice A1_4 l1_4.length c1_4] 35))
    cases hU : (unlikeB (namesP l0_1) && unlikeB (namesC l0_2))
    · rw [hU] at HNF
      have HRE := Aside0.mk (show r = ⟨#[]⟩ by rw [← HF.out]; unfold clauseB; rw [if_neg (by rw [hU]; simp)])
      clear hU
      go_enter Tryz.func16, Tryz.ntmps16
      go_wp2_with (first | (go_at_call 28; refine (lift_named.calls A0_0 c0_0 l0_0 A0_1 c0_1 l0_1 A0_2 c0_2 l0_2 A0_3 c0_3 l0_3 A0_4 c0_4 l0_4 false _ (tab_below HG.out HB2.out) (Kd.C_below H0.out.1 HB2.out) H0.out.2 (Kd.C_below H1.out.1 HB2.out) H1.out.2 (Kd.C_below H2.out.1 HB2.out) H2.out.2 (Kd.C_below H3.out.1 HB2.out) H3.out.2 (Kd.C_below H4.out.1 HB2.out) H4.out.2 HNF.out).mono ?_; rintro e w' ⟨rfl, hb⟩))
      go_ret
      exact ⟨by rw [HRE.out]; rfl, below_step HB2.out hb⟩
    · rw [hU] at HNF
      cases hV : goesB l0_2.length l1_3
      · rw [hV] at HGF
        have HRE := Aside0.mk (show r = ⟨#[]⟩ by rw [← HF.out]; unfold clauseB; rw [if_neg (by rw [hV]; simp)])
        clear hU hV
        go_enter Tryz.func16, Tryz.ntmps16
        go_wp2_with (first | (go_at_call 28; refine (lift_named.calls A0_0 c0_0 l0_0 A0_1 c0_1 l0_1 A0_2 c0_2 l0_2 A0_3 c0_3 l0_3 A0_4 c0_4 l0_4 true _ (tab_below HG.out HB2.out) (Kd.C_below H0.out.1 HB2.out) H0.out.2 (Kd.C_below H1.out.1 HB2.out) H1.out.2 (Kd.C_below H2.out.1 HB2.out) H2.out.2 (Kd.C_below H3.out.1 HB2.out) H3.out.2 (Kd.C_below H4.out.1 HB2.out) H4.out.2 HNF.out).mono ?_; rintro e w' ⟨rfl, hb⟩; have HB := Aside0.mk (below_step HB2.out hb); have HO2 := Aside0.mk (And.intro ((hb.block _ (Array.getElem?_eq_some_iff.1 HO.out.1).1).trans HO.out.1) ((hb.block _ (Array.getElem?_eq_some_iff.1 HO.out.2).1).trans HO.out.2)); have n0 := Lib.cell_of_heap HO2.out.1 0; have n1 := Lib.cell_of_heap HO2.out.1 1; have n2 := Lib.cell_of_heap HO2.out.1 2; have n3 := Lib.cell_of_heap HO2.out.1 3; have n4 := Lib.cell_of_heap HO2.out.1 4; have q0 := Lib.cell_of_heap HO2.out.2 0; have q1 := Lib.cell_of_heap HO2.out.2 1; have q2 := Lib.cell_of_heap HO2.out.2 2; have q3 := Lib.cell_of_heap HO2.out.2 3; have q4 := Lib.cell_of_heap HO2.out.2 4; clear hb) | (go_at_call 45; refine (lift_goes.calls A0_0 c0_0 l0_0 A0_1 c0_1 l0_1 A0_2 c0_2 l0_2 A0_3 c0_3 l0_3 A0_4 c0_4 l0_4 a1_0 A1_1 c1_1 l1_1 A1_2 c1_2 l1_2 A1_3 c1_3 l1_3 A1_4 c1_4 l1_4 false _ (tab_below HG.out HB.out) (Kd.C_below H0.out.1 HB.out) H0.out.2 (Kd.C_below H1.out.1 HB.out) H1.out.2 (Kd.C_below H2.out.1 HB.out) H2.out.2 (Kd.C_below H3.out.1 HB.out) H3.out.2 (Kd.C_below H4.out.1 HB.out) H4.out.2 (Kd.C_below K1.out.1 HB.out) K1.out.2 (Kd.C_below K2.out.1 HB.out) K2.out.2 (Kd.C_below K3.out.1 HB.out) K3.out.2 (Kd.C_below K4.out.1 HB.out) K4.out.2 HGF.out).mono ?_; rintro e w3 ⟨rfl, hb3⟩))
        go_ret
        exact ⟨by rw [HRE.out]; rfl, below_step HB.out hb3⟩
      · rw [hV] at HGF
        have HRE := Aside0.mk (show r = ⟨(if l2 = [] then [102, 97, 108, 115, 101] else if l2.all (litOk l1_3.length) = true then joinB (l2.map (wordB l0_2 l1_3)) barB else []).toArray⟩ by rw [← HF.out]; unfold clauseB; rw [if_pos ⟨hU, hV⟩])
        have HGM := Aside0.mk (goesFrom_mem _ _ _ _ hV)
        clear hU hV
        by_cases hn : l2 = []
        · subst hn
          have HRF := Aside0.mk (show r = ⟨#[102, 97, 108, 115, 101]⟩ by rw [HRE.out, if_pos rfl])
          have h0 : ((([] : List Int).length : Int) == 0) = true := rfl
          go_enter Tryz.func16, Tryz.ntmps16
          go_wp2_with (first | (go_at_call 28; refine (lift_named.calls A0_0 c0_0 l0_0 A0_1 c0_1 l0_1 A0_2 c0_2 l0_2 A0_3 c0_3 l0_3 A0_4 c0_4 l0_4 true _ (tab_below HG.out HB2.out) (Kd.C_below H0.out.1 HB2.out) H0.out.2 (Kd.C_below H1.out.1 HB2.out) H1.out.2 (Kd.C_below H2.out.1 HB2.out) H2.out.2 (Kd.C_below H3.out.1 HB2.out) H3.out.2 (Kd.C_below H4.out.1 HB2.out) H4.out.2 HNF.out).mono ?_; rintro e w' ⟨rfl, hb⟩; have HB := Aside0.mk (below_step HB2.out hb); have HO2 := Aside0.mk (And.intro ((hb.block _ (Array.getElem?_eq_some_iff.1 HO.out.1).1).trans HO.out.1) ((hb.block _ (Array.getElem?_eq_some_iff.1 HO.out.2).1).trans HO.out.2)); have n0 := Lib.cell_of_heap HO2.out.1 0; have n1 := Lib.cell_of_heap HO2.out.1 1; have n2 := Lib.cell_of_heap HO2.out.1 2; have n3 := Lib.cell_of_heap HO2.out.1 3; have n4 := Lib.cell_of_heap HO2.out.1 4; have q0 := Lib.cell_of_heap HO2.out.2 0; have q1 := Lib.cell_of_heap HO2.out.2 1; have q2 := Lib.cell_of_heap HO2.out.2 2; have q3 := Lib.cell_of_heap HO2.out.2 3; have q4 := Lib.cell_of_heap HO2.out.2 4; clear hb) | (go_at_call 45; refine (lift_goes.calls A0_0 c0_0 l0_0 A0_1 c0_1 l0_1 A0_2 c0_2 l0_2 A0_3 c0_3 l0_3 A0_4 c0_4 l0_4 a1_0 A1_1 c1_1 l1_1 A1_2 c1_2 l1_2 A1_3 c1_3 l1_3 A1_4 c1_4 l1_4 true _ (tab_below HG.out HB.out) (Kd.C_below H0.out.1 HB.out) H0.out.2 (Kd.C_below H1.out.1 HB.out) H1.out.2 (Kd.C_below H2.out.1 HB.out) H2.out.2 (Kd.C_below H3.out.1 HB.out) H3.out.2 (Kd.C_below H4.out.1 HB.out) H4.out.2 (Kd.C_below K1.out.1 HB.out) K1.out.2 (Kd.C_below K2.out.1 HB.out) K2.out.2 (Kd.C_below K3.out.1 HB.out) K3.out.2 (Kd.C_below K4.out.1 HB.out) K4.out.2 HGF.out).mono ?_; rintro e w3 ⟨rfl, hb3⟩))
          go_ret
          exact ⟨by rw [HRF.out]; rfl, below_step HB.out hb3⟩
        · have hn0 : l2.length ≠ 0 := fun e => hn (List.eq_nil_of_length_eq_zero e)
          have h0 : ((l2.length : Int) == 0) = false := beq_eq_false_iff_ne.mpr (by omega)
          have h02 : (l2.length == 0) = false := beq_eq_false_iff_ne.mpr hn0
          have h03 : ¬ l2 = [] := hn
          have HRF := Aside0.mk (show r = ⟨(if l2.all (litOk l1_3.length) = true then joinB (l2.map (wordB l0_2 l1_3)) barB else []).toArray⟩ by rw [HRE.out, if_neg hn])
          clear hn
          go_enter Tryz.func16, Tryz.ntmps16
          go_wp2_with (first | (go_at_call 28; refine (lift_named.calls A0_0 c0_0 l0_0 A0_1 c0_1 l0_1 A0_2 c0_2 l0_2 A0_3 c0_3 l0_3 A0_4 c0_4 l0_4 true _ (tab_below HG.out HB2.out) (Kd.C_below H0.out.1 HB2.out) H0.out.2 (Kd.C_below H1.out.1 HB2.out) H1.out.2 (Kd.C_below H2.out.1 HB2.out) H2.out.2 (Kd.C_below H3.out.1 HB2.out) H3.out.2 (Kd.C_below H4.out.1 HB2.out) H4.out.2 HNF.out).mono ?_; rintro e w' ⟨rfl, hb⟩; have HB := Aside0.mk (below_step HB2.out hb); have HO2 := Aside0.mk (And.intro ((hb.block _ (Array.getElem?_eq_some_iff.1 HO.out.1).1).trans HO.out.1) ((hb.block _ (Array.getElem?_eq_some_iff.1 HO.out.2).1).trans HO.out.2)); have n0 := Lib.cell_of_heap HO2.out.1 0; have n1 := Lib.cell_of_heap HO2.out.1 1; have n2 := Lib.cell_of_heap HO2.out.1 2; have n3 := Lib.cell_of_heap HO2.out.1 3; have n4 := Lib.cell_of_heap HO2.out.1 4; have q0 := Lib.cell_of_heap HO2.out.2 0; have q1 := Lib.cell_of_heap HO2.out.2 1; have q2 := Lib.cell_of_heap HO2.out.2 2; have q3 := Lib.cell_of_heap HO2.out.2 3; have q4 := Lib.cell_of_heap HO2.out.2 4; clear hb) | (go_at_call 45; refine (lift_goes.calls A0_0 c0_0 l0_0 A0_1 c0_1 l0_1 A0_2 c0_2 l0_2 A0_3 c0_3 l0_3 A0_4 c0_4 l0_4 a1_0 A1_1 c1_1 l1_1 A1_2 c1_2 l1_2 A1_3 c1_3 l1_3 A1_4 c1_4 l1_4 true _ (tab_below HG.out HB.out) (Kd.C_below H0.out.1 HB.out) H0.out.2 (Kd.C_below H1.out.1 HB.out) H1.out.2 (Kd.C_below H2.out.1 HB.out) H2.out.2 (Kd.C_below H3.out.1 HB.out) H3.out.2 (Kd.C_below H4.out.1 HB.out) H4.out.2 (Kd.C_below K1.out.1 HB.out) K1.out.2 (Kd.C_below K2.out.1 HB.out) K2.out.2 (Kd.C_below K3.out.1 HB.out) K3.out.2 (Kd.C_below K4.out.1 HB.out) K4.out.2 HGF.out).mono ?_; rintro e w3 ⟨rfl, hb3⟩))
          have HO3 := Aside0.mk (And.intro ((hb3.block _ (Array.getElem?_eq_some_iff.1 HO2.out.1).1).trans HO2.out.1) ((hb3.block _ (Array.getElem?_eq_some_iff.1 HO2.out.2).1).trans HO2.out.2))
          have HB3 := Aside0.mk (below_step HB.out hb3)
          clear n0 n1 n2 n3 n4 q0 q1 q2 q3 q4 hb3 HB HO HO2 HB2 h0 h02 h03 HNF HGF
          try simp only [Act.put, List.setIfInBounds_toArray, List.set_cons_succ, List.set_cons_zero]
          go_loopg [7, 26] l2.length (fun kq v7 v26 wr => ∃ (k : Nat) (ws : List ByteArray), v26 = .int .i64 k ∧ k ≤ l2.length ∧ Aside0 (kq = l2.length - k) ∧ Aside0 (ws = (l2.take k).map (wordB l0_2 l1_3)) ∧ Aside0 ((l2.take k).all (litOk l1_3.length) = true) ∧ Aside0 (Kd.R Kd.string 9 wr w3.heap.size (fun _ => True) v7 ws) ∧ Aside0 (Below w3.heap.size w3 wr))
          case atStart => exact ⟨0, [], rfl, by omega, ⟨by omega⟩, ⟨by simp⟩, ⟨rfl⟩, ⟨Kd.R_nil _ _ _ _ _⟩, ⟨Below.refl _ _⟩⟩
          case round =>
            obtain ⟨k, ws, rfl, hk, HQ, HW, HA, HO, HB⟩ := hrel
            have HWL := Aside0.mk (show ws.length ≤ 10000 by rw [HW.out]; simp; omega)
            by_cases hlt : k < l2.length
            · have hi0 : 0 ≤ (k : Int) := by omega
              have hi1 : (k : Int) < l2.length := by omega
              obtain ⟨ad, e, x0⟩ := Kd.at_int (Kd.C_below HR2.out (below_step HB3.out HB.out)) k hi0 hi1
              cases e
              have hto : (k : Int).toNat = k := by omega
              simp only [hto] at x0
              clear hto
              generalize hxv : rd l2 (k : Int) = xv at x0
              have HXV := Aside0.mk (show l2[k] = xv by rw [← hxv]; simp [rd, hlt])
              clear hxv
              obtain ⟨mg, hmg⟩ : ∃ mg : Int, magI xv = mg := ⟨_, rfl⟩
              have HMG := Aside0.mk hmg
              clear hmg
              go_upto_region 9 with fail
              go_cut [10] (fun v10 wx => v10 = .int .i64 mg ∧ wx = wr)
              case first =>
                by_cases hmx : xv < wrap64 (-xv)
                · have HE := Aside0.mk (show wrap64 (-xv) = mg by rw [← HMG.out]; unfold magI mx; rw [if_pos hmx])
                  go_wp2_with fail
                  go_meet
                  exact ⟨by rw [← HE.out], rfl⟩
                · have HE := Aside0.mk (show xv = mg by rw [← HMG.out]; unfold magI mx; rw [if_neg hmx])
                  go_wp2_with fail
                  go_meet
                  exact ⟨by rw [← HE.out], rfl⟩
              case rest =>
              obtain ⟨rfl, rfl⟩ := hcut
              have y2 := Lib.cell_of_heap ((HB.out.block _ (Array.getElem?_eq_some_iff.1 HO3.out.2).1).trans HO3.out.2) 3
              by_cases hok : litOk l1_3.length xv = true
              · have hok' := hok
                simp only [litOk, decide_eq_true_eq] at hok'
                rw [HMG.out] at hok'
                have HOK := Aside0.mk hok
                clear hok
                obtain ⟨m, rfl⟩ : ∃ m : Nat, mg = (m : Int) + 1 := ⟨(mg - 1).toNat, by omega⟩
                obtain ⟨g1, g2⟩ := hok'
                have hm0 : 0 ≤ (m : Int) := by omega
                have hm1 : (m : Int) < l1_3.length := by omega
                obtain ⟨adl, el, z0, z1, z2, z3, z4⟩ := at_T94 K3.out.1 (m : Int) hm0 hm1
                cases el
                have hto : (m : Int).toNat = m := by omega
                simp only [hto] at z0 z1 z2 z3 z4
                clear hto
                have hrm : rd_T94 l1_3 (magI xv - 1) = rd_T94 l1_3 (m : Int) := by rw [HMG.out]; congr 1; omega
                have hmem := rdL_mem HOK.out
                rw [hrm] at hmem
                have HRM := Aside0.mk hrm
                clear hrm
                generalize rd_T94 l1_3 (m : Int) = y at z0 z1 z2 z3 z4 HRM hmem
                have hgm := HGM.out y hmem
                have hwy := List.all_eq_true.1 HLW.out y hmem
                have hnm : (rd_T114 l0_2 y.f3).f0.size ≤ 10000 := by
                  have hq : y.f3.toNat < l0_2.length := by omega
                  unfold rd_T114
                  rw [List.getD_eq_getElem?_getD, List.getElem?_eq_getElem hq]
                  exact HCN.out _ (List.getElem_mem hq)
                have HLF := Aside0.mk (show lift_lit.f l0_0 l0_1 l0_2 l0_3 l0_4 y.f0 y.f1 y.f2 y.f3 y.f4 = some (litB l0_2 y.f3 y.f4) by unfold lift_lit.f; rw [if_pos ⟨⟨hgm.2.1, hgm.2.2⟩, hnm, hwy⟩])
                have hls := litB_size l0_2 y.f3 y.f4 HCN.out hwy
                have HWB := Aside0.mk (show wordB l0_2 l1_3 xv = if xv < 0 then (⟨#[126]⟩ : ByteArray) ++ litB l0_2 y.f3 y.f4 else litB l0_2 y.f3 y.f4 by unfold wordB; rw [HRM.out])
                generalize litB l0_2 y.f3 y.f4 = s at HLF hls HWB
                have zs : (9223372036854775807 < 1 + s.size) = False := eq_false (by omega)
                have TS := Aside0.mk (show ∀ w' : World, Below w3.heap.size w3 w' → (w'.cell? ⟨w.heap.size, 0, none⟩ = some (.slice A0_0 l0_0.length c0_0) ∧ w'.cell? ⟨w.heap.size, 1, none⟩ = some (.slice A0_1 l0_1.length c0_1) ∧ w'.cell? ⟨w.heap.size, 2, none⟩ = some (.slice A0_2 l0_2.length c0_2) ∧ w'.cell? ⟨w.heap.size, 3, none⟩ = some (.slice A0_3 l0_3.length c0_3) ∧ w'.cell? ⟨w.heap.size, 4, none⟩ = some (.slice A0_4 l0_4.length c0_4) ∧ w'.cell? ⟨w.heap.size + 1, 3, none⟩ = some (.slice (some adl) l1_3.length c1_3) ∧ w'.cell? (adl.add (m * 5)) = some (.int .i64 y.f0) ∧ w'.cell? ⟨(adl.add (m * 5)).block, (adl.add (m * 5)).off + 1, none⟩ = some (.int .i64 y.f1) ∧ w'.cell? ⟨(adl.add (m * 5)).block, (adl.add (m * 5)).off + 2, none⟩ = some (.bool y.f2) ∧ w'.cell? ⟨(adl.add (m * 5)).block, (adl.add (m * 5)).off + 3, none⟩ = some (.int .i64 y.f3) ∧ w'.cell? ⟨(adl.add (m * 5)).block, (adl.add (m * 5)).off + 4, none⟩ = some (.int .i64 y.f4)) from fun w' q2 => ⟨Lib.cell_of_heap ((q2.block _ (Array.getElem?_eq_some_iff.1 HO3.out.1).1).trans HO3.out.1) 0, Lib.cell_of_heap ((q2.block _ (Array.getElem?_eq_some_iff.1 HO3.out.1).1).trans HO3.out.1) 1, Lib.cell_of_heap ((q2.block _ (Array.getElem?_eq_some_iff.1 HO3.out.1).1).trans HO3.out.1) 2, Lib.cell_of_heap ((q2.block _ (Array.getElem?_eq_some_iff.1 HO3.out.1).1).trans HO3.out.1) 3, Lib.cell_of_heap ((q2.block _ (Array.getElem?_eq_some_iff.1 HO3.out.1).1).trans HO3.out.1) 4, Lib.cell_of_heap ((q2.block _ (Array.getElem?_eq_some_iff.1 HO3.out.2).1).trans HO3.out.2) 3, pw_cell_below (below_step HB3.out q2) z0, pw_cell_below (below_step HB3.out q2) z1, pw_cell_below (below_step HB3.out q2) z2, pw_cell_below (below_step HB3.out q2) z3, pw_cell_below (below_step HB3.out q2) z4⟩)
                clear hgm hwy hnm hls hmem z0 z1 z2 z3 z4
                go_wp2
                clear y2
                have n1 := Aside0.mk (Kd.R_below HO.out (below_drew (Below.refl _ _)))
                have n2 := Aside0.mk (below_drew HB.out)
                clear HO HB
                have HO := n1
                have HB := n2
                clear n1 n2
                have HT := Aside0.mk (tab_below HG.out (below_step HB3.out HB.out))
                have hwm : IntKind.i64.wrap ((m : Int) + 1 - 1) = (m : Int) := by rw [IntKind.wrap_i64]; omega
                have hwm2 : wrap64 ((m : Int) + 1 - 1) = (m : Int) := by unfold wrap64; omega
                have hwm3 : IntKind.i64.wrap (m : Int) = (m : Int) := by rw [IntKind.wrap_i64]; omega
                have hwm4 : wrap64 (m : Int) = (m : Int) := by unfold wrap64; omega
                have hwm5 : (m : Int) + 1 - 1 = (m : Int) := by omega
                go_region_held3 (fun w' => w'.cell? ⟨w.heap.size, 0, none⟩ = some (.slice A0_0 l0_0.length c0_0) ∧ w'.cell? ⟨w.heap.size, 1, none⟩ = some (.slice A0_1 l0_1.length c0_1) ∧ w'.cell? ⟨w.heap.size, 2, none⟩ = some (.slice A0_2 l0_2.length c0_2) ∧ w'.cell? ⟨w.heap.size, 3, none⟩ = some (.slice A0_3 l0_3.length c0_3) ∧ w'.cell? ⟨w.heap.size, 4, none⟩ = some (.slice A0_4 l0_4.length c0_4) ∧ w'.cell? ⟨w.heap.size + 1, 3, none⟩ = some (.slice (some adl) l1_3.length c1_3) ∧ w'.cell? (adl.add (m * 5)) = some (.int .i64 y.f0) ∧ w'.cell? ⟨(adl.add (m * 5)).block, (adl.add (m * 5)).off + 1, none⟩ = some (.int .i64 y.f1) ∧ w'.cell? ⟨(adl.add (m * 5)).block, (adl.add (m * 5)).off + 2, none⟩ = some (.bool y.f2) ∧ w'.cell? ⟨(adl.add (m * 5)).block, (adl.add (m * 5)).off + 3, none⟩ = some (.int .i64 y.f3) ∧ w'.cell? ⟨(adl.add (m * 5)).block, (adl.add (m * 5)).off + 4, none⟩ = some (.int .i64 y.f4)) (exact TS.out _ HB.out) (first | (go_at_call 46; refine (lift_lit.calls A0_0 c0_0 l0_0 A0_1 c0_1 l0_1 A0_2 c0_2 l0_2 A0_3 c0_3 l0_3 A0_4 c0_4 l0_4 y.f0 y.f1 y.f2 y.f3 y.f4 s _ HT.out (Kd.C_below H0.out.1 (below_step HB3.out HB.out)) H0.out.2 (Kd.C_below H1.out.1 (below_step HB3.out HB.out)) H1.out.2 (Kd.C_below H2.out.1 (below_step HB3.out HB.out)) H2.out.2 (Kd.C_below H3.out.1 (below_step HB3.out HB.out)) H3.out.2 (Kd.C_below H4.out.1 (below_step HB3.out HB.out)) H4.out.2 HLF.out).mono ?_; rintro e w' ⟨rfl, hb⟩; have n1 := Aside0.mk (Kd.R_below HO.out hb); have n2 := Aside0.mk (below_step HB.out hb); clear HO HB HT hb; have HO := n1; have HB := n2; clear n1 n2))
                by_cases hx : xv < 0
                · have HWV := Aside0.mk (show wordB l0_2 l1_3 xv = (⟨#[126]⟩ : ByteArray) ++ s by rw [HWB.out, if_pos hx])
                  go_wp2_with (first | ((with_reducible refine gate_dst (N := 58) rfl ?_); refine Kd.R_append Kd.string (w0 := w3) w3.heap.size rfl (.tmp 55) (.tmp 57) 77 9 (.string ⟨#[]⟩) 16 rfl Tryz.underlying77 infoStr rfl (by decide) (by omega) u7 ws ((⟨#[126]⟩ : ByteArray) ++ s) [.string ((⟨#[126]⟩ : ByteArray) ++ s)] (fun _ => True) (fun _ => False) rfl (by first | (go_simp; done) | (go_simp; rfl)) ?aP (fun _ hk => hk.elim) (fun _ _ => trivial) ?aO ?aB ?aS ?aL ?_; (case aP => rfl); (case aO => exact HO.out); (case aB => exact HB.out); (case aS => exact below_size HB.out); (case aL => have := HWL.out; omega); intro v2 w2 hR hB hg hat; have n0 := Aside0.mk hR; have n1 := Aside0.mk hB; clear HO HB hR hB hg hat; have HO := n0; have HB := n1; clear n0 n1))
                  go_roundg (l2.length - (k + 1))
                  case measure => have h8 := HQ.out; omega
                  case rel => exact ⟨k + 1, ws ++ [(⟨#[126]⟩ : ByteArray) ++ s], by go_num, by omega, ⟨rfl⟩, ⟨by rw [HW.out, List.take_add_one, List.getElem?_eq_getElem hlt, List.map_append, HXV.out, ← HWV.out]; rfl⟩, ⟨all_take_snoc hlt HA.out (by rw [HXV.out]; exact HOK.out)⟩, HO, HB⟩
                · have HWV := Aside0.mk (show wordB l0_2 l1_3 xv = s by rw [HWB.out, if_neg hx])
                  go_wp2_with (first | ((with_reducible refine gate_dst (N := 58) rfl ?_); refine Kd.R_append Kd.string (w0 := w3) w3.heap.size rfl (.tmp 55) (.tmp 57) 77 9 (.string ⟨#[]⟩) 16 rfl Tryz.underlying77 infoStr rfl (by decide) (by omega) u7 ws (s) [.string (s)] (fun _ => True) (fun _ => False) rfl (by first | (go_simp; done) | (go_simp; rfl)) ?aP (fun _ hk => hk.elim) (fun _ _ => trivial) ?aO ?aB ?aS ?aL ?_; (case aP => rfl); (case aO => exact HO.out); (case aB => exact HB.out); (case aS => exact below_size HB.out); (case aL => have := HWL.out; omega); intro v2 w2 hR hB hg hat; have n0 := Aside0.mk hR; have n1 := Aside0.mk hB; clear HO HB hR hB hg hat; have HO := n0; have HB := n1; clear n0 n1))
                  go_roundg (l2.length - (k + 1))
                  case measure => have h8 := HQ.out; omega
                  case rel => exact ⟨k + 1, ws ++ [s], by go_num, by omega, ⟨rfl⟩, ⟨by rw [HW.out, List.take_add_one, List.getElem?_eq_getElem hlt, List.map_append, HXV.out, ← HWV.out]; rfl⟩, ⟨all_take_snoc hlt HA.out (by rw [HXV.out]; exact HOK.out)⟩, HO, HB⟩
              · have hok2 : litOk l1_3.length xv = false := by simpa using hok
                have HRE2 := Aside0.mk (show r = ⟨#[]⟩ by rw [HRF.out, if_neg (by rw [all_take_false hlt (by rw [HXV.out]; exact hok2)]; simp)])
                simp only [litOk, decide_eq_true_eq] at hok
                rw [HMG.out] at hok
                clear hok2
                have HBE := Aside0.mk (below_step HB3.out HB.out)
                by_cases h1 : mg < 1
                · clear hok
                  go_wp2
                  go_ret
                  exact ⟨by rw [HRE2.out]; rfl, HBE.out⟩
                · have h2 : (l1_3.length : Int) < mg := by omega
                  clear hok
                  go_wp2
                  go_ret
                  exact ⟨by rw [HRE2.out]; rfl, HBE.out⟩
            · obtain rfl : k = l2.length := by omega
              have hall : l2.all (litOk l1_3.length) = true := by have := HA.out; rwa [List.take_length] at this
              have hws : ws = l2.map (wordB l0_2 l1_3) := by have := HW.out; rwa [List.take_length] at this
              have hjl : (joinB ws barB).length ≤ 140737488355328 := by
                rw [hws]
                have := join_len barB.data.toList 10024 ((l2.map (wordB l0_2 l1_3)).map (·.data.toList)) (fun z hz => by
                  obtain ⟨b, hb, rfl⟩ := List.mem_map.1 hz
                  obtain ⟨x, hx, rfl⟩ := List.mem_map.1 hb
                  have := wordB_size l0_2 l1_3 x HCN.out HLW.out (List.all_eq_true.1 hall x hx)
                  simpa using this)
                have e : barB.data.toList.length = 3 := rfl
                rw [e] at this
                simp only [List.length_map] at this
                unfold joinB
                omega
              have HJ := Aside0.mk (show strings_Join.f ws (⟨#[32, 124, 32]⟩ : ByteArray) = some r by
                unfold strings_Join.f
                rw [if_pos ⟨by have := HWL.out; omega, hjl⟩, HRF.out, if_pos hall, hws]
                rfl)
              clear hall hws hjl
              obtain ⟨AA, cc, hv⟩ := Kd.R_slice HO.out
              subst hv
              have HOC := Aside0.mk (R_C HO.out)
              have HT := Aside0.mk (tab_below HG.out (below_step HB3.out HB.out))
              go_wp2_with (first | (go_at_call 50; refine (strings_Join.calls AA cc ws _ r _ HT.out HOC.out.2 HOC.out.1 HJ.out).mono ?_; rintro e w' ⟨rfl, hb⟩))
              go_ret
              exact ⟨rfl, below_step HB3.out (below_step HB.out hb)⟩
  · rw [if_neg hb] at h; exact absurd h (by simp)
end Go.Proofs.YtmfekngjhiofaaaGreatDoor.Q
