/-
  HAND: lift.number, lift.Back with its closures, lift.each at rows.
-/
import Derived.Test.YtmfekngjhiofaaaGreatDoorQx0
import Derived.Test.YtmfekngjhiofaaaGreatDoorHLits
import Derived.Test.YtmfekngjhiofaaaGreatDoorShelfC
import Derived.Lib.AtoiAll
set_option linter.unusedVariables false
set_option linter.unusedSimpArgs false
namespace Go.Proofs.YtmfekngjhiofaaaGreatDoor.Q
open Go.RowKit Go.Maps Go.WideMaps Go.Proofs.YtmfekngjhiofaaaGreatDoorW.PrintWords Go.Proofs.YtmfekngjhiofaaaGreatDoorW.PrintLast Go.Proofs.YtmfekngjhiofaaaGreatDoorW.PrintMore
/-- strconv.Atoi's end, without an error's name -/
def atoiV (s : ByteArray) : Option Int := match Lib.atoiAll s.data.toList with
  | .ok v => some v
  | _ => none
theorem atoi_calls (s : ByteArray) (w : World) (hE : ErrTab w) (hs : s.size ≤ 281474976710656) :
    Calls Tryz.prog 68 #[.string s] w fun e w' => (∀ v, atoiV s = some v → e = .returned (.tuple #[.int .i64 v, .nilIface])) ∧ (atoiV s = none → ∃ n te pe, e = .returned (.tuple #[.int .i64 n, .iface te pe])) ∧ Below w.heap.size w w' := by
  cases h : Lib.atoiAll s.data.toList with
  | ok v =>
    have ha : atoiV s = some v := by unfold atoiV; rw [h]
    refine (Tryz.strconv_Atoi_ok s (by omega) v h w).mono ?_
    rintro e w1 ⟨rfl, hw⟩
    refine ⟨fun v' hv => ?_, fun hn => ?_, ?_⟩
    · rw [ha] at hv; rw [Option.some.inj hv]
    · rw [ha] at hn; cases hn
    · rcases hw with rfl | ⟨t, rfl⟩
      · exact Below.refl _ _
      · exact Lib.bytesWorld_below w 5 t
  | range =>
    have ha : atoiV s = none := by unfold atoiV; rw [h]
    obtain ⟨ev, h1, h2⟩ := hE.2
    refine (Tryz.strconv_Atoi_range s hs h ev w h1 h2).mono ?_
    rintro e w1 ⟨N, rfl, _, _, hb⟩
    exact ⟨(fun v' hv => by rw [ha] at hv; cases hv), (fun _ => ⟨_, _, _, rfl⟩), hb⟩
  | _ =>
    have ha : atoiV s = none := by unfold atoiV; rw [h]
    obtain ⟨ev, h1, h2⟩ := hE.1
    refine (Any.strconv_Atoi_syntax Tryz.laysC172 s hs h ev w h1 h2).mono ?_
    rintro e w1 ⟨N, rfl, _, _, hb⟩
    exact ⟨(fun v' hv => by rw [ha] at hv; cases hv), (fun _ => ⟨_, _, _, rfl⟩), hb⟩
theorem atoiV_wf {s : ByteArray} {v : Int} (h : atoiV s = some v) : -9223372036854775808 ≤ v ∧ v ≤ 9223372036854775807 := by
  unfold atoiV at h
  split at h
  · rename_i u hu
    obtain rfl := Option.some.inj h
    unfold Lib.atoiAll at hu
    split at hu
    · cases hu
    · simp only at hu
      split at hu
      · cases hu
      · cases hu
      · rename_i q hq
        split at hu
        · cases hu
        · split at hu
          · cases hu
          · cases hu
            split <;> omega
  · cases h
theorem ba_list0 {a b : ByteArray} (h : a.data.toList = b.data.toList) : a = b := by
  cases a; cases b; congr 1; exact Array.toList_inj.1 h
def numOk (s : ByteArray) : Bool := match atoiV s with
  | some v => decide (0 ≤ v) && decide (v ≤ 65535) && ((numB v).toList == s.toList)
  | none => false
def numV (s : ByteArray) : Int := (atoiV s).getD 0
set_option maxHeartbeats 4000000 in
set_option maxRecDepth 100000 in
theorem number_calls (s : ByteArray) (w : World) (hG : Tab w) (hE : ErrTab w) (hs : s.size ≤ 281474976710656) :
    Calls Tryz.prog 37 #[.string s] w fun e w' => ∃ n : Int, e = .returned (.tuple #[.int .i64 n, .bool (numOk s)]) ∧ (numOk s = true → n = numV s) ∧ Below w.heap.size w w' := by
  have HG := Aside0.mk hG
  have HAT := Aside0.mk (atoi_calls s w hE hs)
  clear hG hE
  cases ha : atoiV s with
  | none =>
    have hok : numOk s = false := by unfold numOk; rw [ha]
    have HOK := Aside0.mk hok
    have HA := Aside0.mk ha
    clear ha hok
    go_enter Tryz.func37, Tryz.ntmps37
    go_wp2_with (first | (go_at_call 68; refine HAT.out.mono ?_; rintro e w1 ⟨_, h2, hb⟩; obtain ⟨n, te, pe, rfl⟩ := h2 HA.out; have HB := Aside0.mk hb; clear h2 hb))
    go_ret2
    exact ⟨_, by rw [HOK.out]; rfl, (fun h => by rw [HOK.out] at h; cases h), HB.out⟩
  | some v =>
    have hv := atoiV_wf ha
    have HOK := Aside0.mk (show numOk s = (decide (0 ≤ v) && decide (v ≤ 65535) && ((numB v).toList == s.toList)) by unfold numOk; rw [ha])
    have HVV := Aside0.mk (show numV s = v by unfold numV; rw [ha]; rfl)
    have HA := Aside0.mk ha
    have HWF := Aside0.mk (wf_of v hv.1 hv.2)
    clear ha
    by_cases h0 : 0 ≤ v
    · by_cases h1 : v ≤ 65535
      · have d0 : decide (0 ≤ v) = true := decide_eq_true h0
        have d1 : decide (v ≤ 65535) = true := decide_eq_true h1
        cases hq : ((numB v).toList == s.toList)
        · have HOK2 := Aside0.mk (show numOk s = false by rw [HOK.out, hq, Bool.and_false])
          have hbe : ((numB v).toList == s.toList) = false := hq
          have hne : ¬ (numB v).toList = s.toList := beq_eq_false_iff_ne.1 hbe
          clear hq
          go_enter Tryz.func37, Tryz.ntmps37
          go_wp2_with (first | (go_at_call 68; refine HAT.out.mono ?_; rintro e w1 ⟨h2, _, hb⟩; obtain rfl := h2 v HA.out; have HB := Aside0.mk hb; clear h2 hb) | (go_at_call 33; refine (strconv_Itoa.calls _ (numB v) _ (tab_below HG.out HB.out) (itoa_f _ HWF.out)).mono ?_; rintro e w2 ⟨rfl, hb⟩; have n2 := Aside0.mk (below_step HB.out hb); clear HB hb; have HB := n2; clear n2))
          go_ret2
          exact ⟨_, by rw [HOK2.out]; rfl, (fun h => by rw [HOK2.out] at h; cases h), HB.out⟩
        · have HOK2 := Aside0.mk (show numOk s = true by rw [HOK.out, hq, d0, d1]; rfl)
          have hbe : ((numB v).toList == s.toList) = true := hq
          have heq : (numB v).toList = s.toList := beq_iff_eq.1 hbe
          clear hq
          go_enter Tryz.func37, Tryz.ntmps37
          go_wp2_with (first | (go_at_call 68; refine HAT.out.mono ?_; rintro e w1 ⟨h2, _, hb⟩; obtain rfl := h2 v HA.out; have HB := Aside0.mk hb; clear h2 hb) | (go_at_call 33; refine (strconv_Itoa.calls _ (numB v) _ (tab_below HG.out HB.out) (itoa_f _ HWF.out)).mono ?_; rintro e w2 ⟨rfl, hb⟩; have n2 := Aside0.mk (below_step HB.out hb); clear HB hb; have HB := n2; clear n2))
          go_ret2
          exact ⟨_, by rw [HOK2.out]; rfl, (fun _ => HVV.out.symm), HB.out⟩
      · have d0 : decide (0 ≤ v) = true := decide_eq_true h0
        have d1 : decide (v ≤ 65535) = false := decide_eq_false h1
        have HOK2 := Aside0.mk (show numOk s = false by rw [HOK.out, d1, Bool.and_false, Bool.false_and])
        clear h1
        go_enter Tryz.func37, Tryz.ntmps37
        go_wp2_with (first | (go_at_call 68; refine HAT.out.mono ?_; rintro e w1 ⟨h2, _, hb⟩; obtain rfl := h2 v HA.out; have HB := Aside0.mk hb; clear h2 hb))
        go_ret2
        exact ⟨_, by rw [HOK2.out]; rfl, (fun h => by rw [HOK2.out] at h; cases h), HB.out⟩
    · have d0 : decide (0 ≤ v) = false := decide_eq_false h0
      have HOK2 := Aside0.mk (show numOk s = false by rw [HOK.out, d0, Bool.false_and, Bool.false_and])
      clear h0
      go_enter Tryz.func37, Tryz.ntmps37
      go_wp2_with (first | (go_at_call 68; refine HAT.out.mono ?_; rintro e w1 ⟨h2, _, hb⟩; obtain rfl := h2 v HA.out; have HB := Aside0.mk hb; clear h2 hb))
      go_ret2
      exact ⟨_, by rw [HOK2.out]; rfl, (fun h => by rw [HOK2.out] at h; cases h), HB.out⟩
/-! ### a pin's piece -/
def eqB (nm : ByteArray) : ByteArray := nm ++ (⟨#[61]⟩ : ByteArray)
def cutR' (p pre : ByteArray) : ByteArray := ⟨(Lib.trimPrefix p.data.toList pre.data.toList).toArray⟩
def cutOk (p pre : ByteArray) : Bool := Lib.hasPrefix p.data.toList pre.data.toList
def cellOk (names : List ByteArray) (k : Nat) (p : ByteArray) : Bool := match names[k]? with
  | some nm => cutOk p (eqB nm) && numOk (cutR' p (eqB nm))
  | none => false
def cellV (names : List ByteArray) (k : Nat) (p : ByteArray) : Int := match names[k]? with
  | some nm => numV (cutR' p (eqB nm))
  | none => 0
theorem cutR'_size (p pre : ByteArray) : (cutR' p pre).size ≤ p.size := by
  have e : p.data.toList.length = p.size := by simp
  show (Lib.trimPrefix p.data.toList pre.data.toList).toArray.size ≤ _
  rw [List.size_toArray]
  unfold Lib.trimPrefix
  split
  · rw [List.length_drop]; omega
  · omega
theorem cut_calls (p pre rest : ByteArray) (ok : Bool) (w : World) (h1 : cutR' p pre = rest) (h2 : cutOk p pre = ok) :
    Calls Tryz.prog 34 #[.string p, .string pre] w fun e w' => e = .returned (.tuple #[.string rest, .bool ok]) ∧ w' = w := by
  subst h1; subst h2
  exact Tryz.strings_CutPrefix p pre w
set_option maxHeartbeats 4000000 in
set_option maxRecDepth 100000 in
theorem cell_calls (k : Nat) (p : ByteArray) (b : Nat) (A : Option Addr) (c : Nat) (l : List S72) (w : World) (hG : Tab w) (hE : ErrTab w) (hp : p.size ≤ 281474976710656) (hk : k ≤ 1000000000) (hc : w.cell? ⟨b, 1, none⟩ = some (.slice A l.length c)) (hC : Kd.C k72 w A l.length l) (hn : ∀ x ∈ l, x.f0.size ≤ 10000) :
    Calls Tryz.prog 36 #[.int .i64 k, .string p, .pointer (some ⟨b, 0, none⟩)] w fun e w' => ∃ n : Int, e = .returned (.tuple #[.int .i64 n, .bool (cellOk (l.map (·.f0)) k p)]) ∧ (cellOk (l.map (·.f0)) k p = true → n = cellV (l.map (·.f0)) k p) ∧ Below w.heap.size w w' := by
  have hll : l.length ≤ 9223372036854775807 := hC.2.1
  have HG := Aside0.mk hG
  have HE := Aside0.mk hE
  clear hG hE
  by_cases hlt : k < l.length
  · obtain ⟨ad, e, x0, x1⟩ := at_T72 hC (k : Int) (by omega) (by omega)
    subst e
    have hto : (k : Int).toNat = k := by omega
    simp only [hto] at x0
    have hnk : (l.map (·.f0))[k]? = some (rd_T72 l (k : Int)).f0 := by
      rw [List.getElem?_map, List.getElem?_eq_getElem hlt]
      simp [rd_T72, hlt]
    have hsz : (rd_T72 l (k : Int)).f0.size ≤ 10000 := by
      have : rd_T72 l (k : Int) ∈ l := by
        unfold rd_T72
        rw [List.getD_eq_getElem?_getD, List.getElem?_eq_getElem (show (k : Int).toNat < l.length by omega)]
        exact List.getElem_mem _
      exact hn _ this
    generalize (rd_T72 l (k : Int)).f0 = nm at x0 hnk hsz
    have HOKE := Aside0.mk (show cellOk (l.map (·.f0)) k p = (cutOk p (eqB nm) && numOk (cutR' p (eqB nm))) by unfold cellOk; rw [hnk])
    have HVE := Aside0.mk (show cellV (l.map (·.f0)) k p = numV (cutR' p (eqB nm)) by unfold cellV; rw [hnk])
    have hz := cutR'_size p (eqB nm)
    obtain ⟨rest, hrest⟩ : ∃ rest, cutR' p (eqB nm) = rest := ⟨_, rfl⟩
    rw [hrest] at HOKE HVE hz
    have HR := Aside0.mk (show cutR' p (nm ++ (⟨#[61]⟩ : ByteArray)) = rest from hrest)
    have z0 : (9223372036854775807 < nm.size + 1) = False := eq_false (by omega)
    have HRZ := Aside0.mk (show rest.size ≤ 281474976710656 by omega)
    have hk0 : 0 ≤ (k : Int) := by omega
    have hk1 : (k : Int) < l.length := by omega
    clear hto x1 hnk hsz hrest hz hC hn hp
    cases hcut : cutOk p (eqB nm)
    · have HC := Aside0.mk (show cutOk p (nm ++ (⟨#[61]⟩ : ByteArray)) = false from hcut)
      have HOK2 := Aside0.mk (show cellOk (l.map (·.f0)) k p = false by rw [HOKE.out, hcut]; rfl)
      clear hcut
      go_enter Tryz.func36, Tryz.ntmps36
      go_wp2_with (first | (go_at_call 34; refine (cut_calls _ _ rest _ _ HR.out HC.out).mono ?_; rintro e w' ⟨rfl, rfl⟩))
      go_ret2
      exact ⟨_, by rw [HOK2.out]; rfl, (fun h => by rw [HOK2.out] at h; cases h), Below.refl _ _⟩
    · have HC := Aside0.mk (show cutOk p (nm ++ (⟨#[61]⟩ : ByteArray)) = true from hcut)
      have HOK2 := Aside0.mk (show cellOk (l.map (·.f0)) k p = numOk rest by rw [HOKE.out, hcut]; rfl)
      clear hcut
      go_enter Tryz.func36, Tryz.ntmps36
      go_wp2_with (first | (go_at_call 34; refine (cut_calls _ _ rest _ _ HR.out HC.out).mono ?_; rintro e w' ⟨rfl, rfl⟩) | (go_at_call 37; refine (number_calls rest _ HG.out HE.out HRZ.out).mono ?_; rintro e w2 ⟨n, rfl, hnv, hb⟩; have HB := Aside0.mk hb; have HNV := Aside0.mk hnv; clear hb hnv))
      go_ret2
      exact ⟨_, by rw [HOK2.out]; rfl, (fun h => by rw [HVE.out]; exact HNV.out (by rw [← HOK2.out]; exact h)), HB.out⟩
  · have hge : (l.length : Int) ≤ (k : Int) := by omega
    have HOK2 := Aside0.mk (show cellOk (l.map (·.f0)) k p = false by unfold cellOk; rw [List.getElem?_eq_none (by simp; omega)])
    clear hlt hC hn
    go_enter Tryz.func36, Tryz.ntmps36
    go_wp2
    go_ret2
    exact ⟨_, by rw [HOK2.out]; rfl, (fun h => by rw [HOK2.out] at h; cases h), Below.refl _ _⟩
/-! ### all pieces of a row -/
def okFrom (ok : Nat → ByteArray → Bool) : Nat → List ByteArray → Bool
  | _, [] => true
  | i, p :: r => ok i p && okFrom ok (i + 1) r
def valFrom {α : Type} (val : Nat → ByteArray → α) : Nat → List ByteArray → List α
  | _, [] => []
  | i, p :: r => val i p :: valFrom val (i + 1) r
def readFrom {α : Type} (ok : Nat → ByteArray → Bool) (val : Nat → ByteArray → α) (ws : List α) (i : Nat) (l : List ByteArray) : List α × Bool := if okFrom ok i l = true then (ws ++ valFrom val i l, true) else ([], false)
theorem readFrom_nil {α : Type} {ok : Nat → ByteArray → Bool} {val : Nat → ByteArray → α} {ws : List α} {i : Nat} : readFrom ok val ws i [] = (ws, true) := by
  unfold readFrom; simp [okFrom, valFrom]
theorem readFrom_bad {α : Type} {ok : Nat → ByteArray → Bool} {val : Nat → ByteArray → α} {ws : List α} {i : Nat} {p : ByteArray} {l : List ByteArray} (h : ok i p = false) : readFrom ok val ws i (p :: l) = ([], false) := by
  unfold readFrom okFrom; rw [h]; rfl
theorem readFrom_ok {α : Type} {ok : Nat → ByteArray → Bool} {val : Nat → ByteArray → α} {ws : List α} {i : Nat} {p : ByteArray} {l : List ByteArray} (h : ok i p = true) : readFrom ok val ws i (p :: l) = readFrom ok val (ws ++ [val i p]) (i + 1) l := by
  unfold readFrom
  rw [show okFrom ok i (p :: l) = okFrom ok (i + 1) l by unfold okFrom; rw [h, Bool.true_and]; cases l <;> rfl]
  simp [valFrom]
def splitS (s sep : ByteArray) : List ByteArray := Lib.splitB sep 0 (Lib.countB s sep) s
theorem splitS_len (s sep : ByteArray) (h1 : 1 ≤ sep.size) : (splitS s sep).length = Lib.countB s sep + 1 := splitB_count sep h1 s.size s (Nat.le_refl _)
theorem splitS_bound (s sep : ByteArray) (h1 : 1 ≤ sep.size) : (splitS s sep).length ≤ s.size + 1 := by
  have h2 := Lib.countB_mul_le sep h1 s.size s (Nat.le_refl _)
  have h3 : Lib.countB s sep * 1 ≤ Lib.countB s sep * sep.size := Nat.mul_le_mul_left _ h1
  rw [splitS_len s sep h1]
  omega
theorem splitS_sizes (s sep : ByteArray) : ∀ p ∈ splitS s sep, p.size ≤ s.size := splitB_sizes sep _ s
set_option maxHeartbeats 8000000 in
set_option maxRecDepth 100000 in
theorem row_calls (s : ByteArray) (b : Nat) (A : Option Addr) (c : Nat) (l : List S72) (r1 : List Int) (r2 : Bool) (w : World) (hG : Tab w) (hE : ErrTab w) (hs : s.size ≤ 100000000) (h0 : w.cell? ⟨b, 1, none⟩ = some (.slice A l.length c)) (hC : Kd.C k72 w A l.length l) (hn : ∀ x ∈ l, x.f0.size ≤ 10000)
    (hr : readFrom (cellOk (l.map (·.f0))) (cellV (l.map (·.f0))) [] 0 (splitS s ⟨#[32]⟩) = (r1, r2)) :
    Calls Tryz.prog 35 #[.string s, .string ⟨#[32]⟩, .func (.func 36) #[] #[.pointer (some ⟨b, 0, none⟩)]] w fun e w' => ∃ v0_ : Value, e = .returned (.tuple #[v0_, .bool r2]) ∧ Kd.R (Kd.int .i64) 3 w' w.heap.size (fun _ => True) v0_ r1 ∧ Below w.heap.size w w' := by
  obtain ⟨mm, hmm⟩ := tab_max hG
  have HR := Aside0.mk hr
  have H0 := Aside0.mk h0
  have HCC := Aside0.mk hC
  have HNN := Aside0.mk hn
  have HG := Aside0.mk hG
  have HE := Aside0.mk hE
  have hpl := splitS_len s ⟨#[32]⟩ (by decide)
  have hcl := splitS_bound s ⟨#[32]⟩ (by decide)
  have HSZ := Aside0.mk (show ∀ p ∈ splitS s ⟨#[32]⟩, p.size ≤ 281474976710656 from fun p hp => by have := splitS_sizes s ⟨#[32]⟩ p hp; omega)
  have HSP := Aside0.mk (Tryz.strings_Split s ⟨#[32]⟩ mm w (by omega) hmm (by decide))
  clear hr h0 hC hn hmm hG hE
  generalize hps : splitS s ⟨#[32]⟩ = ps at HR hpl HSZ hcl
  have HC := Aside0.mk (show Lib.countB s ⟨#[32]⟩ + 1 = ps.length from hpl.symm)
  have HPS := Aside0.mk (show Lib.splitB ⟨#[32]⟩ 0 (Lib.countB s ⟨#[32]⟩) s = ps from hps)
  have HSP2 := Aside0.mk (show Calls Tryz.prog 64 #[.string s, .string ⟨#[32]⟩] w fun e w' => e = .returned (.slice (some ⟨w.heap.size, 0, none⟩) ps.length ps.length) ∧ w' = w.alloc (.cells (ps.map Value.string).toArray 9) from by
    have := HSP.out
    rw [HC.out, HPS.out] at this
    exact this)
  clear hps hpl HSP HC HPS
  have HO := Aside0.mk ((MapKept.heap_alloc w (.cells (ps.map Value.string).toArray 9)).1)
  have HBA := Aside0.mk (below_alloc (Below.refl w.heap.size w) (.cells (ps.map Value.string).toArray 9))
  go_enter Tryz.func35, Tryz.ntmps35
  go_wp2_with (first | (go_at_call 64; refine HSP2.out.mono ?_; rintro e w1 ⟨rfl, hw1⟩; rw [← hw1] at HO HBA; clear hw1))
  try simp only [Act.put, List.setIfInBounds_toArray, List.set_cons_succ, List.set_cons_zero]
  rename World => w1
  go_loopg [8, 17] ps.length (fun kq v8 v17 wr => ∃ (k : Nat) (ws : List Int), v17 = .int .i64 k ∧ k ≤ ps.length ∧ Aside0 (kq = ps.length - k) ∧ Aside0 (ws.length = k) ∧ Aside0 (readFrom (cellOk (l.map (·.f0))) (cellV (l.map (·.f0))) ws k (ps.drop k) = (r1, r2)) ∧ Aside0 (Kd.R (Kd.int .i64) 3 wr w1.heap.size (fun _ => True) v8 ws) ∧ Aside0 (Below w1.heap.size w1 wr))
  case atStart => exact ⟨0, [], rfl, by omega, ⟨by omega⟩, ⟨rfl⟩, HR, ⟨Kd.R_nil _ _ _ _ _⟩, ⟨Below.refl _ _⟩⟩
  case round =>
    obtain ⟨k, ws, rfl, hk, HQ, HWL, HRD, HOW, HB⟩ := hrel
    have HBW := Aside0.mk (below_step HBA.out HB.out)
    by_cases hlt : k < ps.length
    · have hi0 : 0 ≤ (k : Int) := by omega
      have hi1 : (k : Int) < ps.length := by omega
      obtain ⟨p, hp⟩ : ∃ p, ps[k] = p := ⟨_, rfl⟩
      have x0 : wr.cell? ⟨w.heap.size, k, none⟩ = some (.string p) := by
        rw [Lib.cell_of_heap ((HB.out.block _ (Array.getElem?_eq_some_iff.1 HO.out).1).trans HO.out) k]
        simp [hlt, hp]
      have hrd := HRD.out
      rw [drop_at hlt, hp] at hrd
      have HRD2 := Aside0.mk hrd
      have HSP := Aside0.mk (show p.size ≤ 281474976710656 by rw [← hp]; exact HSZ.out _ (List.getElem_mem hlt))
      have HCL := Aside0.mk (cell_calls k p b A c l wr (tab_below HG.out HBW.out) (errtab_below HE.out HBW.out) HSP.out (by omega) (pw_cell_below HBW.out H0.out) (Kd.C_below HCC.out HBW.out) HNN.out)
      clear hp hrd
      cases hok : cellOk (l.map (·.f0)) k p
      · have HRB := Aside0.mk (show [] = r1 ∧ false = r2 by
          have e := HRD2.out
          rw [readFrom_bad hok] at e
          exact ⟨congrArg Prod.fst e, congrArg Prod.snd e⟩)
        have HOK := Aside0.mk hok
        clear hok
        go_wp2_with (first | (go_at_call 36; refine HCL.out.mono ?_; rintro e w2 ⟨n, rfl, _, hb⟩; have HB3 := Aside0.mk (below_step HBW.out hb); clear hb; rw [HOK.out]))
        go_ret2
        exact ⟨_, by rw [← HRB.out.2]; rfl, by rw [← HRB.out.1]; exact Kd.R_nil _ _ _ _ _, HB3.out⟩
      · have HRN := Aside0.mk (show readFrom (cellOk (l.map (·.f0))) (cellV (l.map (·.f0))) (ws ++ [cellV (l.map (·.f0)) k p]) (k + 1) (ps.drop (k + 1)) = (r1, r2) by
          have e := HRD2.out
          rwa [readFrom_ok hok] at e)
        have HOK := Aside0.mk hok
        clear hok
        generalize hpv : cellV (l.map (·.f0)) k p = pv at HRN
        have HPV := Aside0.mk hpv
        clear hpv
        go_wp2_with (first | (go_at_call 36; refine HCL.out.mono ?_; rintro e w2 ⟨n, rfl, hnv, hb⟩; obtain rfl : n = pv := (hnv HOK.out).trans HPV.out; have n0 := Aside0.mk (Kd.R_below HOW.out hb); have n1 := Aside0.mk (below_step HB.out hb); clear HOW HB hb hnv; have HOW := n0; have HB := n1; clear n0 n1; rw [HOK.out]) | ((with_reducible refine gate_dst (N := 34) rfl ?_); refine Kd.R_append (Kd.int .i64) (w0 := w1) w1.heap.size rfl (.tmp 31) (.tmp 33) 37 3 (.int .i64 0) 8 rfl Tryz.underlying37 infoInt rfl (by decide) (by omega) u8 ws n [.int .i64 n] (fun _ => True) (fun _ => False) rfl (by first | (go_simp; done) | (go_simp; rfl)) ?aP (fun _ hk => hk.elim) (fun _ _ => trivial) ?aO ?aB ?aS ?aL ?_; (case aP => rfl); (case aO => exact HOW.out); (case aB => exact HB.out); (case aS => exact below_size HB.out); (case aL => have e := HWL.out; omega); intro v2 w3 hR hB hg hat; have n0 := Aside0.mk hR; have n1 := Aside0.mk hB; clear HOW HB hR hB hg hat; have HOW := n0; have HB := n1; clear n0 n1))
        go_roundg (ps.length - (k + 1))
        case measure => have h8 := HQ.out; omega
        case rel => exact ⟨k + 1, _, by go_num, by omega, ⟨rfl⟩, ⟨by rw [List.length_append, HWL.out]; rfl⟩, HRN, HOW, HB⟩
    · obtain rfl : k = ps.length := by omega
      have HRB := Aside0.mk (show ws = r1 ∧ true = r2 by
        have e := HRD.out
        rw [List.drop_length, readFrom_nil] at e
        exact ⟨congrArg Prod.fst e, congrArg Prod.snd e⟩)
      go_wp2
      go_ret2
      exact ⟨_, by rw [← HRB.out.2]; rfl, by rw [← HRB.out.1]; exact Kd.R_lower HOW.out HBA.out.size, HBW.out⟩
/-! ### a line -/
def lineRes (names : List ByteArray) (i : Nat) (s : ByteArray) : List Int × Bool :=
  if s.toList = (firstB i).toList then ([], decide (names.length = 0))
  else if cutOk s (firstB i ++ (⟨#[32]⟩ : ByteArray)) = true then
    ((readFrom (cellOk names) (cellV names) [] 0 (splitS (cutR' s (firstB i ++ (⟨#[32]⟩ : ByteArray))) ⟨#[32]⟩)).1, (readFrom (cellOk names) (cellV names) [] 0 (splitS (cutR' s (firstB i ++ (⟨#[32]⟩ : ByteArray))) ⟨#[32]⟩)).2 && decide ((readFrom (cellOk names) (cellV names) [] 0 (splitS (cutR' s (firstB i ++ (⟨#[32]⟩ : ByteArray))) ⟨#[32]⟩)).1.length = names.length))
  else ([], false)
set_option maxHeartbeats 8000000 in
set_option maxRecDepth 100000 in
theorem line_row (i : Nat) (s : ByteArray) (b : Nat) (A : Option Addr) (c : Nat) (l : List S72) (r1 : List Int) (r2 : Bool) (w : World) (hG : Tab w) (hE : ErrTab w) (hs : s.size ≤ 100000000) (hi : i ≤ 1000000000) (h0 : w.cell? ⟨b, 1, none⟩ = some (.slice A l.length c)) (hC : Kd.C k72 w A l.length l) (hn : ∀ x ∈ l, x.f0.size ≤ 10000)
    (hr : lineRes (l.map (·.f0)) i s = (r1, r2)) :
    Calls Tryz.prog 32 #[.int .i64 i, .string s, .pointer (some ⟨b, 0, none⟩)] w fun e w' => ∃ v0_ : Value, e = .returned (.tuple #[v0_, .bool r2]) ∧ Kd.R (Kd.int .i64) 3 w' w.heap.size (fun _ => True) v0_ r1 ∧ Below w.heap.size w w' := by
  have hll : l.length ≤ 9223372036854775807 := hC.2.1
  have HWI := Aside0.mk (wf_nat i (by omega))
  have s0 := numB_size (i : Int) HWI.out
  have z0 : (9223372036854775807 < (numB (i : Int)).size + 1) = False := eq_false (by omega)
  have z1 : (9223372036854775807 < (numB (i : Int)).size + 1 + 1) = False := eq_false (by omega)
  have HG := Aside0.mk hG
  have HE := Aside0.mk hE
  have HC1 := Aside0.mk h0
  have HCC := Aside0.mk hC
  have HNN := Aside0.mk hn
  unfold lineRes at hr
  have HR := Aside0.mk hr
  clear s0 hG hE h0 hC hn hr
  by_cases he : s.toList = (firstB i).toList
  · have HRE := Aside0.mk (show ([] : List Int) = r1 ∧ decide (l.length = 0) = r2 by
      have e := HR.out
      rw [if_pos he, List.length_map] at e
      exact ⟨congrArg Prod.fst e, congrArg Prod.snd e⟩)
    have hq : s.toList = (numB (i : Int) ++ (⟨#[58]⟩ : ByteArray)).toList := he
    have hqb : (s.toList == (numB (i : Int) ++ (⟨#[58]⟩ : ByteArray)).toList) = true := beq_iff_eq.2 hq
    clear he
    by_cases hz : l.length = 0
    · have HR2 := Aside0.mk (show r2 = true by rw [← HRE.out.2]; exact decide_eq_true hz)
      have b0 : ((l.length : Int) == 0) = true := beq_iff_eq.mpr (by omega)
      have b1 : (l.length == 0) = true := beq_iff_eq.mpr hz
      clear hz
      go_enter Tryz.func32, Tryz.ntmps32
      go_wp2_with (first | (go_at_call 33; refine (strconv_Itoa.calls _ (numB (i : Int)) _ HG.out (itoa_f _ HWI.out)).mono ?_; rintro e w1 ⟨rfl, hb⟩; have HB := Aside0.mk hb; have y1 := pw_cell_below hb HC1.out; clear hb))
      go_quiet (fail)
      go_wp2
      go_ret2
      exact ⟨_, by rw [HR2.out]; rfl, by rw [← HRE.out.1]; exact Kd.R_nil _ _ _ _ _, pw_below_drewN HB.out _⟩
    · have HR2 := Aside0.mk (show r2 = false by rw [← HRE.out.2]; exact decide_eq_false hz)
      have b0 : ((l.length : Int) == 0) = false := beq_eq_false_iff_ne.mpr (by omega)
      have b1 : (l.length == 0) = false := beq_eq_false_iff_ne.mpr hz
      clear hz
      go_enter Tryz.func32, Tryz.ntmps32
      go_wp2_with (first | (go_at_call 33; refine (strconv_Itoa.calls _ (numB (i : Int)) _ HG.out (itoa_f _ HWI.out)).mono ?_; rintro e w1 ⟨rfl, hb⟩; have HB := Aside0.mk hb; have y1 := pw_cell_below hb HC1.out; clear hb))
      go_quiet (fail)
      go_wp2
      go_ret2
      exact ⟨_, by rw [HR2.out]; rfl, by rw [← HRE.out.1]; exact Kd.R_nil _ _ _ _ _, pw_below_drewN HB.out _⟩
  · have hq : ¬ s.toList = (numB (i : Int) ++ (⟨#[58]⟩ : ByteArray)).toList := he
    have hqb : (s.toList == (numB (i : Int) ++ (⟨#[58]⟩ : ByteArray)).toList) = false := beq_eq_false_iff_ne.mpr hq
    cases hcut : cutOk s (firstB i ++ (⟨#[32]⟩ : ByteArray))
    · have HRE := Aside0.mk (show ([] : List Int) = r1 ∧ false = r2 by
        have e := HR.out
        rw [if_neg he, if_neg (by rw [hcut]; simp)] at e
        exact ⟨congrArg Prod.fst e, congrArg Prod.snd e⟩)
      have HC := Aside0.mk (show cutOk s ((numB (i : Int) ++ (⟨#[58]⟩ : ByteArray)) ++ (⟨#[32]⟩ : ByteArray)) = false from hcut)
      obtain ⟨rest, hrest⟩ : ∃ rest, cutR' s ((numB (i : Int) ++ (⟨#[58]⟩ : ByteArray)) ++ (⟨#[32]⟩ : ByteArray)) = rest := ⟨_, rfl⟩
      have HR := Aside0.mk hrest
      clear he hcut hrest
      go_enter Tryz.func32, Tryz.ntmps32
      go_wp2_with (first | (go_at_call 33; refine (strconv_Itoa.calls _ (numB (i : Int)) _ HG.out (itoa_f _ HWI.out)).mono ?_; rintro e w1 ⟨rfl, hb⟩; have HB := Aside0.mk hb; have y1 := pw_cell_below hb HC1.out; clear hb) | (go_at_call 34; refine (cut_calls _ _ rest _ _ HR.out HC.out).mono ?_; rintro e w' ⟨rfl, rfl⟩))
      go_ret2
      exact ⟨_, by rw [← HRE.out.2]; rfl, by rw [← HRE.out.1]; exact Kd.R_nil _ _ _ _ _, HB.out⟩
    · have HC := Aside0.mk (show cutOk s ((numB (i : Int) ++ (⟨#[58]⟩ : ByteArray)) ++ (⟨#[32]⟩ : ByteArray)) = true from hcut)
      obtain ⟨rest, hrest⟩ : ∃ rest, cutR' s ((numB (i : Int) ++ (⟨#[58]⟩ : ByteArray)) ++ (⟨#[32]⟩ : ByteArray)) = rest := ⟨_, rfl⟩
      have hrz : rest.size ≤ s.size := by rw [← hrest]; exact cutR'_size _ _
      obtain ⟨⟨q1, q2⟩, hqq⟩ : ∃ q : List Int × Bool, readFrom (cellOk (l.map (·.f0))) (cellV (l.map (·.f0))) [] 0 (splitS rest ⟨#[32]⟩) = q := ⟨_, rfl⟩
      have HRE := Aside0.mk (show q1 = r1 ∧ (q2 && decide (q1.length = l.length)) = r2 by
        have e := HR.out
        have hrest2 : cutR' s (firstB i ++ (⟨#[32]⟩ : ByteArray)) = rest := hrest
        rw [if_neg he, if_pos hcut, hrest2, hqq, List.length_map] at e
        exact ⟨congrArg Prod.fst e, congrArg Prod.snd e⟩)
      have HRQ := Aside0.mk hqq
      have HRZ := Aside0.mk (show rest.size ≤ 100000000 by omega)
      clear HR
      have HR := Aside0.mk hrest
      have hmf : ∀ (fn : Fn) (a b : Array Value) (W : World), (Instr.makeFunc fn a b).run Tryz.prog W = .ok (.func fn a b) W := fun _ _ _ _ => rfl
      clear he hcut hrest hrz hqq
      cases q2
      · have HR2 := Aside0.mk (show r2 = false by rw [← HRE.out.2]; rfl)
        go_enter Tryz.func32, Tryz.ntmps32
        go_wp2_with (first | (go_at_call 33; refine (strconv_Itoa.calls _ (numB (i : Int)) _ HG.out (itoa_f _ HWI.out)).mono ?_; rintro e w1 ⟨rfl, hb⟩; have HB := Aside0.mk hb; have y1 := pw_cell_below hb HC1.out; clear hb) | (go_at_call 34; refine (cut_calls _ _ rest _ _ HR.out HC.out).mono ?_; rintro e w' ⟨rfl, rfl⟩) | (go_at_call 35; refine (row_calls rest b A c l q1 false _ (tab_below HG.out HB.out) (errtab_below HE.out HB.out) HRZ.out y1 (Kd.C_below HCC.out HB.out) HNN.out HRQ.out).mono ?_; rintro e w2 ⟨v0, rfl, hv, hb⟩; obtain ⟨X, d, hvx⟩ := Kd.R_slice hv; subst hvx; have HV := Aside0.mk hv; have n0 := Aside0.mk HB.out.size; have n2 := Aside0.mk (below_step HB.out hb); have y2 := pw_cell_below hb y1; clear HB hb hv; have HB := n2; clear n2))
        go_quiet (fail)
        go_wp2
        go_ret2
        exact ⟨_, by rw [HR2.out]; rfl, by rw [← HRE.out.1]; exact Kd.R_lower (Kd.R_drewN HV.out _) n0.out, pw_below_drewN HB.out _⟩
      · by_cases hz : q1.length = l.length
        · have HR2 := Aside0.mk (show r2 = true by rw [← HRE.out.2, Bool.true_and]; exact decide_eq_true hz)
          have b0 : ((q1.length : Int) == (l.length : Int)) = true := beq_iff_eq.mpr (by omega)
          have b1 : (q1.length == l.length) = true := beq_iff_eq.mpr hz
          clear hz
          go_enter Tryz.func32, Tryz.ntmps32
          go_wp2_with (first | (go_at_call 33; refine (strconv_Itoa.calls _ (numB (i : Int)) _ HG.out (itoa_f _ HWI.out)).mono ?_; rintro e w1 ⟨rfl, hb⟩; have HB := Aside0.mk hb; have y1 := pw_cell_below hb HC1.out; clear hb) | (go_at_call 34; refine (cut_calls _ _ rest _ _ HR.out HC.out).mono ?_; rintro e w' ⟨rfl, rfl⟩) | (go_at_call 35; refine (row_calls rest b A c l q1 true _ (tab_below HG.out HB.out) (errtab_below HE.out HB.out) HRZ.out y1 (Kd.C_below HCC.out HB.out) HNN.out HRQ.out).mono ?_; rintro e w2 ⟨v0, rfl, hv, hb⟩; obtain ⟨X, d, hvx⟩ := Kd.R_slice hv; subst hvx; have HV := Aside0.mk hv; have n0 := Aside0.mk HB.out.size; have n2 := Aside0.mk (below_step HB.out hb); have y2 := pw_cell_below hb y1; clear HB hb hv; have HB := n2; clear n2))
          go_quiet (fail)
          go_wp2
          go_ret2
          exact ⟨_, by rw [HR2.out]; rfl, by rw [← HRE.out.1]; exact Kd.R_lower (Kd.R_drewN HV.out _) n0.out, pw_below_drewN HB.out _⟩
        · have HR2 := Aside0.mk (show r2 = false by rw [← HRE.out.2, Bool.true_and]; exact decide_eq_false hz)
          have b0 : ((q1.length : Int) == (l.length : Int)) = false := beq_eq_false_iff_ne.mpr (by omega)
          have b1 : (q1.length == l.length) = false := beq_eq_false_iff_ne.mpr hz
          clear hz
          go_enter Tryz.func32, Tryz.ntmps32
          go_wp2_with (first | (go_at_call 33; refine (strconv_Itoa.calls _ (numB (i : Int)) _ HG.out (itoa_f _ HWI.out)).mono ?_; rintro e w1 ⟨rfl, hb⟩; have HB := Aside0.mk hb; have y1 := pw_cell_below hb HC1.out; clear hb) | (go_at_call 34; refine (cut_calls _ _ rest _ _ HR.out HC.out).mono ?_; rintro e w' ⟨rfl, rfl⟩) | (go_at_call 35; refine (row_calls rest b A c l q1 true _ (tab_below HG.out HB.out) (errtab_below HE.out HB.out) HRZ.out y1 (Kd.C_below HCC.out HB.out) HNN.out HRQ.out).mono ?_; rintro e w2 ⟨v0, rfl, hv, hb⟩; obtain ⟨X, d, hvx⟩ := Kd.R_slice hv; subst hvx; have HV := Aside0.mk hv; have n0 := Aside0.mk HB.out.size; have n2 := Aside0.mk (below_step HB.out hb); have y2 := pw_cell_below hb y1; clear HB hb hv; have HB := n2; clear n2))
          go_quiet (fail)
          go_wp2
          go_ret2
          exact ⟨_, by rw [HR2.out]; rfl, by rw [← HRE.out.1]; exact Kd.R_lower (Kd.R_drewN HV.out _) n0.out, pw_below_drewN HB.out _⟩
/-! ### all lines -/
theorem infoInts : (Tryz.prog.info? 37).map (fun i => (i.zero, i.size, i.bytes)) = some (some (.slice none 0 0), 1, 24) := by kernel_rfl
def lineOk (names : List ByteArray) (i : Nat) (p : ByteArray) : Bool := (lineRes names i p).2
def lineV (names : List ByteArray) (i : Nat) (p : ByteArray) : List Int := (lineRes names i p).1
set_option maxHeartbeats 8000000 in
set_option maxRecDepth 100000 in
theorem lines_calls (s : ByteArray) (b : Nat) (A : Option Addr) (c : Nat) (l : List S72) (r1 : List (List Int)) (r2 : Bool) (w : World) (hG : Tab w) (hE : ErrTab w) (hs : s.size ≤ 100000000) (h0 : w.cell? ⟨b, 1, none⟩ = some (.slice A l.length c)) (hC : Kd.C k72 w A l.length l) (hn : ∀ x ∈ l, x.f0.size ≤ 10000)
    (hr : readFrom (lineOk (l.map (·.f0))) (lineV (l.map (·.f0))) [] 0 (splitS s ⟨#[10]⟩) = (r1, r2)) :
    Calls Tryz.prog 30 #[.string s, .string ⟨#[10]⟩, .func (.func 32) #[] #[.pointer (some ⟨b, 0, none⟩)]] w fun e w' => ∃ v0_ : Value, e = .returned (.tuple #[v0_, .bool r2]) ∧ Kd.S (Kd.slice 3 (Kd.int .i64)) 37 w' w.heap.size (fun _ => True) v0_ r1 ∧ Below w.heap.size w w' := by
  obtain ⟨mm, hmm⟩ := tab_max hG
  have HR := Aside0.mk hr
  have H0 := Aside0.mk h0
  have HCC := Aside0.mk hC
  have HNN := Aside0.mk hn
  have HG := Aside0.mk hG
  have HE := Aside0.mk hE
  have hpl := splitS_len s ⟨#[10]⟩ (by decide)
  have hcl := splitS_bound s ⟨#[10]⟩ (by decide)
  have HSZ := Aside0.mk (show ∀ p ∈ splitS s ⟨#[10]⟩, p.size ≤ 100000000 from fun p hp => by have := splitS_sizes s ⟨#[10]⟩ p hp; omega)
  have HSP := Aside0.mk (Tryz.strings_Split s ⟨#[10]⟩ mm w (by omega) hmm (by decide))
  clear hr h0 hC hn hmm hG hE
  generalize hps : splitS s ⟨#[10]⟩ = ps at HR hpl HSZ hcl
  have HC := Aside0.mk (show Lib.countB s ⟨#[10]⟩ + 1 = ps.length from hpl.symm)
  have HPS := Aside0.mk (show Lib.splitB ⟨#[10]⟩ 0 (Lib.countB s ⟨#[10]⟩) s = ps from hps)
  have HSP2 := Aside0.mk (show Calls Tryz.prog 64 #[.string s, .string ⟨#[10]⟩] w fun e w' => e = .returned (.slice (some ⟨w.heap.size, 0, none⟩) ps.length ps.length) ∧ w' = w.alloc (.cells (ps.map Value.string).toArray 9) from by
    have := HSP.out
    rw [HC.out, HPS.out] at this
    exact this)
  clear hps hpl HSP HC HPS
  have HO := Aside0.mk ((MapKept.heap_alloc w (.cells (ps.map Value.string).toArray 9)).1)
  have HBA := Aside0.mk (below_alloc (Below.refl w.heap.size w) (.cells (ps.map Value.string).toArray 9))
  go_enter Tryz.func30, Tryz.ntmps30
  go_wp2_with (first | (go_at_call 64; refine HSP2.out.mono ?_; rintro e w1 ⟨rfl, hw1⟩; rw [← hw1] at HO HBA; clear hw1))
  try simp only [Act.put, List.setIfInBounds_toArray, List.set_cons_succ, List.set_cons_zero]
  rename World => w1
  go_loopg [8, 17] ps.length (fun kq v8 v17 wr => ∃ (k : Nat) (ws : List (List Int)), v17 = .int .i64 k ∧ k ≤ ps.length ∧ Aside0 (kq = ps.length - k) ∧ Aside0 (ws.length = k) ∧ Aside0 (readFrom (lineOk (l.map (·.f0))) (lineV (l.map (·.f0))) ws k (ps.drop k) = (r1, r2)) ∧ Aside0 (Kd.S (Kd.slice 3 (Kd.int .i64)) 37 wr w1.heap.size (fun _ => True) v8 ws) ∧ Aside0 (Below w1.heap.size w1 wr))
  case atStart => exact ⟨0, [], rfl, by omega, ⟨by omega⟩, ⟨rfl⟩, HR, ⟨Kd.S_nil _ _ _ _ _⟩, ⟨Below.refl _ _⟩⟩
  case round =>
    obtain ⟨k, ws, rfl, hk, HQ, HWL, HRD, HOW, HB⟩ := hrel
    have HBW := Aside0.mk (below_step HBA.out HB.out)
    by_cases hlt : k < ps.length
    · have hi0 : 0 ≤ (k : Int) := by omega
      have hi1 : (k : Int) < ps.length := by omega
      obtain ⟨p, hp⟩ : ∃ p, ps[k] = p := ⟨_, rfl⟩
      have x0 : wr.cell? ⟨w.heap.size, k, none⟩ = some (.string p) := by
        rw [Lib.cell_of_heap ((HB.out.block _ (Array.getElem?_eq_some_iff.1 HO.out).1).trans HO.out) k]
        simp [hlt, hp]
      have hrd := HRD.out
      rw [drop_at hlt, hp] at hrd
      have HRD2 := Aside0.mk hrd
      have HSP := Aside0.mk (show p.size ≤ 100000000 by rw [← hp]; exact HSZ.out _ (List.getElem_mem hlt))
      obtain ⟨q1, q2, hq⟩ : ∃ q1 q2, lineRes (l.map (·.f0)) k p = (q1, q2) := ⟨_, _, rfl⟩
      have HCL := Aside0.mk (line_row k p b A c l q1 q2 wr (tab_below HG.out HBW.out) (errtab_below HE.out HBW.out) HSP.out (by omega) (pw_cell_below HBW.out H0.out) (Kd.C_below HCC.out HBW.out) HNN.out hq)
      have HQ1 := Aside0.mk (show lineOk (l.map (·.f0)) k p = q2 by unfold lineOk; rw [hq])
      have HQ2 := Aside0.mk (show lineV (l.map (·.f0)) k p = q1 by unfold lineV; rw [hq])
      clear hp hrd hq
      cases q2
      · have HRB := Aside0.mk (show [] = r1 ∧ false = r2 by
          have e := HRD2.out
          rw [readFrom_bad HQ1.out] at e
          exact ⟨congrArg Prod.fst e, congrArg Prod.snd e⟩)
        go_wp2_with (first | (go_at_call 32; refine HCL.out.mono ?_; rintro e w2 ⟨v0, rfl, hv, hb⟩; have HB3 := Aside0.mk (below_step HBW.out hb); obtain ⟨X, d, hvx⟩ := Kd.R_slice hv; subst hvx; clear hb hv))
        go_ret2
        exact ⟨_, by rw [← HRB.out.2]; rfl, by rw [← HRB.out.1]; exact Kd.S_nil _ _ _ _ _, HB3.out⟩
      · have HRN := Aside0.mk (show readFrom (lineOk (l.map (·.f0))) (lineV (l.map (·.f0))) (ws ++ [q1]) (k + 1) (ps.drop (k + 1)) = (r1, r2) by
          have e := HRD2.out
          rwa [readFrom_ok HQ1.out, HQ2.out] at e)
        go_wp2_with (first | (go_at_call 32; refine HCL.out.mono ?_; rintro e w2 ⟨v0, rfl, hv, hb⟩; obtain ⟨X, d, hvx⟩ := Kd.R_slice hv; subst hvx; have HM := Aside0.mk (Kd.M_row (Kd.R_lower (Kd.R_mono (Kd.R_bound hv) (fun k hk => hk.2.1)) HB.out.size)); have HLT := Aside0.mk (Kd.S_lt HOW.out); have n0 := Aside0.mk (Kd.S_below (Kd.S_mono (Kd.S_bound HOW.out) (fun k hk => (⟨trivial, Nat.not_le.2 hk.2.2.1⟩ : True ∧ ¬ wr.heap.size ≤ k))) hb); have n1 := Aside0.mk (below_step HB.out hb); clear HOW HB hb hv; have HOW := n0; have HB := n1; clear n0 n1) | ((with_reducible refine gate_dst (N := 34) rfl ?_); refine Kd.S_append (Kd.slice 3 (Kd.int .i64)) (w0 := w1) w1.heap.size rfl (.tmp 31) (.tmp 33) 36 37 (.slice none 0 0) 24 rfl Tryz.underlying36 infoInts rfl (by decide) (by omega) u8 ws q1 [.slice X q1.length d] (fun _ => True) (fun k => wr.heap.size ≤ k) rfl (by first | (go_simp; done) | (go_simp; rfl)) ?aP ?aK (fun _ _ => trivial) ?aO ?aB ?aS ?aL ?_; (case aP => exact HM.out); (case aK => exact fun k hk => ⟨trivial, fun e => absurd (HLT.out k e.symm) (Nat.not_lt.2 hk)⟩); (case aO => exact HOW.out); (case aB => exact HB.out); (case aS => exact below_size HB.out); (case aL => have e := HWL.out; omega); intro v2 w3 hR hB hg hat; have n0 := Aside0.mk hR; have n1 := Aside0.mk hB; clear HOW HB hR hB hg hat; have HOW := n0; have HB := n1; clear n0 n1))
        go_roundg (ps.length - (k + 1))
        case measure => have h8 := HQ.out; omega
        case rel => exact ⟨k + 1, _, by go_num, by omega, ⟨rfl⟩, ⟨by rw [List.length_append, HWL.out]; rfl⟩, HRN, HOW, HB⟩
    · obtain rfl : k = ps.length := by omega
      have HRB := Aside0.mk (show ws = r1 ∧ true = r2 by
        have e := HRD.out
        rw [List.drop_length, readFrom_nil] at e
        exact ⟨congrArg Prod.fst e, congrArg Prod.snd e⟩)
      go_wp2
      go_ret2
      exact ⟨_, by rw [← HRB.out.2]; rfl, by rw [← HRB.out.1]; exact Kd.S_lower HOW.out HBA.out.size, HBW.out⟩
/-! ### lift.Back -/
def trimB (s : ByteArray) : ByteArray := ⟨(Lib.trimSuffix s.data.toList [10]).toArray⟩
def endsB (s : ByteArray) : Bool := Lib.hasSuffix s.data.toList [10]
def backB (l1 : List S72) (l2 : List S114) (s : ByteArray) : List (List Int) × Bool :=
  if (unlikeB (namesP l1) && unlikeB (namesC l2)) = true then
    if s.toList = [] then ([], true) else if endsB s = true then readFrom (lineOk (l1.map (·.f0))) (lineV (l1.map (·.f0))) [] 0 (splitS (trimB s) ⟨#[10]⟩) else ([], false)
  else ([], false)
def backFit (l1 : List S72) (l2 : List S114) (s : ByteArray) : Bool := shortP l1 && shortC l2 && l1.all (fun x => decide (x.f0.size ≤ 10000)) && decide (s.size ≤ 100000000)
theorem trimB_size (s : ByteArray) : (trimB s).size ≤ s.size := by
  have e : s.data.toList.length = s.size := by simp
  show (Lib.trimSuffix s.data.toList [10]).toArray.size ≤ _
  rw [List.size_toArray]
  unfold Lib.trimSuffix
  split
  · rw [List.length_take]; omega
  · omega
theorem ends_q (s : ByteArray) (v : Bool) (w : World) (hs : s.size ≤ 100000000) (h : endsB s = v) : Calls Tryz.prog 29 #[.string s, .string ⟨#[10]⟩] w fun e w' => e = .returned (.bool v) ∧ w' = w := by
  subst h; exact Tryz.strings_HasSuffix s ⟨#[10]⟩ w (by omega)
theorem trim_q (s t : ByteArray) (w : World) (hs : s.size ≤ 100000000) (h : trimB s = t) : Calls Tryz.prog 31 #[.string s, .string ⟨#[10]⟩] w fun e w' => e = .returned (.string t) ∧ w' = w := by
  subst h; exact Tryz.strings_TrimSuffix s ⟨#[10]⟩ w (by omega)
def lift_Back.f (l0_0 : List (S125)) (l0_1 : List (S72)) (l0_2 : List (S114)) (l0_3 : List (S105)) (l0_4 : List (S72)) (a1 : ByteArray) : Option ((List (List Int)) × Bool) := if backFit l0_1 l0_2 a1 = true then some (backB l0_1 l0_2 a1) else none
set_option maxHeartbeats 8000000 in
set_option maxRecDepth 100000 in
theorem lift_Back.calls (A0_0 : Option Addr) (c0_0 : Nat) (l0_0 : List (S125)) (A0_1 : Option Addr) (c0_1 : Nat) (l0_1 : List (S72)) (A0_2 : Option Addr) (c0_2 : Nat) (l0_2 : List (S114)) (A0_3 : Option Addr) (c0_3 : Nat) (l0_3 : List (S105)) (A0_4 : Option Addr) (c0_4 : Nat) (l0_4 : List (S72)) (a1 : ByteArray) (r1 : List (List Int)) (r2 : Bool) (w : World) (hG : Tab w) (hr0_0 : Kd.C k125 w A0_0 l0_0.length l0_0) (hc0_0 : l0_0.length ≤ c0_0) (hr0_1 : Kd.C k72 w A0_1 l0_1.length l0_1) (hc0_1 : l0_1.length ≤ c0_1) (hr0_2 : Kd.C k114 w A0_2 l0_2.length l0_2) (hc0_2 : l0_2.length ≤ c0_2) (hr0_3 : Kd.C k105 w A0_3 l0_3.length l0_3) (hc0_3 : l0_3.length ≤ c0_3) (hr0_4 : Kd.C k72 w A0_4 l0_4.length l0_4) (hc0_4 : l0_4.length ≤ c0_4) (h : lift_Back.f l0_0 l0_1 l0_2 l0_3 l0_4 a1 = some (r1, r2)) :
    Calls Tryz.prog 9 #[.agg #[.slice A0_0 l0_0.length c0_0, .slice A0_1 l0_1.length c0_1, .slice A0_2 l0_2.length c0_2, .slice A0_3 l0_3.length c0_3, .slice A0_4 l0_4.length c0_4], .string a1] w fun e w' => ∃ v0_ : Value, e = .returned (.tuple #[v0_, .bool r2]) ∧ Kd.S (Kd.slice 3 (Kd.int .i64)) 37 w' w.heap.size (fun _ => True) v0_ r1 ∧ Below w.heap.size w w' := by
  unfold lift_Back.f at h
  by_cases hb : backFit l0_1 l0_2 a1 = true
  · rw [if_pos hb] at h
    have HF := Aside0.mk (Option.some.inj h)
    simp only [backFit, Bool.and_eq_true, decide_eq_true_eq] at hb
    obtain ⟨⟨⟨f1, f2⟩, f3⟩, f4⟩ := hb
    have HNN := Aside0.mk (show ∀ x ∈ l0_1, x.f0.size ≤ 10000 from fun x hx => of_decide_eq_true (List.all_eq_true.1 f3 x hx))
    have HZ := Aside0.mk f4
    have HG := Aside0.mk hG
    have HE := Aside0.mk (tab_err hG)
    have HNF := Aside0.mk (show lift_named.f l0_0 l0_1 l0_2 l0_3 l0_4 = some (unlikeB (namesP l0_1) && unlikeB (namesC l0_2)) by unfold lift_named.f; rw [if_pos ⟨f1, f2⟩])
    have H0 := Aside0.mk (And.intro hr0_0 hc0_0)
    have H1 := Aside0.mk (And.intro hr0_1 hc0_1)
    have H2 := Aside0.mk (And.intro hr0_2 hc0_2)
    have H3 := Aside0.mk (And.intro hr0_3 hc0_3)
    have H4 := Aside0.mk (And.intro hr0_4 hc0_4)
    clear h hG hr0_0 hc0_0 hr0_1 hc0_1 hr0_2 hc0_2 hr0_3 hc0_3 hr0_4 hc0_4 f1 f2 f3 f4
    have HO := Aside0.mk ((MapKept.heap_alloc w (.cells #[.slice A0_0 l0_0.length c0_0, .slice A0_1 l0_1.length c0_1, .slice A0_2 l0_2.length c0_2, .slice A0_3 l0_3.length c0_3, .slice A0_4 l0_4.length c0_4] 27)).1)
    have HB := Aside0.mk (below_alloc (Below.refl w.heap.size w) (.cells #[.slice A0_0 l0_0.length c0_0, .slice A0_1 l0_1.length c0_1, .slice A0_2 l0_2.length c0_2, .slice A0_3 l0_3.length c0_3, .slice A0_4 l0_4.length c0_4] 27))
    cases hU : (unlikeB (namesP l0_1) && unlikeB (namesC l0_2))
    · rw [hU] at HNF
      have HRE := Aside0.mk (show ([] : List (List Int)) = r1 ∧ false = r2 by have := HF.out; unfold backB at this; rw [if_neg (by rw [hU]; simp)] at this; exact ⟨congrArg Prod.fst this, congrArg Prod.snd this⟩)
      clear hU
      go_enter Tryz.func9, Tryz.ntmps9
      go_wp2_with (first | (go_at_call 28; refine (lift_named.calls A0_0 c0_0 l0_0 A0_1 c0_1 l0_1 A0_2 c0_2 l0_2 A0_3 c0_3 l0_3 A0_4 c0_4 l0_4 _ _ (tab_below HG.out HB.out) (Kd.C_below H0.out.1 HB.out) H0.out.2 (Kd.C_below H1.out.1 HB.out) H1.out.2 (Kd.C_below H2.out.1 HB.out) H2.out.2 (Kd.C_below H3.out.1 HB.out) H3.out.2 (Kd.C_below H4.out.1 HB.out) H4.out.2 HNF.out).mono ?_; rintro e w2 ⟨rfl, hb⟩; have n2 := Aside0.mk (below_step HB.out hb); have n3 := Aside0.mk ((hb.block _ (Array.getElem?_eq_some_iff.1 HO.out).1).trans HO.out); clear HB HO hb; have HB := n2; have HO := n3; clear n2 n3))
      go_ret2
      exact ⟨_, by rw [← HRE.out.2]; rfl, by rw [← HRE.out.1]; exact Kd.S_nil _ _ _ _ _, HB.out⟩
    · rw [hU] at HNF
      by_cases hn : a1.toList = []
      · have HRE := Aside0.mk (show ([] : List (List Int)) = r1 ∧ true = r2 by have := HF.out; unfold backB at this; rw [if_pos hU, if_pos hn] at this; exact ⟨congrArg Prod.fst this, congrArg Prod.snd this⟩)
        have hb1 : (a1.toList == ([] : List UInt8)) = true := by rw [hn]; rfl
        have hb2 : (a1.toList != ([] : List UInt8)) = false := by rw [hn]; rfl
        clear hU
        go_enter Tryz.func9, Tryz.ntmps9
        go_wp2_with (first | (go_at_call 28; refine (lift_named.calls A0_0 c0_0 l0_0 A0_1 c0_1 l0_1 A0_2 c0_2 l0_2 A0_3 c0_3 l0_3 A0_4 c0_4 l0_4 _ _ (tab_below HG.out HB.out) (Kd.C_below H0.out.1 HB.out) H0.out.2 (Kd.C_below H1.out.1 HB.out) H1.out.2 (Kd.C_below H2.out.1 HB.out) H2.out.2 (Kd.C_below H3.out.1 HB.out) H3.out.2 (Kd.C_below H4.out.1 HB.out) H4.out.2 HNF.out).mono ?_; rintro e w2 ⟨rfl, hb⟩; have n2 := Aside0.mk (below_step HB.out hb); have n3 := Aside0.mk ((hb.block _ (Array.getElem?_eq_some_iff.1 HO.out).1).trans HO.out); clear HB HO hb; have HB := n2; have HO := n3; clear n2 n3))
        go_ret2
        exact ⟨_, by rw [← HRE.out.2]; rfl, by rw [← HRE.out.1]; exact Kd.S_nil _ _ _ _ _, HB.out⟩
      · have hb1 : (a1.toList == ([] : List UInt8)) = false := beq_eq_false_iff_ne.mpr hn
        have hb2 : (a1.toList != ([] : List UInt8)) = true := bne_iff_ne.mpr hn
        cases hen : endsB a1
        · have HEN := Aside0.mk hen
          have HRE := Aside0.mk (show ([] : List (List Int)) = r1 ∧ false = r2 by have := HF.out; unfold backB at this; rw [if_pos hU, if_neg hn, if_neg (by rw [hen]; simp)] at this; exact ⟨congrArg Prod.fst this, congrArg Prod.snd this⟩)
          clear hU hen
          go_enter Tryz.func9, Tryz.ntmps9
          go_wp2_with (first | (go_at_call 28; refine (lift_named.calls A0_0 c0_0 l0_0 A0_1 c0_1 l0_1 A0_2 c0_2 l0_2 A0_3 c0_3 l0_3 A0_4 c0_4 l0_4 _ _ (tab_below HG.out HB.out) (Kd.C_below H0.out.1 HB.out) H0.out.2 (Kd.C_below H1.out.1 HB.out) H1.out.2 (Kd.C_below H2.out.1 HB.out) H2.out.2 (Kd.C_below H3.out.1 HB.out) H3.out.2 (Kd.C_below H4.out.1 HB.out) H4.out.2 HNF.out).mono ?_; rintro e w2 ⟨rfl, hb⟩; have n2 := Aside0.mk (below_step HB.out hb); have n3 := Aside0.mk ((hb.block _ (Array.getElem?_eq_some_iff.1 HO.out).1).trans HO.out); clear HB HO hb; have HB := n2; have HO := n3; clear n2 n3) | (go_at_call 29; refine (ends_q a1 _ _ HZ.out HEN.out).mono ?_; rintro e w' ⟨rfl, rfl⟩))
          go_ret2
          exact ⟨_, by rw [← HRE.out.2]; rfl, by rw [← HRE.out.1]; exact Kd.S_nil _ _ _ _ _, HB.out⟩
        · have HEN := Aside0.mk hen
          have HRL := Aside0.mk (show readFrom (lineOk (l0_1.map (·.f0))) (lineV (l0_1.map (·.f0))) [] 0 (splitS (trimB a1) ⟨#[10]⟩) = (r1, r2) by have := HF.out; unfold backB at this; rwa [if_pos hU, if_neg hn, if_pos hen] at this)
          have htz := trimB_size a1
          obtain ⟨t, ht⟩ : ∃ t, trimB a1 = t := ⟨_, rfl⟩
          rw [ht] at HRL htz
          have HT := Aside0.mk ht
          have HTZ := Aside0.mk (show t.size ≤ 100000000 by have := HZ.out; omega)
          have hmf : ∀ (fn : Fn) (a b : Array Value) (W : World), (Instr.makeFunc fn a b).run Tryz.prog W = .ok (.func fn a b) W := fun _ _ _ _ => rfl
          clear hU hen ht htz
          go_enter Tryz.func9, Tryz.ntmps9
          go_wp2_with (first | (go_at_call 28; refine (lift_named.calls A0_0 c0_0 l0_0 A0_1 c0_1 l0_1 A0_2 c0_2 l0_2 A0_3 c0_3 l0_3 A0_4 c0_4 l0_4 _ _ (tab_below HG.out HB.out) (Kd.C_below H0.out.1 HB.out) H0.out.2 (Kd.C_below H1.out.1 HB.out) H1.out.2 (Kd.C_below H2.out.1 HB.out) H2.out.2 (Kd.C_below H3.out.1 HB.out) H3.out.2 (Kd.C_below H4.out.1 HB.out) H4.out.2 HNF.out).mono ?_; rintro e w2 ⟨rfl, hb⟩; have n2 := Aside0.mk (below_step HB.out hb); have n3 := Aside0.mk ((hb.block _ (Array.getElem?_eq_some_iff.1 HO.out).1).trans HO.out); clear HB HO hb; have HB := n2; have HO := n3; clear n2 n3) | (go_at_call 29; refine (ends_q a1 _ _ HZ.out HEN.out).mono ?_; rintro e w' ⟨rfl, rfl⟩) | (go_at_call 31; refine (trim_q a1 t _ HZ.out HT.out).mono ?_; rintro e w' ⟨rfl, rfl⟩) | (go_at_call 30; refine (lines_calls t w.heap.size A0_1 c0_1 l0_1 r1 r2 _ (tab_below HG.out HB.out) (errtab_below HE.out HB.out) HTZ.out (Lib.cell_of_heap HO.out 1) (Kd.C_below H1.out.1 HB.out) HNN.out HRL.out).mono ?_; rintro e w4 ⟨v0, rfl, hv, hb⟩; have HV := Aside0.mk hv; have n3 := Aside0.mk HB.out.size; have n2 := Aside0.mk (below_step HB.out hb); clear HB hb hv; have HB := n2; clear n2))
          go_ret2
          exact ⟨v0, rfl, Kd.S_lower HV.out n3.out, HB.out⟩
  · rw [if_neg hb] at h; exact absurd h (by simp)
end Go.Proofs.YtmfekngjhiofaaaGreatDoor.Q
