/-
  HAND: lift.Lits, its closure, lift.each at whole numbers.
-/
import Derived.Test.YtmfekngjhiofaaaGreatDoorQx0
import Derived.Test.YtmfekngjhiofaaaGreatDoorHClause
import Derived.Lib.Split
import Derived.Lib.CountLaws
import Derived.Lib.ReplaceLaws
set_option linter.unusedVariables false
set_option linter.unusedSimpArgs false
namespace Go.Proofs.YtmfekngjhiofaaaGreatDoor.Q
open Go.RowKit Go.Maps Go.WideMaps Go.Proofs.YtmfekngjhiofaaaGreatDoorW.PrintWords Go.Proofs.YtmfekngjhiofaaaGreatDoorW.PrintLast Go.Proofs.YtmfekngjhiofaaaGreatDoorW.PrintMore
/-- the last place of a text in a row, from 1 on; 0: it is not there -/
def lastIdx (l : List (List UInt8)) (t : List UInt8) : Nat := l.length - l.reverse.idxOf t
theorem lastIdx_snoc (l : List (List UInt8)) (s t : List UInt8) : lastIdx (l ++ [s]) t = if t = s then l.length + 1 else lastIdx l t := by
  unfold lastIdx
  rw [List.reverse_append, List.reverse_singleton, List.singleton_append, List.idxOf_cons, List.length_append, List.length_singleton]
  by_cases h : t = s
  · subst h; simp
  · have : (s == t) = false := beq_eq_false_iff_ne.mpr (fun e => h e.symm)
    rw [this, if_neg h]
    simp only [cond_false]
    omega
theorem lastIdx_le (l : List (List UInt8)) (t : List UInt8) : lastIdx l t ≤ l.length := by unfold lastIdx; omega
/-- what a map tells of each text: its last place -/
def IdxK (l : List (List UInt8)) (D : DataW Unit) : Prop := ∀ s : List UInt8, D.atKey (.string s) (.lit (.int .i64 0)) = .lit (.int .i64 (lastIdx l s : Int))
theorem IdxK.nil : IdxK [] (.map []) := fun s => rfl
theorem IdxK.snoc {l : List (List UInt8)} {D : DataW Unit} (h : IdxK l D) (hM : Maps.IsMap D) (s : List UInt8) : IdxK (l ++ [s]) (D.put (.string s) (.lit (.int .i64 ((l.length + 1 : Nat) : Int)))) := fun t => by
  rw [lastIdx_snoc]
  by_cases e : t = s
  · subst e
    rw [atKey_put_same hM (show WideAt.IsKeyLit (.string t) from trivial), if_pos rfl]
  · rw [atKey_put_other (strlit_ne e), h t, if_neg e]
def restB (p : ByteArray) : List UInt8 := Lib.trimPrefix p.data.toList [126]
def turnB (p : ByteArray) : Bool := Lib.hasPrefix p.data.toList [126]
def pieceV (l : List (List UInt8)) (p : ByteArray) : Int := if turnB p = true then -(lastIdx l (restB p) : Int) else (lastIdx l (restB p) : Int)
def pieceOk (l : List (List UInt8)) (p : ByteArray) : Bool := decide (0 < (lastIdx l (restB p) : Int))
theorem restB_len (p : ByteArray) : (restB p).length ≤ p.size := by
  have e : p.data.toList.length = p.size := by simp
  unfold restB Lib.trimPrefix
  split
  · rw [List.length_drop]; omega
  · omega
theorem cut_q (p rest : ByteArray) (turned : Bool) (w : World) (h1 : (⟨(restB p).toArray⟩ : ByteArray) = rest) (h2 : turnB p = turned) :
    Calls Tryz.prog 34 #[.string p, .string ⟨#[126]⟩] w fun e w' => e = .returned (.tuple #[.string rest, .bool turned]) ∧ w' = w := by
  subst h1; subst h2
  exact Tryz.strings_CutPrefix p ⟨#[126]⟩ w
set_option maxHeartbeats 4000000 in
set_option maxRecDepth 100000 in
theorem piece_calls (i : Int) (p : ByteArray) (b m n : Nat) (D : DataW Unit) (l : List (List UInt8)) (W : World) (hp : p.size < 4294967281) (hl : l.length ≤ 1000000000) (h0 : W.cell? ⟨b, 0, none⟩ = some (.map (some m)))
    (hown : W.ownsMap Tryz.prog 9 (plainElem Tryz.prog 3) m n D) (hat : IdxK l D) :
    Calls Tryz.prog 47 #[.int .i64 i, .string p, .pointer (some ⟨b, 0, none⟩)] W fun e w' => e = .returned (.tuple #[.int .i64 (pieceV l p), .bool (pieceOk l p)]) ∧ w' = W := by
  obtain ⟨rest, hrest⟩ : ∃ rest : ByteArray, (⟨(restB p).toArray⟩ : ByteArray) = rest := ⟨_, rfl⟩
  have hrl : rest.data.toList = restB p := by rw [← hrest]
  have hrz : rest.size ≤ p.size := by
    have := restB_len p
    rw [← hrl] at this
    simpa using this
  have hkey := keyOf_string_mk (s := rest) Tryz.underlying9 (by unfold maxLen; omega)
  obtain ⟨c, hrun, hatc, hwc⟩ := hown.lookup_int strKey Tryz.underlying92 Tryz.underlying3 (zeroInt _) hkey
  rw [hat rest.data.toList, hrl] at hatc
  have hle := lastIdx_le l (restB p)
  have HV := Aside0.mk (show pieceV l p = if turnB p = true then -(lastIdx l (restB p) : Int) else (lastIdx l (restB p) : Int) from rfl)
  have HK := Aside0.mk (show pieceOk l p = decide (0 < (lastIdx l (restB p) : Int)) from rfl)
  obtain ⟨x, hx⟩ : ∃ x : Nat, lastIdx l (restB p) = x := ⟨_, rfl⟩
  rw [hx] at hatc hle HV HK
  cases hatc
  have HR := Aside0.mk hrest
  have w1 : IntKind.i64.wrap (-(x : Int)) = -(x : Int) := by rw [IntKind.wrap_i64]; omega
  have w2 : wrap64 (-(x : Int)) = -(x : Int) := by unfold wrap64; omega
  clear hrest hrl hrz hkey hwc hx hat hp
  cases ht : turnB p
  · rw [ht, if_neg (by decide)] at HV
    have HT := Aside0.mk ht
    clear ht
    by_cases hz : 0 < (x : Int)
    · have d1 : decide (0 < (x : Int)) = true := decide_eq_true hz
      have d2 : decide (0 < x) = true := decide_eq_true (by omega)
      have HK2 := Aside0.mk (show pieceOk l p = true by rw [HK.out, d1])
      clear hz
      go_enter Tryz.func47, Tryz.ntmps47
      go_wp2_with (first | (go_at_call 34; refine (cut_q p rest false _ HR.out HT.out).mono ?_; rintro e w' ⟨rfl, rfl⟩))
      go_ret2
      exact ⟨by rw [HV.out, HK2.out]; rfl, rfl⟩
    · have d1 : decide (0 < (x : Int)) = false := decide_eq_false hz
      have d2 : decide (0 < x) = false := decide_eq_false (by omega)
      have HK2 := Aside0.mk (show pieceOk l p = false by rw [HK.out, d1])
      clear hz
      go_enter Tryz.func47, Tryz.ntmps47
      go_wp2_with (first | (go_at_call 34; refine (cut_q p rest false _ HR.out HT.out).mono ?_; rintro e w' ⟨rfl, rfl⟩))
      go_ret2
      exact ⟨by rw [HV.out, HK2.out]; rfl, rfl⟩
  · rw [ht, if_pos rfl] at HV
    have HT := Aside0.mk ht
    clear ht
    by_cases hz : 0 < (x : Int)
    · have d1 : decide (0 < (x : Int)) = true := decide_eq_true hz
      have d2 : decide (0 < x) = true := decide_eq_true (by omega)
      have HK2 := Aside0.mk (show pieceOk l p = true by rw [HK.out, d1])
      clear hz
      go_enter Tryz.func47, Tryz.ntmps47
      go_wp2_with (first | (go_at_call 34; refine (cut_q p rest true _ HR.out HT.out).mono ?_; rintro e w' ⟨rfl, rfl⟩))
      go_ret2
      exact ⟨by rw [HV.out, HK2.out]; rfl, rfl⟩
    · have d1 : decide (0 < (x : Int)) = false := decide_eq_false hz
      have d2 : decide (0 < x) = false := decide_eq_false (by omega)
      have HK2 := Aside0.mk (show pieceOk l p = false by rw [HK.out, d1])
      clear hz
      go_enter Tryz.func47, Tryz.ntmps47
      go_wp2_with (first | (go_at_call 34; refine (cut_q p rest true _ HR.out HT.out).mono ?_; rintro e w' ⟨rfl, rfl⟩))
      go_ret2
      exact ⟨by rw [HV.out, HK2.out]; rfl, rfl⟩
/-! ### all pieces -/
def piecesB (s : ByteArray) : List ByteArray := Lib.splitB barB 0 (Lib.countB s barB) s
def readB (l : List (List UInt8)) (ps : List ByteArray) : List Int × Bool := if ps.all (pieceOk l) = true then (ps.map (pieceV l), true) else ([], false)
theorem readB_ok {l : List (List UInt8)} {ps : List ByteArray} (h : ps.all (pieceOk l) = true) : readB l ps = (ps.map (pieceV l), true) := by unfold readB; rw [if_pos h]
theorem readB_bad {l : List (List UInt8)} {ps : List ByteArray} (h : ps.all (pieceOk l) = false) : readB l ps = ([], false) := by unfold readB; rw [if_neg (by rw [h]; simp)]
theorem splitB_sizes (sep : ByteArray) : ∀ (k : Nat) (s : ByteArray), ∀ p ∈ Lib.splitB sep 0 k s, p.size ≤ s.size
  | 0, s, p, h => by
    rw [Lib.splitB_zero] at h
    simp only [List.mem_cons, List.not_mem_nil, or_false] at h
    rw [h]; exact Nat.le_refl _
  | k + 1, s, p, h => by
    unfold Lib.splitB at h
    split at h
    · simp only [List.mem_cons, List.not_mem_nil, or_false] at h
      rw [h]; exact Nat.le_refl _
    · rcases List.mem_cons.1 h with rfl | h
      · rw [ByteArray.size_extract]; omega
      · have := splitB_sizes sep k _ p h
        rw [ByteArray.size_extract] at this
        omega
theorem splitB_count (sep : ByteArray) (h1 : 1 ≤ sep.size) : ∀ (n : Nat) (s : ByteArray), s.size ≤ n → (Lib.splitB sep 0 (Lib.countB s sep) s).length = Lib.countB s sep + 1
  | n, s, hn => by
    rcases Lib.indexB_cases s sep with hix | ⟨i, hix, hroom⟩
    · rw [Lib.countB_miss s sep hix, Lib.splitB_zero]; rfl
    · rw [Lib.countB_hit s sep i h1 hix, Nat.add_comm 1, Lib.splitB_hit sep 0 _ s i hix, List.length_cons]
      have hz : (s.extract (i + sep.size) s.size).size = s.size - (i + sep.size) := by rw [ByteArray.size_extract]; omega
      cases n with
      | zero => omega
      | succ n => rw [splitB_count sep h1 n _ (by omega)]
theorem piecesB_len (s : ByteArray) : (piecesB s).length = Lib.countB s barB + 1 := splitB_count barB (by decide) s.size s (Nat.le_refl _)
theorem infoInt : (Tryz.prog.info? 3).map (fun i => (i.zero, i.size, i.bytes)) = some (some (.int .i64 0), 1, 8) := by kernel_rfl
set_option maxHeartbeats 8000000 in
set_option maxRecDepth 100000 in
theorem each_calls (s : ByteArray) (b m n : Nat) (D : DataW Unit) (l : List (List UInt8)) (r1 : List Int) (r2 : Bool) (w : World) (hG : Tab w) (hs : s.size < 4294967281) (hl : l.length ≤ 1000000000) (h0 : w.cell? ⟨b, 0, none⟩ = some (.map (some m)))
    (hown : w.ownsMap Tryz.prog 9 (plainElem Tryz.prog 3) m n D) (hat : IdxK l D) (hr : readB l (piecesB s) = (r1, r2)) :
    Calls Tryz.prog 35 #[.string s, .string ⟨#[32, 124, 32]⟩, .func (.func 47) #[] #[.pointer (some ⟨b, 0, none⟩)]] w fun e w' => ∃ v0_ : Value, e = .returned (.tuple #[v0_, .bool r2]) ∧ Kd.R (Kd.int .i64) 3 w' w.heap.size (fun _ => True) v0_ r1 ∧ Below w.heap.size w w' := by
  obtain ⟨mm, hmm⟩ := tab_max hG
  have HR := Aside0.mk hr
  have H0 := Aside0.mk h0
  have HO0 := Aside0.mk hown
  have HAT := Aside0.mk hat
  have hpl := piecesB_len s
  have HSZ := Aside0.mk (show ∀ p ∈ piecesB s, p.size < 4294967281 from fun p hp => by have := splitB_sizes barB _ s p hp; omega)
  have hcl : (piecesB s).length ≤ 4294967282 := by
    have := Lib.countB_mul_le barB (by decide) s.size s (Nat.le_refl _)
    have e : barB.size = 3 := rfl
    rw [e] at this
    omega
  have HSP := Aside0.mk (Tryz.strings_Split s ⟨#[32, 124, 32]⟩ mm w hs hmm (by decide))
  clear hr h0 hown hat hmm hG
  generalize hps : piecesB s = ps at HR hpl HSZ hcl
  have HC := Aside0.mk (show Lib.countB s ⟨#[32, 124, 32]⟩ + 1 = ps.length from hpl.symm)
  have HPS := Aside0.mk (show Lib.splitB ⟨#[32, 124, 32]⟩ 0 (Lib.countB s ⟨#[32, 124, 32]⟩) s = ps from hps)
  have HSP2 := Aside0.mk (show Calls Tryz.prog 64 #[.string s, .string ⟨#[32, 124, 32]⟩] w fun e w' => e = .returned (.slice (some ⟨w.heap.size, 0, none⟩) ps.length ps.length) ∧ w' = w.alloc (.cells (ps.map Value.string).toArray 9) from by
    have := HSP.out
    rw [HC.out, HPS.out] at this
    exact this)
  clear hps hpl HSP HC HPS
  have HO := Aside0.mk ((MapKept.heap_alloc w (.cells (ps.map Value.string).toArray 9)).1)
  have HBA := Aside0.mk (below_alloc (Below.refl w.heap.size w) (.cells (ps.map Value.string).toArray 9))
  have hsl : Lib.countB s ⟨#[32, 124, 32]⟩ = Lib.countB s ⟨#[32, 124, 32]⟩ := rfl
  clear hsl
  go_enter Tryz.func35, Tryz.ntmps35
  go_wp2_with (first | (go_at_call 64; refine HSP2.out.mono ?_; rintro e w1 ⟨rfl, hw1⟩; rw [← hw1] at HO HBA; clear hw1))
  try simp only [Act.put, List.setIfInBounds_toArray, List.set_cons_succ, List.set_cons_zero]
  rename World => w1
  go_loopg [8, 17] ps.length (fun kq v8 v17 wr => ∃ (k : Nat) (ws : List Int), v17 = .int .i64 k ∧ k ≤ ps.length ∧ Aside0 (kq = ps.length - k) ∧ Aside0 (ws = (ps.take k).map (pieceV l)) ∧ Aside0 ((ps.take k).all (pieceOk l) = true) ∧ Aside0 (Kd.R (Kd.int .i64) 3 wr w1.heap.size (fun _ => True) v8 ws) ∧ Aside0 (Below w1.heap.size w1 wr))
  case atStart => exact ⟨0, [], rfl, by omega, ⟨by omega⟩, ⟨rfl⟩, ⟨rfl⟩, ⟨Kd.R_nil _ _ _ _ _⟩, ⟨Below.refl _ _⟩⟩
  case round =>
    obtain ⟨k, ws, rfl, hk, HQ, HW, HA, HOW, HB⟩ := hrel
    have HBW := Aside0.mk (below_step HBA.out HB.out)
    by_cases hlt : k < ps.length
    · have hi0 : 0 ≤ (k : Int) := by omega
      have hi1 : (k : Int) < ps.length := by omega
      obtain ⟨p, hp⟩ : ∃ p, ps[k] = p := ⟨_, rfl⟩
      have HP := Aside0.mk hp
      have x0 : wr.cell? ⟨w.heap.size, k, none⟩ = some (.string p) := by
        rw [Lib.cell_of_heap ((HB.out.block _ (Array.getElem?_eq_some_iff.1 HO.out).1).trans HO.out) k]
        simp [hlt, hp]
      have HCELL := Aside0.mk (pw_cell_below HBW.out H0.out)
      have HOM := Aside0.mk (owns_below HO0.out HBW.out)
      have HSP := Aside0.mk (show p.size < 4294967281 by rw [← hp]; exact HSZ.out _ (List.getElem_mem hlt))
      have HWN := Aside0.mk (show (ps.take (k + 1)).map (pieceV l) = ws ++ [pieceV l p] by rw [HW.out, List.take_add_one, List.getElem?_eq_getElem hlt, List.map_append, HP.out]; rfl)
      clear hp
      cases hok : pieceOk l p
      · have HRB := Aside0.mk (show r1 = [] ∧ r2 = false by
          have e := HR.out
          rw [readB_bad (all_take_false hlt (by rw [HP.out]; exact hok))] at e
          exact ⟨(congrArg Prod.fst e).symm, (congrArg Prod.snd e).symm⟩)
        have HOK := Aside0.mk hok
        clear hok
        go_wp2_with (first | (go_at_call 47; refine (piece_calls _ p b m n D l _ HSP.out hl HCELL.out HOM.out HAT.out).mono ?_; rintro e w2 ⟨rfl, hw2⟩; subst hw2; rw [HOK.out]))
        go_ret2
        exact ⟨_, by rw [HRB.out.2]; rfl, by rw [HRB.out.1]; exact Kd.R_nil _ _ _ _ _, HBW.out⟩
      · have HOK := Aside0.mk hok
        clear hok
        generalize hpv : pieceV l p = pv at HWN
        have HPV := Aside0.mk hpv
        clear hpv
        go_wp2_with (first | (go_at_call 47; refine (piece_calls _ p b m n D l _ HSP.out hl HCELL.out HOM.out HAT.out).mono ?_; rintro e w2 ⟨rfl, hw2⟩; subst hw2; rw [HOK.out, HPV.out]) | ((with_reducible refine gate_dst (N := 34) rfl ?_); refine Kd.R_append (Kd.int .i64) (w0 := w1) w1.heap.size rfl (.tmp 31) (.tmp 33) 37 3 (.int .i64 0) 8 rfl Tryz.underlying37 infoInt rfl (by decide) (by omega) u8 ws pv [.int .i64 pv] (fun _ => True) (fun _ => False) rfl (by first | (go_simp; done) | (go_simp; rfl)) ?aP (fun _ hk => hk.elim) (fun _ _ => trivial) ?aO ?aB ?aS ?aL ?_; (case aP => rfl); (case aO => exact HOW.out); (case aB => exact HB.out); (case aS => exact below_size HB.out); (case aL => have e := congrArg List.length HW.out; rw [List.length_map, List.length_take] at e; omega); intro v2 w2 hR hB hg hat; have n0 := Aside0.mk hR; have n1 := Aside0.mk hB; clear HOW HB hR hB hg hat; have HOW := n0; have HB := n1; clear n0 n1))
        go_roundg (ps.length - (k + 1))
        case measure => have h8 := HQ.out; omega
        case rel => exact ⟨k + 1, ws ++ [pv], by go_num, by omega, ⟨rfl⟩, ⟨HWN.out.symm⟩, ⟨all_take_snoc hlt HA.out (by rw [HP.out]; exact HOK.out)⟩, HOW, HB⟩
    · obtain rfl : k = ps.length := by omega
      have HRB := Aside0.mk (show r1 = ws ∧ r2 = true by
        have e := HR.out
        have ha := HA.out
        have hw := HW.out
        rw [List.take_length] at ha hw
        rw [readB_ok ha] at e
        exact ⟨(congrArg Prod.fst e).symm.trans hw.symm, (congrArg Prod.snd e).symm⟩)
      go_wp2
      go_ret2
      exact ⟨_, by rw [HRB.out.2]; rfl, by rw [HRB.out.1]; exact Kd.R_lower HOW.out HBA.out.size, HBW.out⟩
/-! ### lift.Lits -/
def textsB (l2 : List S114) (lats : List S94) : List (List UInt8) := lats.map fun x => (litB l2 x.f3 x.f4).data.toList
def litsB (l1 : List S72) (l2 : List S114) (lats : List S94) (s : ByteArray) : List Int × Bool :=
  if (unlikeB (namesP l1) && unlikeB (namesC l2)) = true ∧ goesB l2.length lats = true then
    if s.data.toList = [102, 97, 108, 115, 101] then ([], true) else readB (textsB l2 lats) (piecesB s)
  else ([], false)
def litsFit (l1 : List S72) (l2 : List S114) (lats : List S94) (s : ByteArray) : Bool :=
  shortP l1 && shortC l2 && l2.all (fun x => decide (x.f0.size ≤ 10000)) && lats.all (fun x => (Lit.int .i64 x.f4).wf) && decide (lats.length ≤ 1000000) && decide (s.size < 4294967281)
def lift_Lits.f (l0_0 : List (S125)) (l0_1 : List (S72)) (l0_2 : List (S114)) (l0_3 : List (S105)) (l0_4 : List (S72)) (a1_0 : Int) (l1_1 : List (S199)) (l1_2 : List (S200)) (l1_3 : List (S94)) (l1_4 : List (S202)) (a2 : ByteArray) : Option (List Int × Bool) := if litsFit l0_1 l0_2 l1_3 a2 = true then some (litsB l0_1 l0_2 l1_3 a2) else none
set_option maxHeartbeats 16000000 in
set_option maxRecDepth 100000 in
theorem lift_Lits.calls (A0_0 : Option Addr) (c0_0 : Nat) (l0_0 : List (S125)) (A0_1 : Option Addr) (c0_1 : Nat) (l0_1 : List (S72)) (A0_2 : Option Addr) (c0_2 : Nat) (l0_2 : List (S114)) (A0_3 : Option Addr) (c0_3 : Nat) (l0_3 : List (S105)) (A0_4 : Option Addr) (c0_4 : Nat) (l0_4 : List (S72)) (a1_0 : Int) (A1_1 : Option Addr) (c1_1 : Nat) (l1_1 : List (S199)) (A1_2 : Option Addr) (c1_2 : Nat) (l1_2 : List (S200)) (A1_3 : Option Addr) (c1_3 : Nat) (l1_3 : List (S94)) (A1_4 : Option Addr) (c1_4 : Nat) (l1_4 : List (S202)) (a2 : ByteArray) (r1 : List Int) (r2 : Bool) (w : World) (hG : Tab w) (hr0_0 : Kd.C k125 w A0_0 l0_0.length l0_0) (hc0_0 : l0_0.length ≤ c0_0) (hr0_1 : Kd.C k72 w A0_1 l0_1.length l0_1) (hc0_1 : l0_1.length ≤ c0_1) (hr0_2 : Kd.C k114 w A0_2 l0_2.length l0_2) (hc0_2 : l0_2.length ≤ c0_2) (hr0_3 : Kd.C k105 w A0_3 l0_3.length l0_3) (hc0_3 : l0_3.length ≤ c0_3) (hr0_4 : Kd.C k72 w A0_4 l0_4.length l0_4) (hc0_4 : l0_4.length ≤ c0_4) (hr1_1 : Kd.C k199 w A1_1 l1_1.length l1_1) (hc1_1 : l1_1.length ≤ c1_1) (hr1_2 : Kd.C k200 w A1_2 l1_2.length l1_2) (hc1_2 : l1_2.length ≤ c1_2) (hr1_3 : Kd.C k94 w A1_3 l1_3.length l1_3) (hc1_3 : l1_3.length ≤ c1_3) (hr1_4 : Kd.C k202 w A1_4 l1_4.length l1_4) (hc1_4 : l1_4.length ≤ c1_4) (h : lift_Lits.f l0_0 l0_1 l0_2 l0_3 l0_4 a1_0 l1_1 l1_2 l1_3 l1_4 a2 = some (r1, r2)) :
    Calls Tryz.prog 14 #[.agg #[.slice A0_0 l0_0.length c0_0, .slice A0_1 l0_1.length c0_1, .slice A0_2 l0_2.length c0_2, .slice A0_3 l0_3.length c0_3, .slice A0_4 l0_4.length c0_4], .agg #[.int .i64 a1_0, .slice A1_1 l1_1.length c1_1, .slice A1_2 l1_2.length c1_2, .slice A1_3 l1_3.length c1_3, .slice A1_4 l1_4.length c1_4], .string a2] w fun e w' => ∃ v0_ : Value, e = .returned (.tuple #[v0_, .bool r2]) ∧ Kd.R (Kd.int .i64) 3 w' w.heap.size (fun _ => True) v0_ r1 ∧ Below w.heap.size w w' := by
  unfold lift_Lits.f at h
  by_cases hb : litsFit l0_1 l0_2 l1_3 a2 = true
  · rw [if_pos hb] at h
    have HF := Aside0.mk (Option.some.inj h)
    simp only [litsFit, Bool.and_eq_true, decide_eq_true_eq] at hb
    obtain ⟨⟨⟨⟨⟨f1, f2⟩, f3⟩, f4⟩, f5⟩, f6⟩ := hb
    have HCN := Aside0.mk (show ∀ x ∈ l0_2, x.f0.size ≤ 10000 from fun x hx => of_decide_eq_true (List.all_eq_true.1 f3 x hx))
    have HLW := Aside0.mk f4
    have HG := Aside0.mk hG
    have HNF := Aside0.mk (show lift_named.f l0_0 l0_1 l0_2 l0_3 l0_4 = some (unlikeB (namesP l0_1) && unlikeB (namesC l0_2)) by unfold lift_named.f; rw [if_pos ⟨f1, f2⟩])
    have HGF := Aside0.mk (show lift_goes.f l0_0 l0_1 l0_2 l0_3 l0_4 a1_0 l1_1 l1_2 l1_3 l1_4 = some (goesB l0_2.length l1_3) from rfl)
    have H0 := Aside0.mk (And.intro hr0_0 hc0_0)
    have H1 := Aside0.mk (And.intro hr0_1 hc0_1)
    have H2 := Aside0.mk (And.intro hr0_2 hc0_2)
    have H3 := Aside0.mk (And.intro hr0_3 hc0_3)
    have H4 := Aside0.mk (And.intro hr0_4 hc0_4)
    have K1 := Aside0.mk (And.intro hr1_1 hc1_1)
    have K2 := Aside0.mk (And.intro hr1_2 hc1_2)
    have K3 := Aside0.mk (And.intro hr1_3 hc1_3)
    have K4 := Aside0.mk (And.intro hr1_4 hc1_4)
    clear h hG hr0_0 hc0_0 hr0_1 hc0_1 hr0_2 hc0_2 hr0_3 hc0_3 hr0_4 hc0_4 hr1_1 hc1_1 hr1_2 hc1_2 hr1_3 hc1_3 hr1_4 hc1_4 f1 f2 f3 f4
    have HO := Aside0.mk (two_boxes w (.cells #[.slice A0_0 l0_0.length c0_0, .slice A0_1 l0_1.length c0_1, .slice A0_2 l0_2.length c0_2, .slice A0_3 l0_3.length c0_3, .slice A0_4 l0_4.length c0_4] 27) (.cells #[.int .i64 a1_0, .slice A1_1 l1_1.length c1_1, .slice A1_2 l1_2.length c1_2, .slice A1_3 l1_3.length c1_3, .slice A1_4 l1_4.length c1_4] 35))
    have HB := Aside0.mk (below_alloc (below_alloc (Below.refl w.heap.size w) (.cells #[.slice A0_0 l0_0.length c0_0, .slice A0_1 l0_1.length c0_1, .slice A0_2 l0_2.length c0_2, .slice A0_3 l0_3.length c0_3, .slice A0_4 l0_4.length c0_4] 27)) (.cells #[.int .i64 a1_0, .slice A1_1 l1_1.length c1_1, .slice A1_2 l1_2.length c1_2, .slice A1_3 l1_3.length c1_3, .slice A1_4 l1_4.length c1_4] 35))
    cases hU : (unlikeB (namesP l0_1) && unlikeB (namesC l0_2))
    · rw [hU] at HNF
      have HRE := Aside0.mk (show ([] : List Int) = r1 ∧ false = r2 by have := HF.out; unfold litsB at this; rw [if_neg (by rw [hU]; simp)] at this; exact ⟨congrArg Prod.fst this, congrArg Prod.snd this⟩)
      clear hU
      go_enter Tryz.func14, Tryz.ntmps14
      go_wp2_with (first | (go_at_call 28; refine (lift_named.calls A0_0 c0_0 l0_0 A0_1 c0_1 l0_1 A0_2 c0_2 l0_2 A0_3 c0_3 l0_3 A0_4 c0_4 l0_4 _ _ (tab_below HG.out HB.out) (Kd.C_below H0.out.1 HB.out) H0.out.2 (Kd.C_below H1.out.1 HB.out) H1.out.2 (Kd.C_below H2.out.1 HB.out) H2.out.2 (Kd.C_below H3.out.1 HB.out) H3.out.2 (Kd.C_below H4.out.1 HB.out) H4.out.2 HNF.out).mono ?_; rintro e w2 ⟨rfl, hb⟩; have n2 := Aside0.mk (below_step HB.out hb); have n3 := Aside0.mk (And.intro ((hb.block _ (Array.getElem?_eq_some_iff.1 HO.out.1).1).trans HO.out.1) ((hb.block _ (Array.getElem?_eq_some_iff.1 HO.out.2).1).trans HO.out.2)); clear HB HO hb; have HB := n2; have HO := n3; clear n2 n3; have m0 := Lib.cell_of_heap HO.out.1 0; have m1 := Lib.cell_of_heap HO.out.1 1; have m2 := Lib.cell_of_heap HO.out.1 2; have m3 := Lib.cell_of_heap HO.out.1 3; have m4 := Lib.cell_of_heap HO.out.1 4; have q0 := Lib.cell_of_heap HO.out.2 0; have q1 := Lib.cell_of_heap HO.out.2 1; have q2 := Lib.cell_of_heap HO.out.2 2; have q3 := Lib.cell_of_heap HO.out.2 3; have q4 := Lib.cell_of_heap HO.out.2 4; have q5 := Lib.cell_of_heap (((below_alloc (below_alloc (Below.refl w2.heap.size w2) (.map #[] 0)) (.cells #[.map (some w2.heap.size)] 92)).block _ (Array.getElem?_eq_some_iff.1 HO.out.2).1).trans HO.out.2) 3))
      go_ret2
      exact ⟨_, by rw [← HRE.out.2]; rfl, by rw [← HRE.out.1]; exact Kd.R_nil _ _ _ _ _, HB.out⟩
    · rw [hU] at HNF
      cases hV : goesB l0_2.length l1_3
      · rw [hV] at HGF
        have HRE := Aside0.mk (show ([] : List Int) = r1 ∧ false = r2 by have := HF.out; unfold litsB at this; rw [if_neg (by rw [hV]; simp)] at this; exact ⟨congrArg Prod.fst this, congrArg Prod.snd this⟩)
        clear hU hV
        go_enter Tryz.func14, Tryz.ntmps14
        go_wp2_with (first | (go_at_call 28; refine (lift_named.calls A0_0 c0_0 l0_0 A0_1 c0_1 l0_1 A0_2 c0_2 l0_2 A0_3 c0_3 l0_3 A0_4 c0_4 l0_4 _ _ (tab_below HG.out HB.out) (Kd.C_below H0.out.1 HB.out) H0.out.2 (Kd.C_below H1.out.1 HB.out) H1.out.2 (Kd.C_below H2.out.1 HB.out) H2.out.2 (Kd.C_below H3.out.1 HB.out) H3.out.2 (Kd.C_below H4.out.1 HB.out) H4.out.2 HNF.out).mono ?_; rintro e w2 ⟨rfl, hb⟩; have n2 := Aside0.mk (below_step HB.out hb); have n3 := Aside0.mk (And.intro ((hb.block _ (Array.getElem?_eq_some_iff.1 HO.out.1).1).trans HO.out.1) ((hb.block _ (Array.getElem?_eq_some_iff.1 HO.out.2).1).trans HO.out.2)); clear HB HO hb; have HB := n2; have HO := n3; clear n2 n3; have m0 := Lib.cell_of_heap HO.out.1 0; have m1 := Lib.cell_of_heap HO.out.1 1; have m2 := Lib.cell_of_heap HO.out.1 2; have m3 := Lib.cell_of_heap HO.out.1 3; have m4 := Lib.cell_of_heap HO.out.1 4; have q0 := Lib.cell_of_heap HO.out.2 0; have q1 := Lib.cell_of_heap HO.out.2 1; have q2 := Lib.cell_of_heap HO.out.2 2; have q3 := Lib.cell_of_heap HO.out.2 3; have q4 := Lib.cell_of_heap HO.out.2 4; have q5 := Lib.cell_of_heap (((below_alloc (below_alloc (Below.refl w2.heap.size w2) (.map #[] 0)) (.cells #[.map (some w2.heap.size)] 92)).block _ (Array.getElem?_eq_some_iff.1 HO.out.2).1).trans HO.out.2) 3) | (go_at_call 45; refine (lift_goes.calls A0_0 c0_0 l0_0 A0_1 c0_1 l0_1 A0_2 c0_2 l0_2 A0_3 c0_3 l0_3 A0_4 c0_4 l0_4 a1_0 A1_1 c1_1 l1_1 A1_2 c1_2 l1_2 A1_3 c1_3 l1_3 A1_4 c1_4 l1_4 _ _ (tab_below HG.out HB.out) (Kd.C_below H0.out.1 HB.out) H0.out.2 (Kd.C_below H1.out.1 HB.out) H1.out.2 (Kd.C_below H2.out.1 HB.out) H2.out.2 (Kd.C_below H3.out.1 HB.out) H3.out.2 (Kd.C_below H4.out.1 HB.out) H4.out.2 (Kd.C_below K1.out.1 HB.out) K1.out.2 (Kd.C_below K2.out.1 HB.out) K2.out.2 (Kd.C_below K3.out.1 HB.out) K3.out.2 (Kd.C_below K4.out.1 HB.out) K4.out.2 HGF.out).mono ?_; rintro e w2 ⟨rfl, hb⟩; have n2 := Aside0.mk (below_step HB.out hb); have n3 := Aside0.mk (And.intro ((hb.block _ (Array.getElem?_eq_some_iff.1 HO.out.1).1).trans HO.out.1) ((hb.block _ (Array.getElem?_eq_some_iff.1 HO.out.2).1).trans HO.out.2)); clear HB HO hb; have HB := n2; have HO := n3; clear n2 n3; have m0 := Lib.cell_of_heap HO.out.1 0; have m1 := Lib.cell_of_heap HO.out.1 1; have m2 := Lib.cell_of_heap HO.out.1 2; have m3 := Lib.cell_of_heap HO.out.1 3; have m4 := Lib.cell_of_heap HO.out.1 4; have q0 := Lib.cell_of_heap HO.out.2 0; have q1 := Lib.cell_of_heap HO.out.2 1; have q2 := Lib.cell_of_heap HO.out.2 2; have q3 := Lib.cell_of_heap HO.out.2 3; have q4 := Lib.cell_of_heap HO.out.2 4; have q5 := Lib.cell_of_heap (((below_alloc (below_alloc (Below.refl w2.heap.size w2) (.map #[] 0)) (.cells #[.map (some w2.heap.size)] 92)).block _ (Array.getElem?_eq_some_iff.1 HO.out.2).1).trans HO.out.2) 3))
        go_ret2
        exact ⟨_, by rw [← HRE.out.2]; rfl, by rw [← HRE.out.1]; exact Kd.R_nil _ _ _ _ _, HB.out⟩
      · rw [hV] at HGF
        have HFL := Aside0.mk (show (if a2.data.toList = [102, 97, 108, 115, 101] then (([] : List Int), true) else readB (textsB l0_2 l1_3) (piecesB a2)) = (r1, r2) by have := HF.out; unfold litsB at this; rwa [if_pos ⟨hU, hV⟩] at this)
        have HGM := Aside0.mk (goesFrom_mem _ _ _ _ hV)
        clear hU hV
        by_cases hn : a2.data.toList = [102, 97, 108, 115, 101]
        · have HRE := Aside0.mk (show ([] : List Int) = r1 ∧ true = r2 by have := HFL.out; rw [if_pos hn] at this; exact ⟨congrArg Prod.fst this, congrArg Prod.snd this⟩)
          have hnb : (a2.toList == ([102, 97, 108, 115, 101] : List UInt8)) = true := by rw [ByteArray.toList_eq, hn]; rfl
          have hnl : a2.toList = ([102, 97, 108, 115, 101] : List UInt8) := by rw [ByteArray.toList_eq, hn]
          clear hn
          go_enter Tryz.func14, Tryz.ntmps14
          go_wp2_with (first | (go_at_call 28; refine (lift_named.calls A0_0 c0_0 l0_0 A0_1 c0_1 l0_1 A0_2 c0_2 l0_2 A0_3 c0_3 l0_3 A0_4 c0_4 l0_4 _ _ (tab_below HG.out HB.out) (Kd.C_below H0.out.1 HB.out) H0.out.2 (Kd.C_below H1.out.1 HB.out) H1.out.2 (Kd.C_below H2.out.1 HB.out) H2.out.2 (Kd.C_below H3.out.1 HB.out) H3.out.2 (Kd.C_below H4.out.1 HB.out) H4.out.2 HNF.out).mono ?_; rintro e w2 ⟨rfl, hb⟩; have n2 := Aside0.mk (below_step HB.out hb); have n3 := Aside0.mk (And.intro ((hb.block _ (Array.getElem?_eq_some_iff.1 HO.out.1).1).trans HO.out.1) ((hb.block _ (Array.getElem?_eq_some_iff.1 HO.out.2).1).trans HO.out.2)); clear HB HO hb; have HB := n2; have HO := n3; clear n2 n3; have m0 := Lib.cell_of_heap HO.out.1 0; have m1 := Lib.cell_of_heap HO.out.1 1; have m2 := Lib.cell_of_heap HO.out.1 2; have m3 := Lib.cell_of_heap HO.out.1 3; have m4 := Lib.cell_of_heap HO.out.1 4; have q0 := Lib.cell_of_heap HO.out.2 0; have q1 := Lib.cell_of_heap HO.out.2 1; have q2 := Lib.cell_of_heap HO.out.2 2; have q3 := Lib.cell_of_heap HO.out.2 3; have q4 := Lib.cell_of_heap HO.out.2 4; have q5 := Lib.cell_of_heap (((below_alloc (below_alloc (Below.refl w2.heap.size w2) (.map #[] 0)) (.cells #[.map (some w2.heap.size)] 92)).block _ (Array.getElem?_eq_some_iff.1 HO.out.2).1).trans HO.out.2) 3) | (go_at_call 45; refine (lift_goes.calls A0_0 c0_0 l0_0 A0_1 c0_1 l0_1 A0_2 c0_2 l0_2 A0_3 c0_3 l0_3 A0_4 c0_4 l0_4 a1_0 A1_1 c1_1 l1_1 A1_2 c1_2 l1_2 A1_3 c1_3 l1_3 A1_4 c1_4 l1_4 _ _ (tab_below HG.out HB.out) (Kd.C_below H0.out.1 HB.out) H0.out.2 (Kd.C_below H1.out.1 HB.out) H1.out.2 (Kd.C_below H2.out.1 HB.out) H2.out.2 (Kd.C_below H3.out.1 HB.out) H3.out.2 (Kd.C_below H4.out.1 HB.out) H4.out.2 (Kd.C_below K1.out.1 HB.out) K1.out.2 (Kd.C_below K2.out.1 HB.out) K2.out.2 (Kd.C_below K3.out.1 HB.out) K3.out.2 (Kd.C_below K4.out.1 HB.out) K4.out.2 HGF.out).mono ?_; rintro e w2 ⟨rfl, hb⟩; have n2 := Aside0.mk (below_step HB.out hb); have n3 := Aside0.mk (And.intro ((hb.block _ (Array.getElem?_eq_some_iff.1 HO.out.1).1).trans HO.out.1) ((hb.block _ (Array.getElem?_eq_some_iff.1 HO.out.2).1).trans HO.out.2)); clear HB HO hb; have HB := n2; have HO := n3; clear n2 n3; have m0 := Lib.cell_of_heap HO.out.1 0; have m1 := Lib.cell_of_heap HO.out.1 1; have m2 := Lib.cell_of_heap HO.out.1 2; have m3 := Lib.cell_of_heap HO.out.1 3; have m4 := Lib.cell_of_heap HO.out.1 4; have q0 := Lib.cell_of_heap HO.out.2 0; have q1 := Lib.cell_of_heap HO.out.2 1; have q2 := Lib.cell_of_heap HO.out.2 2; have q3 := Lib.cell_of_heap HO.out.2 3; have q4 := Lib.cell_of_heap HO.out.2 4; have q5 := Lib.cell_of_heap (((below_alloc (below_alloc (Below.refl w2.heap.size w2) (.map #[] 0)) (.cells #[.map (some w2.heap.size)] 92)).block _ (Array.getElem?_eq_some_iff.1 HO.out.2).1).trans HO.out.2) 3))
          go_ret2
          exact ⟨_, by rw [← HRE.out.2]; rfl, by rw [← HRE.out.1]; exact Kd.R_nil _ _ _ _ _, HB.out⟩
        · have HRE := Aside0.mk (show readB (textsB l0_2 l1_3) (piecesB a2) = (r1, r2) by have := HFL.out; rwa [if_neg hn] at this)
          have hnl : ¬ a2.toList = ([102, 97, 108, 115, 101] : List UInt8) := by rw [ByteArray.toList_eq]; exact hn
          have hnb : (a2.toList == ([102, 97, 108, 115, 101] : List UInt8)) = false := beq_eq_false_iff_ne.mpr hnl
          have hmm := @run_makeMap Tryz.prog
          clear hn
          go_enter Tryz.func14, Tryz.ntmps14
          go_wp2_with (first | (go_at_call 28; refine (lift_named.calls A0_0 c0_0 l0_0 A0_1 c0_1 l0_1 A0_2 c0_2 l0_2 A0_3 c0_3 l0_3 A0_4 c0_4 l0_4 _ _ (tab_below HG.out HB.out) (Kd.C_below H0.out.1 HB.out) H0.out.2 (Kd.C_below H1.out.1 HB.out) H1.out.2 (Kd.C_below H2.out.1 HB.out) H2.out.2 (Kd.C_below H3.out.1 HB.out) H3.out.2 (Kd.C_below H4.out.1 HB.out) H4.out.2 HNF.out).mono ?_; rintro e w2 ⟨rfl, hb⟩; have n2 := Aside0.mk (below_step HB.out hb); have n3 := Aside0.mk (And.intro ((hb.block _ (Array.getElem?_eq_some_iff.1 HO.out.1).1).trans HO.out.1) ((hb.block _ (Array.getElem?_eq_some_iff.1 HO.out.2).1).trans HO.out.2)); clear HB HO hb; have HB := n2; have HO := n3; clear n2 n3; have m0 := Lib.cell_of_heap HO.out.1 0; have m1 := Lib.cell_of_heap HO.out.1 1; have m2 := Lib.cell_of_heap HO.out.1 2; have m3 := Lib.cell_of_heap HO.out.1 3; have m4 := Lib.cell_of_heap HO.out.1 4; have q0 := Lib.cell_of_heap HO.out.2 0; have q1 := Lib.cell_of_heap HO.out.2 1; have q2 := Lib.cell_of_heap HO.out.2 2; have q3 := Lib.cell_of_heap HO.out.2 3; have q4 := Lib.cell_of_heap HO.out.2 4; have q5 := Lib.cell_of_heap (((below_alloc (below_alloc (Below.refl w2.heap.size w2) (.map #[] 0)) (.cells #[.map (some w2.heap.size)] 92)).block _ (Array.getElem?_eq_some_iff.1 HO.out.2).1).trans HO.out.2) 3) | (go_at_call 45; refine (lift_goes.calls A0_0 c0_0 l0_0 A0_1 c0_1 l0_1 A0_2 c0_2 l0_2 A0_3 c0_3 l0_3 A0_4 c0_4 l0_4 a1_0 A1_1 c1_1 l1_1 A1_2 c1_2 l1_2 A1_3 c1_3 l1_3 A1_4 c1_4 l1_4 _ _ (tab_below HG.out HB.out) (Kd.C_below H0.out.1 HB.out) H0.out.2 (Kd.C_below H1.out.1 HB.out) H1.out.2 (Kd.C_below H2.out.1 HB.out) H2.out.2 (Kd.C_below H3.out.1 HB.out) H3.out.2 (Kd.C_below H4.out.1 HB.out) H4.out.2 (Kd.C_below K1.out.1 HB.out) K1.out.2 (Kd.C_below K2.out.1 HB.out) K2.out.2 (Kd.C_below K3.out.1 HB.out) K3.out.2 (Kd.C_below K4.out.1 HB.out) K4.out.2 HGF.out).mono ?_; rintro e w2 ⟨rfl, hb⟩; have n2 := Aside0.mk (below_step HB.out hb); have n3 := Aside0.mk (And.intro ((hb.block _ (Array.getElem?_eq_some_iff.1 HO.out.1).1).trans HO.out.1) ((hb.block _ (Array.getElem?_eq_some_iff.1 HO.out.2).1).trans HO.out.2)); clear HB HO hb; have HB := n2; have HO := n3; clear n2 n3; have m0 := Lib.cell_of_heap HO.out.1 0; have m1 := Lib.cell_of_heap HO.out.1 1; have m2 := Lib.cell_of_heap HO.out.1 2; have m3 := Lib.cell_of_heap HO.out.1 3; have m4 := Lib.cell_of_heap HO.out.1 4; have q0 := Lib.cell_of_heap HO.out.2 0; have q1 := Lib.cell_of_heap HO.out.2 1; have q2 := Lib.cell_of_heap HO.out.2 2; have q3 := Lib.cell_of_heap HO.out.2 3; have q4 := Lib.cell_of_heap HO.out.2 4; have q5 := Lib.cell_of_heap (((below_alloc (below_alloc (Below.refl w2.heap.size w2) (.map #[] 0)) (.cells #[.map (some w2.heap.size)] 92)).block _ (Array.getElem?_eq_some_iff.1 HO.out.2).1).trans HO.out.2) 3))
          have HBA := HB
          clear HB hnb hnl
          try clear m0 m1 m2 m3 m4 q0 q1 q2 q3 q4 q5
          try clear m0 m1 m2 m3 m4 q0 q1 q2 q3 q4 q5
          try simp only [Act.put, List.setIfInBounds_toArray, List.set_cons_succ, List.set_cons_zero]
          rename World => w3
          go_loopg [26] l1_3.length (fun kq v26 wr => ∃ k : Nat, v26 = .int .i64 k ∧ k ≤ l1_3.length ∧ Aside0 (kq = l1_3.length - k) ∧ Aside0 (∃ D : DataW Unit, wr.ownsMap Tryz.prog 9 (plainElem Tryz.prog 3) w3.heap.size k D ∧ IdxK ((textsB l0_2 l1_3).take k) D) ∧ Aside0 (wr.heap[w3.heap.size + 1]? = some (.cells #[.map (some w3.heap.size)] 92 (0, 0))) ∧ Aside0 (Below w3.heap.size w3 wr))
          case atStart => exact ⟨0, rfl, by omega, ⟨by omega⟩, ⟨_, owns_below (World.ownsMap_made _ _ _ _) (below_alloc (Below.refl _ _) _), IdxK.nil⟩, ⟨(two_boxes w3 _ _).2⟩, ⟨below_alloc (below_alloc (Below.refl _ _) _) _⟩⟩
          case round =>
            clear hmm
            obtain ⟨k, rfl, hk, HQ, HM, HC, HB2⟩ := hrel
            have HB := Aside0.mk (below_step HBA.out HB2.out)
            have HTX := Aside0.mk (show (textsB l0_2 l1_3).length = l1_3.length by unfold textsB; simp)
            by_cases hlt : k < l1_3.length
            · have hi0 : 0 ≤ (k : Int) := by omega
              have hi1 : (k : Int) < l1_3.length := by omega
              obtain ⟨adl, el, z0, z1, z2, z3, z4⟩ := at_T94 (Kd.C_below K3.out.1 HB.out) (k : Int) hi0 hi1
              cases el
              have hto : (k : Int).toNat = k := by omega
              simp only [hto] at z0 z1 z2 z3 z4
              clear hto
              have hmem : rd_T94 l1_3 (k : Int) ∈ l1_3 := by
                unfold rd_T94
                rw [List.getD_eq_getElem?_getD, List.getElem?_eq_getElem (show (k : Int).toNat < l1_3.length by omega)]
                exact List.getElem_mem _
              have htk : (textsB l0_2 l1_3).take (k + 1) = (textsB l0_2 l1_3).take k ++ [(litB l0_2 (rd_T94 l1_3 (k : Int)).f3 (rd_T94 l1_3 (k : Int)).f4).data.toList] := by
                unfold textsB
                rw [names_snoc _ l1_3 k hlt]
                simp [rd_T94, hlt]
              generalize rd_T94 l1_3 (k : Int) = y at z0 z1 z2 z3 z4 hmem htk
              have hgm := HGM.out y hmem
              have hwy := List.all_eq_true.1 HLW.out y hmem
              have hnm : (rd_T114 l0_2 y.f3).f0.size ≤ 10000 := by
                have hq : y.f3.toNat < l0_2.length := by omega
                unfold rd_T114
                rw [List.getD_eq_getElem?_getD, List.getElem?_eq_getElem hq]
                exact HCN.out _ (List.getElem_mem hq)
              have HLF := Aside0.mk (show lift_lit.f l0_0 l0_1 l0_2 l0_3 l0_4 y.f0 y.f1 y.f2 y.f3 y.f4 = some (litB l0_2 y.f3 y.f4) by unfold lift_lit.f; rw [if_pos ⟨⟨hgm.2.1, hgm.2.2⟩, hnm, hwy⟩])
              have hls := litB_size l0_2 y.f3 y.f4 HCN.out hwy
              generalize litB l0_2 y.f3 y.f4 = s at HLF hls htk
              have HKEY := Aside0.mk (keyOf_string_mk (s := s) Tryz.underlying9 (by unfold maxLen; omega))
              have HTK := Aside0.mk htk
              clear hgm hwy hnm hls hmem htk
              obtain ⟨D, hD1, hD2⟩ := HM.out
              have HD1 := Aside0.mk hD1
              have HD2 := Aside0.mk hD2
              clear HM hD1 hD2
              have hwk : IntKind.i64.wrap ((k : Int) + 1) = (k : Int) + 1 := by rw [IntKind.wrap_i64]; omega
              have hwk2 : wrap64 ((k : Int) + 1) = (k : Int) + 1 := by unfold wrap64; omega
              have HWF := Aside0.mk (show (Lit.int .i64 ((k : Int) + 1)).wf = true from wf_of _ (by omega) (by omega))
              have HLT := Aside0.mk (And.intro HC.out HB2.out.size)
              have HN1 := Aside0.mk ((HB2.out.block _ (Nat.lt_of_lt_of_le (Array.getElem?_eq_some_iff.1 HO.out.1).1 (Nat.le_refl _))).trans HO.out.1)
              have TS := Aside0.mk (show ∀ w' : World, (∀ i, i < (wr.alloc (.cells #[.int .i64 y.f0, .int .i64 y.f1, .bool y.f2, .int .i64 y.f3, .int .i64 y.f4] 94)).heap.size → i ≠ w3.heap.size → w'.heap[i]? = (wr.alloc (.cells #[.int .i64 y.f0, .int .i64 y.f1, .bool y.f2, .int .i64 y.f3, .int .i64 y.f4] 94)).heap[i]?) → ((w'.cell? ⟨w.heap.size, 0, none⟩ = some (.slice A0_0 l0_0.length c0_0) ∧ w'.cell? ⟨w.heap.size, 1, none⟩ = some (.slice A0_1 l0_1.length c0_1) ∧ w'.cell? ⟨w.heap.size, 2, none⟩ = some (.slice A0_2 l0_2.length c0_2) ∧ w'.cell? ⟨w.heap.size, 3, none⟩ = some (.slice A0_3 l0_3.length c0_3) ∧ w'.cell? ⟨w.heap.size, 4, none⟩ = some (.slice A0_4 l0_4.length c0_4)) ∧ w'.cell? ⟨w3.heap.size + 1, 0, none⟩ = some (.map (some w3.heap.size)) ∧ w'.cell? ⟨wr.heap.size, 0, none⟩ = some (.int .i64 y.f0) ∧ w'.cell? ⟨wr.heap.size, 1, none⟩ = some (.int .i64 y.f1) ∧ w'.cell? ⟨wr.heap.size, 2, none⟩ = some (.bool y.f2) ∧ w'.cell? ⟨wr.heap.size, 3, none⟩ = some (.int .i64 y.f3) ∧ w'.cell? ⟨wr.heap.size, 4, none⟩ = some (.int .i64 y.f4)) from fun w' q => by
                have hne1 : w.heap.size ≠ w3.heap.size := Nat.ne_of_lt (Array.getElem?_eq_some_iff.1 HO.out.1).1
                have hlt1 : w.heap.size < wr.heap.size := (Array.getElem?_eq_some_iff.1 HN1.out).1
                have hlt2 : w3.heap.size + 1 < wr.heap.size := (Array.getElem?_eq_some_iff.1 HC.out).1
                have hs1 : (wr.alloc (.cells #[.int .i64 y.f0, .int .i64 y.f1, .bool y.f2, .int .i64 y.f3, .int .i64 y.f4] 94)).heap.size = wr.heap.size + 1 := by show (wr.heap.push _).size = _; simp
                have g0 := ((q w.heap.size (by omega) hne1).trans (Lib.alloc_old wr (.cells #[.int .i64 y.f0, .int .i64 y.f1, .bool y.f2, .int .i64 y.f3, .int .i64 y.f4] 94) _ hlt1)).trans HN1.out
                have g1 := ((q (w3.heap.size + 1) (by omega) (by omega)).trans (Lib.alloc_old wr (.cells #[.int .i64 y.f0, .int .i64 y.f1, .bool y.f2, .int .i64 y.f3, .int .i64 y.f4] 94) _ hlt2)).trans HC.out
                have g2 := (q wr.heap.size (by omega) (by omega)).trans (MapKept.heap_alloc wr (.cells #[.int .i64 y.f0, .int .i64 y.f1, .bool y.f2, .int .i64 y.f3, .int .i64 y.f4] 94)).1
                exact ⟨⟨Lib.cell_of_heap g0 0, Lib.cell_of_heap g0 1, Lib.cell_of_heap g0 2, Lib.cell_of_heap g0 3, Lib.cell_of_heap g0 4⟩, Lib.cell_of_heap g1 0, Lib.cell_of_heap g2 0, Lib.cell_of_heap g2 1, Lib.cell_of_heap g2 2, Lib.cell_of_heap g2 3, Lib.cell_of_heap g2 4⟩)
              go_wp2
              have HB3 := Aside0.mk (below_drew (Below.refl (wr.alloc (.cells #[.int .i64 y.f0, .int .i64 y.f1, .bool y.f2, .int .i64 y.f3, .int .i64 y.f4] 94)).heap.size (wr.alloc (.cells #[.int .i64 y.f0, .int .i64 y.f1, .bool y.f2, .int .i64 y.f3, .int .i64 y.f4] 94))))
              have HK := Aside0.mk (show ∀ i, i < (wr.alloc (.cells #[.int .i64 y.f0, .int .i64 y.f1, .bool y.f2, .int .i64 y.f3, .int .i64 y.f4] 94)).heap.size → i ≠ w3.heap.size → (wr.alloc (.cells #[.int .i64 y.f0, .int .i64 y.f1, .bool y.f2, .int .i64 y.f3, .int .i64 y.f4] 94)).drew.heap[i]? = (wr.alloc (.cells #[.int .i64 y.f0, .int .i64 y.f1, .bool y.f2, .int .i64 y.f3, .int .i64 y.f4] 94)).heap[i]? from fun i _ _ => rfl)
              go_region_held3 (fun w' => (w'.cell? ⟨w.heap.size, 0, none⟩ = some (.slice A0_0 l0_0.length c0_0) ∧ w'.cell? ⟨w.heap.size, 1, none⟩ = some (.slice A0_1 l0_1.length c0_1) ∧ w'.cell? ⟨w.heap.size, 2, none⟩ = some (.slice A0_2 l0_2.length c0_2) ∧ w'.cell? ⟨w.heap.size, 3, none⟩ = some (.slice A0_3 l0_3.length c0_3) ∧ w'.cell? ⟨w.heap.size, 4, none⟩ = some (.slice A0_4 l0_4.length c0_4)) ∧ w'.cell? ⟨w3.heap.size + 1, 0, none⟩ = some (.map (some w3.heap.size)) ∧ w'.cell? ⟨wr.heap.size, 0, none⟩ = some (.int .i64 y.f0) ∧ w'.cell? ⟨wr.heap.size, 1, none⟩ = some (.int .i64 y.f1) ∧ w'.cell? ⟨wr.heap.size, 2, none⟩ = some (.bool y.f2) ∧ w'.cell? ⟨wr.heap.size, 3, none⟩ = some (.int .i64 y.f3) ∧ w'.cell? ⟨wr.heap.size, 4, none⟩ = some (.int .i64 y.f4)) (first | exact TS.out _ HK5.out | exact TS.out _ HK.out) (first | (go_at_call 46; refine (lift_lit.calls A0_0 c0_0 l0_0 A0_1 c0_1 l0_1 A0_2 c0_2 l0_2 A0_3 c0_3 l0_3 A0_4 c0_4 l0_4 y.f0 y.f1 y.f2 y.f3 y.f4 s _ (tab_below HG.out (below_step (below_alloc HB.out (.cells #[.int .i64 y.f0, .int .i64 y.f1, .bool y.f2, .int .i64 y.f3, .int .i64 y.f4] 94)) HB3.out)) (Kd.C_below H0.out.1 (below_step (below_alloc HB.out (.cells #[.int .i64 y.f0, .int .i64 y.f1, .bool y.f2, .int .i64 y.f3, .int .i64 y.f4] 94)) HB3.out)) H0.out.2 (Kd.C_below H1.out.1 (below_step (below_alloc HB.out (.cells #[.int .i64 y.f0, .int .i64 y.f1, .bool y.f2, .int .i64 y.f3, .int .i64 y.f4] 94)) HB3.out)) H1.out.2 (Kd.C_below H2.out.1 (below_step (below_alloc HB.out (.cells #[.int .i64 y.f0, .int .i64 y.f1, .bool y.f2, .int .i64 y.f3, .int .i64 y.f4] 94)) HB3.out)) H2.out.2 (Kd.C_below H3.out.1 (below_step (below_alloc HB.out (.cells #[.int .i64 y.f0, .int .i64 y.f1, .bool y.f2, .int .i64 y.f3, .int .i64 y.f4] 94)) HB3.out)) H3.out.2 (Kd.C_below H4.out.1 (below_step (below_alloc HB.out (.cells #[.int .i64 y.f0, .int .i64 y.f1, .bool y.f2, .int .i64 y.f3, .int .i64 y.f4] 94)) HB3.out)) H4.out.2 HLF.out).mono ?_; rintro e w' ⟨rfl, hb⟩; have n2 := Aside0.mk (below_step HB3.out hb); clear HB3 hb HK; have HB3 := n2; clear n2; have HK := Aside0.mk (show ∀ i, i < (wr.alloc (.cells #[.int .i64 y.f0, .int .i64 y.f1, .bool y.f2, .int .i64 y.f3, .int .i64 y.f4] 94)).heap.size → i ≠ w3.heap.size → w'.heap[i]? = (wr.alloc (.cells #[.int .i64 y.f0, .int .i64 y.f1, .bool y.f2, .int .i64 y.f3, .int .i64 y.f4] 94)).heap[i]? from fun i hi _ => HB3.out.block i hi); obtain ⟨w5, hrun, p1, p2⟩ := (owns_below HD1.out (below_step (below_alloc (Below.refl wr.heap.size wr) (.cells #[.int .i64 y.f0, .int .i64 y.f1, .bool y.f2, .int .i64 y.f3, .int .i64 y.f4] 94)) HB3.out)).update strKey Tryz.underlying92 (by unfold maxLen; omega) HKEY.out (plainElem_int Tryz.underlying3 HWF.out); have HP1 := Aside0.mk p1; have HP2 := Aside0.mk p2; clear p1 p2; have HK5 := Aside0.mk (show ∀ i, i < (wr.alloc (.cells #[.int .i64 y.f0, .int .i64 y.f1, .bool y.f2, .int .i64 y.f3, .int .i64 y.f4] 94)).heap.size → i ≠ w3.heap.size → w5.heap[i]? = (wr.alloc (.cells #[.int .i64 y.f0, .int .i64 y.f1, .bool y.f2, .int .i64 y.f3, .int .i64 y.f4] 94)).heap[i]? from fun i hi hne => (HP2.out.block i (Nat.lt_of_lt_of_le hi HB3.out.size) (fun e => hne (Option.some.inj e))).trans (HK.out i hi hne))))
              all_goals (
                go_wp2
                go_roundg (l1_3.length - (k + 1))
                case measure => have h8 := HQ.out; omega
                case rel =>
                  have hlt2 : w3.heap.size + 1 < wr.heap.size := (Array.getElem?_eq_some_iff.1 HC.out).1
                  have hs1 : (wr.alloc (.cells #[.int .i64 y.f0, .int .i64 y.f1, .bool y.f2, .int .i64 y.f3, .int .i64 y.f4] 94)).heap.size = wr.heap.size + 1 := by show (wr.heap.push _).size = _; simp
                  exact ⟨k + 1, by go_num, by omega, ⟨rfl⟩, ⟨_, HP1.out, by
                    have e : ((textsB l0_2 l1_3).take k).length = k := by rw [List.length_take, HTX.out]; omega
                    have := HD2.out.snoc HD1.out.isMap s.data.toList
                    rw [e, ← HTK.out] at this
                    exact this⟩, ⟨((HK5.out (w3.heap.size + 1) (by omega) (by omega)).trans (Lib.alloc_old wr (.cells #[.int .i64 y.f0, .int .i64 y.f1, .bool y.f2, .int .i64 y.f3, .int .i64 y.f4] 94) _ hlt2)).trans HC.out⟩, ⟨below_owned (below_step HB2.out (below_step (below_alloc (Below.refl wr.heap.size wr) (.cells #[.int .i64 y.f0, .int .i64 y.f1, .bool y.f2, .int .i64 y.f3, .int .i64 y.f4] 94)) HB3.out)) HP2.out (Nat.le_refl _) (Nat.le_trans (Nat.le_trans (Nat.le_of_lt (Nat.lt_of_succ_lt hlt2)) (by omega)) HB3.out.size)⟩⟩)
            · obtain rfl : k = l1_3.length := by omega
              obtain ⟨D, hD1, hD2⟩ := HM.out
              rw [List.take_of_length_le (Nat.le_of_eq HTX.out)] at hD2
              have HD1 := Aside0.mk hD1
              have HD2 := Aside0.mk hD2
              have HCL := Aside0.mk (Lib.cell_of_heap HC.out 0)
              have hmf : ∀ (fn : Fn) (a b : Array Value) (W : World), (Instr.makeFunc fn a b).run Tryz.prog W = .ok (.func fn a b) W := fun _ _ _ _ => rfl
              clear HM hD1 hD2
              go_wp2_with (first | (go_at_call 35; refine (each_calls a2 (w3.heap.size + 1) w3.heap.size l1_3.length D (textsB l0_2 l1_3) r1 r2 _ (tab_below HG.out HB.out) f6 (by rw [HTX.out]; omega) HCL.out HD1.out HD2.out HRE.out).mono ?_; rintro e w4 ⟨v0, rfl, q1, hb⟩; have HV := Aside0.mk q1; have n2 := Aside0.mk (below_step HB.out hb); have n3 := Aside0.mk HB.out.size; clear HB hb q1; have HB := n2; clear n2))
              go_ret2
              exact ⟨v0, rfl, Kd.R_lower HV.out n3.out, HB.out⟩
  · rw [if_neg hb] at h; exact absurd h (by simp)
end Go.Proofs.YtmfekngjhiofaaaGreatDoor.Q
