/-
  HAND: report.Verdict.
-/
import Derived.Test.YtmfekngjhiofaaaGreatDoorQx0
import Derived.Test.YtmfekngjhiofaaaGreatDoorHTrace
import Derived.Test.YtmfekngjhiofaaaGreatDoorHSays
import Derived.Test.YtmfekngjhiofaaaGreatDoorHLine
import Derived.Test.YtmfekngjhiofaaaGreatDoorHDefer
import Derived.Test.YtmfekngjhiofaaaGreatDoorHClause
import Derived.Test.YtmfekngjhiofaaaGreatDoorQx21
set_option linter.unusedVariables false
set_option linter.unusedSimpArgs false
namespace Go.Proofs.YtmfekngjhiofaaaGreatDoor.Q
open Go.RowKit Go.Proofs.YtmfekngjhiofaaaGreatDoorW.PrintWords Go.Proofs.YtmfekngjhiofaaaGreatDoorW.PrintLast Go.Proofs.YtmfekngjhiofaaaGreatDoorW.PrintMore

theorem ba_ext {a b : ByteArray} (h : a.data.toList = b.data.toList) : a = b := by
  cases a; cases b; congr 1; exact Array.toList_inj.1 h
def kindW (k : Int) : ByteArray := if k = 8 then ⟨#[97, 115, 115, 101, 114, 116]⟩ else if k = 9 then ⟨#[97, 115, 115, 117, 109, 101]⟩ else if k = 10 then ⟨#[99, 111, 118, 101, 114]⟩ else ⟨#[]⟩
def kindB (k : Int) : ByteArray := if k = 8 then ⟨#[97, 115, 115, 101, 114, 116]⟩ else if k = 9 then ⟨#[97, 115, 115, 117, 109, 101]⟩ else if k = 10 then ⟨#[99, 111, 118, 101, 114]⟩ else ⟨#[63]⟩
def headB (x : S105) (vk vK : Int) (n : Nat) : ByteArray := (((kindB x.f0 ++ (⟨#[32]⟩ : ByteArray)) ++ x.f1) ++ (⟨#[58, 32]⟩ : ByteArray)) ++ saysB x.f0 vk vK n
def headL (x : S105) (vk vK : Int) (n : Nat) : List UInt8 := (headB x vk vK n).data.toList ++ [10]
abbrev BitsT := Int × List S199 × List S200 × List S94 × List S202
def clauseLines (k : Nat) (l0_0 : List S125) (l0_1 : List S72) (l0_2 : List S114) (l0_3 : List S105) (l0_4 : List S72) (c : BitsT) : List (List Int) → Option (List UInt8)
  | [] => some []
  | l :: rest => (lift_Clause.f l0_0 l0_1 l0_2 l0_3 l0_4 c.1 c.2.1 c.2.2.1 c.2.2.2.1 c.2.2.2.2 l).bind fun s => if s.size ≤ 1000000 then (clauseLines k l0_0 l0_1 l0_2 l0_3 l0_4 c rest).bind fun t => some (s.data.toList ++ 10 :: t) else none
def report_Verdict.f (k : Nat) (l0_0 : List S125) (l0_1 : List S72) (l0_2 : List S114) (l0_3 : List S105) (l0_4 : List S72) (a1 : Int) (a2_0 : Int) (a2_1 : Int) (l2_2 : List (List Int)) (l2_3 : List (List Int)) : Option (ByteArray) :=
  if a1 < 0 ∨ (l0_3.length : Int) ≤ a1 then some ⟨#[]⟩
  else if (rd_T105 l0_3 a1).f1.size ≤ 10000 ∧ (Lit.int .i64 (rd_T105 l0_3 a1).f0).wf = true ∧ (Lit.int .i64 a2_1).wf = true ∧ l2_3.length ≤ 10000 then
    if a2_0 = 1 then (lift_Trace.f l0_0 l0_1 l0_2 l0_3 l0_4 l2_2).bind fun t => if t.size ≤ 10000000000000 then some ⟨(headL (rd_T105 l0_3 a1) a2_0 a2_1 l2_3.length ++ t.data.toList).toArray⟩ else none
    else if a2_0 = 2 then (report_bits.f k l0_0 l0_1 l0_2 l0_3 l0_4).bind fun c => (clauseLines k l0_0 l0_1 l0_2 l0_3 l0_4 c l2_3).bind fun t => some ⟨(headL (rd_T105 l0_3 a1) a2_0 a2_1 l2_3.length ++ t).toArray⟩
    else some ⟨(headL (rd_T105 l0_3 a1) a2_0 a2_1 l2_3.length).toArray⟩
  else none
theorem clauseLines.mono (l0_0 : List S125) (l0_1 : List S72) (l0_2 : List S114) (l0_3 : List S105) (l0_4 : List S72) (c : BitsT) (k : Nat) : ∀ l, LeO (clauseLines k l0_0 l0_1 l0_2 l0_3 l0_4 c l) (clauseLines (k + 1) l0_0 l0_1 l0_2 l0_3 l0_4 c l)
  | [] => LeO.refl _
  | l :: rest => by
    unfold clauseLines
    exact LeO.bind (LeO.refl _) (fun s => LeO.ite (LeO.bind (clauseLines.mono l0_0 l0_1 l0_2 l0_3 l0_4 c k rest) (fun _ => LeO.refl _)) (LeO.refl _))
theorem report_Verdict.mono : ∀ l0_0 l0_1 l0_2 l0_3 l0_4 a1 a2_0 a2_1 l2_2 l2_3 k, LeO (report_Verdict.f k l0_0 l0_1 l0_2 l0_3 l0_4 a1 a2_0 a2_1 l2_2 l2_3) (report_Verdict.f (k + 1) l0_0 l0_1 l0_2 l0_3 l0_4 a1 a2_0 a2_1 l2_2 l2_3) := by
  intro l0_0 l0_1 l0_2 l0_3 l0_4 a1 a2_0 a2_1 l2_2 l2_3 k
  unfold report_Verdict.f
  exact LeO.ite (LeO.refl _) (LeO.ite (LeO.ite (LeO.refl _) (LeO.ite (LeO.bind (report_bits.mono _ _ _ _ _ _) (fun c => LeO.bind (clauseLines.mono _ _ _ _ _ c k _) (fun _ => LeO.refl _))) (LeO.refl _))) (LeO.refl _))
/-- a literal's pair is put into the map (the law of mapUpdate, at insert) -/
theorem wpList_insert_own {H : Type} {P : Program} (w : World) {ops : Array Oper} {rest : List Oper} {o : Oper} {a : Act} {Q : Exit → Act → World → Prop}
    (hg : o.guard = none) (m x v : Operand) (t : TypeId) (hop : o.op = Op.insert t m x v)
    (k e : TypeId) (K : Maps.Keyed P k) (ht : P.underlying t = some (.map k e)) (R : Value → Option (DataW H × List MemPlace)) (b n : Nat) (D : DataW H)
    (hm : a.eval m = .map (some b)) (hown : w.ownsMap P k R b n D) (hn : n < maxLen) (key val : Value) (kl : Lit) (hx : a.eval x = key) (hv : a.eval v = val) (hkey : keyOf P k key = some kl)
    (d : DataW H) (ps : List MemPlace) (hval : R val = some (d, ps))
    (hK : ∀ w', w'.ownsMap P k R b (n + 1) (D.put kl d) → w.grownBy w' (some b) → wpList P ops Q rest (a.put o.dst undef) w') :
    wpList P ops Q (o :: rest) a w := by
  refine wpList_plain hg fun K' hK' => ?_
  obtain ⟨w', hrun, r1, r2⟩ := hown.update K ht hn hkey hval
  unfold Oper.wp
  simp [execOp, hop, hm, hx, hv, hrun, Result.andThen]
  exact hK' _ _ (hK w' r1 r2)
def kindD : DataW Unit := (((DataW.map []).put (.int .i64 8) (.lit (.string [97, 115, 115, 101, 114, 116]))).put (.int .i64 9) (.lit (.string [97, 115, 115, 117, 109, 101]))).put (.int .i64 10) (.lit (.string [99, 111, 118, 101, 114]))
theorem kindD_at (k : Int) : kindD.atKey (.int .i64 k) (.lit (.string [])) = .lit (.string (kindW k).data.toList) := by
  unfold kindW kindD
  by_cases h8 : k = 8
  · subst h8; rfl
  · by_cases h9 : k = 9
    · subst h9; rfl
    · by_cases h10 : k = 10
      · subst h10; rfl
      · rw [if_neg h8, if_neg h9, if_neg h10, Maps.atKey_put_other (by intro e; injection e with _ e; exact h10 e), Maps.atKey_put_other (by intro e; injection e with _ e; exact h9 e), Maps.atKey_put_other (by intro e; injection e with _ e; exact h8 e)]
        rfl
theorem verdict_result (tmps : Array Value) (w : World) (s : Nat) (v : ByteArray) (ht : tmps.getD 6 undef = .pointer (some ⟨s, 0, none⟩)) (hc : w.cell? ⟨s, 0, none⟩ = some (.string v)) : (results Tryz.f22 tmps).run Tryz.prog w = .ok (.string v) w := by
  simp [results, Tryz.results22, go_sem] at ht ⊢
  simp [ht, hc, go_sem]
theorem makes (fn : Fn) (first cap : Array Value) (w : World) : (Instr.makeFunc fn first cap).run Tryz.prog w = .ok (.func fn first cap) w := rfl
set_option maxHeartbeats 4000000 in
set_option maxRecDepth 100000 in
theorem Verdict_none (A0_0 : Option Addr) (c0_0 : Nat) (l0_0 : List S125) (A0_1 : Option Addr) (c0_1 : Nat) (l0_1 : List S72) (A0_2 : Option Addr) (c0_2 : Nat) (l0_2 : List S114) (A0_3 : Option Addr) (c0_3 : Nat) (l0_3 : List S105) (A0_4 : Option Addr) (c0_4 : Nat) (l0_4 : List S72) (a1 : Int) (a2_0 : Int) (a2_1 : Int) (A2_2 : Option Addr) (c2_2 : Nat) (l2_2 : List (List Int)) (A2_3 : Option Addr) (c2_3 : Nat) (l2_3 : List (List Int)) (w : World) (h : a1 < 0 ∨ (l0_3.length : Int) ≤ a1) :
    Calls Tryz.prog 22 #[.agg #[.slice A0_0 l0_0.length c0_0, .slice A0_1 l0_1.length c0_1, .slice A0_2 l0_2.length c0_2, .slice A0_3 l0_3.length c0_3, .slice A0_4 l0_4.length c0_4], .int .i64 a1, .agg #[.int .i64 a2_0, .int .i64 a2_1, .slice A2_2 l2_2.length c2_2, .slice A2_3 l2_3.length c2_3]] w fun e w' => e = .returned (.string ⟨#[]⟩) ∧ Below w.heap.size w w' := by
  have hB : Below w.heap.size w (((w.alloc (.cells #[.slice A0_0 l0_0.length c0_0, .slice A0_1 l0_1.length c0_1, .slice A0_2 l0_2.length c0_2, .slice A0_3 l0_3.length c0_3, .slice A0_4 l0_4.length c0_4] 27)).alloc (.cells #[.int .i64 a2_0, .int .i64 a2_1, .slice A2_2 l2_2.length c2_2, .slice A2_3 l2_3.length c2_3] 54)).alloc (.cells #[.string ⟨#[]⟩] 9)) := below_alloc (below_alloc (below_alloc (Below.refl _ _) _) _) _
  have HB := Aside0.mk hB
  clear hB
  by_cases h1 : a1 < 0
  · clear h
    go_enter_defers Tryz.func22, Tryz.ntmps22
    go_wp2
    exact ⟨_, verdict_result _ _ (w.heap.size + 1 + 1) ⟨#[]⟩ rfl (by rw [World.cell?_alloc_at _ _ _ _ (by simp)]; rfl), rfl, HB.out⟩
  · have h2 : (l0_3.length : Int) ≤ a1 := by omega
    clear h
    go_enter_defers Tryz.func22, Tryz.ntmps22
    go_wp2
    exact ⟨_, verdict_result _ _ (w.heap.size + 1 + 1) ⟨#[]⟩ rfl (by rw [World.cell?_alloc_at _ _ _ _ (by simp)]; rfl), rfl, HB.out⟩
/-- what the call's own variables hold -/
structure Loc (n : Nat) (N V X : Array Value) (L : List UInt8) (w W : World) : Prop where
  net : W.heap[n]? = some (.cells N 27 (0, 0))
  ver : W.heap[n + 1]? = some (.cells V 54 (0, 0))
  res : W.heap[n + 1 + 1]? = some (.cells #[.string ⟨#[]⟩] 9 (0, 0))
  pp : W.heap[n + 1 + 1 + 1 + 1]? = some (.cells #[.pointer (some ⟨n + 1 + 1 + 1, 0, none⟩)] 106 (0, 0))
  x : W.heap[n + 1 + 1 + 1 + 1 + 1]? = some (.cells X 105 (0, 0))
  bld : Lib.IsBuilder 108 5 (n + 1 + 1 + 1) (n + 1 + 1 + 1) (Lib.byteCells L) W
  below : Below n w W
theorem Loc.size {n : Nat} {N V X : Array Value} {L : List UInt8} {w W : World} (h : Loc n N V X L w W) : n + 1 + 1 + 1 + 1 + 1 < W.heap.size := (Array.getElem?_eq_some_iff.1 h.x).1
theorem Loc.move {n : Nat} {N V X : Array Value} {L : List UInt8} {w W W' : World} (h : Loc n N V X L w W) (hb : Below W.heap.size W W') : Loc n N V X L w W' := by
  have hs := h.size
  exact ⟨(hb.block _ (by omega)).trans h.net, (hb.block _ (by omega)).trans h.ver, (hb.block _ (by omega)).trans h.res, (hb.block _ (by omega)).trans h.pp, (hb.block _ (by omega)).trans h.x, builder_below h.bld hb, h.below.trans (hb.mono (by omega))⟩
theorem Loc.write {n : Nat} {N V X : Array Value} {L L' : List UInt8} {w W W' : World} (h : Loc n N V X L w W) (hn : Lib.IsBuilder 108 5 (n + 1 + 1 + 1) (n + 1 + 1 + 1) (Lib.byteCells L') W') (hb : Below (n + 1 + 1 + 1) W W') (ho : Lib.OthersKept 5 (some (n + 1 + 1 + 1)) W W') : Loc n N V X L' w W' :=
  ⟨fkept h.net ho (by omega) (by decide), fkept h.ver ho (by omega) (by decide), fkept h.res ho (by omega) (by decide), fkept h.pp ho (by omega) (by decide), fkept h.x ho (by omega) (by decide), hn, h.below.trans (hb.mono (by omega))⟩
set_option maxRecDepth 100000 in
theorem line_L (B b : Nat) (L : List UInt8) (s : ByteArray) (w : World) (h : Lib.IsBuilder 108 5 B b (Lib.byteCells L) w) (hlen : L.length + s.size + 1 ≤ 140737488355328) (hBw : B ≤ w.heap.size) :
    Calls Tryz.prog 56 #[.pointer (some ⟨b, 0, none⟩), .string s] w fun e w' => e = .returned (.tuple #[]) ∧ (Lib.IsBuilder 108 5 B b (Lib.byteCells (L ++ (s.data.toList ++ [10]))) w' ∧ Below B w w' ∧ Lib.OthersKept 5 (some b) w w') :=
  (line_calls B b (Lib.byteCells L) s w h (by rw [Lib.byteCells_length, ByteArray.size_append]; have : (⟨#[10]⟩ : ByteArray).size = 1 := rfl; omega) hBw).mono fun e w' ⟨h1, h2, h3, h4⟩ => ⟨h1, .inr (by
    have : Lib.byteCells L ++ Lib.strCells (s ++ (⟨#[10]⟩ : ByteArray)) = Lib.byteCells (L ++ (s.data.toList ++ [10])) := by rw [Lib.strCells_eq]; simp [Lib.byteCells]
    rw [← this]; exact h2), h3, h4⟩
theorem kindB_size (k : Int) : (kindB k).size ≤ 6 := by
  unfold kindB; repeat' split
  all_goals decide
theorem saysB_size (kind vk vK : Int) (n : Nat) (hK : (Lit.int .i64 vK).wf = true) (hn : n ≤ 9223372036854775807) : (saysB kind vk vK n).size ≤ 100 := by
  have h1 := numB_size vK hK
  have h2 := numB_size (n : Int) (wf_nat n hn)
  have p1 : (if kind = 10 then (⟨#[114, 101, 97, 99, 104, 101, 100]⟩ : ByteArray) else (⟨#[118, 105, 111, 108, 97, 116, 101, 100]⟩ : ByteArray)).size ≤ 13 := by split <;> decide
  have p2 : (if kind = 10 then (⟨#[110, 101, 118, 101, 114, 32, 114, 101, 97, 99, 104, 101, 100]⟩ : ByteArray) else (⟨#[112, 114, 111, 118, 101, 100]⟩ : ByteArray)).size ≤ 13 := by split <;> decide
  have e1 : (⟨#[32, 105, 110, 32]⟩ : ByteArray).size = 4 := rfl
  have e2 : (⟨#[32, 99, 121, 99, 108, 101, 115]⟩ : ByteArray).size = 7 := rfl
  have e3 : (⟨#[32, 98, 121, 32]⟩ : ByteArray).size = 4 := rfl
  have e4 : (⟨#[32, 99, 108, 97, 117, 115, 101, 115]⟩ : ByteArray).size = 8 := rfl
  have e5 : (⟨#[32, 97, 116, 32, 100, 101, 112, 116, 104, 32]⟩ : ByteArray).size = 10 := rfl
  have e6 : (⟨#[117, 110, 100, 111, 110, 101]⟩ : ByteArray).size = 6 := rfl
  have e7 : (⟨#[97, 115, 115, 117, 109, 101, 100]⟩ : ByteArray).size = 7 := rfl
  have e8 : (⟨#[110, 111, 116, 32, 116, 111, 108, 100]⟩ : ByteArray).size = 8 := rfl
  unfold saysB
  by_cases c1 : vk = 1
  · rw [if_pos c1]; simp only [ByteArray.size_append]; omega
  · rw [if_neg c1]
    by_cases c2 : vk = 2
    · rw [if_pos c2]
      by_cases c3 : vK = 0 ∨ 0 < n
      · rw [if_pos c3]; simp only [ByteArray.size_append]; omega
      · rw [if_neg c3]; simp only [ByteArray.size_append]; omega
    · rw [if_neg c2]
      by_cases c4 : vk = 3
      · rw [if_pos c4]; omega
      · rw [if_neg c4]
        by_cases c5 : kind = 9
        · rw [if_pos c5]; omega
        · rw [if_neg c5]; omega
theorem setCell_self {w : World} {s : Nat} {v : Value} {T : TypeId} {fr : Nat × Nat} (h : w.heap[s]? = some (.cells #[v] T fr)) : w.setCell ⟨s, 0, none⟩ v = w := by
  have e : (w.heap.modify s fun
      | .cells c elem frozen => .cells (if (none : Option Nat).isSome then c else c.setIfInBounds 0 v) elem frozen
      | o => o) = w.heap := by
    apply Array.ext_getElem?
    intro i
    rw [Array.getElem?_modify]
    by_cases hi : s = i
    · subst hi
      rw [if_pos rfl, h]
      rfl
    · rw [if_neg hi]
  show { w with heap := _ } = w
  cases w
  simp only at e ⊢
  congr 1
theorem kind_look {W : World} {b n : Nat} (h : W.ownsMap Tryz.prog 3 (plainElem Tryz.prog 9) b n kindD) (k : Int) (hk : (Lit.int .i64 k).wf = true) : (Instr.lookup 109 (.map (some b)) (.int .i64 k) false).run Tryz.prog W = .ok (.string (kindW k)) W := by
  obtain ⟨v, ps, hrun, hv⟩ := h.lookup (Maps.int_keyed Tryz.underlying3) Tryz.underlying109 (zeroStr W) (plainElem_string Tryz.underlying9 (s := ⟨#[]⟩) (by decide)) (Maps.keyOf_int_mk Tryz.underlying3 hk)
  obtain ⟨val, rfl, hz⟩ := plainElem_string_inv' Tryz.underlying9 hv
  rw [hrun]
  dsimp only at hz
  rw [kindD_at k] at hz
  have hz' : (kindW k).data.toList = val.data.toList := Lit.string.inj (DataW.lit.inj hz)
  have : kindW k = val := by
    exact ba_ext hz'
  rw [this]
theorem six (w : World) (o0 o1 o2 o3 o4 o5 : Obj) : ((((((w.alloc o0).alloc o1).alloc o2).alloc o3).alloc o4).alloc o5).heap[w.heap.size]? = some o0 ∧ ((((((w.alloc o0).alloc o1).alloc o2).alloc o3).alloc o4).alloc o5).heap[w.heap.size + 1]? = some o1 ∧ ((((((w.alloc o0).alloc o1).alloc o2).alloc o3).alloc o4).alloc o5).heap[w.heap.size + 1 + 1]? = some o2 ∧ ((((((w.alloc o0).alloc o1).alloc o2).alloc o3).alloc o4).alloc o5).heap[w.heap.size + 1 + 1 + 1 + 1]? = some o4 ∧ ((((((w.alloc o0).alloc o1).alloc o2).alloc o3).alloc o4).alloc o5).heap[w.heap.size + 1 + 1 + 1 + 1 + 1]? = some o5 := by
  have a5 := (MapKept.heap_alloc (((((w.alloc o0).alloc o1).alloc o2).alloc o3).alloc o4) o5).1
  have a4 := (Lib.alloc_old (((((w.alloc o0).alloc o1).alloc o2).alloc o3).alloc o4) o5 _ (by simp)).trans (MapKept.heap_alloc ((((w.alloc o0).alloc o1).alloc o2).alloc o3) o4).1
  have a2 := (Lib.alloc_old (((((w.alloc o0).alloc o1).alloc o2).alloc o3).alloc o4) o5 _ (by simp <;> omega)).trans ((Lib.alloc_old ((((w.alloc o0).alloc o1).alloc o2).alloc o3) o4 _ (by simp <;> omega)).trans ((Lib.alloc_old (((w.alloc o0).alloc o1).alloc o2) o3 _ (by simp)).trans (MapKept.heap_alloc ((w.alloc o0).alloc o1) o2).1))
  have a1 := (Lib.alloc_old (((((w.alloc o0).alloc o1).alloc o2).alloc o3).alloc o4) o5 _ (by simp <;> omega)).trans ((Lib.alloc_old ((((w.alloc o0).alloc o1).alloc o2).alloc o3) o4 _ (by simp <;> omega)).trans ((Lib.alloc_old (((w.alloc o0).alloc o1).alloc o2) o3 _ (by simp <;> omega)).trans ((Lib.alloc_old ((w.alloc o0).alloc o1) o2 _ (by simp)).trans (MapKept.heap_alloc (w.alloc o0) o1).1)))
  have a0 := (Lib.alloc_old (((((w.alloc o0).alloc o1).alloc o2).alloc o3).alloc o4) o5 _ (by simp <;> omega)).trans ((Lib.alloc_old ((((w.alloc o0).alloc o1).alloc o2).alloc o3) o4 _ (by simp <;> omega)).trans ((Lib.alloc_old (((w.alloc o0).alloc o1).alloc o2) o3 _ (by simp <;> omega)).trans ((Lib.alloc_old ((w.alloc o0).alloc o1) o2 _ (by simp <;> omega)).trans ((Lib.alloc_old (w.alloc o0) o1 _ (by simp)).trans (MapKept.heap_alloc w o0).1))))
  have s : ∀ (w : World) (o : Obj), (w.alloc o).heap.size = w.heap.size + 1 := fun w o => by simp
  simp only [s] at a5 a4 a2 a1 a0
  exact ⟨a0, a1, a2, a4, a5⟩
theorem loc_start (w : World) (N V X : Array Value) : Loc w.heap.size N V X [] w ((((((w.alloc (.cells N 27)).alloc (.cells V 54)).alloc (.cells #[.string ⟨#[]⟩] 9)).alloc (.cells #[.pointer none, .slice none 0 0] 108)).alloc (.cells #[.pointer (some ⟨w.heap.size + 1 + 1 + 1, 0, none⟩)] 106)).alloc (.cells X 105)) := by
  obtain ⟨a0, a1, a2, a4, a5⟩ := six w (.cells N 27) (.cells V 54) (.cells #[.string ⟨#[]⟩] 9) (.cells #[.pointer none, .slice none 0 0] 108) (.cells #[.pointer (some ⟨w.heap.size + 1 + 1 + 1, 0, none⟩)] 106) (.cells X 105)
  refine ⟨a0, a1, a2, a4, a5, ?_, below_alloc (below_alloc (below_alloc (below_alloc (below_alloc (below_alloc (Below.refl _ _) _) _) _) _) _) _⟩
  have s : ∀ (w : World) (o : Obj), (w.alloc o).heap.size = w.heap.size + 1 := fun w o => by simp
  have h := Lib.fresh_isBuilder 108 5 (((w.alloc (.cells N 27)).alloc (.cells V 54)).alloc (.cells #[.string ⟨#[]⟩] 9))
  simp only [s] at h
  exact builder_below h (below_alloc (below_alloc (Below.refl _ _) _) _)
theorem R_others {α : Type} {d : Kd α} {e : Nat} {w w1 : World} {base b : Nat} {ok : Nat → Prop} {v : Value} {xs : List α} (h : d.R e w base ok v xs) (ho : Lib.OthersKept 5 (some b) w w1) {cs : Array Value} {T : TypeId} (hb : w.heap[b]? = some (.cells cs T (0, 0))) (hT : ∀ q, q ∈ e :: d.E → q ≠ T) (h5 : ∀ q, q ∈ e :: d.E → q ≠ 5) : d.R e w1 base ok v xs :=
  Kd.R_mono (Kd.R_move (Kd.R_bound h) (fun k hk => by
    obtain ⟨_, _, _, q, hq, cells, hc⟩ := hk
    have hne : k ≠ b := by
      rintro rfl
      rw [hb] at hc
      injection hc with hc
      injection hc with _ hc
      exact hT q hq hc.symm
    exact (ho k _ hc (fun e => hne (Option.some.inj e)) (fun c fz e => h5 q hq (by injection e))).trans hc.symm)) (fun _ hk => hk.1)
/-- what the variable c holds -/
structure CircAt (g base : Nat) (c : BitsT) (v1 v2 v3 v4 : Value) (W : World) : Prop where
  blk : W.heap[g]? = some (.cells #[.int .i64 c.1, v1, v2, v3, v4] 35 (0, 0))
  r1 : Kd.R k199 199 W base (fun _ => True) v1 c.2.1
  r2 : Kd.R k200 200 W base (fun _ => True) v2 c.2.2.1
  r3 : Kd.R k94 94 W base (fun _ => True) v3 c.2.2.2.1
  r4 : Kd.R k202 202 W base (fun _ => True) v4 c.2.2.2.2
theorem CircAt.move {g base : Nat} {c : BitsT} {v1 v2 v3 v4 : Value} {W W' : World} (h : CircAt g base c v1 v2 v3 v4 W) (hb : Below W.heap.size W W') : CircAt g base c v1 v2 v3 v4 W' :=
  ⟨(hb.block _ (Array.getElem?_eq_some_iff.1 h.blk).1).trans h.blk, Kd.R_below h.r1 hb, Kd.R_below h.r2 hb, Kd.R_below h.r3 hb, Kd.R_below h.r4 hb⟩
theorem CircAt.write {g base b : Nat} {c : BitsT} {v1 v2 v3 v4 : Value} {W W' : World} (h : CircAt g base c v1 v2 v3 v4 W) {cs : Array Value} (hb : W.heap[b]? = some (.cells cs 108 (0, 0))) (ho : Lib.OthersKept 5 (some b) W W') : CircAt g base c v1 v2 v3 v4 W' := by
  have hne : g ≠ b := by
    rintro rfl
    have := h.blk
    rw [hb] at this
    injection this with this
    injection this with _ this
    exact absurd this (by decide)
  exact ⟨fkept h.blk ho hne (by decide), R_others h.r1 ho hb (by decide) (by decide), R_others h.r2 ho hb (by decide) (by decide), R_others h.r3 ho hb (by decide) (by decide), R_others h.r4 ho hb (by decide) (by decide)⟩
theorem page_at {B b : Nat} {bs : List Value} {W : World} (h : Lib.IsBuilder 108 5 B b bs W) : ∃ cs, W.heap[b]? = some (.cells cs 108 (0, 0)) := by
  rcases h with h | h
  · obtain ⟨_, v, hb, _⟩ := h; exact ⟨_, hb⟩
  · obtain ⟨_, v, hb, _⟩ := h; exact ⟨_, hb⟩
theorem clauseLines_at (k : Nat) (l0_0 : List S125) (l0_1 : List S72) (l0_2 : List S114) (l0_3 : List S105) (l0_4 : List S72) (c : BitsT) : ∀ (l : List (List Int)) (t : List UInt8), clauseLines k l0_0 l0_1 l0_2 l0_3 l0_4 c l = some t → ∀ (i : Nat) (hi : i < l.length), ∃ t' s, clauseLines k l0_0 l0_1 l0_2 l0_3 l0_4 c (l.take i) = some t' ∧ lift_Clause.f l0_0 l0_1 l0_2 l0_3 l0_4 c.1 c.2.1 c.2.2.1 c.2.2.2.1 c.2.2.2.2 l[i] = some s ∧ s.size ≤ 1000000 ∧ clauseLines k l0_0 l0_1 l0_2 l0_3 l0_4 c (l.take (i + 1)) = some (t' ++ (s.data.toList ++ [10]))
  | [], _, _, i, hi => by simp at hi
  | a :: rest, t, h, i, hi => by
    unfold clauseLines at h
    obtain ⟨s, hs, h⟩ := Option.bind_eq_some_iff.1 h
    by_cases hq : s.size ≤ 1000000
    · rw [if_pos hq] at h
      obtain ⟨t2, ht2, h⟩ := Option.bind_eq_some_iff.1 h
      cases i with
      | zero =>
        refine ⟨[], s, rfl, hs, hq, ?_⟩
        show clauseLines k l0_0 l0_1 l0_2 l0_3 l0_4 c [a] = _
        unfold clauseLines
        rw [hs, Option.bind_some, if_pos hq]
        simp [clauseLines]
      | succ i =>
        obtain ⟨t', s', h1, h2, h3, h4⟩ := clauseLines_at k l0_0 l0_1 l0_2 l0_3 l0_4 c rest t2 ht2 i (by simpa using hi)
        refine ⟨s.data.toList ++ 10 :: t', s', ?_, by simpa using h2, h3, ?_⟩
        · show clauseLines k l0_0 l0_1 l0_2 l0_3 l0_4 c (a :: rest.take i) = _
          unfold clauseLines
          rw [hs, Option.bind_some, if_pos hq, h1]
          rfl
        · show clauseLines k l0_0 l0_1 l0_2 l0_3 l0_4 c (a :: rest.take (i + 1)) = _
          unfold clauseLines
          rw [hs, Option.bind_some, if_pos hq, h4]
          simp
    · rw [if_neg hq] at h; exact absurd h (by simp)
theorem clauseLines_len (k : Nat) (l0_0 : List S125) (l0_1 : List S72) (l0_2 : List S114) (l0_3 : List S105) (l0_4 : List S72) (c : BitsT) : ∀ (l : List (List Int)) (t : List UInt8), clauseLines k l0_0 l0_1 l0_2 l0_3 l0_4 c l = some t → t.length ≤ 1000001 * l.length
  | [], _, h => by cases h; simp
  | a :: rest, t, h => by
    unfold clauseLines at h
    obtain ⟨s, hs, h⟩ := Option.bind_eq_some_iff.1 h
    by_cases hq : s.size ≤ 1000000
    · rw [if_pos hq] at h
      obtain ⟨t2, ht2, h⟩ := Option.bind_eq_some_iff.1 h
      have ih := clauseLines_len k l0_0 l0_1 l0_2 l0_3 l0_4 c rest t2 ht2
      obtain rfl := Option.some.inj h
      have e : s.data.toList.length = s.size := by simp
      simp only [List.length_append, List.length_cons]
      omega
    · rw [if_neg hq] at h; exact absurd h (by simp)
theorem Loc.door {n : Nat} {N V X : Array Value} {L : List UInt8} {w W : World} {tmps : Array Value} {r : ByteArray} (h : Loc n N V X L w W) (hn : w.heap.size = n) (hl : L ≠ []) (hr : r = ⟨L.toArray⟩) (ht : tmps.getD 6 undef = .pointer (some ⟨n + 1 + 1, 0, none⟩)) :
    Leaves Tryz.prog Tryz.f22 tmps (fun e w' => e = .returned (.string r) ∧ Below n w w') [{ target := .fn (.func 55) #[.pointer (some ⟨n + 1 + 1 + 1 + 1, 0, none⟩), .pointer (some ⟨n + 1 + 1, 0, none⟩)], args := #[] }] .returning W := by
  subst hr
  refine leaves_cons (f := 55) (args := #[.pointer (some ⟨n + 1 + 1 + 1 + 1, 0, none⟩), .pointer (some ⟨n + 1 + 1, 0, none⟩)]) (by simp) (by simp [go_sem]) ?_
  refine (told_d n (n + 1 + 1 + 1) (n + 1 + 1 + 1) (n + 1 + 1 + 1 + 1) (n + 1 + 1) L _ .returning W h.bld hl (Lib.cell_of_heap h.pp 0) h.res (by omega) (by omega)).mono ?_
  rintro e u' w'' ⟨rfl, rfl, h1, h2⟩
  exact ⟨_, verdict_result tmps w'' (n + 1 + 1) ⟨L.toArray⟩ ht h1, rfl, h.below.trans h2⟩
set_option maxHeartbeats 16000000 in
set_option maxRecDepth 100000 in
theorem Verdict_some (k : Nat) (A0_0 : Option Addr) (c0_0 : Nat) (l0_0 : List S125) (A0_1 : Option Addr) (c0_1 : Nat) (l0_1 : List S72) (A0_2 : Option Addr) (c0_2 : Nat) (l0_2 : List S114) (A0_3 : Option Addr) (c0_3 : Nat) (l0_3 : List S105) (A0_4 : Option Addr) (c0_4 : Nat) (l0_4 : List S72) (a1 : Int) (a2_0 : Int) (a2_1 : Int) (A2_2 : Option Addr) (c2_2 : Nat) (l2_2 : List (List Int)) (A2_3 : Option Addr) (c2_3 : Nat) (l2_3 : List (List Int)) (r : ByteArray) (w : World) (hG : Tab w) (hr0_0 : Kd.C k125 w A0_0 l0_0.length l0_0) (hc0_0 : l0_0.length ≤ c0_0) (hr0_1 : Kd.C k72 w A0_1 l0_1.length l0_1) (hc0_1 : l0_1.length ≤ c0_1) (hr0_2 : Kd.C k114 w A0_2 l0_2.length l0_2) (hc0_2 : l0_2.length ≤ c0_2) (hr0_3 : Kd.C k105 w A0_3 l0_3.length l0_3) (hc0_3 : l0_3.length ≤ c0_3) (hr0_4 : Kd.C k72 w A0_4 l0_4.length l0_4) (hc0_4 : l0_4.length ≤ c0_4) (hr2_2 : Kd.C (Kd.slice 3 (Kd.int .i64)) w A2_2 l2_2.length l2_2) (hc2_2 : l2_2.length ≤ c2_2) (hr2_3 : Kd.C (Kd.slice 3 (Kd.int .i64)) w A2_3 l2_3.length l2_3) (hc2_3 : l2_3.length ≤ c2_3) (h1 : 0 ≤ a1) (h2 : a1 < (l0_3.length : Int)) (h : report_Verdict.f k l0_0 l0_1 l0_2 l0_3 l0_4 a1 a2_0 a2_1 l2_2 l2_3 = some r) :
    Calls Tryz.prog 22 #[.agg #[.slice A0_0 l0_0.length c0_0, .slice A0_1 l0_1.length c0_1, .slice A0_2 l0_2.length c0_2, .slice A0_3 l0_3.length c0_3, .slice A0_4 l0_4.length c0_4], .int .i64 a1, .agg #[.int .i64 a2_0, .int .i64 a2_1, .slice A2_2 l2_2.length c2_2, .slice A2_3 l2_3.length c2_3]] w fun e w' => e = .returned (.string r) ∧ Below w.heap.size w w' := by
  have hmf := makes
  have HG := Aside0.mk hG
  have H0 := Aside0.mk (And.intro hr0_0 hc0_0)
  have H1 := Aside0.mk (And.intro hr0_1 hc0_1)
  have H2 := Aside0.mk (And.intro hr0_2 hc0_2)
  have H3 := Aside0.mk (And.intro hr0_3 hc0_3)
  have H4 := Aside0.mk (And.intro hr0_4 hc0_4)
  have H5 := Aside0.mk (And.intro hr2_2 hc2_2)
  have H6 := Aside0.mk (And.intro hr2_3 hc2_3)
  have hbad : ¬ (a1 < 0 ∨ (l0_3.length : Int) ≤ a1) := by omega
  have hok : (rd_T105 l0_3 a1).f1.size ≤ 10000 ∧ (Lit.int .i64 (rd_T105 l0_3 a1).f0).wf = true ∧ (Lit.int .i64 a2_1).wf = true ∧ l2_3.length ≤ 10000 := by
    unfold report_Verdict.f at h
    rw [if_neg hbad] at h
    by_cases hq : (rd_T105 l0_3 a1).f1.size ≤ 10000 ∧ (Lit.int .i64 (rd_T105 l0_3 a1).f0).wf = true ∧ (Lit.int .i64 a2_1).wf = true ∧ l2_3.length ≤ 10000
    · exact hq
    · rw [if_neg hq] at h; exact absurd h (by simp)
  have HV := Aside0.mk (show (if a2_0 = 1 then (lift_Trace.f l0_0 l0_1 l0_2 l0_3 l0_4 l2_2).bind fun t => if t.size ≤ 10000000000000 then some (⟨(headL (rd_T105 l0_3 a1) a2_0 a2_1 l2_3.length ++ t.data.toList).toArray⟩ : ByteArray) else none
    else if a2_0 = 2 then (report_bits.f k l0_0 l0_1 l0_2 l0_3 l0_4).bind fun c => (clauseLines k l0_0 l0_1 l0_2 l0_3 l0_4 c l2_3).bind fun t => some (⟨(headL (rd_T105 l0_3 a1) a2_0 a2_1 l2_3.length ++ t).toArray⟩ : ByteArray)
    else some (⟨(headL (rd_T105 l0_3 a1) a2_0 a2_1 l2_3.length).toArray⟩ : ByteArray)) = some r by
    unfold report_Verdict.f at h
    rw [if_neg hbad, if_pos hok] at h
    exact h)
  have HOK := Aside0.mk hok
  clear hbad hok
  clear hG hr0_0 hc0_0 hr0_1 hc0_1 hr0_2 hc0_2 hr0_3 hc0_3 hr0_4 hc0_4 hr2_2 hc2_2 hr2_3 hc2_3 h
  obtain ⟨ad, e, x0, x1, x2⟩ := at_T105 H3.out.1 a1 h1 h2
  cases e
  generalize hx : rd_T105 l0_3 a1 = x at x0 x1 x2
  rw [hx] at HV HOK
  clear hx
  obtain ⟨j, hj⟩ : ∃ j : Nat, a1 = j := ⟨a1.toNat, by omega⟩
  subst hj
  have hto : (j : Int).toNat = j := by omega
  simp only [hto] at x0 x1 x2
  clear hto
  have hB5 : Below w.heap.size w (((((w.alloc (.cells #[.slice A0_0 l0_0.length c0_0, .slice A0_1 l0_1.length c0_1, .slice A0_2 l0_2.length c0_2, .slice (some ad) l0_3.length c0_3, .slice A0_4 l0_4.length c0_4] 27)).alloc (.cells #[.int .i64 a2_0, .int .i64 a2_1, .slice A2_2 l2_2.length c2_2, .slice A2_3 l2_3.length c2_3] 54)).alloc (.cells #[.string ⟨#[]⟩] 9)).alloc (.cells #[.pointer none, .slice none 0 0] 108)).alloc (.cells #[.pointer (some ⟨w.heap.size + 1 + 1 + 1, 0, none⟩)] 106)) := below_alloc (below_alloc (below_alloc (below_alloc (below_alloc (Below.refl _ _) _) _) _) _) _
  have x0 := pw_cell_below hB5 x0
  have x1 := pw_cell_below hB5 x1
  have x2 := pw_cell_below hB5 x2
  clear hB5
  go_enter_defers Tryz.func22, Tryz.ntmps22
  go_wp2
  clear x0 x1 x2
  have hL := loc_start w #[.slice A0_0 l0_0.length c0_0, .slice A0_1 l0_1.length c0_1, .slice A0_2 l0_2.length c0_2, .slice (some ad) l0_3.length c0_3, .slice A0_4 l0_4.length c0_4] #[.int .i64 a2_0, .int .i64 a2_1, .slice A2_2 l2_2.length c2_2, .slice A2_3 l2_3.length c2_3] #[.int .i64 x.f0, .string x.f1, .int .i64 x.f2]
  generalize ((((((w.alloc (.cells #[.slice A0_0 l0_0.length c0_0, .slice A0_1 l0_1.length c0_1, .slice A0_2 l0_2.length c0_2, .slice (some ad) l0_3.length c0_3, .slice A0_4 l0_4.length c0_4] 27)).alloc (.cells #[.int .i64 a2_0, .int .i64 a2_1, .slice A2_2 l2_2.length c2_2, .slice A2_3 l2_3.length c2_3] 54)).alloc (.cells #[.string ⟨#[]⟩] 9)).alloc (.cells #[.pointer none, .slice none 0 0] 108)).alloc (.cells #[.pointer (some ⟨w.heap.size + 1 + 1 + 1, 0, none⟩)] 106)).alloc (.cells #[.int .i64 x.f0, .string x.f1, .int .i64 x.f2] 105)) = W6 at hL ⊢
  have HL := Aside0.mk hL
  clear hL
  rw [run_makeMap]
  simp only [Result.andThen]
  rw [Oper.upon_value]
  have HM := Aside0.mk (World.ownsMap_made (H := Unit) W6 Tryz.prog 3 (plainElem Tryz.prog 9))
  have HB := Aside0.mk (below_alloc (Below.refl W6.heap.size W6) (.map #[] 0))
  go_upto_if 36 with (first | (refine wpList_insert_own _ rfl _ _ _ 109 rfl 3 9 (Maps.int_keyed Tryz.underlying3) Tryz.underlying109 _ W6.heap.size _ _ rfl HM.out (by unfold maxLen; omega) _ _ _ rfl rfl (Maps.keyOf_int_mk Tryz.underlying3 (by decide)) _ [] (plainElem_string Tryz.underlying9 (by decide)) ?_; intro w3 hown3 hg3; have n0 := Aside0.mk hown3; have n1 := Aside0.mk (below_owned HB.out hg3 (Nat.le_refl _) HB.out.size); clear HM HB hown3 hg3; (try clear c5); have HM := n0; have HB := n1; clear n0 n1; have c5 := Lib.cell_of_heap (HL.out.move HB.out).x 0; (try (have hl := kind_look HM.out x.f0 HOK.out.2.1))))
  go_cut [9] from 13 to 80 (fun v9 wx => v9 = .string (kindB x.f0) ∧ Aside0 (Loc w.heap.size #[.slice A0_0 l0_0.length c0_0, .slice A0_1 l0_1.length c0_1, .slice A0_2 l0_2.length c0_2, .slice (some ad) l0_3.length c0_3, .slice A0_4 l0_4.length c0_4] #[.int .i64 a2_0, .int .i64 a2_1, .slice A2_2 l2_2.length c2_2, .slice A2_3 l2_3.length c2_3] #[.int .i64 x.f0, .string x.f1, .int .i64 x.f2] [] w wx))
  case first =>
    have HL2 := Aside0.mk (HL.out.move HB.out)
    clear hl c5
    by_cases hq : kindW x.f0 = ⟨#[]⟩
    · have hk : kindB x.f0 = ⟨#[63]⟩ := by
        unfold kindW at hq
        unfold kindB
        by_cases h8 : x.f0 = 8
        · rw [if_pos h8] at hq; exact absurd hq (by decide)
        · by_cases h9 : x.f0 = 9
          · rw [if_neg h8, if_pos h9] at hq; exact absurd hq (by decide)
          · by_cases h10 : x.f0 = 10
            · rw [if_neg h8, if_neg h9, if_pos h10] at hq; exact absurd hq (by decide)
            · rw [if_neg h8, if_neg h9, if_neg h10]
      have HK := Aside0.mk hk
      clear hk
      rw [hq]
      clear hq
      have hqe : (⟨#[]⟩ : ByteArray).toList.isEmpty = true := by rw [ByteArray.toList_eq]; rfl
      go_wp2_with fail
      all_goals (first | exact absurd (hqe.symm.trans (by assumption)) (by decide) | (go_meet; exact ⟨by rw [HK.out], HL2⟩))
    · have hk : kindB x.f0 = kindW x.f0 := by
        unfold kindW at hq ⊢
        unfold kindB
        by_cases h8 : x.f0 = 8
        · rw [if_pos h8, if_pos h8]
        · by_cases h9 : x.f0 = 9
          · rw [if_neg h8, if_pos h9, if_neg h8, if_pos h9]
          · by_cases h10 : x.f0 = 10
            · rw [if_neg h8, if_neg h9, if_pos h10, if_neg h8, if_neg h9, if_pos h10]
            · rw [if_neg h8, if_neg h9, if_neg h10] at hq; exact absurd rfl hq
      have HK := Aside0.mk hk
      clear hk
      have hqn : ¬ (kindW x.f0).toList = [] := fun e => hq (by rw [ByteArray.toList_eq] at e; cases hx : kindW x.f0 with | mk a => rw [hx] at e; congr 1; exact Array.toList_eq_nil_iff.1 e)
      have hqb : ((kindW x.f0).toList == ([] : List UInt8)) = false := by simpa using hqn
      have hqe : (kindW x.f0).toList.isEmpty = false := by simpa using hqn
      clear hq
      go_wp2_with fail
      all_goals (first | exact absurd (hqe.symm.trans (by assumption)) (by decide) | (go_meet; exact ⟨by rw [HK.out], HL2⟩))
  case rest =>
    obtain ⟨rfl, HL3⟩ := hcut
    go_wp2
    have hk1 := kindB_size x.f0
    have hk2 := saysB_size x.f0 a2_0 a2_1 l2_3.length HOK.out.2.2.1 (by have := HOK.out.2.2.2; omega)
    have hk3 := HOK.out.1
    have z0 : (9223372036854775807 < (kindB x.f0).size + 1) = False := eq_false (by omega)
    have z1 : (9223372036854775807 < (kindB x.f0).size + 1 + x.f1.size) = False := eq_false (by omega)
    have z2 : (9223372036854775807 < (kindB x.f0).size + 1 + x.f1.size + 2) = False := eq_false (by omega)
    have z3 : (9223372036854775807 < (kindB x.f0).size + 1 + x.f1.size + 2 + (saysB x.f0 a2_0 a2_1 l2_3.length).size) = False := eq_false (by omega)
    have HLEN := Aside0.mk (show (headB x a2_0 a2_1 l2_3.length).size ≤ 20000 by
      unfold headB
      simp only [ByteArray.size_append]
      have e1 : (⟨#[32]⟩ : ByteArray).size = 1 := rfl
      have e2 : (⟨#[58, 32]⟩ : ByteArray).size = 2 := rfl
      omega)
    clear hk1 hk2 hk3
    have TS := Aside0.mk (show ∀ w' : World, (∃ L, Loc w.heap.size #[.slice A0_0 l0_0.length c0_0, .slice A0_1 l0_1.length c0_1, .slice A0_2 l0_2.length c0_2, .slice (some ad) l0_3.length c0_3, .slice A0_4 l0_4.length c0_4] #[.int .i64 a2_0, .int .i64 a2_1, .slice A2_2 l2_2.length c2_2, .slice A2_3 l2_3.length c2_3] #[.int .i64 x.f0, .string x.f1, .int .i64 x.f2] L w w') → (w'.cell? ⟨w.heap.size + 1 + 1 + 1 + 1, 0, none⟩ = some (.pointer (some ⟨w.heap.size + 1 + 1 + 1, 0, none⟩)) ∧ w'.cell? ⟨w.heap.size + 1 + 1 + 1 + 1 + 1, 0, none⟩ = some (.int .i64 x.f0) ∧ w'.cell? ⟨w.heap.size + 1 + 1 + 1 + 1 + 1, 1, none⟩ = some (.string x.f1) ∧ w'.cell? ⟨w.heap.size + 1, 0, none⟩ = some (.int .i64 a2_0) ∧ w'.cell? ⟨w.heap.size + 1, 1, none⟩ = some (.int .i64 a2_1) ∧ w'.cell? ⟨w.heap.size + 1, 2, none⟩ = some (.slice A2_2 l2_2.length c2_2) ∧ w'.cell? ⟨w.heap.size + 1, 3, none⟩ = some (.slice A2_3 l2_3.length c2_3)) from fun w' ⟨L, hl⟩ => ⟨Lib.cell_of_heap hl.pp 0, Lib.cell_of_heap hl.x 0, Lib.cell_of_heap hl.x 1, Lib.cell_of_heap hl.ver 0, Lib.cell_of_heap hl.ver 1, Lib.cell_of_heap hl.ver 2, Lib.cell_of_heap hl.ver 3⟩)
    have n0 := Aside0.mk (HL3.out.move (below_drew (Below.refl _ _)))
    clear HL3
    have HL3 := n0
    clear n0
    have HT := Aside0.mk (tab_below HG.out HL3.out.below)
    go_region_held3 (fun w' => w'.cell? ⟨w.heap.size + 1 + 1 + 1 + 1, 0, none⟩ = some (.pointer (some ⟨w.heap.size + 1 + 1 + 1, 0, none⟩)) ∧ w'.cell? ⟨w.heap.size + 1 + 1 + 1 + 1 + 1, 0, none⟩ = some (.int .i64 x.f0) ∧ w'.cell? ⟨w.heap.size + 1 + 1 + 1 + 1 + 1, 1, none⟩ = some (.string x.f1) ∧ w'.cell? ⟨w.heap.size + 1, 0, none⟩ = some (.int .i64 a2_0) ∧ w'.cell? ⟨w.heap.size + 1, 1, none⟩ = some (.int .i64 a2_1) ∧ w'.cell? ⟨w.heap.size + 1, 2, none⟩ = some (.slice A2_2 l2_2.length c2_2) ∧ w'.cell? ⟨w.heap.size + 1, 3, none⟩ = some (.slice A2_3 l2_3.length c2_3)) (exact TS.out _ ⟨_, HL3.out⟩) (first | (go_at_call 57; refine (says_all _ _ _ _ _ _ _ _ _ _ HT.out HOK.out.2.2.1 (by have := HOK.out.2.2.2; omega)).mono ?_; rintro e w' ⟨rfl, hb⟩; have n0 := Aside0.mk (HL3.out.move hb); clear HL3 HT hb; have HL3 := n0; clear n0) | (go_at_call 56; refine (line_L (w.heap.size + 1 + 1 + 1) (w.heap.size + 1 + 1 + 1) [] _ _ HL3.out.bld ?hlen (by have := HL3.out.size; omega)).mono ?_; (case hlen => have q3 := HLEN.out; unfold headB at q3; simp only [List.length_nil]; omega); rintro e w2 ⟨rfl, hn, hbW, hkW⟩; have n0 := Aside0.mk (HL3.out.write hn hbW hkW); clear HL3 hn hbW hkW; have HL3 := n0; clear n0))
    all_goals (
      have hpos : ∀ L : List UInt8, (headL x a2_0 a2_1 l2_3.length ++ L) ≠ [] := fun L e => by
        unfold headL at e; simp at e
      have HPOS := Aside0.mk hpos
      have HL4 := Aside0.mk (show Loc w.heap.size #[.slice A0_0 l0_0.length c0_0, .slice A0_1 l0_1.length c0_1, .slice A0_2 l0_2.length c0_2, .slice (some ad) l0_3.length c0_3, .slice A0_4 l0_4.length c0_4] #[.int .i64 a2_0, .int .i64 a2_1, .slice A2_2 l2_2.length c2_2, .slice A2_3 l2_3.length c2_3] #[.int .i64 x.f0, .string x.f1, .int .i64 x.f2] (headL x a2_0 a2_1 l2_3.length) w _ from HL3.out)
      clear HL3 hpos
      have v0 := Lib.cell_of_heap HL4.out.ver 0
      by_cases h1 : a2_0 = 1
      · subst h1
        have hv := HV.out
        rw [if_pos rfl] at hv
        obtain ⟨t, ht, hv⟩ := Option.bind_eq_some_iff.1 hv
        have hts : t.size ≤ 10000000000000 ∧ r = ⟨(headL x 1 a2_1 l2_3.length ++ t.data.toList).toArray⟩ := by
          by_cases hq : t.size ≤ 10000000000000
          · rw [if_pos hq] at hv; exact ⟨hq, (Option.some.inj hv).symm⟩
          · rw [if_neg hq] at hv; exact absurd hv (by simp)
        have HT1 := Aside0.mk ht
        have HTS := Aside0.mk hts
        clear hv ht hts
        have HLN := Aside0.mk (show (headL x 1 a2_1 l2_3.length).length ≤ 20001 by
          unfold headL
          have := HLEN.out
          have e : (headB x 1 a2_1 l2_3.length).data.toList.length = (headB x 1 a2_1 l2_3.length).size := (by simp)
          simp only [List.length_append, List.length_cons, List.length_nil]
          omega)
        clear HLEN
        go_wp2
        have TS2 := Aside0.mk (show ∀ w' : World, (∃ L, Loc w.heap.size #[.slice A0_0 l0_0.length c0_0, .slice A0_1 l0_1.length c0_1, .slice A0_2 l0_2.length c0_2, .slice (some ad) l0_3.length c0_3, .slice A0_4 l0_4.length c0_4] #[.int .i64 1, .int .i64 a2_1, .slice A2_2 l2_2.length c2_2, .slice A2_3 l2_3.length c2_3] #[.int .i64 x.f0, .string x.f1, .int .i64 x.f2] L w w') → (w'.cell? ⟨w.heap.size + 1 + 1 + 1 + 1, 0, none⟩ = some (.pointer (some ⟨w.heap.size + 1 + 1 + 1, 0, none⟩)) ∧ w'.cell? ⟨w.heap.size, 0, none⟩ = some (.slice A0_0 l0_0.length c0_0) ∧ w'.cell? ⟨w.heap.size, 1, none⟩ = some (.slice A0_1 l0_1.length c0_1) ∧ w'.cell? ⟨w.heap.size, 2, none⟩ = some (.slice A0_2 l0_2.length c0_2) ∧ w'.cell? ⟨w.heap.size, 3, none⟩ = some (.slice (some ad) l0_3.length c0_3) ∧ w'.cell? ⟨w.heap.size, 4, none⟩ = some (.slice A0_4 l0_4.length c0_4) ∧ w'.cell? ⟨w.heap.size + 1, 2, none⟩ = some (.slice A2_2 l2_2.length c2_2)) from fun w' ⟨L, hl⟩ => ⟨Lib.cell_of_heap hl.pp 0, Lib.cell_of_heap hl.net 0, Lib.cell_of_heap hl.net 1, Lib.cell_of_heap hl.net 2, Lib.cell_of_heap hl.net 3, Lib.cell_of_heap hl.net 4, Lib.cell_of_heap hl.ver 2⟩)
        have n0 := Aside0.mk (HL4.out.move (below_drew (Below.refl _ _)))
        clear HL4 v0
        have HL4 := n0
        clear n0
        have HT := Aside0.mk (tab_below HG.out HL4.out.below)
        go_region_held3 (fun w' => w'.cell? ⟨w.heap.size + 1 + 1 + 1 + 1, 0, none⟩ = some (.pointer (some ⟨w.heap.size + 1 + 1 + 1, 0, none⟩)) ∧ w'.cell? ⟨w.heap.size, 0, none⟩ = some (.slice A0_0 l0_0.length c0_0) ∧ w'.cell? ⟨w.heap.size, 1, none⟩ = some (.slice A0_1 l0_1.length c0_1) ∧ w'.cell? ⟨w.heap.size, 2, none⟩ = some (.slice A0_2 l0_2.length c0_2) ∧ w'.cell? ⟨w.heap.size, 3, none⟩ = some (.slice (some ad) l0_3.length c0_3) ∧ w'.cell? ⟨w.heap.size, 4, none⟩ = some (.slice A0_4 l0_4.length c0_4) ∧ w'.cell? ⟨w.heap.size + 1, 2, none⟩ = some (.slice A2_2 l2_2.length c2_2)) (exact TS2.out _ ⟨_, HL4.out⟩) (first | (go_at_call 11; refine (lift_Trace.calls A0_0 c0_0 l0_0 A0_1 c0_1 l0_1 A0_2 c0_2 l0_2 (some ad) c0_3 l0_3 A0_4 c0_4 l0_4 A2_2 c2_2 l2_2 t _ HT.out (Kd.C_below H0.out.1 HL4.out.below) H0.out.2 (Kd.C_below H1.out.1 HL4.out.below) H1.out.2 (Kd.C_below H2.out.1 HL4.out.below) H2.out.2 (Kd.C_below H3.out.1 HL4.out.below) H3.out.2 (Kd.C_below H4.out.1 HL4.out.below) H4.out.2 (Kd.C_below H5.out.1 HL4.out.below) H5.out.2 HT1.out).mono ?_; rintro e w' ⟨rfl, hb⟩; have n0 := Aside0.mk (HL4.out.move hb); clear HL4 HT hb; have HL4 := n0; clear n0) | (go_at_call 41; refine (write_calls 108 liesP (by decide) (w.heap.size + 1 + 1 + 1) (w.heap.size + 1 + 1 + 1) _ _ _ HL4.out.bld ?hlen (by have := HL4.out.size; omega)).mono ?_; (case hlen => have q1 := HLN.out; have q2 := HTS.out.1; omega); rintro e w2 ⟨rfl, hn, hbW, hkW⟩; have n0 := Aside0.mk (HL4.out.write hn hbW hkW); clear HL4 hn hbW hkW; have HL4 := n0; clear n0))
        all_goals (
          have r0 := Lib.cell_of_heap HL4.out.res 0
          have r1 := Lib.frozen_of_heap HL4.out.res 0
          have r2 := setCell_self HL4.out.res
          go_wp2
          exact HL4.out.door rfl (HPOS.out _) HTS.out.2 rfl)
      · by_cases h2 : a2_0 = 2
        · subst h2
          have hv := HV.out
          rw [if_neg (by decide), if_pos rfl] at hv
          obtain ⟨c, hc, hv⟩ := Option.bind_eq_some_iff.1 hv
          obtain ⟨t, ht, hv⟩ := Option.bind_eq_some_iff.1 hv
          have hr : r = ⟨(headL x 2 a2_1 l2_3.length ++ t).toArray⟩ := (Option.some.inj hv).symm
          have HR := Aside0.mk hr
          have HTT := Aside0.mk ht
          have HCC := Aside0.mk hc
          clear hv ht hr hc h1
          have HLN := Aside0.mk (show (headL x 2 a2_1 l2_3.length).length ≤ 20001 by
            unfold headL
            have := HLEN.out
            have e : (headB x 2 a2_1 l2_3.length).data.toList.length = (headB x 2 a2_1 l2_3.length).size := (by simp)
            simp only [List.length_append, List.length_cons, List.length_nil]
            omega)
          clear HLEN
          have w0 := Lib.cell_of_heap HL4.out.net 0
          have w1 := Lib.cell_of_heap HL4.out.net 1
          have w2 := Lib.cell_of_heap HL4.out.net 2
          have w3 := Lib.cell_of_heap HL4.out.net 3
          have w4 := Lib.cell_of_heap HL4.out.net 4
          go_wp2_with (first | (go_at_call 58; refine (report_bits.calls k A0_0 c0_0 l0_0 A0_1 c0_1 l0_1 A0_2 c0_2 l0_2 (some ad) c0_3 l0_3 A0_4 c0_4 l0_4 c.1 c.2.1 c.2.2.1 c.2.2.2.1 c.2.2.2.2 _ (Kd.C_below H0.out.1 HL4.out.below) H0.out.2 (Kd.C_below H1.out.1 HL4.out.below) H1.out.2 (Kd.C_below H2.out.1 HL4.out.below) H2.out.2 (Kd.C_below H3.out.1 HL4.out.below) H3.out.2 (Kd.C_below H4.out.1 HL4.out.below) H4.out.2 HCC.out).mono ?_; rintro e w5 ⟨v1, v2, v3, v4, rfl, R1, R2, R3, R4, hb⟩; obtain ⟨B1, d1, rfl⟩ := Kd.R_slice R1; obtain ⟨B2, d2, rfl⟩ := Kd.R_slice R2; obtain ⟨B3, d3, rfl⟩ := Kd.R_slice R3; obtain ⟨B4, d4, rfl⟩ := Kd.R_slice R4; have HRR := Aside0.mk (And.intro R1 (And.intro R2 (And.intro R3 R4))); have HBS := Aside0.mk HL4.out.below.size; have n0 := Aside0.mk (HL4.out.move hb); clear R1 R2 R3 R4 v0 w0 w1 w2 w3 w4 HL4 hb; have HL4 := n0; clear n0; have v3 := Lib.cell_of_heap (HL4.out.move (below_alloc (Below.refl _ _) (.cells #[.int .i64 c.1, .slice B1 c.2.1.length d1, .slice B2 c.2.2.1.length d2, .slice B3 c.2.2.2.1.length d3, .slice B4 c.2.2.2.2.length d4] 35))).ver 3))
          have HC4 := Aside0.mk (show CircAt w5.heap.size w.heap.size c (.slice B1 c.2.1.length d1) (.slice B2 c.2.2.1.length d2) (.slice B3 c.2.2.2.1.length d3) (.slice B4 c.2.2.2.2.length d4) (w5.alloc (.cells #[.int .i64 c.1, .slice B1 c.2.1.length d1, .slice B2 c.2.2.1.length d2, .slice B3 c.2.2.2.1.length d3, .slice B4 c.2.2.2.2.length d4] 35)) from
            ⟨(MapKept.heap_alloc w5 _).1, Kd.R_below (Kd.R_lower HRR.out.1 HBS.out) (below_alloc (Below.refl _ _) _), Kd.R_below (Kd.R_lower HRR.out.2.1 HBS.out) (below_alloc (Below.refl _ _) _), Kd.R_below (Kd.R_lower HRR.out.2.2.1 HBS.out) (below_alloc (Below.refl _ _) _), Kd.R_below (Kd.R_lower HRR.out.2.2.2 HBS.out) (below_alloc (Below.refl _ _) _)⟩)
          have n0 := Aside0.mk (HL4.out.move (below_alloc (Below.refl _ _) (.cells #[.int .i64 c.1, .slice B1 c.2.1.length d1, .slice B2 c.2.2.1.length d2, .slice B3 c.2.2.2.1.length d3, .slice B4 c.2.2.2.2.length d4] 35)))
          clear HL4 v3 HRR
          have HL4 := n0
          clear n0
          have hl6 : l2_3.length ≤ 10000 := HOK.out.2.2.2
          try simp only [Act.put, List.setIfInBounds_toArray, List.set_cons_succ, List.set_cons_zero]
          go_loopg [69] l2_3.length (fun kq v69 wr => ∃ (i : Nat) (t' : List UInt8), v69 = .int .i64 i ∧ i ≤ l2_3.length ∧ Aside0 (kq = l2_3.length - i) ∧ Aside0 (clauseLines k l0_0 l0_1 l0_2 l0_3 l0_4 c (l2_3.take i) = some t') ∧ Aside0 (Loc w.heap.size #[.slice A0_0 l0_0.length c0_0, .slice A0_1 l0_1.length c0_1, .slice A0_2 l0_2.length c0_2, .slice (some ad) l0_3.length c0_3, .slice A0_4 l0_4.length c0_4] #[.int .i64 2, .int .i64 a2_1, .slice A2_2 l2_2.length c2_2, .slice A2_3 l2_3.length c2_3] #[.int .i64 x.f0, .string x.f1, .int .i64 x.f2] (headL x 2 a2_1 l2_3.length ++ t') w wr) ∧ Aside0 (CircAt w5.heap.size w.heap.size c (.slice B1 c.2.1.length d1) (.slice B2 c.2.2.1.length d2) (.slice B3 c.2.2.2.1.length d3) (.slice B4 c.2.2.2.2.length d4) wr))
          case atStart => exact ⟨0, [], rfl, by omega, ⟨by omega⟩, ⟨rfl⟩, ⟨by rw [List.append_nil]; exact HL4.out⟩, HC4⟩
          case round =>
            clear HL4 HC4
            obtain ⟨i, t', rfl, hi, HQ, HTL, HL4, HC4⟩ := hrel
            by_cases hlt : i < l2_3.length
            · have hi0 : 0 ≤ (i : Int) := by omega
              have hi1 : (i : Int) < l2_3.length := by omega
              obtain ⟨adr, A, cc, er, y0, hcl, hC⟩ := at_L12 H6.out.1 i hi0 hi1
              cases er
              have hti : (i : Int).toNat = i := by omega
              simp only [hti] at y0
              clear hti
              have y0 := pw_cell_below HL4.out.below y0
              generalize hrow : rd_L12 l2_3 (i : Int) = row at y0 hcl hC
              have hrw : l2_3[i] = row := by rw [← hrow]; simp [rd_L12, hlt]
              clear hrow
              obtain ⟨t2, s, g1, g2, g3, g4⟩ := clauseLines_at k l0_0 l0_1 l0_2 l0_3 l0_4 c l2_3 t HTT.out i hlt
              have e2 : t2 = t' := Option.some.inj (g1.symm.trans HTL.out)
              subst e2
              rw [hrw] at g2
              have HG2 := Aside0.mk g2
              have HG3 := Aside0.mk g3
              have HG4 := Aside0.mk g4
              have HCR := Aside0.mk hC
              have hlen2 := clauseLines_len k l0_0 l0_1 l0_2 l0_3 l0_4 c (l2_3.take i) t2 HTL.out
              have hlt3 : (l2_3.take i).length ≤ i := List.length_take_le _ _
              have HLL := Aside0.mk (show t2.length ≤ 10000010000 by omega)
              clear g1 g2 g3 g4 hC hrw hlen2 hlt3
              go_wp2
              have TS2 := Aside0.mk (show ∀ w' : World, (∃ L, Loc w.heap.size #[.slice A0_0 l0_0.length c0_0, .slice A0_1 l0_1.length c0_1, .slice A0_2 l0_2.length c0_2, .slice (some ad) l0_3.length c0_3, .slice A0_4 l0_4.length c0_4] #[.int .i64 2, .int .i64 a2_1, .slice A2_2 l2_2.length c2_2, .slice (some adr) l2_3.length c2_3] #[.int .i64 x.f0, .string x.f1, .int .i64 x.f2] L w w') → CircAt w5.heap.size w.heap.size c (.slice B1 c.2.1.length d1) (.slice B2 c.2.2.1.length d2) (.slice B3 c.2.2.2.1.length d3) (.slice B4 c.2.2.2.2.length d4) w' → (w'.cell? ⟨w.heap.size + 1 + 1 + 1 + 1, 0, none⟩ = some (.pointer (some ⟨w.heap.size + 1 + 1 + 1, 0, none⟩)) ∧ w'.cell? ⟨w.heap.size, 0, none⟩ = some (.slice A0_0 l0_0.length c0_0) ∧ w'.cell? ⟨w.heap.size, 1, none⟩ = some (.slice A0_1 l0_1.length c0_1) ∧ w'.cell? ⟨w.heap.size, 2, none⟩ = some (.slice A0_2 l0_2.length c0_2) ∧ w'.cell? ⟨w.heap.size, 3, none⟩ = some (.slice (some ad) l0_3.length c0_3) ∧ w'.cell? ⟨w.heap.size, 4, none⟩ = some (.slice A0_4 l0_4.length c0_4) ∧ w'.cell? ⟨w5.heap.size, 0, none⟩ = some (.int .i64 c.1) ∧ w'.cell? ⟨w5.heap.size, 1, none⟩ = some (.slice B1 c.2.1.length d1) ∧ w'.cell? ⟨w5.heap.size, 2, none⟩ = some (.slice B2 c.2.2.1.length d2) ∧ w'.cell? ⟨w5.heap.size, 3, none⟩ = some (.slice B3 c.2.2.2.1.length d3) ∧ w'.cell? ⟨w5.heap.size, 4, none⟩ = some (.slice B4 c.2.2.2.2.length d4)) from fun w' ⟨L, hl⟩ hc => ⟨Lib.cell_of_heap hl.pp 0, Lib.cell_of_heap hl.net 0, Lib.cell_of_heap hl.net 1, Lib.cell_of_heap hl.net 2, Lib.cell_of_heap hl.net 3, Lib.cell_of_heap hl.net 4, Lib.cell_of_heap hc.blk 0, Lib.cell_of_heap hc.blk 1, Lib.cell_of_heap hc.blk 2, Lib.cell_of_heap hc.blk 3, Lib.cell_of_heap hc.blk 4⟩)
              have n0 := Aside0.mk (HL4.out.move (below_drew (Below.refl _ _)))
              have n1 := Aside0.mk (HC4.out.move (below_drew (Below.refl _ _)))
              clear HL4 HC4 y0
              have HL4 := n0
              have HC4 := n1
              clear n0 n1
              have HT := Aside0.mk (tab_below HG.out HL4.out.below)
              go_region_held3 (fun w' => w'.cell? ⟨w.heap.size + 1 + 1 + 1 + 1, 0, none⟩ = some (.pointer (some ⟨w.heap.size + 1 + 1 + 1, 0, none⟩)) ∧ w'.cell? ⟨w.heap.size, 0, none⟩ = some (.slice A0_0 l0_0.length c0_0) ∧ w'.cell? ⟨w.heap.size, 1, none⟩ = some (.slice A0_1 l0_1.length c0_1) ∧ w'.cell? ⟨w.heap.size, 2, none⟩ = some (.slice A0_2 l0_2.length c0_2) ∧ w'.cell? ⟨w.heap.size, 3, none⟩ = some (.slice (some ad) l0_3.length c0_3) ∧ w'.cell? ⟨w.heap.size, 4, none⟩ = some (.slice A0_4 l0_4.length c0_4) ∧ w'.cell? ⟨w5.heap.size, 0, none⟩ = some (.int .i64 c.1) ∧ w'.cell? ⟨w5.heap.size, 1, none⟩ = some (.slice B1 c.2.1.length d1) ∧ w'.cell? ⟨w5.heap.size, 2, none⟩ = some (.slice B2 c.2.2.1.length d2) ∧ w'.cell? ⟨w5.heap.size, 3, none⟩ = some (.slice B3 c.2.2.2.1.length d3) ∧ w'.cell? ⟨w5.heap.size, 4, none⟩ = some (.slice B4 c.2.2.2.2.length d4)) (exact TS2.out _ ⟨_, HL4.out⟩ HC4.out) (first | (go_at_call 16; refine (lift_Clause.calls A0_0 c0_0 l0_0 A0_1 c0_1 l0_1 A0_2 c0_2 l0_2 (some ad) c0_3 l0_3 A0_4 c0_4 l0_4 c.1 B1 d1 c.2.1 B2 d2 c.2.2.1 B3 d3 c.2.2.2.1 B4 d4 c.2.2.2.2 A cc row s _ HT.out (Kd.C_below H0.out.1 HL4.out.below) H0.out.2 (Kd.C_below H1.out.1 HL4.out.below) H1.out.2 (Kd.C_below H2.out.1 HL4.out.below) H2.out.2 (Kd.C_below H3.out.1 HL4.out.below) H3.out.2 (Kd.C_below H4.out.1 HL4.out.below) H4.out.2 (R_C HC4.out.r1).2 (R_C HC4.out.r1).1 (R_C HC4.out.r2).2 (R_C HC4.out.r2).1 (R_C HC4.out.r3).2 (R_C HC4.out.r3).1 (R_C HC4.out.r4).2 (R_C HC4.out.r4).1 (Kd.C_below HCR.out HL4.out.below) hcl HG2.out).mono ?_; rintro e w' ⟨rfl, hb⟩; have n0 := Aside0.mk (HL4.out.move hb); have n1 := Aside0.mk (HC4.out.move hb); clear HL4 HC4 HT hb; have HL4 := n0; have HC4 := n1; clear n0 n1) | (go_at_call 56; refine (line_L (w.heap.size + 1 + 1 + 1) (w.heap.size + 1 + 1 + 1) _ _ _ HL4.out.bld ?hlen (by have := HL4.out.size; omega)).mono ?_; (case hlen => have q1 := HLN.out; have q2 := HLL.out; have q3 := HG3.out; simp only [List.length_append]; omega); rintro e w2 ⟨rfl, hn, hbW, hkW⟩; have n0 := Aside0.mk (HL4.out.write hn hbW hkW); have n1 := Aside0.mk (let ⟨_, hp⟩ := page_at HL4.out.bld; HC4.out.write hp hkW); clear HL4 HC4 hn hbW hkW; have HL4 := n0; have HC4 := n1; clear n0 n1))
              all_goals (
                go_wp2
                go_roundg (l2_3.length - (i + 1))
                case measure => have h8 := HQ.out; omega
                case rel => exact ⟨i + 1, t2 ++ (s.data.toList ++ [10]), by go_num, by omega, ⟨rfl⟩, HG4, ⟨by rw [← List.append_assoc]; exact HL4.out⟩, HC4⟩)
            · obtain rfl : i = l2_3.length := by omega
              have r0 := Lib.cell_of_heap HL4.out.res 0
              have r1 := Lib.frozen_of_heap HL4.out.res 0
              have r2 := setCell_self HL4.out.res
              have e2 : t' = t := by
                have := HTL.out
                rw [List.take_length] at this
                exact Option.some.inj (this.symm.trans HTT.out)
              have HE := Aside0.mk e2
              clear e2
              go_wp2
              refine HL4.out.door rfl (HPOS.out _) ?_ rfl
              rw [HR.out, HE.out]
        · have b1 : (a2_0 == 1) = false := beq_eq_false_iff_ne.mpr h1
          have b2 : (a2_0 == 2) = false := beq_eq_false_iff_ne.mpr h2
          have hv := HV.out
          rw [if_neg h1, if_neg h2] at hv
          have hr : r = ⟨(headL x a2_0 a2_1 l2_3.length).toArray⟩ := (Option.some.inj hv).symm
          have HR := Aside0.mk hr
          clear hr hv h1 h2
          have r0 := Lib.cell_of_heap HL4.out.res 0
          have r1 := Lib.frozen_of_heap HL4.out.res 0
          have r2 := setCell_self HL4.out.res
          go_wp2
          exact HL4.out.door rfl (by simpa using HPOS.out []) HR.out rfl)
theorem report_Verdict.calls (k : Nat) (A0_0 : Option Addr) (c0_0 : Nat) (l0_0 : List S125) (A0_1 : Option Addr) (c0_1 : Nat) (l0_1 : List S72) (A0_2 : Option Addr) (c0_2 : Nat) (l0_2 : List S114) (A0_3 : Option Addr) (c0_3 : Nat) (l0_3 : List S105) (A0_4 : Option Addr) (c0_4 : Nat) (l0_4 : List S72) (a1 : Int) (a2_0 : Int) (a2_1 : Int) (A2_2 : Option Addr) (c2_2 : Nat) (l2_2 : List (List Int)) (A2_3 : Option Addr) (c2_3 : Nat) (l2_3 : List (List Int)) (r : ByteArray) (w : World) (hG : Tab w) (hr0_0 : Kd.C k125 w A0_0 l0_0.length l0_0) (hc0_0 : l0_0.length ≤ c0_0) (hr0_1 : Kd.C k72 w A0_1 l0_1.length l0_1) (hc0_1 : l0_1.length ≤ c0_1) (hr0_2 : Kd.C k114 w A0_2 l0_2.length l0_2) (hc0_2 : l0_2.length ≤ c0_2) (hr0_3 : Kd.C k105 w A0_3 l0_3.length l0_3) (hc0_3 : l0_3.length ≤ c0_3) (hr0_4 : Kd.C k72 w A0_4 l0_4.length l0_4) (hc0_4 : l0_4.length ≤ c0_4) (hr2_2 : Kd.C (Kd.slice 3 (Kd.int .i64)) w A2_2 l2_2.length l2_2) (hc2_2 : l2_2.length ≤ c2_2) (hr2_3 : Kd.C (Kd.slice 3 (Kd.int .i64)) w A2_3 l2_3.length l2_3) (hc2_3 : l2_3.length ≤ c2_3) (h : report_Verdict.f k l0_0 l0_1 l0_2 l0_3 l0_4 a1 a2_0 a2_1 l2_2 l2_3 = some r) :
    Calls Tryz.prog 22 #[.agg #[.slice A0_0 l0_0.length c0_0, .slice A0_1 l0_1.length c0_1, .slice A0_2 l0_2.length c0_2, .slice A0_3 l0_3.length c0_3, .slice A0_4 l0_4.length c0_4], .int .i64 a1, .agg #[.int .i64 a2_0, .int .i64 a2_1, .slice A2_2 l2_2.length c2_2, .slice A2_3 l2_3.length c2_3]] w fun e w' => e = .returned (.string r) ∧ Below w.heap.size w w' := by
  by_cases hb : a1 < 0 ∨ (l0_3.length : Int) ≤ a1
  · unfold report_Verdict.f at h
    rw [if_pos hb] at h
    obtain rfl := Option.some.inj h
    exact Verdict_none A0_0 c0_0 l0_0 A0_1 c0_1 l0_1 A0_2 c0_2 l0_2 A0_3 c0_3 l0_3 A0_4 c0_4 l0_4 a1 a2_0 a2_1 A2_2 c2_2 l2_2 A2_3 c2_3 l2_3 w hb
  · exact Verdict_some k A0_0 c0_0 l0_0 A0_1 c0_1 l0_1 A0_2 c0_2 l0_2 A0_3 c0_3 l0_3 A0_4 c0_4 l0_4 a1 a2_0 a2_1 A2_2 c2_2 l2_2 A2_3 c2_3 l2_3 r w hG hr0_0 hc0_0 hr0_1 hc0_1 hr0_2 hc0_2 hr0_3 hc0_3 hr0_4 hc0_4 hr2_2 hc2_2 hr2_3 hc2_3 (by omega) (by omega) h
end Go.Proofs.YtmfekngjhiofaaaGreatDoor.Q
