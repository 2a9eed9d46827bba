/-
  HELPER.
-/
import Derived.Test.YtenogedclignmaaDoorRows
import Derived.Test.YtenogedclignmaaDoorPlK20
import Derived.ProofKit
import Derived.LaidMore
import Derived.OpenShut
import Derived.Stop.LaidErr
import Derived.Lib.LaidTab
import Derived.Maps.OwnSet
import Derived.Deep.DeepHandedRow
import Derived.Deep.DeepWitnessRowRef
import Derived.Lib.LaidIn
set_option linter.unusedVariables false
set_option linter.unusedSimpArgs false
namespace Go.Proofs.YtenogedclignmaaDoor.Q
open Go.ChangeShapes Go.WideShapes Go.ChangeAt Go.RowKit Go.Maps Go.Proofs.YtenogedclignmaaDoorW.PrintWords
theorem cells_of_arr {H : Type} {enc : TypeId × Value → H} {P : Program} {w : World} {base : Nat} {sp : Nat → Bool} {held : Bool} {fuel : Nat} {t e : TypeId} {n : Nat} {cs : List Value} {zs : List (DataW H)} {p : List MemPlace}
    (ht : P.underlying t = some (.array n e)) (hce : P.cellsOf e = 1) (hct : P.cellsOf t = n)
    (h : DataW.trod enc P w base sp held fuel t cs = some (DataW.agg zs, p)) : ∃ f, ∀ (i : Nat) (z : DataW H), zs[i]? = some z → ∃ c q, cs[i]? = some c ∧ DataW.trod enc P w base sp held f e [c] = some (z, q) := by
  cases fuel with
  | zero => simp [DataW.trod] at h
  | succ fuel =>
    simp only [DataW.trod, ht, hce, hct, Nat.mul_one] at h
    split at h
    · rename_i hl
      obtain ⟨xs, hm, hx⟩ := Option.map_eq_some_iff.1 h
      have hxs : xs.map (·.1) = zs := by
        have := congrArg Prod.fst hx
        simpa using this
      have hxl : xs.length = n := by simpa using Lib.mapM_length hm
      refine ⟨fuel, fun i z hz => ?_⟩
      have hi : i < n := by
        have h1 := (List.getElem?_eq_some_iff.1 hz).1
        rw [← hxs, List.length_map] at h1; omega
      obtain ⟨b, hb, hf⟩ := Lib.mapM_at hm i i (by simp [hi])
      have hil : i < cs.length := by omega
      refine ⟨cs[i], b.2, List.getElem?_eq_getElem hil, ?_⟩
      have e1 : (cs.drop i).take 1 = [cs[i]] := by rw [List.drop_eq_getElem_cons hil]; rfl
      have e2 : b.1 = z := by
        rw [← hxs, List.getElem?_map, hb] at hz
        simpa using hz
      rw [← e2, ← e1]
      exact hf
    · cases h
theorem cells_of_strs {H : Type} {enc : TypeId × Value → H} {P : Program} {w : World} {base : Nat} {sp : Nat → Bool} {held : Bool} {fuel : Nat} {t e : TypeId} {n : Nat} {cs : List Value} {zs : List (List UInt8)} {p : List MemPlace}
    (ht : P.underlying t = some (.array n e)) (he : P.underlying e = some .string) (hce : P.cellsOf e = 1) (hct : P.cellsOf t = n)
    (h : DataW.trod enc P w base sp held fuel t cs = some (DataW.agg (zs.map fun z => DataW.lit (Lit.string z)), p)) : ∀ (i : Nat) (z : List UInt8), zs[i]? = some z → ∃ s : ByteArray, cs[i]? = some (Value.string s) ∧ s.data.toList = z := by
  obtain ⟨f, hf⟩ := cells_of_arr ht hce hct h
  intro i z hz
  obtain ⟨c, q, h1, h2⟩ := hf i (.lit (.string z)) (by rw [List.getElem?_map, hz]; rfl)
  obtain ⟨s, hc, hq, _⟩ := DataW.trod_string he h2
  obtain rfl : c = .string s := by simpa using hc
  refine ⟨s, h1, ?_⟩
  have := congrArg Prod.fst hq
  simpa using this.symm
theorem mapAt_of_trod {W : World} {g j : Nat} {L : List (List UInt8 × Int)} {enc : TypeId × Value → Unit} {base : Nat} {sp : Nat → Bool} {held : Bool} {fuel : Nat} {c : Value} {p : List MemPlace} (hc : W.cell? ⟨g, j, none⟩ = some c)
    (hd : DataW.trod enc Tryd.prog W base sp held fuel 82 [c] = some (encL L, p)) : MapAt g j L W := by
  rcases WideElems.open_map Tryd.underlying82 hd with ⟨_, hx⟩ | ⟨b, es, clock, n, rfl, hcs, hb, _, F, hx⟩
  · cases hx
  · obtain rfl : c = .map (some b) := by simpa using hcs
    refine ⟨b, es.size, hc, ?_⟩
    have hown := World.ownsMap_of_fit (R := plainElem Tryd.prog 3) hb F (fun x _ z hz => elemAt_plainElem_int Tryd.underlying3 hz)
    have he := (Prod.mk.inj hx).1
    rw [he]
    exact hown
def laidL {H : Type} : List (String × DataW H) := [("math/bits.deBruijn32tab", Rows.laid_math_bits_deBruijn32tab), ("math/bits.deBruijn64tab", Rows.laid_math_bits_deBruijn64tab), ("internal/strconv.uint64pow10", Rows.laid_internal_strconv_uint64pow10), ("strconv.ErrRange", Rows.laid_strconv_ErrRange), ("strconv.ErrSyntax", Rows.laid_strconv_ErrSyntax), ("proofmark/lex.signs", Rows.laid_proofmark_lex_signs), ("proofmark/syn.kept", Rows.laid_proofmark_syn_kept), ("proofmark/syn.levels", Rows.laid_proofmark_syn_levels), ("proofmark/syn.words", Rows.laid_proofmark_syn_words)]
theorem gRange : Tryd.prog.globalNamed "strconv.ErrRange" = some 4 := by kernel_rfl
theorem gSyntax : Tryd.prog.globalNamed "strconv.ErrSyntax" = some 3 := by kernel_rfl
theorem gSigns : Tryd.prog.globalNamed "proofmark/lex.signs" = some 1 := by kernel_rfl
theorem gKept : Tryd.prog.globalNamed "proofmark/syn.kept" = some 0 := by kernel_rfl
theorem gWords : Tryd.prog.globalNamed "proofmark/syn.words" = some 6 := by kernel_rfl
theorem gLevels : Tryd.prog.globalNamed "proofmark/syn.levels" = some 5 := by kernel_rfl
theorem tRange : (Tryd.prog.globals[4]?).map (·.type) = some 97 := by kernel_rfl
theorem tSyntax : (Tryd.prog.globals[3]?).map (·.type) = some 97 := by kernel_rfl
theorem tSigns : (Tryd.prog.globals[1]?).map (·.type) = some 103 := by kernel_rfl
theorem tKept : (Tryd.prog.globals[0]?).map (·.type) = some 82 := by kernel_rfl
theorem tWords : (Tryd.prog.globals[6]?).map (·.type) = some 82 := by kernel_rfl
theorem tLevels : (Tryd.prog.globals[5]?).map (·.type) = some 129 := by kernel_rfl
theorem cStr : Tryd.prog.cellsOf 9 = 1 := by kernel_rfl
theorem cArr : Tryd.prog.cellsOf 103 = 25 := by kernel_rfl
theorem cMap : Tryd.prog.cellsOf 82 = 1 := by kernel_rfl
theorem cLev : Tryd.prog.cellsOf 129 = 6 := by kernel_rfl
theorem iface_cell {l : List (String × DataW Unit)} {n : String} {d : DataW Unit} {W : World} {g : Nat} (hg : Tryd.prog.globalNamed n = some g) (ht : (Tryd.prog.globals[g]?).map (·.type) = some 97) (h : laidMet Tryd.prog ((n, d) :: l) W) :
    ∃ ev, W.cell? ⟨g, 0, none⟩ = some ev ∧ (ev = .nilIface ∨ ∃ te pe, ev = .iface te pe) := by
  obtain ⟨ps, ⟨g0, t0, cs0, f0, p0, q0, hg0, ht0, hv0, hd0, _, e0⟩, _, hrows⟩ := h
  obtain rfl := Option.some.inj (hg.symm.trans hg0)
  obtain rfl := Option.some.inj (ht.symm.trans ht0)
  cases f0 with
  | zero => simp [DataW.trod] at hd0
  | succ f =>
    simp only [DataW.trod, Tryd.underlying97] at hd0
    obtain ⟨l0⟩ := cs0
    match l0, hd0, hv0 with
    | [], hd0, _ => simp at hd0
    | x :: y :: r, hd0, _ => simp at hd0
    | [x], hd0, hv0 =>
      refine ⟨x, by simpa using World.var?_cell hg0 hv0 0, ?_⟩
      cases x <;> first | exact .inl rfl | exact .inr ⟨_, _, rfl⟩ | (exfalso; simp at hd0)
theorem map_cell {l : List (String × DataW Unit)} {n : String} {L : List (List UInt8 × Int)} {W : World} {g : Nat} (hg : Tryd.prog.globalNamed n = some g) (ht : (Tryd.prog.globals[g]?).map (·.type) = some 82) (h : laidMet Tryd.prog ((n, encL L) :: l) W) : MapAt g 0 L W := by
  obtain ⟨ps, ⟨g0, t0, cs0, f0, p0, q0, hg0, ht0, hv0, hd0, _, e0⟩, _, hrows⟩ := h
  obtain rfl := Option.some.inj (hg.symm.trans hg0)
  obtain rfl := Option.some.inj (ht.symm.trans ht0)
  obtain ⟨c, hc⟩ : ∃ c, cs0.toList = [c] := by
    rcases WideElems.open_map Tryd.underlying82 hd0 with ⟨h1, _⟩ | ⟨b, es, clock, n, _, h1, _⟩ <;> exact ⟨_, h1⟩
  rw [hc] at hd0
  refine mapAt_of_trod (c := c) ?_ hd0
  rw [World.var?_cell hg0 hv0 0]
  have : cs0.toList[0]? = some c := by rw [hc]; rfl
  simpa using this
theorem tab_of_laid {W : World} (h : laidMetH Tryd.prog laidL W) : Tab W := by
  rw [MakeChecks.laidMetH_plain _ _ _ (by kernel_rfl)] at h
  have hRange := h.tail.tail.tail
  have hSyntax := hRange.tail
  have hSigns := hSyntax.tail
  have hKept := hSigns.tail
  have hLevels := hKept.tail
  have hWords := hLevels.tail
  refine ⟨⟨?_, iface_cell gSyntax tSyntax hSyntax, iface_cell gRange tRange hRange⟩, map_cell (L := keptL) gKept tKept hKept, map_cell (L := wordsL) gWords tWords hWords, ?_⟩
  · obtain ⟨ps, ⟨g', t', cs, fuel, p, q, hg', ht', hvar, hd, _, _⟩, _⟩ := hSigns
    obtain rfl := Option.some.inj (gSigns.symm.trans hg')
    obtain rfl := Option.some.inj (tSigns.symm.trans ht')
    intro j x hx
    obtain ⟨s, h1, h2⟩ := cells_of_strs (zs := signsB.map (·.data.toList)) Tryd.underlying103 Tryd.underlying9 cStr cArr hd j x.data.toList (by rw [List.getElem?_map, hx]; rfl)
    have e : s = x := by
      cases s with
      | mk d => cases x with
        | mk d' =>
          have : d.toList = d'.toList := h2
          rw [Array.toList_inj.1 this]
    subst e
    rw [World.var?_cell hg' hvar j]
    simpa using h1
  · obtain ⟨ps, ⟨g', t', cs, fuel, p, q, hg', ht', hvar, hd, _, _⟩, _⟩ := hLevels
    obtain rfl := Option.some.inj (gLevels.symm.trans hg')
    obtain rfl := Option.some.inj (tLevels.symm.trans ht')
    intro n hn
    obtain ⟨f, hf⟩ := cells_of_arr (zs := (List.range 6).map fun n => encL (levelL n)) Tryd.underlying129 cMap cLev hd
    obtain ⟨c, q2, h1, h2⟩ := hf n (encL (levelL n)) (by rw [List.getElem?_map, List.getElem?_range hn]; rfl)
    refine mapAt_of_trod (c := c) ?_ h2
    rw [World.var?_cell hg' hvar n]
    simpa using h1
theorem door_met (os : Os) (args : Array Value) : laidMetH Tryd.prog laidL ((World.doorLaid Tryd.prog 253 os).forCall (fun _ _ => 0) ⟨#[], args, []⟩).memory :=
  laidMetH_of_parts3 (fuel := 8) (laidMet_of_run' 8 (by kernel_rfl) (by kernel_rfl)) (by kernel_rfl) (by kernel_rfl)
end Go.Proofs.YtenogedclignmaaDoor.Q
