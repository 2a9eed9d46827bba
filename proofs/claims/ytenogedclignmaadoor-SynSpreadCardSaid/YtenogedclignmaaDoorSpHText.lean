/-
  HELPER.
-/
import Derived.Test.YtenogedclignmaaDoorSpK1
import Derived.Test.YtenogedclignmaaDoorSpShelf
import Derived.Test.YtenogedclignmaaDoorPlK0
import Derived.Test.YtenogedclignmaaDoorSpWords
set_option linter.unusedVariables false
set_option linter.unusedSimpArgs false
namespace Go.Proofs.YtenogedclignmaaDoor.Q
open Go.RowKit Go.Proofs.YtenogedclignmaaDoorW.PrintWords Go.Proofs.YtenogedclignmaaDoorW.PrintLast Go.Proofs.YtenogedclignmaaDoorW.PrintMore
theorem infoStr : (Tryd.prog.info? 9).map (fun i => (i.zero, i.size, i.bytes)) = some (some (.string ⟨#[]⟩), 1, 16) := by kernel_rfl
def textB (l : List S37) : List UInt8 := LexP.joinB (l.map (·.f1.data.toList))
def lex_Text.f (l0 : List (S37)) : Option (ByteArray) :=
  if l0.length < 8796093022208 ∧ (textB l0).length ≤ 140737488355328 then some ⟨(textB l0).toArray⟩ else none
theorem joinB_lib (xs : List (List UInt8)) : Lib.join xs [32] = LexP.joinB xs := by
  cases xs with
  | nil => rfl
  | cons x r =>
    rw [Lib.join_cons, LexP.joinB_eq]
    rfl
theorem text_step (l : List S37) (k : Nat) (hk : k < l.length) : (l.take k).map (·.f1) ++ [(rd_T37 l (k : Int)).f1] = (l.take (k + 1)).map (·.f1) := by
  have : rd_T37 l (k : Int) = l[k] := by simp [rd_T37, hk]
  rw [this, List.take_add_one, List.getElem?_eq_getElem hk, List.map_append]
  rfl
set_option maxHeartbeats 4000000 in
set_option maxRecDepth 100000 in
theorem lex_Text.calls (A0 : Option Addr) (c0 : Nat) (l0 : List (S37)) (r : ByteArray) (w : World) (hr0 : Kd.C k37 w A0 l0.length l0) (hc0 : l0.length ≤ c0) (h : lex_Text.f l0 = some r) :
    Calls Tryd.prog 20 #[.slice A0 l0.length c0] w fun e w' => e = .returned (.string r) ∧ Below w.heap.size w w' := by
  have HR0 := Aside0.mk hr0
  clear hr0
  have HB := Aside0.mk (Below.refl w.heap.size w)
  unfold lex_Text.f at h
  by_cases hb : l0.length < 8796093022208 ∧ (textB l0).length ≤ 140737488355328
  · rw [if_pos hb] at h
    have HF := Aside0.mk (Option.some.inj h)
    clear h
    obtain ⟨hb1, hb2⟩ := hb
    have HB2 := Aside0.mk hb2
    clear hb2
    go_enter Tryd.func20, Tryd.ntmps20
    go_wp2
    go_loopg [3, 8] l0.length (fun kq v3 v8 w' => ∃ (k : Nat) (ws : List ByteArray), v8 = .int .i64 k ∧ k ≤ l0.length ∧ Aside0 (kq = l0.length - k) ∧ Aside0 (ws = (l0.take k).map (·.f1)) ∧ Aside0 (Kd.R Kd.string 9 w' w.heap.size (fun _ => True) v3 ws) ∧ Aside0 (Below w.heap.size w w'))
    case atStart => exact ⟨0, [], rfl, by omega, ⟨by omega⟩, ⟨by simp⟩, ⟨Kd.R_nil _ _ _ _ _⟩, ⟨Below.refl _ _⟩⟩
    case round =>
      clear HB
      obtain ⟨k, ws, rfl, hk, HQ, HW, HO, HB⟩ := hrel
      by_cases hlt : k < l0.length
      · have hi0 : 0 ≤ (k : Int) := by omega
        have hi1 : (k : Int) < l0.length := by omega
        obtain ⟨ad, e, x0, x1, x2, x3⟩ := at_T37 (Kd.C_below HR0.out HB.out) k hi0 hi1
        cases e
        have hto : (k : Int).toNat = k := by omega
        simp only [hto] at x0 x1 x2 x3
        clear hto
        have HL := Aside0.mk (show ws.length ≤ k by rw [HW.out]; simp; omega)
        generalize hy : rd_T37 l0 (k : Int) = y at x0 x1 x2 x3
        have HY := Aside0.mk hy
        clear hy
        go_wp2_with (first | ((with_reducible refine gate_dst (N := 16) rfl ?_); refine Kd.R_append Kd.string (w0 := w) w.heap.size rfl (.tmp 12) (.tmp 15) 43 9 (.string ⟨#[]⟩) 16 rfl Tryd.underlying43 infoStr rfl (by decide) (by omega) u3 ws y.f1 [.string y.f1] (fun _ => True) (fun _ => False) rfl (by first | (go_simp; done) | (go_simp; rfl)) ?aP (fun _ hk => hk.elim) (fun _ _ => trivial) ?aO ?aB ?aS ?aL ?_; (case aP => rfl); (case aO => exact Kd.R_alloc HO.out _); (case aB => exact below_alloc HB.out _); (case aS => exact below_size (below_alloc HB.out _)); (case aL => have := HL.out; omega); intro v2 w2 hR hB hg hat; have HO2 := Aside0.mk hR; have HB2' := Aside0.mk hB; clear hR hB hg hat))
        go_roundg (l0.length - (k + 1))
        case measure => have := HQ.out; omega
        case rel => exact ⟨k + 1, ws ++ [y.f1], by go_num, by omega, ⟨rfl⟩, ⟨by rw [HW.out, ← HY.out]; exact text_step l0 k hlt⟩, HO2, HB2'⟩
      · obtain rfl : k = l0.length := by omega
        have hws : ws = l0.map (·.f1) := by rw [HW.out, List.take_length]
        have HWS := Aside0.mk hws
        have hdata : (ws.map (·.data.toList)) = l0.map (·.f1.data.toList) := by rw [hws, List.map_map]; rfl
        have HD := Aside0.mk hdata
        clear hws hdata
        have hlen : ws.length = l0.length := by rw [HWS.out]; simp
        have HLN := Aside0.mk hlen
        clear hlen
        by_cases he : l0.length = 0
        · have HE := Aside0.mk he
          clear he
          obtain ⟨A, c, hv⟩ := Kd.R_slice HO.out
          rw [HLN.out, HE.out] at hv
          subst hv
          go_wp2_with (fail)
          refine (Tryd.strings_Join_none _ _ _ _).mono ?_
          rintro e w' ⟨rfl, rfl⟩
          go_wp2
          go_ret
          have hnil : l0 = [] := List.eq_nil_of_length_eq_zero HE.out
          exact ⟨by rw [← HF.out, hnil]; rfl, HB.out⟩
        · have HE := Aside0.mk (Nat.pos_of_ne_zero he)
          clear he
          obtain ⟨g, cap, hv, hbase, hglt, hcells⟩ := Kd.R_form HO.out (by rw [HLN.out]; exact HE.out)
          clear hcells
          subst hv
          have HCL := Aside0.mk (fun (j : Nat) (x : ByteArray) (hx : ws[j]? = some x) => show wr.cell? ⟨g, 0 + j, none⟩ = some (.string x) from by
            have hj : j < ws.length := (List.getElem?_eq_some_iff.1 hx).1
            have := (Kd.R_cell (enc := Value.string) (h1 := fun _ => rfl) ByteArray.empty HO.out (j : Int) (by omega) (by omega)).1
            rw [show (j : Int).toNat = j by omega, show rdOf ByteArray.empty ws (j : Int) = x by simp [rdOf, List.getD_eq_getElem?_getD, hx]] at this
            rw [Nat.zero_add]; exact this)
          have HR := Aside0.mk (show (Lib.join (ws.map (·.data.toList)) (ByteArray.mk #[32]).data.toList) = textB l0 by
            rw [HD.out]; exact joinB_lib _)
          go_wp2_with (fail)
          refine (Tryd.strings_Join g 0 cap ws _ _ HCL.out (by first | exact hglt | (simp; omega)) (by rw [HLN.out]; omega) ?_ (by rw [HR.out]; exact HB2.out)).mono ?_
          · exact (Kd.R_reads' HO.out).2.1
          rw [HR.out]
          rintro e w' ⟨rfl, hb⟩
          go_wp2
          go_ret
          exact ⟨HF.out ▸ rfl, below_step HB.out hb⟩
  · rw [if_neg hb] at h
    exact absurd h (by simp)
end Go.Proofs.YtenogedclignmaaDoor.Q
