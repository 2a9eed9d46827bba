/-
  HELPER.
-/
import Derived.Test.YtenogedclignmaaDoorPlKA
import Derived.Test.YtenogedclignmaaDoorPlWords
import Derived.Test.YtenogedclignmaaDoorProg
import Derived.Below
import Derived.Deep.Draws
import Derived.Deep.AppendLies
import Derived.Maps.AppendAt
import Derived.OwnWalk
import Derived.Laws.BytesArg
import Derived.Laws.MakeOwn
import Derived.Laws.OwnMore
import Derived.Deep.OwnRows
import Derived.Tactics
import Derived.Lib.ConvBytes
import Derived.Laws.Slices
import Derived.WalkKit
import Derived.KernelRfl
import Derived.RowKit3
import Derived.Deep.LoopGhost
import Derived.Deep.QuietTactic
import Derived.BigQuiet
import Derived.WideLaws
import Derived.Deep.DeepCutAuto
import Derived.Deep.CutBlock
import Derived.Deep.RegionHeld3
import Derived.Laws.Rows
import Derived.Lib.AppendStr
import Derived.ArgAppend
import Derived.Laws.IdiomCopy
import Derived.OrdersHeld
import Derived.Laws.BitsLemmas
import Derived.RowKit
namespace Go.Proofs.YtenogedclignmaaDoor.Q
open Go.RowKit Go.Proofs.YtenogedclignmaaDoorW.PrintWords Go.Proofs.YtenogedclignmaaDoorW.PrintLast Go.Proofs.YtenogedclignmaaDoorW.PrintMore
attribute [local go_sem] max2_int min2_int max_two min_two
set_option linter.unusedVariables false
set_option linter.unusedSimpArgs false
def errW : Option Int → Value
 | none => .nilIface
 | some c => .iface 113 (.int .i64 c)
theorem errW_none : errW none = .nilIface := rfl
theorem errW_some (c : Int) : errW (some c) = .iface 113 (.int .i64 c) := rfl
structure S35 where
 f0 : Int
 f1 : Int
 f2 : Int
 f3 : Int
def z35 : S35 := ⟨(0 : Int), (0 : Int), (0 : Int), (0 : Int)⟩
def k35 : Kd S35 := Kd.iso (Kd.pair (Kd.int .i64) (Kd.pair (Kd.int .i64) (Kd.pair (Kd.int .i64) (Kd.int .i64)))) (fun x : S35 => (x.f0, x.f1, x.f2, x.f3))
theorem k35_open {w : World} {x : S35} {cs : List Value} (h : k35.K w x cs) : cs = [.int .i64 x.f0, .int .i64 x.f1, .int .i64 x.f2, .int .i64 x.f3] := by
 obtain ⟨_, _, rfl, rfl, ⟨_, _, rfl, rfl, ⟨_, _, rfl, rfl, rfl⟩⟩⟩ := h
 exact rfl
theorem k35_mk (w : World) (x : S35)  : k35.K w x [.int .i64 x.f0, .int .i64 x.f1, .int .i64 x.f2, .int .i64 x.f3] := ⟨[.int .i64 x.f0], [.int .i64 x.f1, .int .i64 x.f2, .int .i64 x.f3], rfl, rfl, ⟨[.int .i64 x.f1], [.int .i64 x.f2, .int .i64 x.f3], rfl, rfl, ⟨[.int .i64 x.f2], [.int .i64 x.f3], rfl, rfl, rfl⟩⟩⟩
theorem k35_mkM (w : World) (base : Nat) (ok : Nat → Prop) (x : S35)  : k35.M w base ok x [.int .i64 x.f0, .int .i64 x.f1, .int .i64 x.f2, .int .i64 x.f3] := ⟨[.int .i64 x.f0], [.int .i64 x.f1, .int .i64 x.f2, .int .i64 x.f3], rfl, rfl, ⟨[.int .i64 x.f1], [.int .i64 x.f2, .int .i64 x.f3], rfl, rfl, ⟨[.int .i64 x.f2], [.int .i64 x.f3], rfl, rfl, rfl⟩⟩⟩
def rd_T35 (xs : List S35) (i : Int) : S35 := xs.getD i.toNat z35
theorem at_T35 {w : World} {A : Option Addr} {n : Nat} {xs : List S35} (h : Kd.C k35 w A n xs) (i : Int) (h0 : 0 ≤ i) (h1 : i < n) : ∃ ad , A = some ad ∧ w.cell? (ad.add (i.toNat * 4)) = some (.int .i64 (rd_T35 xs i).f0) ∧ w.cell? ⟨(ad.add (i.toNat * 4)).block, (ad.add (i.toNat * 4)).off + 1, none⟩ = some (.int .i64 (rd_T35 xs i).f1) ∧ w.cell? ⟨(ad.add (i.toNat * 4)).block, (ad.add (i.toNat * 4)).off + 2, none⟩ = some (.int .i64 (rd_T35 xs i).f2) ∧ w.cell? ⟨(ad.add (i.toNat * 4)).block, (ad.add (i.toNat * 4)).off + 3, none⟩ = some (.int .i64 (rd_T35 xs i).f3) := by
 obtain ⟨ad, c, e, _, hK, hc0⟩ := Kd.C_get h z35 i h0 h1
 have hc : ∀ j u, c[j]? = some u → w.cell? (ad.add (i.toNat * 4 + j)) = some u := hc0
 obtain rfl := k35_open hK
 exact ⟨ad, e, hc 0 _ rfl, by rw [← add_field _ _ 1 (by omega)]; exact hc 1 _ rfl, by rw [← add_field _ _ 2 (by omega)]; exact hc 2 _ rfl, by rw [← add_field _ _ 3 (by omega)]; exact hc 3 _ rfl⟩
structure S37 where
 f0 : Int
 f1 : ByteArray
 f2 : Int
 f3 : Int
def z37 : S37 := ⟨(0 : Int), (⟨#[]⟩ : ByteArray), (0 : Int), (0 : Int)⟩
def k37 : Kd S37 := Kd.iso (Kd.pair (Kd.int .i64) (Kd.pair Kd.string (Kd.pair (Kd.int .i64) (Kd.int .i64)))) (fun x : S37 => (x.f0, x.f1, x.f2, x.f3))
theorem k37_open {w : World} {x : S37} {cs : List Value} (h : k37.K w x cs) : cs = [.int .i64 x.f0, .string x.f1, .int .i64 x.f2, .int .i64 x.f3] := by
 obtain ⟨_, _, rfl, rfl, ⟨_, _, rfl, rfl, ⟨_, _, rfl, rfl, rfl⟩⟩⟩ := h
 exact rfl
theorem k37_mkM (w : World) (base : Nat) (ok : Nat → Prop) (x : S37)  : k37.M w base ok x [.int .i64 x.f0, .string x.f1, .int .i64 x.f2, .int .i64 x.f3] := ⟨[.int .i64 x.f0], [.string x.f1, .int .i64 x.f2, .int .i64 x.f3], rfl, rfl, ⟨[.string x.f1], [.int .i64 x.f2, .int .i64 x.f3], rfl, rfl, ⟨[.int .i64 x.f2], [.int .i64 x.f3], rfl, rfl, rfl⟩⟩⟩
def rd_T37 (xs : List S37) (i : Int) : S37 := xs.getD i.toNat z37
theorem at_T37 {w : World} {A : Option Addr} {n : Nat} {xs : List S37} (h : Kd.C k37 w A n xs) (i : Int) (h0 : 0 ≤ i) (h1 : i < n) : ∃ ad , A = some ad ∧ w.cell? (ad.add (i.toNat * 4)) = some (.int .i64 (rd_T37 xs i).f0) ∧ w.cell? ⟨(ad.add (i.toNat * 4)).block, (ad.add (i.toNat * 4)).off + 1, none⟩ = some (.string (rd_T37 xs i).f1) ∧ w.cell? ⟨(ad.add (i.toNat * 4)).block, (ad.add (i.toNat * 4)).off + 2, none⟩ = some (.int .i64 (rd_T37 xs i).f2) ∧ w.cell? ⟨(ad.add (i.toNat * 4)).block, (ad.add (i.toNat * 4)).off + 3, none⟩ = some (.int .i64 (rd_T37 xs i).f3) := by
 obtain ⟨ad, c, e, _, hK, hc0⟩ := Kd.C_get h z37 i h0 h1
 have hc : ∀ j u, c[j]? = some u → w.cell? (ad.add (i.toNat * 4 + j)) = some u := hc0
 obtain rfl := k37_open hK
 exact ⟨ad, e, hc 0 _ rfl, by rw [← add_field _ _ 1 (by omega)]; exact hc 1 _ rfl, by rw [← add_field _ _ 2 (by omega)]; exact hc 2 _ rfl, by rw [← add_field _ _ 3 (by omega)]; exact hc 3 _ rfl⟩
structure S51 where
 f0 : ByteArray
 f1 : Int
def z51 : S51 := ⟨(⟨#[]⟩ : ByteArray), (0 : Int)⟩
def k51 : Kd S51 := Kd.iso (Kd.pair Kd.string (Kd.int .i64)) (fun x : S51 => (x.f0, x.f1))
theorem k51_open {w : World} {x : S51} {cs : List Value} (h : k51.K w x cs) : cs = [.string x.f0, .int .i64 x.f1] := by
 obtain ⟨_, _, rfl, rfl, rfl⟩ := h
 exact rfl
theorem k51_mk (w : World) (x : S51)  : k51.K w x [.string x.f0, .int .i64 x.f1] := ⟨[.string x.f0], [.int .i64 x.f1], rfl, rfl, rfl⟩
theorem k51_mkM (w : World) (base : Nat) (ok : Nat → Prop) (x : S51)  : k51.M w base ok x [.string x.f0, .int .i64 x.f1] := ⟨[.string x.f0], [.int .i64 x.f1], rfl, rfl, rfl⟩
def rd_T51 (xs : List S51) (i : Int) : S51 := xs.getD i.toNat z51
theorem at_T51 {w : World} {A : Option Addr} {n : Nat} {xs : List S51} (h : Kd.C k51 w A n xs) (i : Int) (h0 : 0 ≤ i) (h1 : i < n) : ∃ ad , A = some ad ∧ w.cell? (ad.add (i.toNat * 2)) = some (.string (rd_T51 xs i).f0) ∧ w.cell? ⟨(ad.add (i.toNat * 2)).block, (ad.add (i.toNat * 2)).off + 1, none⟩ = some (.int .i64 (rd_T51 xs i).f1) := by
 obtain ⟨ad, c, e, _, hK, hc0⟩ := Kd.C_get h z51 i h0 h1
 have hc : ∀ j u, c[j]? = some u → w.cell? (ad.add (i.toNat * 2 + j)) = some u := hc0
 obtain rfl := k51_open hK
 exact ⟨ad, e, hc 0 _ rfl, by rw [← add_field _ _ 1 (by omega)]; exact hc 1 _ rfl⟩
structure S56 where
 f0 : Int
 f1 : S51
 f2 : S51
 f3 : S51
 f4 : S51
 f5 : ByteArray
 f6 : (List S56)
def z56 : S56 := ⟨(0 : Int), z51, z51, z51, z51, (⟨#[]⟩ : ByteArray), ([] : List S56)⟩
def F56 (d : Kd S56) : Kd S56 := Kd.iso (Kd.pair (Kd.int .i64) (Kd.pair k51 (Kd.pair k51 (Kd.pair k51 (Kd.pair k51 (Kd.pair Kd.string (Kd.slice 56 d))))))) (fun x : S56 => (x.f0, x.f1, x.f2, x.f3, x.f4, x.f5, x.f6))
theorem mono56 : Kd.Mono F56 := Kd.mono_iso _ (Kd.mono_pair (Kd.mono_const _) (Kd.mono_pair (Kd.mono_const _) (Kd.mono_pair (Kd.mono_const _) (Kd.mono_pair (Kd.mono_const _) (Kd.mono_pair (Kd.mono_const _) (Kd.mono_pair (Kd.mono_const _) (Kd.mono_slice 56 Kd.mono_id)))))))
theorem sub56 : Kd.Sub F56 [56] := Kd.sub_iso _ (Kd.sub_pair (Kd.sub_const _ (by decide)) (Kd.sub_pair (Kd.sub_const _ (by decide)) (Kd.sub_pair (Kd.sub_const _ (by decide)) (Kd.sub_pair (Kd.sub_const _ (by decide)) (Kd.sub_pair (Kd.sub_const _ (by decide)) (Kd.sub_pair (Kd.sub_const _ (by decide)) (Kd.sub_slice 56 (by decide) Kd.sub_id)))))))
theorem sz56 : ∀ n, (Kd.upto F56 11 [56] n).sz = 11 := Kd.upto_sz (fun _ => rfl)
def k56 : Kd S56 := Kd.fix F56 11 [56] sz56 (Kd.upto_E sub56)
theorem k56_open {w : World} {x : S56} {cs : List Value} (h : k56.K w x cs) : ∃ A10 c10, cs = [.int .i64 x.f0, .string x.f1.f0, .int .i64 x.f1.f1, .string x.f2.f0, .int .i64 x.f2.f1, .string x.f3.f0, .int .i64 x.f3.f1, .string x.f4.f0, .int .i64 x.f4.f1, .string x.f5, .slice A10 x.f6.length c10] ∧ x.f6.length ≤ c10 ∧ k56.C w A10 x.f6.length x.f6 := by
 obtain ⟨n, h⟩ := h
 cases n with
 | zero => exact h.elim
 | succ n =>
  obtain ⟨_, _, rfl, rfl, ⟨_, _, rfl, s1, ⟨_, _, rfl, s3, ⟨_, _, rfl, s5, ⟨_, _, rfl, s7, ⟨_, _, rfl, rfl, ⟨A10, c10, rfl, l10, g10⟩⟩⟩⟩⟩⟩⟩ := h
  obtain rfl := k51_open s1
  obtain rfl := k51_open s3
  obtain rfl := k51_open s5
  obtain rfl := k51_open s7
  exact ⟨A10, c10, rfl, l10, Kd.fix_C g10⟩
theorem k56_mk (w : World) (x : S56) {A10 : Option Addr} {c10 : Nat} (l10 : x.f6.length ≤ c10) (g10 : k56.C w A10 x.f6.length x.f6) : k56.K w x [.int .i64 x.f0, .string x.f1.f0, .int .i64 x.f1.f1, .string x.f2.f0, .int .i64 x.f2.f1, .string x.f3.f0, .int .i64 x.f3.f1, .string x.f4.f0, .int .i64 x.f4.f1, .string x.f5, .slice A10 x.f6.length c10] := by
 obtain ⟨n10, q10⟩ := Kd.fix_C_back mono56 g10
 have r10 := Kd.upto_C_le mono56 sz56 (show n10 ≤ n10 by omega) q10
 exact ⟨n10 + 1, ⟨[.int .i64 x.f0], [.string x.f1.f0, .int .i64 x.f1.f1, .string x.f2.f0, .int .i64 x.f2.f1, .string x.f3.f0, .int .i64 x.f3.f1, .string x.f4.f0, .int .i64 x.f4.f1, .string x.f5, .slice A10 x.f6.length c10], rfl, rfl, ⟨[.string x.f1.f0, .int .i64 x.f1.f1], [.string x.f2.f0, .int .i64 x.f2.f1, .string x.f3.f0, .int .i64 x.f3.f1, .string x.f4.f0, .int .i64 x.f4.f1, .string x.f5, .slice A10 x.f6.length c10], rfl, (k51_mk w x.f1 ), ⟨[.string x.f2.f0, .int .i64 x.f2.f1], [.string x.f3.f0, .int .i64 x.f3.f1, .string x.f4.f0, .int .i64 x.f4.f1, .string x.f5, .slice A10 x.f6.length c10], rfl, (k51_mk w x.f2 ), ⟨[.string x.f3.f0, .int .i64 x.f3.f1], [.string x.f4.f0, .int .i64 x.f4.f1, .string x.f5, .slice A10 x.f6.length c10], rfl, (k51_mk w x.f3 ), ⟨[.string x.f4.f0, .int .i64 x.f4.f1], [.string x.f5, .slice A10 x.f6.length c10], rfl, (k51_mk w x.f4 ), ⟨[.string x.f5], [.slice A10 x.f6.length c10], rfl, rfl, ⟨A10, c10, rfl, l10, r10⟩⟩⟩⟩⟩⟩⟩⟩
theorem k56_mkM (w : World) (base : Nat) (ok : Nat → Prop) (x : S56) {v10 : Value} (g10 : k56.R 56 w base ok v10 x.f6) : k56.M w base ok x [.int .i64 x.f0, .string x.f1.f0, .int .i64 x.f1.f1, .string x.f2.f0, .int .i64 x.f2.f1, .string x.f3.f0, .int .i64 x.f3.f1, .string x.f4.f0, .int .i64 x.f4.f1, .string x.f5, v10] := by
 obtain ⟨n10, q10⟩ := Kd.fix_R_back mono56 g10
 have r10 := Kd.upto_R_le mono56 sz56 (show n10 ≤ n10 by omega) q10
 exact ⟨n10 + 1, ⟨[.int .i64 x.f0], [.string x.f1.f0, .int .i64 x.f1.f1, .string x.f2.f0, .int .i64 x.f2.f1, .string x.f3.f0, .int .i64 x.f3.f1, .string x.f4.f0, .int .i64 x.f4.f1, .string x.f5, v10], rfl, rfl, ⟨[.string x.f1.f0, .int .i64 x.f1.f1], [.string x.f2.f0, .int .i64 x.f2.f1, .string x.f3.f0, .int .i64 x.f3.f1, .string x.f4.f0, .int .i64 x.f4.f1, .string x.f5, v10], rfl, (k51_mkM w base ok x.f1 ), ⟨[.string x.f2.f0, .int .i64 x.f2.f1], [.string x.f3.f0, .int .i64 x.f3.f1, .string x.f4.f0, .int .i64 x.f4.f1, .string x.f5, v10], rfl, (k51_mkM w base ok x.f2 ), ⟨[.string x.f3.f0, .int .i64 x.f3.f1], [.string x.f4.f0, .int .i64 x.f4.f1, .string x.f5, v10], rfl, (k51_mkM w base ok x.f3 ), ⟨[.string x.f4.f0, .int .i64 x.f4.f1], [.string x.f5, v10], rfl, (k51_mkM w base ok x.f4 ), ⟨[.string x.f5], [v10], rfl, rfl, ⟨v10, rfl, r10⟩⟩⟩⟩⟩⟩⟩⟩
def rd_T56 (xs : List S56) (i : Int) : S56 := xs.getD i.toNat z56
theorem at_T56 {w : World} {A : Option Addr} {n : Nat} {xs : List S56} (h : Kd.C k56 w A n xs) (i : Int) (h0 : 0 ≤ i) (h1 : i < n) : ∃ ad A10 c10, A = some ad ∧ w.cell? (ad.add (i.toNat * 11)) = some (.int .i64 (rd_T56 xs i).f0) ∧ w.cell? ⟨(ad.add (i.toNat * 11)).block, (ad.add (i.toNat * 11)).off + 1, none⟩ = some (.string (rd_T56 xs i).f1.f0) ∧ w.cell? ⟨(ad.add (i.toNat * 11)).block, (ad.add (i.toNat * 11)).off + 2, none⟩ = some (.int .i64 (rd_T56 xs i).f1.f1) ∧ w.cell? ⟨(ad.add (i.toNat * 11)).block, (ad.add (i.toNat * 11)).off + 3, none⟩ = some (.string (rd_T56 xs i).f2.f0) ∧ w.cell? ⟨(ad.add (i.toNat * 11)).block, (ad.add (i.toNat * 11)).off + 4, none⟩ = some (.int .i64 (rd_T56 xs i).f2.f1) ∧ w.cell? ⟨(ad.add (i.toNat * 11)).block, (ad.add (i.toNat * 11)).off + 5, none⟩ = some (.string (rd_T56 xs i).f3.f0) ∧ w.cell? ⟨(ad.add (i.toNat * 11)).block, (ad.add (i.toNat * 11)).off + 6, none⟩ = some (.int .i64 (rd_T56 xs i).f3.f1) ∧ w.cell? ⟨(ad.add (i.toNat * 11)).block, (ad.add (i.toNat * 11)).off + 7, none⟩ = some (.string (rd_T56 xs i).f4.f0) ∧ w.cell? ⟨(ad.add (i.toNat * 11)).block, (ad.add (i.toNat * 11)).off + 8, none⟩ = some (.int .i64 (rd_T56 xs i).f4.f1) ∧ w.cell? ⟨(ad.add (i.toNat * 11)).block, (ad.add (i.toNat * 11)).off + 9, none⟩ = some (.string (rd_T56 xs i).f5) ∧ w.cell? ⟨(ad.add (i.toNat * 11)).block, (ad.add (i.toNat * 11)).off + 10, none⟩ = some (.slice A10 (rd_T56 xs i).f6.length c10) ∧ (rd_T56 xs i).f6.length ≤ c10 ∧ k56.C w A10 (rd_T56 xs i).f6.length (rd_T56 xs i).f6 := by
 obtain ⟨ad, c, e, _, hK, hc0⟩ := Kd.C_get h z56 i h0 h1
 have hc : ∀ j u, c[j]? = some u → w.cell? (ad.add (i.toNat * 11 + j)) = some u := hc0
 obtain ⟨A10, c10, rfl, l10, g10⟩ := k56_open hK
 exact ⟨ad, A10, c10, e, hc 0 _ rfl, by rw [← add_field _ _ 1 (by omega)]; exact hc 1 _ rfl, by rw [← add_field _ _ 2 (by omega)]; exact hc 2 _ rfl, by rw [← add_field _ _ 3 (by omega)]; exact hc 3 _ rfl, by rw [← add_field _ _ 4 (by omega)]; exact hc 4 _ rfl, by rw [← add_field _ _ 5 (by omega)]; exact hc 5 _ rfl, by rw [← add_field _ _ 6 (by omega)]; exact hc 6 _ rfl, by rw [← add_field _ _ 7 (by omega)]; exact hc 7 _ rfl, by rw [← add_field _ _ 8 (by omega)]; exact hc 8 _ rfl, by rw [← add_field _ _ 9 (by omega)]; exact hc 9 _ rfl, by rw [← add_field _ _ 10 (by omega)]; exact hc 10 _ rfl, l10, g10⟩
structure S79 where
 f0 : ByteArray
 f1 : S56
def z79 : S79 := ⟨(⟨#[]⟩ : ByteArray), z56⟩
def k79 : Kd S79 := Kd.iso (Kd.pair Kd.string k56) (fun x : S79 => (x.f0, x.f1))
theorem k79_open {w : World} {x : S79} {cs : List Value} (h : k79.K w x cs) : ∃ A11 c11, cs = [.string x.f0, .int .i64 x.f1.f0, .string x.f1.f1.f0, .int .i64 x.f1.f1.f1, .string x.f1.f2.f0, .int .i64 x.f1.f2.f1, .string x.f1.f3.f0, .int .i64 x.f1.f3.f1, .string x.f1.f4.f0, .int .i64 x.f1.f4.f1, .string x.f1.f5, .slice A11 x.f1.f6.length c11] ∧ x.f1.f6.length ≤ c11 ∧ k56.C w A11 x.f1.f6.length x.f1.f6 := by
 obtain ⟨_, _, rfl, rfl, s1⟩ := h
 obtain ⟨A11, c11, rfl, l11, g11⟩ := k56_open s1
 exact ⟨A11, c11, rfl, l11, g11⟩
theorem k79_mkM (w : World) (base : Nat) (ok : Nat → Prop) (x : S79) {v11 : Value} (g11 : k56.R 56 w base ok v11 x.f1.f6) : k79.M w base ok x [.string x.f0, .int .i64 x.f1.f0, .string x.f1.f1.f0, .int .i64 x.f1.f1.f1, .string x.f1.f2.f0, .int .i64 x.f1.f2.f1, .string x.f1.f3.f0, .int .i64 x.f1.f3.f1, .string x.f1.f4.f0, .int .i64 x.f1.f4.f1, .string x.f1.f5, v11] := ⟨[.string x.f0], [.int .i64 x.f1.f0, .string x.f1.f1.f0, .int .i64 x.f1.f1.f1, .string x.f1.f2.f0, .int .i64 x.f1.f2.f1, .string x.f1.f3.f0, .int .i64 x.f1.f3.f1, .string x.f1.f4.f0, .int .i64 x.f1.f4.f1, .string x.f1.f5, v11], rfl, rfl, (k56_mkM w base ok x.f1 g11)⟩
def rd_T79 (xs : List S79) (i : Int) : S79 := xs.getD i.toNat z79
theorem at_T79 {w : World} {A : Option Addr} {n : Nat} {xs : List S79} (h : Kd.C k79 w A n xs) (i : Int) (h0 : 0 ≤ i) (h1 : i < n) : ∃ ad A11 c11, A = some ad ∧ w.cell? (ad.add (i.toNat * 12)) = some (.string (rd_T79 xs i).f0) ∧ w.cell? ⟨(ad.add (i.toNat * 12)).block, (ad.add (i.toNat * 12)).off + 1, none⟩ = some (.int .i64 (rd_T79 xs i).f1.f0) ∧ w.cell? ⟨(ad.add (i.toNat * 12)).block, (ad.add (i.toNat * 12)).off + 2, none⟩ = some (.string (rd_T79 xs i).f1.f1.f0) ∧ w.cell? ⟨(ad.add (i.toNat * 12)).block, (ad.add (i.toNat * 12)).off + 3, none⟩ = some (.int .i64 (rd_T79 xs i).f1.f1.f1) ∧ w.cell? ⟨(ad.add (i.toNat * 12)).block, (ad.add (i.toNat * 12)).off + 4, none⟩ = some (.string (rd_T79 xs i).f1.f2.f0) ∧ w.cell? ⟨(ad.add (i.toNat * 12)).block, (ad.add (i.toNat * 12)).off + 5, none⟩ = some (.int .i64 (rd_T79 xs i).f1.f2.f1) ∧ w.cell? ⟨(ad.add (i.toNat * 12)).block, (ad.add (i.toNat * 12)).off + 6, none⟩ = some (.string (rd_T79 xs i).f1.f3.f0) ∧ w.cell? ⟨(ad.add (i.toNat * 12)).block, (ad.add (i.toNat * 12)).off + 7, none⟩ = some (.int .i64 (rd_T79 xs i).f1.f3.f1) ∧ w.cell? ⟨(ad.add (i.toNat * 12)).block, (ad.add (i.toNat * 12)).off + 8, none⟩ = some (.string (rd_T79 xs i).f1.f4.f0) ∧ w.cell? ⟨(ad.add (i.toNat * 12)).block, (ad.add (i.toNat * 12)).off + 9, none⟩ = some (.int .i64 (rd_T79 xs i).f1.f4.f1) ∧ w.cell? ⟨(ad.add (i.toNat * 12)).block, (ad.add (i.toNat * 12)).off + 10, none⟩ = some (.string (rd_T79 xs i).f1.f5) ∧ w.cell? ⟨(ad.add (i.toNat * 12)).block, (ad.add (i.toNat * 12)).off + 11, none⟩ = some (.slice A11 (rd_T79 xs i).f1.f6.length c11) ∧ (rd_T79 xs i).f1.f6.length ≤ c11 ∧ k56.C w A11 (rd_T79 xs i).f1.f6.length (rd_T79 xs i).f1.f6 := by
 obtain ⟨ad, c, e, _, hK, hc0⟩ := Kd.C_get h z79 i h0 h1
 have hc : ∀ j u, c[j]? = some u → w.cell? (ad.add (i.toNat * 12 + j)) = some u := hc0
 obtain ⟨A11, c11, rfl, l11, g11⟩ := k79_open hK
 exact ⟨ad, A11, c11, e, hc 0 _ rfl, by rw [← add_field _ _ 1 (by omega)]; exact hc 1 _ rfl, by rw [← add_field _ _ 2 (by omega)]; exact hc 2 _ rfl, by rw [← add_field _ _ 3 (by omega)]; exact hc 3 _ rfl, by rw [← add_field _ _ 4 (by omega)]; exact hc 4 _ rfl, by rw [← add_field _ _ 5 (by omega)]; exact hc 5 _ rfl, by rw [← add_field _ _ 6 (by omega)]; exact hc 6 _ rfl, by rw [← add_field _ _ 7 (by omega)]; exact hc 7 _ rfl, by rw [← add_field _ _ 8 (by omega)]; exact hc 8 _ rfl, by rw [← add_field _ _ 9 (by omega)]; exact hc 9 _ rfl, by rw [← add_field _ _ 10 (by omega)]; exact hc 10 _ rfl, by rw [← add_field _ _ 11 (by omega)]; exact hc 11 _ rfl, l11, g11⟩
structure S64 where
 f0 : Bool
 f1 : ByteArray
 f2 : S51
def z64 : S64 := ⟨false, (⟨#[]⟩ : ByteArray), z51⟩
def k64 : Kd S64 := Kd.iso (Kd.pair Kd.bool (Kd.pair Kd.string k51)) (fun x : S64 => (x.f0, x.f1, x.f2))
theorem k64_open {w : World} {x : S64} {cs : List Value} (h : k64.K w x cs) : cs = [.bool x.f0, .string x.f1, .string x.f2.f0, .int .i64 x.f2.f1] := by
 obtain ⟨_, _, rfl, rfl, ⟨_, _, rfl, rfl, s2⟩⟩ := h
 obtain rfl := k51_open s2
 exact rfl
theorem k64_mk (w : World) (x : S64)  : k64.K w x [.bool x.f0, .string x.f1, .string x.f2.f0, .int .i64 x.f2.f1] := ⟨[.bool x.f0], [.string x.f1, .string x.f2.f0, .int .i64 x.f2.f1], rfl, rfl, ⟨[.string x.f1], [.string x.f2.f0, .int .i64 x.f2.f1], rfl, rfl, (k51_mk w x.f2 )⟩⟩
theorem k64_mkM (w : World) (base : Nat) (ok : Nat → Prop) (x : S64)  : k64.M w base ok x [.bool x.f0, .string x.f1, .string x.f2.f0, .int .i64 x.f2.f1] := ⟨[.bool x.f0], [.string x.f1, .string x.f2.f0, .int .i64 x.f2.f1], rfl, rfl, ⟨[.string x.f1], [.string x.f2.f0, .int .i64 x.f2.f1], rfl, rfl, (k51_mkM w base ok x.f2 )⟩⟩
def rd_T64 (xs : List S64) (i : Int) : S64 := xs.getD i.toNat z64
theorem at_T64 {w : World} {A : Option Addr} {n : Nat} {xs : List S64} (h : Kd.C k64 w A n xs) (i : Int) (h0 : 0 ≤ i) (h1 : i < n) : ∃ ad , A = some ad ∧ w.cell? (ad.add (i.toNat * 4)) = some (.bool (rd_T64 xs i).f0) ∧ w.cell? ⟨(ad.add (i.toNat * 4)).block, (ad.add (i.toNat * 4)).off + 1, none⟩ = some (.string (rd_T64 xs i).f1) ∧ w.cell? ⟨(ad.add (i.toNat * 4)).block, (ad.add (i.toNat * 4)).off + 2, none⟩ = some (.string (rd_T64 xs i).f2.f0) ∧ w.cell? ⟨(ad.add (i.toNat * 4)).block, (ad.add (i.toNat * 4)).off + 3, none⟩ = some (.int .i64 (rd_T64 xs i).f2.f1) := by
 obtain ⟨ad, c, e, _, hK, hc0⟩ := Kd.C_get h z64 i h0 h1
 have hc : ∀ j u, c[j]? = some u → w.cell? (ad.add (i.toNat * 4 + j)) = some u := hc0
 obtain rfl := k64_open hK
 exact ⟨ad, e, hc 0 _ rfl, by rw [← add_field _ _ 1 (by omega)]; exact hc 1 _ rfl, by rw [← add_field _ _ 2 (by omega)]; exact hc 2 _ rfl, by rw [← add_field _ _ 3 (by omega)]; exact hc 3 _ rfl⟩
structure S58 where
 f0 : Int
 f1 : ByteArray
 f2 : S51
 f3 : S51
 f4 : ByteArray
 f5 : (List S51)
 f6 : (List S79)
 f7 : S56
 f8 : S56
 f9 : S56
def z58 : S58 := ⟨(0 : Int), (⟨#[]⟩ : ByteArray), z51, z51, (⟨#[]⟩ : ByteArray), ([] : List S51), ([] : List S79), z56, z56, z56⟩
def k58 : Kd S58 := Kd.iso (Kd.pair (Kd.int .i64) (Kd.pair Kd.string (Kd.pair k51 (Kd.pair k51 (Kd.pair Kd.string (Kd.pair (Kd.slice 51 k51) (Kd.pair (Kd.slice 79 k79) (Kd.pair k56 (Kd.pair k56 k56))))))))) (fun x : S58 => (x.f0, x.f1, x.f2, x.f3, x.f4, x.f5, x.f6, x.f7, x.f8, x.f9))
theorem k58_open {w : World} {x : S58} {cs : List Value} (h : k58.K w x cs) : ∃ A7 c7 A8 c8 A19 c19 A30 c30 A41 c41, cs = [.int .i64 x.f0, .string x.f1, .string x.f2.f0, .int .i64 x.f2.f1, .string x.f3.f0, .int .i64 x.f3.f1, .string x.f4, .slice A7 x.f5.length c7, .slice A8 x.f6.length c8, .int .i64 x.f7.f0, .string x.f7.f1.f0, .int .i64 x.f7.f1.f1, .string x.f7.f2.f0, .int .i64 x.f7.f2.f1, .string x.f7.f3.f0, .int .i64 x.f7.f3.f1, .string x.f7.f4.f0, .int .i64 x.f7.f4.f1, .string x.f7.f5, .slice A19 x.f7.f6.length c19, .int .i64 x.f8.f0, .string x.f8.f1.f0, .int .i64 x.f8.f1.f1, .string x.f8.f2.f0, .int .i64 x.f8.f2.f1, .string x.f8.f3.f0, .int .i64 x.f8.f3.f1, .string x.f8.f4.f0, .int .i64 x.f8.f4.f1, .string x.f8.f5, .slice A30 x.f8.f6.length c30, .int .i64 x.f9.f0, .string x.f9.f1.f0, .int .i64 x.f9.f1.f1, .string x.f9.f2.f0, .int .i64 x.f9.f2.f1, .string x.f9.f3.f0, .int .i64 x.f9.f3.f1, .string x.f9.f4.f0, .int .i64 x.f9.f4.f1, .string x.f9.f5, .slice A41 x.f9.f6.length c41] ∧ x.f5.length ≤ c7 ∧ k51.C w A7 x.f5.length x.f5 ∧ x.f6.length ≤ c8 ∧ k79.C w A8 x.f6.length x.f6 ∧ x.f7.f6.length ≤ c19 ∧ k56.C w A19 x.f7.f6.length x.f7.f6 ∧ x.f8.f6.length ≤ c30 ∧ k56.C w A30 x.f8.f6.length x.f8.f6 ∧ x.f9.f6.length ≤ c41 ∧ k56.C w A41 x.f9.f6.length x.f9.f6 := by
 obtain ⟨_, _, rfl, rfl, ⟨_, _, rfl, rfl, ⟨_, _, rfl, s2, ⟨_, _, rfl, s4, ⟨_, _, rfl, rfl, ⟨_, _, rfl, ⟨A7, c7, rfl, l7, g7⟩, ⟨_, _, rfl, ⟨A8, c8, rfl, l8, g8⟩, ⟨_, _, rfl, s9, ⟨_, _, rfl, s20, s31⟩⟩⟩⟩⟩⟩⟩⟩⟩ := h
 obtain rfl := k51_open s2
 obtain rfl := k51_open s4
 obtain ⟨A19, c19, rfl, l19, g19⟩ := k56_open s9
 obtain ⟨A30, c30, rfl, l30, g30⟩ := k56_open s20
 obtain ⟨A41, c41, rfl, l41, g41⟩ := k56_open s31
 exact ⟨A7, c7, A8, c8, A19, c19, A30, c30, A41, c41, rfl, l7, g7, l8, g8, l19, g19, l30, g30, l41, g41⟩
theorem k58_mk (w : World) (x : S58) {A7 : Option Addr} {c7 : Nat} (l7 : x.f5.length ≤ c7) (g7 : k51.C w A7 x.f5.length x.f5) {A8 : Option Addr} {c8 : Nat} (l8 : x.f6.length ≤ c8) (g8 : k79.C w A8 x.f6.length x.f6) {A19 : Option Addr} {c19 : Nat} (l19 : x.f7.f6.length ≤ c19) (g19 : k56.C w A19 x.f7.f6.length x.f7.f6) {A30 : Option Addr} {c30 : Nat} (l30 : x.f8.f6.length ≤ c30) (g30 : k56.C w A30 x.f8.f6.length x.f8.f6) {A41 : Option Addr} {c41 : Nat} (l41 : x.f9.f6.length ≤ c41) (g41 : k56.C w A41 x.f9.f6.length x.f9.f6) : k58.K w x [.int .i64 x.f0, .string x.f1, .string x.f2.f0, .int .i64 x.f2.f1, .string x.f3.f0, .int .i64 x.f3.f1, .string x.f4, .slice A7 x.f5.length c7, .slice A8 x.f6.length c8, .int .i64 x.f7.f0, .string x.f7.f1.f0, .int .i64 x.f7.f1.f1, .string x.f7.f2.f0, .int .i64 x.f7.f2.f1, .string x.f7.f3.f0, .int .i64 x.f7.f3.f1, .string x.f7.f4.f0, .int .i64 x.f7.f4.f1, .string x.f7.f5, .slice A19 x.f7.f6.length c19, .int .i64 x.f8.f0, .string x.f8.f1.f0, .int .i64 x.f8.f1.f1, .string x.f8.f2.f0, .int .i64 x.f8.f2.f1, .string x.f8.f3.f0, .int .i64 x.f8.f3.f1, .string x.f8.f4.f0, .int .i64 x.f8.f4.f1, .string x.f8.f5, .slice A30 x.f8.f6.length c30, .int .i64 x.f9.f0, .string x.f9.f1.f0, .int .i64 x.f9.f1.f1, .string x.f9.f2.f0, .int .i64 x.f9.f2.f1, .string x.f9.f3.f0, .int .i64 x.f9.f3.f1, .string x.f9.f4.f0, .int .i64 x.f9.f4.f1, .string x.f9.f5, .slice A41 x.f9.f6.length c41] := ⟨[.int .i64 x.f0], [.string x.f1, .string x.f2.f0, .int .i64 x.f2.f1, .string x.f3.f0, .int .i64 x.f3.f1, .string x.f4, .slice A7 x.f5.length c7, .slice A8 x.f6.length c8, .int .i64 x.f7.f0, .string x.f7.f1.f0, .int .i64 x.f7.f1.f1, .string x.f7.f2.f0, .int .i64 x.f7.f2.f1, .string x.f7.f3.f0, .int .i64 x.f7.f3.f1, .string x.f7.f4.f0, .int .i64 x.f7.f4.f1, .string x.f7.f5, .slice A19 x.f7.f6.length c19, .int .i64 x.f8.f0, .string x.f8.f1.f0, .int .i64 x.f8.f1.f1, .string x.f8.f2.f0, .int .i64 x.f8.f2.f1, .string x.f8.f3.f0, .int .i64 x.f8.f3.f1, .string x.f8.f4.f0, .int .i64 x.f8.f4.f1, .string x.f8.f5, .slice A30 x.f8.f6.length c30, .int .i64 x.f9.f0, .string x.f9.f1.f0, .int .i64 x.f9.f1.f1, .string x.f9.f2.f0, .int .i64 x.f9.f2.f1, .string x.f9.f3.f0, .int .i64 x.f9.f3.f1, .string x.f9.f4.f0, .int .i64 x.f9.f4.f1, .string x.f9.f5, .slice A41 x.f9.f6.length c41], rfl, rfl, ⟨[.string x.f1], [.string x.f2.f0, .int .i64 x.f2.f1, .string x.f3.f0, .int .i64 x.f3.f1, .string x.f4, .slice A7 x.f5.length c7, .slice A8 x.f6.length c8, .int .i64 x.f7.f0, .string x.f7.f1.f0, .int .i64 x.f7.f1.f1, .string x.f7.f2.f0, .int .i64 x.f7.f2.f1, .string x.f7.f3.f0, .int .i64 x.f7.f3.f1, .string x.f7.f4.f0, .int .i64 x.f7.f4.f1, .string x.f7.f5, .slice A19 x.f7.f6.length c19, .int .i64 x.f8.f0, .string x.f8.f1.f0, .int .i64 x.f8.f1.f1, .string x.f8.f2.f0, .int .i64 x.f8.f2.f1, .string x.f8.f3.f0, .int .i64 x.f8.f3.f1, .string x.f8.f4.f0, .int .i64 x.f8.f4.f1, .string x.f8.f5, .slice A30 x.f8.f6.length c30, .int .i64 x.f9.f0, .string x.f9.f1.f0, .int .i64 x.f9.f1.f1, .string x.f9.f2.f0, .int .i64 x.f9.f2.f1, .string x.f9.f3.f0, .int .i64 x.f9.f3.f1, .string x.f9.f4.f0, .int .i64 x.f9.f4.f1, .string x.f9.f5, .slice A41 x.f9.f6.length c41], rfl, rfl, ⟨[.string x.f2.f0, .int .i64 x.f2.f1], [.string x.f3.f0, .int .i64 x.f3.f1, .string x.f4, .slice A7 x.f5.length c7, .slice A8 x.f6.length c8, .int .i64 x.f7.f0, .string x.f7.f1.f0, .int .i64 x.f7.f1.f1, .string x.f7.f2.f0, .int .i64 x.f7.f2.f1, .string x.f7.f3.f0, .int .i64 x.f7.f3.f1, .string x.f7.f4.f0, .int .i64 x.f7.f4.f1, .string x.f7.f5, .slice A19 x.f7.f6.length c19, .int .i64 x.f8.f0, .string x.f8.f1.f0, .int .i64 x.f8.f1.f1, .string x.f8.f2.f0, .int .i64 x.f8.f2.f1, .string x.f8.f3.f0, .int .i64 x.f8.f3.f1, .string x.f8.f4.f0, .int .i64 x.f8.f4.f1, .string x.f8.f5, .slice A30 x.f8.f6.length c30, .int .i64 x.f9.f0, .string x.f9.f1.f0, .int .i64 x.f9.f1.f1, .string x.f9.f2.f0, .int .i64 x.f9.f2.f1, .string x.f9.f3.f0, .int .i64 x.f9.f3.f1, .string x.f9.f4.f0, .int .i64 x.f9.f4.f1, .string x.f9.f5, .slice A41 x.f9.f6.length c41], rfl, (k51_mk w x.f2 ), ⟨[.string x.f3.f0, .int .i64 x.f3.f1], [.string x.f4, .slice A7 x.f5.length c7, .slice A8 x.f6.length c8, .int .i64 x.f7.f0, .string x.f7.f1.f0, .int .i64 x.f7.f1.f1, .string x.f7.f2.f0, .int .i64 x.f7.f2.f1, .string x.f7.f3.f0, .int .i64 x.f7.f3.f1, .string x.f7.f4.f0, .int .i64 x.f7.f4.f1, .string x.f7.f5, .slice A19 x.f7.f6.length c19, .int .i64 x.f8.f0, .string x.f8.f1.f0, .int .i64 x.f8.f1.f1, .string x.f8.f2.f0, .int .i64 x.f8.f2.f1, .string x.f8.f3.f0, .int .i64 x.f8.f3.f1, .string x.f8.f4.f0, .int .i64 x.f8.f4.f1, .string x.f8.f5, .slice A30 x.f8.f6.length c30, .int .i64 x.f9.f0, .string x.f9.f1.f0, .int .i64 x.f9.f1.f1, .string x.f9.f2.f0, .int .i64 x.f9.f2.f1, .string x.f9.f3.f0, .int .i64 x.f9.f3.f1, .string x.f9.f4.f0, .int .i64 x.f9.f4.f1, .string x.f9.f5, .slice A41 x.f9.f6.length c41], rfl, (k51_mk w x.f3 ), ⟨[.string x.f4], [.slice A7 x.f5.length c7, .slice A8 x.f6.length c8, .int .i64 x.f7.f0, .string x.f7.f1.f0, .int .i64 x.f7.f1.f1, .string x.f7.f2.f0, .int .i64 x.f7.f2.f1, .string x.f7.f3.f0, .int .i64 x.f7.f3.f1, .string x.f7.f4.f0, .int .i64 x.f7.f4.f1, .string x.f7.f5, .slice A19 x.f7.f6.length c19, .int .i64 x.f8.f0, .string x.f8.f1.f0, .int .i64 x.f8.f1.f1, .string x.f8.f2.f0, .int .i64 x.f8.f2.f1, .string x.f8.f3.f0, .int .i64 x.f8.f3.f1, .string x.f8.f4.f0, .int .i64 x.f8.f4.f1, .string x.f8.f5, .slice A30 x.f8.f6.length c30, .int .i64 x.f9.f0, .string x.f9.f1.f0, .int .i64 x.f9.f1.f1, .string x.f9.f2.f0, .int .i64 x.f9.f2.f1, .string x.f9.f3.f0, .int .i64 x.f9.f3.f1, .string x.f9.f4.f0, .int .i64 x.f9.f4.f1, .string x.f9.f5, .slice A41 x.f9.f6.length c41], rfl, rfl, ⟨[.slice A7 x.f5.length c7], [.slice A8 x.f6.length c8, .int .i64 x.f7.f0, .string x.f7.f1.f0, .int .i64 x.f7.f1.f1, .string x.f7.f2.f0, .int .i64 x.f7.f2.f1, .string x.f7.f3.f0, .int .i64 x.f7.f3.f1, .string x.f7.f4.f0, .int .i64 x.f7.f4.f1, .string x.f7.f5, .slice A19 x.f7.f6.length c19, .int .i64 x.f8.f0, .string x.f8.f1.f0, .int .i64 x.f8.f1.f1, .string x.f8.f2.f0, .int .i64 x.f8.f2.f1, .string x.f8.f3.f0, .int .i64 x.f8.f3.f1, .string x.f8.f4.f0, .int .i64 x.f8.f4.f1, .string x.f8.f5, .slice A30 x.f8.f6.length c30, .int .i64 x.f9.f0, .string x.f9.f1.f0, .int .i64 x.f9.f1.f1, .string x.f9.f2.f0, .int .i64 x.f9.f2.f1, .string x.f9.f3.f0, .int .i64 x.f9.f3.f1, .string x.f9.f4.f0, .int .i64 x.f9.f4.f1, .string x.f9.f5, .slice A41 x.f9.f6.length c41], rfl, ⟨A7, c7, rfl, l7, g7⟩, ⟨[.slice A8 x.f6.length c8], [.int .i64 x.f7.f0, .string x.f7.f1.f0, .int .i64 x.f7.f1.f1, .string x.f7.f2.f0, .int .i64 x.f7.f2.f1, .string x.f7.f3.f0, .int .i64 x.f7.f3.f1, .string x.f7.f4.f0, .int .i64 x.f7.f4.f1, .string x.f7.f5, .slice A19 x.f7.f6.length c19, .int .i64 x.f8.f0, .string x.f8.f1.f0, .int .i64 x.f8.f1.f1, .string x.f8.f2.f0, .int .i64 x.f8.f2.f1, .string x.f8.f3.f0, .int .i64 x.f8.f3.f1, .string x.f8.f4.f0, .int .i64 x.f8.f4.f1, .string x.f8.f5, .slice A30 x.f8.f6.length c30, .int .i64 x.f9.f0, .string x.f9.f1.f0, .int .i64 x.f9.f1.f1, .string x.f9.f2.f0, .int .i64 x.f9.f2.f1, .string x.f9.f3.f0, .int .i64 x.f9.f3.f1, .string x.f9.f4.f0, .int .i64 x.f9.f4.f1, .string x.f9.f5, .slice A41 x.f9.f6.length c41], rfl, ⟨A8, c8, rfl, l8, g8⟩, ⟨[.int .i64 x.f7.f0, .string x.f7.f1.f0, .int .i64 x.f7.f1.f1, .string x.f7.f2.f0, .int .i64 x.f7.f2.f1, .string x.f7.f3.f0, .int .i64 x.f7.f3.f1, .string x.f7.f4.f0, .int .i64 x.f7.f4.f1, .string x.f7.f5, .slice A19 x.f7.f6.length c19], [.int .i64 x.f8.f0, .string x.f8.f1.f0, .int .i64 x.f8.f1.f1, .string x.f8.f2.f0, .int .i64 x.f8.f2.f1, .string x.f8.f3.f0, .int .i64 x.f8.f3.f1, .string x.f8.f4.f0, .int .i64 x.f8.f4.f1, .string x.f8.f5, .slice A30 x.f8.f6.length c30, .int .i64 x.f9.f0, .string x.f9.f1.f0, .int .i64 x.f9.f1.f1, .string x.f9.f2.f0, .int .i64 x.f9.f2.f1, .string x.f9.f3.f0, .int .i64 x.f9.f3.f1, .string x.f9.f4.f0, .int .i64 x.f9.f4.f1, .string x.f9.f5, .slice A41 x.f9.f6.length c41], rfl, (k56_mk w x.f7 l19 g19), ⟨[.int .i64 x.f8.f0, .string x.f8.f1.f0, .int .i64 x.f8.f1.f1, .string x.f8.f2.f0, .int .i64 x.f8.f2.f1, .string x.f8.f3.f0, .int .i64 x.f8.f3.f1, .string x.f8.f4.f0, .int .i64 x.f8.f4.f1, .string x.f8.f5, .slice A30 x.f8.f6.length c30], [.int .i64 x.f9.f0, .string x.f9.f1.f0, .int .i64 x.f9.f1.f1, .string x.f9.f2.f0, .int .i64 x.f9.f2.f1, .string x.f9.f3.f0, .int .i64 x.f9.f3.f1, .string x.f9.f4.f0, .int .i64 x.f9.f4.f1, .string x.f9.f5, .slice A41 x.f9.f6.length c41], rfl, (k56_mk w x.f8 l30 g30), (k56_mk w x.f9 l41 g41)⟩⟩⟩⟩⟩⟩⟩⟩⟩
theorem k58_mkM (w : World) (base : Nat) (ok : Nat → Prop) (x : S58) {v7 : Value} (g7 : k51.R 51 w base ok v7 x.f5) {v8 : Value} (g8 : k79.R 79 w base ok v8 x.f6) {v19 : Value} (g19 : k56.R 56 w base ok v19 x.f7.f6) {v30 : Value} (g30 : k56.R 56 w base ok v30 x.f8.f6) {v41 : Value} (g41 : k56.R 56 w base ok v41 x.f9.f6) : k58.M w base ok x [.int .i64 x.f0, .string x.f1, .string x.f2.f0, .int .i64 x.f2.f1, .string x.f3.f0, .int .i64 x.f3.f1, .string x.f4, v7, v8, .int .i64 x.f7.f0, .string x.f7.f1.f0, .int .i64 x.f7.f1.f1, .string x.f7.f2.f0, .int .i64 x.f7.f2.f1, .string x.f7.f3.f0, .int .i64 x.f7.f3.f1, .string x.f7.f4.f0, .int .i64 x.f7.f4.f1, .string x.f7.f5, v19, .int .i64 x.f8.f0, .string x.f8.f1.f0, .int .i64 x.f8.f1.f1, .string x.f8.f2.f0, .int .i64 x.f8.f2.f1, .string x.f8.f3.f0, .int .i64 x.f8.f3.f1, .string x.f8.f4.f0, .int .i64 x.f8.f4.f1, .string x.f8.f5, v30, .int .i64 x.f9.f0, .string x.f9.f1.f0, .int .i64 x.f9.f1.f1, .string x.f9.f2.f0, .int .i64 x.f9.f2.f1, .string x.f9.f3.f0, .int .i64 x.f9.f3.f1, .string x.f9.f4.f0, .int .i64 x.f9.f4.f1, .string x.f9.f5, v41] := ⟨[.int .i64 x.f0], [.string x.f1, .string x.f2.f0, .int .i64 x.f2.f1, .string x.f3.f0, .int .i64 x.f3.f1, .string x.f4, v7, v8, .int .i64 x.f7.f0, .string x.f7.f1.f0, .int .i64 x.f7.f1.f1, .string x.f7.f2.f0, .int .i64 x.f7.f2.f1, .string x.f7.f3.f0, .int .i64 x.f7.f3.f1, .string x.f7.f4.f0, .int .i64 x.f7.f4.f1, .string x.f7.f5, v19, .int .i64 x.f8.f0, .string x.f8.f1.f0, .int .i64 x.f8.f1.f1, .string x.f8.f2.f0, .int .i64 x.f8.f2.f1, .string x.f8.f3.f0, .int .i64 x.f8.f3.f1, .string x.f8.f4.f0, .int .i64 x.f8.f4.f1, .string x.f8.f5, v30, .int .i64 x.f9.f0, .string x.f9.f1.f0, .int .i64 x.f9.f1.f1, .string x.f9.f2.f0, .int .i64 x.f9.f2.f1, .string x.f9.f3.f0, .int .i64 x.f9.f3.f1, .string x.f9.f4.f0, .int .i64 x.f9.f4.f1, .string x.f9.f5, v41], rfl, rfl, ⟨[.string x.f1], [.string x.f2.f0, .int .i64 x.f2.f1, .string x.f3.f0, .int .i64 x.f3.f1, .string x.f4, v7, v8, .int .i64 x.f7.f0, .string x.f7.f1.f0, .int .i64 x.f7.f1.f1, .string x.f7.f2.f0, .int .i64 x.f7.f2.f1, .string x.f7.f3.f0, .int .i64 x.f7.f3.f1, .string x.f7.f4.f0, .int .i64 x.f7.f4.f1, .string x.f7.f5, v19, .int .i64 x.f8.f0, .string x.f8.f1.f0, .int .i64 x.f8.f1.f1, .string x.f8.f2.f0, .int .i64 x.f8.f2.f1, .string x.f8.f3.f0, .int .i64 x.f8.f3.f1, .string x.f8.f4.f0, .int .i64 x.f8.f4.f1, .string x.f8.f5, v30, .int .i64 x.f9.f0, .string x.f9.f1.f0, .int .i64 x.f9.f1.f1, .string x.f9.f2.f0, .int .i64 x.f9.f2.f1, .string x.f9.f3.f0, .int .i64 x.f9.f3.f1, .string x.f9.f4.f0, .int .i64 x.f9.f4.f1, .string x.f9.f5, v41], rfl, rfl, ⟨[.string x.f2.f0, .int .i64 x.f2.f1], [.string x.f3.f0, .int .i64 x.f3.f1, .string x.f4, v7, v8, .int .i64 x.f7.f0, .string x.f7.f1.f0, .int .i64 x.f7.f1.f1, .string x.f7.f2.f0, .int .i64 x.f7.f2.f1, .string x.f7.f3.f0, .int .i64 x.f7.f3.f1, .string x.f7.f4.f0, .int .i64 x.f7.f4.f1, .string x.f7.f5, v19, .int .i64 x.f8.f0, .string x.f8.f1.f0, .int .i64 x.f8.f1.f1, .string x.f8.f2.f0, .int .i64 x.f8.f2.f1, .string x.f8.f3.f0, .int .i64 x.f8.f3.f1, .string x.f8.f4.f0, .int .i64 x.f8.f4.f1, .string x.f8.f5, v30, .int .i64 x.f9.f0, .string x.f9.f1.f0, .int .i64 x.f9.f1.f1, .string x.f9.f2.f0, .int .i64 x.f9.f2.f1, .string x.f9.f3.f0, .int .i64 x.f9.f3.f1, .string x.f9.f4.f0, .int .i64 x.f9.f4.f1, .string x.f9.f5, v41], rfl, (k51_mkM w base ok x.f2 ), ⟨[.string x.f3.f0, .int .i64 x.f3.f1], [.string x.f4, v7, v8, .int .i64 x.f7.f0, .string x.f7.f1.f0, .int .i64 x.f7.f1.f1, .string x.f7.f2.f0, .int .i64 x.f7.f2.f1, .string x.f7.f3.f0, .int .i64 x.f7.f3.f1, .string x.f7.f4.f0, .int .i64 x.f7.f4.f1, .string x.f7.f5, v19, .int .i64 x.f8.f0, .string x.f8.f1.f0, .int .i64 x.f8.f1.f1, .string x.f8.f2.f0, .int .i64 x.f8.f2.f1, .string x.f8.f3.f0, .int .i64 x.f8.f3.f1, .string x.f8.f4.f0, .int .i64 x.f8.f4.f1, .string x.f8.f5, v30, .int .i64 x.f9.f0, .string x.f9.f1.f0, .int .i64 x.f9.f1.f1, .string x.f9.f2.f0, .int .i64 x.f9.f2.f1, .string x.f9.f3.f0, .int .i64 x.f9.f3.f1, .string x.f9.f4.f0, .int .i64 x.f9.f4.f1, .string x.f9.f5, v41], rfl, (k51_mkM w base ok x.f3 ), ⟨[.string x.f4], [v7, v8, .int .i64 x.f7.f0, .string x.f7.f1.f0, .int .i64 x.f7.f1.f1, .string x.f7.f2.f0, .int .i64 x.f7.f2.f1, .string x.f7.f3.f0, .int .i64 x.f7.f3.f1, .string x.f7.f4.f0, .int .i64 x.f7.f4.f1, .string x.f7.f5, v19, .int .i64 x.f8.f0, .string x.f8.f1.f0, .int .i64 x.f8.f1.f1, .string x.f8.f2.f0, .int .i64 x.f8.f2.f1, .string x.f8.f3.f0, .int .i64 x.f8.f3.f1, .string x.f8.f4.f0, .int .i64 x.f8.f4.f1, .string x.f8.f5, v30, .int .i64 x.f9.f0, .string x.f9.f1.f0, .int .i64 x.f9.f1.f1, .string x.f9.f2.f0, .int .i64 x.f9.f2.f1, .string x.f9.f3.f0, .int .i64 x.f9.f3.f1, .string x.f9.f4.f0, .int .i64 x.f9.f4.f1, .string x.f9.f5, v41], rfl, rfl, ⟨[v7], [v8, .int .i64 x.f7.f0, .string x.f7.f1.f0, .int .i64 x.f7.f1.f1, .string x.f7.f2.f0, .int .i64 x.f7.f2.f1, .string x.f7.f3.f0, .int .i64 x.f7.f3.f1, .string x.f7.f4.f0, .int .i64 x.f7.f4.f1, .string x.f7.f5, v19, .int .i64 x.f8.f0, .string x.f8.f1.f0, .int .i64 x.f8.f1.f1, .string x.f8.f2.f0, .int .i64 x.f8.f2.f1, .string x.f8.f3.f0, .int .i64 x.f8.f3.f1, .string x.f8.f4.f0, .int .i64 x.f8.f4.f1, .string x.f8.f5, v30, .int .i64 x.f9.f0, .string x.f9.f1.f0, .int .i64 x.f9.f1.f1, .string x.f9.f2.f0, .int .i64 x.f9.f2.f1, .string x.f9.f3.f0, .int .i64 x.f9.f3.f1, .string x.f9.f4.f0, .int .i64 x.f9.f4.f1, .string x.f9.f5, v41], rfl, ⟨v7, rfl, g7⟩, ⟨[v8], [.int .i64 x.f7.f0, .string x.f7.f1.f0, .int .i64 x.f7.f1.f1, .string x.f7.f2.f0, .int .i64 x.f7.f2.f1, .string x.f7.f3.f0, .int .i64 x.f7.f3.f1, .string x.f7.f4.f0, .int .i64 x.f7.f4.f1, .string x.f7.f5, v19, .int .i64 x.f8.f0, .string x.f8.f1.f0, .int .i64 x.f8.f1.f1, .string x.f8.f2.f0, .int .i64 x.f8.f2.f1, .string x.f8.f3.f0, .int .i64 x.f8.f3.f1, .string x.f8.f4.f0, .int .i64 x.f8.f4.f1, .string x.f8.f5, v30, .int .i64 x.f9.f0, .string x.f9.f1.f0, .int .i64 x.f9.f1.f1, .string x.f9.f2.f0, .int .i64 x.f9.f2.f1, .string x.f9.f3.f0, .int .i64 x.f9.f3.f1, .string x.f9.f4.f0, .int .i64 x.f9.f4.f1, .string x.f9.f5, v41], rfl, ⟨v8, rfl, g8⟩, ⟨[.int .i64 x.f7.f0, .string x.f7.f1.f0, .int .i64 x.f7.f1.f1, .string x.f7.f2.f0, .int .i64 x.f7.f2.f1, .string x.f7.f3.f0, .int .i64 x.f7.f3.f1, .string x.f7.f4.f0, .int .i64 x.f7.f4.f1, .string x.f7.f5, v19], [.int .i64 x.f8.f0, .string x.f8.f1.f0, .int .i64 x.f8.f1.f1, .string x.f8.f2.f0, .int .i64 x.f8.f2.f1, .string x.f8.f3.f0, .int .i64 x.f8.f3.f1, .string x.f8.f4.f0, .int .i64 x.f8.f4.f1, .string x.f8.f5, v30, .int .i64 x.f9.f0, .string x.f9.f1.f0, .int .i64 x.f9.f1.f1, .string x.f9.f2.f0, .int .i64 x.f9.f2.f1, .string x.f9.f3.f0, .int .i64 x.f9.f3.f1, .string x.f9.f4.f0, .int .i64 x.f9.f4.f1, .string x.f9.f5, v41], rfl, (k56_mkM w base ok x.f7 g19), ⟨[.int .i64 x.f8.f0, .string x.f8.f1.f0, .int .i64 x.f8.f1.f1, .string x.f8.f2.f0, .int .i64 x.f8.f2.f1, .string x.f8.f3.f0, .int .i64 x.f8.f3.f1, .string x.f8.f4.f0, .int .i64 x.f8.f4.f1, .string x.f8.f5, v30], [.int .i64 x.f9.f0, .string x.f9.f1.f0, .int .i64 x.f9.f1.f1, .string x.f9.f2.f0, .int .i64 x.f9.f2.f1, .string x.f9.f3.f0, .int .i64 x.f9.f3.f1, .string x.f9.f4.f0, .int .i64 x.f9.f4.f1, .string x.f9.f5, v41], rfl, (k56_mkM w base ok x.f8 g30), (k56_mkM w base ok x.f9 g41)⟩⟩⟩⟩⟩⟩⟩⟩⟩
def rd_T58 (xs : List S58) (i : Int) : S58 := xs.getD i.toNat z58
structure S47 where
 f0 : ByteArray
 f1 : (List ByteArray)
 f2 : (List S64)
 f3 : (List S58)
def z47 : S47 := ⟨(⟨#[]⟩ : ByteArray), ([] : List ByteArray), ([] : List S64), ([] : List S58)⟩
def k47 : Kd S47 := Kd.iso (Kd.pair Kd.string (Kd.pair (Kd.slice 9 Kd.string) (Kd.pair (Kd.slice 64 k64) (Kd.slice 58 k58)))) (fun x : S47 => (x.f0, x.f1, x.f2, x.f3))
theorem k47_open {w : World} {x : S47} {cs : List Value} (h : k47.K w x cs) : ∃ A1 c1 A2 c2 A3 c3, cs = [.string x.f0, .slice A1 x.f1.length c1, .slice A2 x.f2.length c2, .slice A3 x.f3.length c3] ∧ x.f1.length ≤ c1 ∧ Kd.string.C w A1 x.f1.length x.f1 ∧ x.f2.length ≤ c2 ∧ k64.C w A2 x.f2.length x.f2 ∧ x.f3.length ≤ c3 ∧ k58.C w A3 x.f3.length x.f3 := by
 obtain ⟨_, _, rfl, rfl, ⟨_, _, rfl, ⟨A1, c1, rfl, l1, g1⟩, ⟨_, _, rfl, ⟨A2, c2, rfl, l2, g2⟩, ⟨A3, c3, rfl, l3, g3⟩⟩⟩⟩ := h
 exact ⟨A1, c1, A2, c2, A3, c3, rfl, l1, g1, l2, g2, l3, g3⟩
theorem k47_mkM (w : World) (base : Nat) (ok : Nat → Prop) (x : S47) {v1 : Value} (g1 : Kd.string.R 9 w base ok v1 x.f1) {v2 : Value} (g2 : k64.R 64 w base ok v2 x.f2) {v3 : Value} (g3 : k58.R 58 w base ok v3 x.f3) : k47.M w base ok x [.string x.f0, v1, v2, v3] := ⟨[.string x.f0], [v1, v2, v3], rfl, rfl, ⟨[v1], [v2, v3], rfl, ⟨v1, rfl, g1⟩, ⟨[v2], [v3], rfl, ⟨v2, rfl, g2⟩, ⟨v3, rfl, g3⟩⟩⟩⟩
def rd_T47 (xs : List S47) (i : Int) : S47 := xs.getD i.toNat z47
theorem at_T47 {w : World} {A : Option Addr} {n : Nat} {xs : List S47} (h : Kd.C k47 w A n xs) (i : Int) (h0 : 0 ≤ i) (h1 : i < n) : ∃ ad A1 c1 A2 c2 A3 c3, A = some ad ∧ w.cell? (ad.add (i.toNat * 4)) = some (.string (rd_T47 xs i).f0) ∧ w.cell? ⟨(ad.add (i.toNat * 4)).block, (ad.add (i.toNat * 4)).off + 1, none⟩ = some (.slice A1 (rd_T47 xs i).f1.length c1) ∧ w.cell? ⟨(ad.add (i.toNat * 4)).block, (ad.add (i.toNat * 4)).off + 2, none⟩ = some (.slice A2 (rd_T47 xs i).f2.length c2) ∧ w.cell? ⟨(ad.add (i.toNat * 4)).block, (ad.add (i.toNat * 4)).off + 3, none⟩ = some (.slice A3 (rd_T47 xs i).f3.length c3) ∧ (rd_T47 xs i).f1.length ≤ c1 ∧ Kd.string.C w A1 (rd_T47 xs i).f1.length (rd_T47 xs i).f1 ∧ (rd_T47 xs i).f2.length ≤ c2 ∧ k64.C w A2 (rd_T47 xs i).f2.length (rd_T47 xs i).f2 ∧ (rd_T47 xs i).f3.length ≤ c3 ∧ k58.C w A3 (rd_T47 xs i).f3.length (rd_T47 xs i).f3 := by
 obtain ⟨ad, c, e, _, hK, hc0⟩ := Kd.C_get h z47 i h0 h1
 have hc : ∀ j u, c[j]? = some u → w.cell? (ad.add (i.toNat * 4 + j)) = some u := hc0
 obtain ⟨A1, c1, A2, c2, A3, c3, rfl, l1, g1, l2, g2, l3, g3⟩ := k47_open hK
 exact ⟨ad, A1, c1, A2, c2, A3, c3, e, hc 0 _ rfl, by rw [← add_field _ _ 1 (by omega)]; exact hc 1 _ rfl, by rw [← add_field _ _ 2 (by omega)]; exact hc 2 _ rfl, by rw [← add_field _ _ 3 (by omega)]; exact hc 3 _ rfl, l1, g1, l2, g2, l3, g3⟩
attribute [local go_sem] max2_int min2_int max_two min_two
set_option linter.unusedVariables false
set_option linter.unusedSimpArgs false
def stringslite_HasPrefix.f (a0 : ByteArray) (a1 : ByteArray) : Option (Bool) := if (a0.size : Int) ≥ (a1.size : Int) then (if 0 ≤ (a1.size : Int) then (if (a1.size : Int) ≤ (a0.size : Int) then (some ((a0.extract 0 ((a1.size : Int) : Int).toNat).toList == a1.toList)) else (none)) else (none)) else (some false)
set_option maxHeartbeats 8000000 in
set_option maxRecDepth 100000 in
theorem stringslite_HasPrefix.calls (a0 : ByteArray) (a1 : ByteArray) (r : Bool) (w : World) (h : stringslite_HasPrefix.f a0 a1 = some r) :
  Calls Tryd.prog 43 #[.string a0, .string a1] w fun e w' => e = .returned (.bool r) ∧ Drawn0 w w' := by
 have H : (if (a0.size : Int) ≥ (a1.size : Int) then (if 0 ≤ (a1.size : Int) then (if (a1.size : Int) ≤ (a0.size : Int) then (some ((a0.extract 0 ((a1.size : Int) : Int).toNat).toList == a1.toList)) else (none)) else (none)) else (some false)) = some r := h
 clear h
 by_cases c3 : (a0.size : Int) ≥ (a1.size : Int)
 ·rw [if_pos c3] at H
  have c3b0 : decide ((a1.size : Int) ≤ (a0.size : Int)) = true := decide_eq_true c3
  have c3b1 : decide (a1.size ≤ a0.size) = true := decide_eq_true (Int.ofNat_le.mp c3)
  clear c3
  by_cases c4 : 0 ≤ (a1.size : Int)
  ·rw [if_pos c4] at H
   have c4b0 := eq_true c4
   have c4b1 : decide (0 ≤ (a1.size : Int)) = true := decide_eq_true c4
   clear c4
   by_cases c5 : (a1.size : Int) ≤ (a0.size : Int)
   ·rw [if_pos c5] at H
    have c5b0 := eq_true c5
    have c5b1 : decide ((a1.size : Int) ≤ (a0.size : Int)) = true := decide_eq_true c5
    clear c5
    obtain rfl := Option.some.inj H
    go_enter Tryd.func43, Tryd.ntmps43
    go_wp2
    go_ret
    exact ⟨by first | rfl | (simp; done) | (simp [*]; done), by repeat (first | exact Drawn0.refl _ | apply Drawn0.step)⟩
   ·rw [if_neg c5] at H
    exact absurd H (by simp)
  ·rw [if_neg c4] at H
   exact absurd H (by simp)
 ·rw [if_neg c3] at H
  have c3b0 : decide ((a1.size : Int) ≤ (a0.size : Int)) = false := decide_eq_false c3
  have c3b1 : decide (a1.size ≤ a0.size) = false := decide_eq_false (fun h => c3 (Int.ofNat_le.mpr h))
  clear c3
  obtain rfl := Option.some.inj H
  go_enter Tryd.func43, Tryd.ntmps43
  go_wp2
  go_ret
  exact ⟨by first | rfl | (simp; done) | (simp [*]; done), by repeat (first | exact Drawn0.refl _ | apply Drawn0.step)⟩
def strings_HasPrefix.f (a0 : ByteArray) (a1 : ByteArray) : Option (Bool) := (stringslite_HasPrefix.f a0 a1).bind fun t101 => (some t101)
set_option maxHeartbeats 8000000 in
set_option maxRecDepth 100000 in
theorem strings_HasPrefix.calls (a0 : ByteArray) (a1 : ByteArray) (r : Bool) (w : World) (h : strings_HasPrefix.f a0 a1 = some r) :
  Calls Tryd.prog 26 #[.string a0, .string a1] w fun e w' => e = .returned (.bool r) ∧ Drawn0 w w' := by
 have H : ((stringslite_HasPrefix.f a0 a1).bind fun t101 => (some t101)) = some r := h
 clear h
 replace H := Option.bind_eq_some_iff.mp H
 obtain ⟨t101, A30, H⟩ := H
 replace H : (some t101) = some r := H
 have A3 := aS A30
 clear A30
 obtain rfl := Option.some.inj H
 go_enter Tryd.func26, Tryd.ntmps26
 go_wp2_with (first | ((with_reducible refine gate_callee (f := 43) rfl ?_); refine goesL_ (some 7) rfl rfl Tryd.func43 (by kernel_rfl) rfl #[.string a0, .string a1] rfl (by (try simp only [List.map_toArray, List.map_cons, List.map_nil]); first | done | rfl | (simp only [List.length_drop, List.length_take]; rfl)) ?_; (with_reducible refine (stringslite_HasPrefix.calls a0 a1 t101 _ A3.out).mono ?_); rintro e w' ⟨rfl, ⟨nd, rfl⟩⟩; refine ⟨_, rfl, ?_⟩))
 go_ret
 exact ⟨by first | rfl | (simp; done) | (simp [*]; done), by repeat (first | exact Drawn0.refl _ | apply Drawn0.step)⟩
def lex_letter.f (a0 : Int) : Option (Bool) := if (Go.bits .or .u8 a0 32) ≥ 97 then (if (Go.bits .or .u8 a0 32) ≤ 122 then (some true) else (some (a0 == 95))) else (some (a0 == 95))
set_option maxHeartbeats 8000000 in
set_option maxRecDepth 100000 in
theorem lex_letter.calls (a0 : Int) (r : Bool) (w : World) (h : lex_letter.f a0 = some r) :
  Calls Tryd.prog 44 #[.int .u8 a0] w fun e w' => e = .returned (.bool r) ∧ Drawn0 w w' := by
 have H : (if (Go.bits .or .u8 a0 32) ≥ 97 then (if (Go.bits .or .u8 a0 32) ≤ 122 then (some true) else (some (a0 == 95))) else (some (a0 == 95))) = some r := h
 clear h
 by_cases c2 : (Go.bits .or .u8 a0 32) ≥ 97
 ·rw [if_pos c2] at H
  have c2b0 : decide (97 ≤ (Go.bits .or .u8 a0 32)) = true := decide_eq_true c2
  clear c2
  by_cases c3 : (Go.bits .or .u8 a0 32) ≤ 122
  ·rw [if_pos c3] at H
   have c3b0 : decide ((Go.bits .or .u8 a0 32) ≤ 122) = true := decide_eq_true c3
   clear c3
   obtain rfl := Option.some.inj H
   go_enter Tryd.func44, Tryd.ntmps44
   go_wp2
   go_ret
   exact ⟨by first | rfl | (simp; done) | (simp [*]; done), by repeat (first | exact Drawn0.refl _ | apply Drawn0.step)⟩
  ·rw [if_neg c3] at H
   have c3b0 : decide ((Go.bits .or .u8 a0 32) ≤ 122) = false := decide_eq_false c3
   clear c3
   obtain rfl := Option.some.inj H
   go_enter Tryd.func44, Tryd.ntmps44
   go_wp2
   go_ret
   exact ⟨by first | rfl | (simp; done) | (simp [*]; done), by repeat (first | exact Drawn0.refl _ | apply Drawn0.step)⟩
 ·rw [if_neg c2] at H
  have c2b0 : decide (97 ≤ (Go.bits .or .u8 a0 32)) = false := decide_eq_false c2
  clear c2
  obtain rfl := Option.some.inj H
  go_enter Tryd.func44, Tryd.ntmps44
  go_wp2
  go_ret
  exact ⟨by first | rfl | (simp; done) | (simp [*]; done), by repeat (first | exact Drawn0.refl _ | apply Drawn0.step)⟩
def lex_digit.f (a0 : Int) : Option (Bool) := if a0 ≥ 48 then (some (decide (a0 ≤ 57))) else (some false)
set_option maxHeartbeats 8000000 in
set_option maxRecDepth 100000 in
theorem lex_digit.calls (a0 : Int) (r : Bool) (w : World) (h : lex_digit.f a0 = some r) :
  Calls Tryd.prog 46 #[.int .u8 a0] w fun e w' => e = .returned (.bool r) ∧ Drawn0 w w' := by
 have H : (if a0 ≥ 48 then (some (decide (a0 ≤ 57))) else (some false)) = some r := h
 clear h
 by_cases c2 : a0 ≥ 48
 ·rw [if_pos c2] at H
  have c2b0 : decide (48 ≤ a0) = true := decide_eq_true c2
  clear c2
  obtain rfl := Option.some.inj H
  go_enter Tryd.func46, Tryd.ntmps46
  go_wp2
  go_ret
  exact ⟨by first | rfl | (simp; done) | (simp [*]; done), by repeat (first | exact Drawn0.refl _ | apply Drawn0.step)⟩
 ·rw [if_neg c2] at H
  have c2b0 : decide (48 ≤ a0) = false := decide_eq_false c2
  clear c2
  obtain rfl := Option.some.inj H
  go_enter Tryd.func46, Tryd.ntmps46
  go_wp2
  go_ret
  exact ⟨by first | rfl | (simp; done) | (simp [*]; done), by repeat (first | exact Drawn0.refl _ | apply Drawn0.step)⟩
def strconv_lower.f (a0 : Int) : Option (Int) := some (Go.bits .or .u8 a0 32)
end Go.Proofs.YtenogedclignmaaDoor.Q
