/-
  HELPER.
-/
import Derived.Test.YtenogedclignmaaDoorPlKA
import Derived.Test.YtenogedclignmaaDoorPlK14
set_option linter.unusedVariables false
set_option linter.unusedSimpArgs false
namespace Go.Proofs.YtenogedclignmaaDoor.Q
open Go.RowKit Go.Maps Go.WideMaps Go.Proofs.YtenogedclignmaaDoorW.PrintWords Go.Proofs.YtenogedclignmaaDoorW.PrintLast Go.Proofs.YtenogedclignmaaDoorW.PrintMore
def encIt (ok : Nat → Prop) (x : Itm) (v : Value) (w : World) : Prop := ∃ v5 v6 v7 v8 v9, v = .agg (itV x v5 v6 v7 v8 v9) ∧ ItR ok w x v5 v6 v7 v8 v9 ∧ okI x
theorem MapAt.lookB {g j : Nat} {L : List (List UInt8 × Int)} {w : World} (h : MapAt g j L w) (x : ByteArray) (hx : x.size ≤ 140737488355328) :
  ∃ bm, w.cell? ⟨g, j, none⟩ = some (.map (some bm)) ∧ ∀ w', Below w.heap.size w w' → w'.cell? ⟨g, j, none⟩ = some (.map (some bm)) ∧ (Instr.lookup 82 (.map (some bm)) (.string x) false).run Tryd.prog w' = .ok (.int .i64 ((L.lookup x.data.toList).getD 0)) w' := by
 obtain ⟨bm, n, hc, hown⟩ := h
 refine ⟨bm, hc, fun w' hb => ⟨pw_cell_below hb hc, ?_⟩⟩
 have hlt := hown.lt
 obtain ⟨es, clock, g1, g2, g3, g4⟩ := hown
 have hown2 : w'.ownsMap (H := Unit) Tryd.prog 9 (plainElem Tryd.prog 3) bm n (encL L) := ⟨es, clock, (hb.block bm hlt).trans g1, g2, g3, g4⟩
 have hkey := keyOf_string_mk (s := x) Tryd.underlying9 (by unfold maxLen; omega)
 obtain ⟨c, hrun, hat, _⟩ := hown2.lookup_int strKey Tryd.underlying82 Tryd.underlying3 (zeroInt w') hkey
 rw [atKey_enc] at hat
 cases hat
 exact hrun
theorem itemAt_at {ok ok' X : Nat → Prop} {bp b xb : Nat} {x : Itm} {w w' : World} (h : ItemAt ok xb x w) (hat : At bp b X w w') (hok : ∀ k, ok k → ok' k) (hX : ∀ k, ok k → k ≠ bp ∧ ¬ X k) (hb : xb ≠ bp) (hx : ¬ X xb) : ItemAt ok' xb x w' := by
 obtain ⟨v5, v6, v7, v8, v9, h1, h2, h3⟩ := h
 exact ⟨v5, v6, v7, v8, v9, hat.obj h1 hb hx, h2.map (fun q => Kd.R_mono (R_at q hat hX) hok), h3⟩
theorem there_new {w : World} {g : Nat} {cs : Array Value} {T : TypeId} {n : Nat} (h : w.heap[g]? = some (.cells cs T (0, 0))) (hn : cs.size = n) : w.there g 0 n := fun j hj => by
 subst hn
 rw [Nat.zero_add]
 exact ⟨by rw [cH h j]; simp [hj], blk_frozen h j⟩
theorem setCells_storeW (g : Nat) : ∀ (vs : List Value) (w : World) (i : Nat), w.setCells g i vs = storeW w g i vs
 | [], _, _ => rfl
 | _ :: vs, _, i => setCells_storeW g vs _ (i + 1)
theorem below_storeW {B : Nat} {w : World} {g : Nat} : ∀ {w1 : World}, Below B w w1 → B ≤ g → ∀ (i : Nat) (vs : List Value), Below B w (storeW w1 g i vs)
 | _, h, _, _, [] => h
 | _, h, hg, i, v :: vs => below_storeW (h.setCell (p := ⟨g, i, none⟩) hg v) hg (i + 1) vs
theorem ins_step {bp : Nat} {w : World} {r clock : Nat} {es : Array MapEntry} {k : Int} (v : Value) (hb : w.heap[r]? = some (.map es clock)) (hf : Instr.findNow (.int .i64) (.int .i64 k) es.toList 0 = some none) :
  ∃ w', (Instr.mapUpdate 106 (.map (some r)) (.int .i64 k) v).run Tryd.prog w = .ok () w' ∧ w'.heap[r]? = some (.map (es.push { key := .int .i64 k, val := v, born := clock }) (clock + 1)) ∧ ∀ (b : Nat) (X : Nat → Prop) (w0 : World), w0.heap.size ≤ r → r ≠ bp → At bp b X w0 w → At bp b X w0 w' :=
 ⟨_, ins_run v hb hf, setBlock_heap hb, fun _ _ _ hs hn h => setBlock_at h hs hn⟩
set_option maxHeartbeats 8000000 in
set_option maxRecDepth 100000 in
theorem map_made (bp : Nat) (w : World) : ∃ m0 m1 m2 m3 m4 m5 m6 m7 m8 m9 m10 : World, (Instr.makeMap 106 none).run Tryd.prog w = .ok (.map (some w.heap.size)) m0 ∧ (Instr.mapUpdate 106 (.map (some w.heap.size)) (.int .i64 1) (.func (.func 60) #[.pointer (some ⟨bp, 0, none⟩)] #[])).run Tryd.prog m0 = .ok () m1 ∧ (Instr.mapUpdate 106 (.map (some w.heap.size)) (.int .i64 2) (.func (.func 61) #[.pointer (some ⟨bp, 0, none⟩)] #[])).run Tryd.prog m1 = .ok () m2 ∧ (Instr.mapUpdate 106 (.map (some w.heap.size)) (.int .i64 5) (.func (.func 62) #[.pointer (some ⟨bp, 0, none⟩)] #[])).run Tryd.prog m2 = .ok () m3 ∧ (Instr.mapUpdate 106 (.map (some w.heap.size)) (.int .i64 7) (.func (.func 63) #[.pointer (some ⟨bp, 0, none⟩)] #[])).run Tryd.prog m3 = .ok () m4 ∧ (Instr.mapUpdate 106 (.map (some w.heap.size)) (.int .i64 6) (.func (.func 64) #[.pointer (some ⟨bp, 0, none⟩)] #[])).run Tryd.prog m4 = .ok () m5 ∧ (Instr.mapUpdate 106 (.map (some w.heap.size)) (.int .i64 3) (.func (.func 65) #[.pointer (some ⟨bp, 0, none⟩)] #[])).run Tryd.prog m5 = .ok () m6 ∧ (Instr.mapUpdate 106 (.map (some w.heap.size)) (.int .i64 4) (.func (.func 65) #[.pointer (some ⟨bp, 0, none⟩)] #[])).run Tryd.prog m6 = .ok () m7 ∧ (Instr.mapUpdate 106 (.map (some w.heap.size)) (.int .i64 8) (.func (.func 66) #[.pointer (some ⟨bp, 0, none⟩)] #[])).run Tryd.prog m7 = .ok () m8 ∧ (Instr.mapUpdate 106 (.map (some w.heap.size)) (.int .i64 9) (.func (.func 66) #[.pointer (some ⟨bp, 0, none⟩)] #[])).run Tryd.prog m8 = .ok () m9 ∧ (Instr.mapUpdate 106 (.map (some w.heap.size)) (.int .i64 10) (.func (.func 66) #[.pointer (some ⟨bp, 0, none⟩)] #[])).run Tryd.prog m9 = .ok () m10 ∧ (∃ es clock, m10.heap[w.heap.size]? = some (.map es clock) ∧ es.toList = mets bp metL 0) ∧ (∀ (b : Nat) (X : Nat → Prop) (w0 : World), w0.heap.size ≤ w.heap.size → w.heap.size ≠ bp → bp < w.heap.size → At bp b X w0 w → At bp b X w0 m10) := by
 have h0 : (w.alloc (.map #[] 0)).heap[w.heap.size]? = some (.map #[] 0) := (MapKept.heap_alloc w _).1
 have a0 : ∀ (b : Nat) (X : Nat → Prop) (w0 : World), w0.heap.size ≤ w.heap.size → w.heap.size ≠ bp → bp < w.heap.size → At bp b X w0 w → At bp b X w0 (w.alloc (.map #[] 0)) := fun b X w0 _ _ hlt h => h.below hlt (below_alloc (bR _ _) _)
 have e0 := run_makeMap (P := Tryd.prog) 106 w
 generalize w.alloc (.map #[] 0) = m0 at *
 obtain ⟨m1, e1, h1, a1⟩ := ins_step (bp := bp) (k := 1) (.func (.func 60) #[.pointer (some ⟨bp, 0, none⟩)] #[]) h0 (by kernel_rfl)
 obtain ⟨m2, e2, h2, a2⟩ := ins_step (bp := bp) (k := 2) (.func (.func 61) #[.pointer (some ⟨bp, 0, none⟩)] #[]) h1 (by kernel_rfl)
 obtain ⟨m3, e3, h3, a3⟩ := ins_step (bp := bp) (k := 5) (.func (.func 62) #[.pointer (some ⟨bp, 0, none⟩)] #[]) h2 (by kernel_rfl)
 obtain ⟨m4, e4, h4, a4⟩ := ins_step (bp := bp) (k := 7) (.func (.func 63) #[.pointer (some ⟨bp, 0, none⟩)] #[]) h3 (by kernel_rfl)
 obtain ⟨m5, e5, h5, a5⟩ := ins_step (bp := bp) (k := 6) (.func (.func 64) #[.pointer (some ⟨bp, 0, none⟩)] #[]) h4 (by kernel_rfl)
 obtain ⟨m6, e6, h6, a6⟩ := ins_step (bp := bp) (k := 3) (.func (.func 65) #[.pointer (some ⟨bp, 0, none⟩)] #[]) h5 (by kernel_rfl)
 obtain ⟨m7, e7, h7, a7⟩ := ins_step (bp := bp) (k := 4) (.func (.func 65) #[.pointer (some ⟨bp, 0, none⟩)] #[]) h6 (by kernel_rfl)
 obtain ⟨m8, e8, h8, a8⟩ := ins_step (bp := bp) (k := 8) (.func (.func 66) #[.pointer (some ⟨bp, 0, none⟩)] #[]) h7 (by kernel_rfl)
 obtain ⟨m9, e9, h9, a9⟩ := ins_step (bp := bp) (k := 9) (.func (.func 66) #[.pointer (some ⟨bp, 0, none⟩)] #[]) h8 (by kernel_rfl)
 obtain ⟨m10, e10, h10, a10⟩ := ins_step (bp := bp) (k := 10) (.func (.func 66) #[.pointer (some ⟨bp, 0, none⟩)] #[]) h9 (by kernel_rfl)
 exact ⟨m0, m1, m2, m3, m4, m5, m6, m7, m8, m9, m10, e0, e1, e2, e3, e4, e5, e6, e7, e8, e9, e10, ⟨_, _, h10, by kernel_rfl⟩, fun b X w0 hs hn hlt h => a10 b X w0 hs hn (a9 b X w0 hs hn (a8 b X w0 hs hn (a7 b X w0 hs hn (a6 b X w0 hs hn (a5 b X w0 hs hn (a4 b X w0 hs hn (a3 b X w0 hs hn (a2 b X w0 hs hn (a1 b X w0 hs hn (a0 b X w0 hs hn hlt h))))))))))⟩
set_option maxHeartbeats 8000000 in
set_option maxRecDepth 100000 in
theorem item_head (G bp : Nat) (s : ByteArray) (A : Option Addr) (c : Nat) (l : List Tok) (begun : Int) (fv : Value) (k a : Nat) (w : World) (h : St G bp s A c l begun fv a w) (gb : Nat) (hgg : G ≤ gb) (hgb : gb ≠ bp) (n : Nat) (hn : n ≤ 64) (hg : w.heap[gb]? = some (.cells #[.int .i64 n] 3 (0, 0))) (res : PR Itm) (hres : itemP k n (l.drop a) = some res) :
  Calls Tryd.prog 55 #[.pointer (some ⟨bp, 0, none⟩), .pointer (some ⟨gb, 0, none⟩)] w (fun e w' => Tells bp l (fun k => k = gb) w (encIt (Lo w.heap.size)) res e w' ∧ w'.heap[gb]? = some (.cells #[.int .i64 (begunP n (l.drop a))] 3 (0, 0))) := by
 have hb1 := below_alloc (bR w.heap.size w) (.cells #[.int .i64 0, .string ⟨#[]⟩, .string ⟨#[]⟩, .int .i64 0, .string ⟨#[]⟩, .int .i64 0, .string ⟨#[]⟩, .slice none 0 0, .slice none 0 0, .int .i64 0, .string ⟨#[]⟩, .int .i64 0, .string ⟨#[]⟩, .int .i64 0, .string ⟨#[]⟩, .int .i64 0, .string ⟨#[]⟩, .int .i64 0, .string ⟨#[]⟩, .slice none 0 0, .int .i64 0, .string ⟨#[]⟩, .int .i64 0, .string ⟨#[]⟩, .int .i64 0, .string ⟨#[]⟩, .int .i64 0, .string ⟨#[]⟩, .int .i64 0, .string ⟨#[]⟩, .slice none 0 0, .int .i64 0, .string ⟨#[]⟩, .int .i64 0, .string ⟨#[]⟩, .int .i64 0, .string ⟨#[]⟩, .int .i64 0, .string ⟨#[]⟩, .int .i64 0, .string ⟨#[]⟩, .slice none 0 0] 58)
 have HO1 := aS (MapKept.heap_alloc w (.cells #[.int .i64 0, .string ⟨#[]⟩, .string ⟨#[]⟩, .int .i64 0, .string ⟨#[]⟩, .int .i64 0, .string ⟨#[]⟩, .slice none 0 0, .slice none 0 0, .int .i64 0, .string ⟨#[]⟩, .int .i64 0, .string ⟨#[]⟩, .int .i64 0, .string ⟨#[]⟩, .int .i64 0, .string ⟨#[]⟩, .int .i64 0, .string ⟨#[]⟩, .slice none 0 0, .int .i64 0, .string ⟨#[]⟩, .int .i64 0, .string ⟨#[]⟩, .int .i64 0, .string ⟨#[]⟩, .int .i64 0, .string ⟨#[]⟩, .int .i64 0, .string ⟨#[]⟩, .slice none 0 0, .int .i64 0, .string ⟨#[]⟩, .int .i64 0, .string ⟨#[]⟩, .int .i64 0, .string ⟨#[]⟩, .int .i64 0, .string ⟨#[]⟩, .int .i64 0, .string ⟨#[]⟩, .slice none 0 0] 58)).1
 have HA1 := aS ((h.same (X := fun k => k = gb)).below h.lt hb1)
 have HS1 := aS (h.below hb1)
 have HG1 := aS (fbelow hg hb1)
 have HNE := aS (show w.heap.size ≠ bp ∧ gb ≠ bp ∧ bp < w.heap.size ∧ gb < w.heap.size ∧ G ≤ gb ∧ G ≤ bp from ⟨by have := h.lt; omega, hgb, h.lt, (Array.getElem?_eq_some_iff.1 hg).1, hgg, h.low⟩)
 have HZ1 := aS (show (w.alloc (.cells #[.int .i64 0, .string ⟨#[]⟩, .string ⟨#[]⟩, .int .i64 0, .string ⟨#[]⟩, .int .i64 0, .string ⟨#[]⟩, .slice none 0 0, .slice none 0 0, .int .i64 0, .string ⟨#[]⟩, .int .i64 0, .string ⟨#[]⟩, .int .i64 0, .string ⟨#[]⟩, .int .i64 0, .string ⟨#[]⟩, .int .i64 0, .string ⟨#[]⟩, .slice none 0 0, .int .i64 0, .string ⟨#[]⟩, .int .i64 0, .string ⟨#[]⟩, .int .i64 0, .string ⟨#[]⟩, .int .i64 0, .string ⟨#[]⟩, .int .i64 0, .string ⟨#[]⟩, .slice none 0 0, .int .i64 0, .string ⟨#[]⟩, .int .i64 0, .string ⟨#[]⟩, .int .i64 0, .string ⟨#[]⟩, .int .i64 0, .string ⟨#[]⟩, .int .i64 0, .string ⟨#[]⟩, .slice none 0 0] 58)).heap.size = w.heap.size + 1 by show (w.heap.push _).size = _; simp)
 obtain ⟨tk, htk⟩ : ∃ tk, looks (l.drop a) = tk := ⟨_, rfl⟩
 have HTK := aS htk
 have hsz := looks_short h.short a
 rw [htk] at hsz
 have HQ := aS hres
 have HN64 := aS hn
 have hfld := tok_text
 obtain ⟨bm, hbm, hlb⟩ := MapAt.lookB HS1.out.tab.tab.kept tk.f1 hsz
 have HLB := aS hlb
 obtain ⟨kv, hkv⟩ : ∃ kv, (keptL.lookup tk.f1.data.toList).getD 0 = kv := ⟨_, rfl⟩
 have HKV := aS hkv
 have HKV0 := aS hkv
 clear h hg hgg hgb hres hn htk hsz hb1 hlb hkv
 go_enter Tryd.func55, Tryd.ntmps55
 go_upto_region 1 with (fail)
 generalize w.alloc (.cells #[.int .i64 0, .string ⟨#[]⟩, .string ⟨#[]⟩, .int .i64 0, .string ⟨#[]⟩, .int .i64 0, .string ⟨#[]⟩, .slice none 0 0, .slice none 0 0, .int .i64 0, .string ⟨#[]⟩, .int .i64 0, .string ⟨#[]⟩, .int .i64 0, .string ⟨#[]⟩, .int .i64 0, .string ⟨#[]⟩, .int .i64 0, .string ⟨#[]⟩, .slice none 0 0, .int .i64 0, .string ⟨#[]⟩, .int .i64 0, .string ⟨#[]⟩, .int .i64 0, .string ⟨#[]⟩, .int .i64 0, .string ⟨#[]⟩, .int .i64 0, .string ⟨#[]⟩, .slice none 0 0, .int .i64 0, .string ⟨#[]⟩, .int .i64 0, .string ⟨#[]⟩, .int .i64 0, .string ⟨#[]⟩, .int .i64 0, .string ⟨#[]⟩, .int .i64 0, .string ⟨#[]⟩, .slice none 0 0] 58) = w1 at *
 refine start_ (n := 8) (S := fun w' => w'.cell? ⟨0, 0, none⟩ = some (.map (some bm))) (ds := [7]) #[false, false, false, false, false, false, false, false] (by kernel_rfl) rfl rfl (HLB.out _ (below_drew (bR w1.heap.size w1))).1 (fun hHeld => ?_)
 refine pure_ (i := 1) (N := some 8) (v := ?_) (a' := ?_) #[false, true, false, false, false, false, false, false] rfl rfl (by kernel_rfl) (fun _ _ _ h => h) (Or.inl ⟨by rfl, ?_⟩) ?_ ?_
 rotate_left
 ·intro w'
  go_simp
  try with_reducible rfl
 rotate_left
 ·simp only [putAll, Act.put, sI, s0', s1']
  rfl
 refine take_ (i := 0) (N := some 7) (v := ?_) (a' := ?_) #[true, true, false, false, false, false, false, false] rfl rfl (by kernel_rfl) (fun _ _ _ h => h) (Or.inl ⟨by rfl, ?_⟩) hHeld ?_ ?_
 rotate_left
 ·rintro w' s0
  go_simp
  try with_reducible rfl
 rotate_left
 ·simp only [putAll, Act.put, sI, s0', s1']
  rfl
 refine join_ (σ := Nat) 1 #[true, true, true, true, true, true, true, false] (fun xb => [(9, tokV tk), (10, .string tk.f1), (11, .int .i64 kv), (12, .agg #[.int .i64 kv, .string ⟨#[]⟩, .string ⟨#[]⟩, .int .i64 0, .string ⟨#[]⟩, .int .i64 0, .string ⟨#[]⟩, .slice none 0 0, .slice none 0 0, .int .i64 0, .string ⟨#[]⟩, .int .i64 0, .string ⟨#[]⟩, .int .i64 0, .string ⟨#[]⟩, .int .i64 0, .string ⟨#[]⟩, .int .i64 0, .string ⟨#[]⟩, .slice none 0 0, .int .i64 0, .string ⟨#[]⟩, .int .i64 0, .string ⟨#[]⟩, .int .i64 0, .string ⟨#[]⟩, .int .i64 0, .string ⟨#[]⟩, .int .i64 0, .string ⟨#[]⟩, .slice none 0 0, .int .i64 0, .string ⟨#[]⟩, .int .i64 0, .string ⟨#[]⟩, .int .i64 0, .string ⟨#[]⟩, .int .i64 0, .string ⟨#[]⟩, .int .i64 0, .string ⟨#[]⟩, .slice none 0 0]), (5, .pointer (some ⟨xb, 0, none⟩))]) (fun xb w' => Below w1.heap.size w1 w' ∧ w1.heap.size ≤ xb ∧ w'.heap[xb]? = some (.cells #[.int .i64 0, .string ⟨#[]⟩, .string ⟨#[]⟩, .int .i64 0, .string ⟨#[]⟩, .int .i64 0, .string ⟨#[]⟩, .slice none 0 0, .slice none 0 0, .int .i64 0, .string ⟨#[]⟩, .int .i64 0, .string ⟨#[]⟩, .int .i64 0, .string ⟨#[]⟩, .int .i64 0, .string ⟨#[]⟩, .int .i64 0, .string ⟨#[]⟩, .slice none 0 0, .int .i64 0, .string ⟨#[]⟩, .int .i64 0, .string ⟨#[]⟩, .int .i64 0, .string ⟨#[]⟩, .int .i64 0, .string ⟨#[]⟩, .int .i64 0, .string ⟨#[]⟩, .slice none 0 0, .int .i64 0, .string ⟨#[]⟩, .int .i64 0, .string ⟨#[]⟩, .int .i64 0, .string ⟨#[]⟩, .int .i64 0, .string ⟨#[]⟩, .int .i64 0, .string ⟨#[]⟩, .slice none 0 0] 58)) ?_ (fun hcont => ?_)
 rotate_left
 refine two_ (i := 2) (j := 6) (Ni := some 9) (Nj := some 5) #[true, true, true, false, false, false, false, false] #[true, true, false, false, false, false, true, false] rfl rfl rfl rfl (by kernel_rfl) (by decide) (by decide) (fun K hK => ?_) (fun K hK => ?_)
 ·refine goes_ Tryd.func33 (by kernel_rfl) rfl #[.pointer (some ⟨bp, 0, none⟩)] (by rfl) rfl rfl (by (try simp only [List.map_toArray, List.map_cons, List.map_nil]); rfl) ?_
  refine (look_at bp s A c l begun fv a tk HTK.out _ (HS1.out.below (below_drew (bR w1.heap.size w1))).ps).mono ?_
  rintro e w2 ⟨rfl, hb⟩
  have hbx : Below w1.heap.size w1 w2 := (below_drew (bR w1.heap.size w1)).trans (hb.mono (below_drew (bR w1.heap.size w1)).size)
  refine ⟨_, rfl, ?_⟩
  refine hK.out _ _ (HLB.out _ hbx).1 (fun hHeld => ?_)
  clear hK K
  refine norm_ (a' := ?_) ?_ ?_
  rotate_left
  ·show Act.put _ (some 9) _ = _
   simp only [putAll, Act.put, sI, s0', s1']
   rfl
  refine pure_ (i := 3) (N := some 10) (v := ?_) (a' := ?_) #[true, true, true, true, false, false, false, false] rfl rfl (by kernel_rfl) (fun _ _ _ h => h) (Or.inl ⟨by rfl, ?_⟩) ?_ ?_
  rotate_left
  ·intro w'
   go_simp
   try with_reducible rfl
  rotate_left
  ·simp only [putAll, Act.put, sI, s0', s1']
   rfl
  refine two_ (i := 4) (j := 6) (Ni := some 11) (Nj := some 5) #[true, true, true, true, true, false, false, false] #[true, true, true, true, false, false, true, false] rfl rfl rfl rfl (by kernel_rfl) (by decide) (by decide) (fun K hK => ?_) (fun K hK => ?_)
  ·have q2 := (HLB.out w2 hbx).2
   rw [HKV.out] at q2
   refine value_ (w1 := ?_) (v := ?_) (by rfl) rfl ?_ ?_
   rotate_left 2
   ·go_simp
    constructor
    ·rfl
    ·rfl
   refine hK.out _ _ (HLB.out _ hbx).1 (fun hHeld => ?_)
   clear hK K
   refine norm_ (a' := ?_) ?_ ?_
   rotate_left
   ·show Act.put _ (some 11) _ = _
    simp only [putAll, Act.put, sI, s0', s1']
    rfl
   refine pure_ (i := 5) (N := some 12) (v := ?_) (a' := ?_) #[true, true, true, true, true, true, false, false] rfl rfl (by kernel_rfl) (fun _ _ _ h => h) (Or.inl ⟨by rfl, ?_⟩) ?_ ?_
   rotate_left
   ·intro w'
    go_simp
    try with_reducible rfl
   rotate_left
   ·simp only [putAll, Act.put, sI, s0', s1']
    rfl
   refine one_ (i := 6) (N := some 5) #[true, true, true, true, true, true, true, false] rfl rfl (by kernel_rfl) (by decide) (fun K hK => ?_)
   refine value_ (w1 := ?_) (v := ?_) (by rfl) rfl ?_ ?_
   rotate_left 2
   ·go_simp
    constructor
    ·rfl
    ·rfl
   refine hK.out _ _ (HLB.out (w2.alloc (.cells #[.int .i64 0, .string ⟨#[]⟩, .string ⟨#[]⟩, .int .i64 0, .string ⟨#[]⟩, .int .i64 0, .string ⟨#[]⟩, .slice none 0 0, .slice none 0 0, .int .i64 0, .string ⟨#[]⟩, .int .i64 0, .string ⟨#[]⟩, .int .i64 0, .string ⟨#[]⟩, .int .i64 0, .string ⟨#[]⟩, .int .i64 0, .string ⟨#[]⟩, .slice none 0 0, .int .i64 0, .string ⟨#[]⟩, .int .i64 0, .string ⟨#[]⟩, .int .i64 0, .string ⟨#[]⟩, .int .i64 0, .string ⟨#[]⟩, .int .i64 0, .string ⟨#[]⟩, .slice none 0 0, .int .i64 0, .string ⟨#[]⟩, .int .i64 0, .string ⟨#[]⟩, .int .i64 0, .string ⟨#[]⟩, .int .i64 0, .string ⟨#[]⟩, .int .i64 0, .string ⟨#[]⟩, .slice none 0 0] 58)) (below_alloc hbx (.cells #[.int .i64 0, .string ⟨#[]⟩, .string ⟨#[]⟩, .int .i64 0, .string ⟨#[]⟩, .int .i64 0, .string ⟨#[]⟩, .slice none 0 0, .slice none 0 0, .int .i64 0, .string ⟨#[]⟩, .int .i64 0, .string ⟨#[]⟩, .int .i64 0, .string ⟨#[]⟩, .int .i64 0, .string ⟨#[]⟩, .int .i64 0, .string ⟨#[]⟩, .slice none 0 0, .int .i64 0, .string ⟨#[]⟩, .int .i64 0, .string ⟨#[]⟩, .int .i64 0, .string ⟨#[]⟩, .int .i64 0, .string ⟨#[]⟩, .int .i64 0, .string ⟨#[]⟩, .slice none 0 0, .int .i64 0, .string ⟨#[]⟩, .int .i64 0, .string ⟨#[]⟩, .int .i64 0, .string ⟨#[]⟩, .int .i64 0, .string ⟨#[]⟩, .int .i64 0, .string ⟨#[]⟩, .slice none 0 0] 58))).1 (fun hHeld => ?_)
   clear hK K
   refine norm_ (a' := ?_) ?_ ?_
   rotate_left
   ·show Act.put _ (some 5) _ = _
    simp only [putAll, Act.put, sI, s0', s1']
    rfl
   refine norm_ ?_ (hcont (w2.heap.size) (w2.alloc (.cells #[.int .i64 0, .string ⟨#[]⟩, .string ⟨#[]⟩, .int .i64 0, .string ⟨#[]⟩, .int .i64 0, .string ⟨#[]⟩, .slice none 0 0, .slice none 0 0, .int .i64 0, .string ⟨#[]⟩, .int .i64 0, .string ⟨#[]⟩, .int .i64 0, .string ⟨#[]⟩, .int .i64 0, .string ⟨#[]⟩, .int .i64 0, .string ⟨#[]⟩, .slice none 0 0, .int .i64 0, .string ⟨#[]⟩, .int .i64 0, .string ⟨#[]⟩, .int .i64 0, .string ⟨#[]⟩, .int .i64 0, .string ⟨#[]⟩, .int .i64 0, .string ⟨#[]⟩, .slice none 0 0, .int .i64 0, .string ⟨#[]⟩, .int .i64 0, .string ⟨#[]⟩, .int .i64 0, .string ⟨#[]⟩, .int .i64 0, .string ⟨#[]⟩, .int .i64 0, .string ⟨#[]⟩, .slice none 0 0] 58)) ⟨below_alloc hbx (.cells #[.int .i64 0, .string ⟨#[]⟩, .string ⟨#[]⟩, .int .i64 0, .string ⟨#[]⟩, .int .i64 0, .string ⟨#[]⟩, .slice none 0 0, .slice none 0 0, .int .i64 0, .string ⟨#[]⟩, .int .i64 0, .string ⟨#[]⟩, .int .i64 0, .string ⟨#[]⟩, .int .i64 0, .string ⟨#[]⟩, .int .i64 0, .string ⟨#[]⟩, .slice none 0 0, .int .i64 0, .string ⟨#[]⟩, .int .i64 0, .string ⟨#[]⟩, .int .i64 0, .string ⟨#[]⟩, .int .i64 0, .string ⟨#[]⟩, .int .i64 0, .string ⟨#[]⟩, .slice none 0 0, .int .i64 0, .string ⟨#[]⟩, .int .i64 0, .string ⟨#[]⟩, .int .i64 0, .string ⟨#[]⟩, .int .i64 0, .string ⟨#[]⟩, .int .i64 0, .string ⟨#[]⟩, .slice none 0 0] 58), hbx.size, (MapKept.heap_alloc w2 (.cells #[.int .i64 0, .string ⟨#[]⟩, .string ⟨#[]⟩, .int .i64 0, .string ⟨#[]⟩, .int .i64 0, .string ⟨#[]⟩, .slice none 0 0, .slice none 0 0, .int .i64 0, .string ⟨#[]⟩, .int .i64 0, .string ⟨#[]⟩, .int .i64 0, .string ⟨#[]⟩, .int .i64 0, .string ⟨#[]⟩, .int .i64 0, .string ⟨#[]⟩, .slice none 0 0, .int .i64 0, .string ⟨#[]⟩, .int .i64 0, .string ⟨#[]⟩, .int .i64 0, .string ⟨#[]⟩, .int .i64 0, .string ⟨#[]⟩, .int .i64 0, .string ⟨#[]⟩, .slice none 0 0, .int .i64 0, .string ⟨#[]⟩, .int .i64 0, .string ⟨#[]⟩, .int .i64 0, .string ⟨#[]⟩, .int .i64 0, .string ⟨#[]⟩, .int .i64 0, .string ⟨#[]⟩, .slice none 0 0] 58)).1⟩)
   simp only [putAll, Act.put, sI, s0', s1']
   try rfl
  ·refine value_ (w1 := ?_) (v := ?_) (by rfl) rfl ?_ ?_
   rotate_left 2
   ·go_simp
    constructor
    ·rfl
    ·rfl
   refine hK.out _ _ (HLB.out (w2.alloc (.cells #[.int .i64 0, .string ⟨#[]⟩, .string ⟨#[]⟩, .int .i64 0, .string ⟨#[]⟩, .int .i64 0, .string ⟨#[]⟩, .slice none 0 0, .slice none 0 0, .int .i64 0, .string ⟨#[]⟩, .int .i64 0, .string ⟨#[]⟩, .int .i64 0, .string ⟨#[]⟩, .int .i64 0, .string ⟨#[]⟩, .int .i64 0, .string ⟨#[]⟩, .slice none 0 0, .int .i64 0, .string ⟨#[]⟩, .int .i64 0, .string ⟨#[]⟩, .int .i64 0, .string ⟨#[]⟩, .int .i64 0, .string ⟨#[]⟩, .int .i64 0, .string ⟨#[]⟩, .slice none 0 0, .int .i64 0, .string ⟨#[]⟩, .int .i64 0, .string ⟨#[]⟩, .int .i64 0, .string ⟨#[]⟩, .int .i64 0, .string ⟨#[]⟩, .int .i64 0, .string ⟨#[]⟩, .slice none 0 0] 58)) (below_alloc hbx (.cells #[.int .i64 0, .string ⟨#[]⟩, .string ⟨#[]⟩, .int .i64 0, .string ⟨#[]⟩, .int .i64 0, .string ⟨#[]⟩, .slice none 0 0, .slice none 0 0, .int .i64 0, .string ⟨#[]⟩, .int .i64 0, .string ⟨#[]⟩, .int .i64 0, .string ⟨#[]⟩, .int .i64 0, .string ⟨#[]⟩, .int .i64 0, .string ⟨#[]⟩, .slice none 0 0, .int .i64 0, .string ⟨#[]⟩, .int .i64 0, .string ⟨#[]⟩, .int .i64 0, .string ⟨#[]⟩, .int .i64 0, .string ⟨#[]⟩, .int .i64 0, .string ⟨#[]⟩, .slice none 0 0, .int .i64 0, .string ⟨#[]⟩, .int .i64 0, .string ⟨#[]⟩, .int .i64 0, .string ⟨#[]⟩, .int .i64 0, .string ⟨#[]⟩, .int .i64 0, .string ⟨#[]⟩, .slice none 0 0] 58))).1 (fun hHeld => ?_)
   clear hK K
   refine norm_ (a' := ?_) ?_ ?_
   rotate_left
   ·show Act.put _ (some 5) _ = _
    simp only [putAll, Act.put, sI, s0', s1']
    rfl
   refine one_ (i := 4) (N := some 11) #[true, true, true, true, true, false, true, false] rfl rfl (by kernel_rfl) (by decide) (fun K hK => ?_)
   have q2 := (HLB.out (w2.alloc (.cells #[.int .i64 0, .string ⟨#[]⟩, .string ⟨#[]⟩, .int .i64 0, .string ⟨#[]⟩, .int .i64 0, .string ⟨#[]⟩, .slice none 0 0, .slice none 0 0, .int .i64 0, .string ⟨#[]⟩, .int .i64 0, .string ⟨#[]⟩, .int .i64 0, .string ⟨#[]⟩, .int .i64 0, .string ⟨#[]⟩, .int .i64 0, .string ⟨#[]⟩, .slice none 0 0, .int .i64 0, .string ⟨#[]⟩, .int .i64 0, .string ⟨#[]⟩, .int .i64 0, .string ⟨#[]⟩, .int .i64 0, .string ⟨#[]⟩, .int .i64 0, .string ⟨#[]⟩, .slice none 0 0, .int .i64 0, .string ⟨#[]⟩, .int .i64 0, .string ⟨#[]⟩, .int .i64 0, .string ⟨#[]⟩, .int .i64 0, .string ⟨#[]⟩, .int .i64 0, .string ⟨#[]⟩, .slice none 0 0] 58)) (below_alloc hbx (.cells #[.int .i64 0, .string ⟨#[]⟩, .string ⟨#[]⟩, .int .i64 0, .string ⟨#[]⟩, .int .i64 0, .string ⟨#[]⟩, .slice none 0 0, .slice none 0 0, .int .i64 0, .string ⟨#[]⟩, .int .i64 0, .string ⟨#[]⟩, .int .i64 0, .string ⟨#[]⟩, .int .i64 0, .string ⟨#[]⟩, .int .i64 0, .string ⟨#[]⟩, .slice none 0 0, .int .i64 0, .string ⟨#[]⟩, .int .i64 0, .string ⟨#[]⟩, .int .i64 0, .string ⟨#[]⟩, .int .i64 0, .string ⟨#[]⟩, .int .i64 0, .string ⟨#[]⟩, .slice none 0 0, .int .i64 0, .string ⟨#[]⟩, .int .i64 0, .string ⟨#[]⟩, .int .i64 0, .string ⟨#[]⟩, .int .i64 0, .string ⟨#[]⟩, .int .i64 0, .string ⟨#[]⟩, .slice none 0 0] 58))).2
   rw [HKV.out] at q2
   refine value_ (w1 := ?_) (v := ?_) (by rfl) rfl ?_ ?_
   rotate_left 2
   ·go_simp
    constructor
    ·rfl
    ·rfl
   refine hK.out _ _ (HLB.out _ (below_alloc hbx (.cells #[.int .i64 0, .string ⟨#[]⟩, .string ⟨#[]⟩, .int .i64 0, .string ⟨#[]⟩, .int .i64 0, .string ⟨#[]⟩, .slice none 0 0, .slice none 0 0, .int .i64 0, .string ⟨#[]⟩, .int .i64 0, .string ⟨#[]⟩, .int .i64 0, .string ⟨#[]⟩, .int .i64 0, .string ⟨#[]⟩, .int .i64 0, .string ⟨#[]⟩, .slice none 0 0, .int .i64 0, .string ⟨#[]⟩, .int .i64 0, .string ⟨#[]⟩, .int .i64 0, .string ⟨#[]⟩, .int .i64 0, .string ⟨#[]⟩, .int .i64 0, .string ⟨#[]⟩, .slice none 0 0, .int .i64 0, .string ⟨#[]⟩, .int .i64 0, .string ⟨#[]⟩, .int .i64 0, .string ⟨#[]⟩, .int .i64 0, .string ⟨#[]⟩, .int .i64 0, .string ⟨#[]⟩, .slice none 0 0] 58))).1 (fun hHeld => ?_)
   clear hK K
   refine norm_ (a' := ?_) ?_ ?_
   rotate_left
   ·show Act.put _ (some 11) _ = _
    simp only [putAll, Act.put, sI, s0', s1']
    rfl
   clear q2
   refine pure_ (i := 5) (N := some 12) (v := ?_) (a' := ?_) #[true, true, true, true, true, true, true, false] rfl rfl (by kernel_rfl) (fun _ _ _ h => h) (Or.inl ⟨by rfl, ?_⟩) ?_ ?_
   rotate_left
   ·intro w'
    go_simp
    try with_reducible rfl
   rotate_left
   ·simp only [putAll, Act.put, sI, s0', s1']
    rfl
   refine norm_ ?_ (hcont (w2.heap.size) (w2.alloc (.cells #[.int .i64 0, .string ⟨#[]⟩, .string ⟨#[]⟩, .int .i64 0, .string ⟨#[]⟩, .int .i64 0, .string ⟨#[]⟩, .slice none 0 0, .slice none 0 0, .int .i64 0, .string ⟨#[]⟩, .int .i64 0, .string ⟨#[]⟩, .int .i64 0, .string ⟨#[]⟩, .int .i64 0, .string ⟨#[]⟩, .int .i64 0, .string ⟨#[]⟩, .slice none 0 0, .int .i64 0, .string ⟨#[]⟩, .int .i64 0, .string ⟨#[]⟩, .int .i64 0, .string ⟨#[]⟩, .int .i64 0, .string ⟨#[]⟩, .int .i64 0, .string ⟨#[]⟩, .slice none 0 0, .int .i64 0, .string ⟨#[]⟩, .int .i64 0, .string ⟨#[]⟩, .int .i64 0, .string ⟨#[]⟩, .int .i64 0, .string ⟨#[]⟩, .int .i64 0, .string ⟨#[]⟩, .slice none 0 0] 58)) ⟨below_alloc hbx (.cells #[.int .i64 0, .string ⟨#[]⟩, .string ⟨#[]⟩, .int .i64 0, .string ⟨#[]⟩, .int .i64 0, .string ⟨#[]⟩, .slice none 0 0, .slice none 0 0, .int .i64 0, .string ⟨#[]⟩, .int .i64 0, .string ⟨#[]⟩, .int .i64 0, .string ⟨#[]⟩, .int .i64 0, .string ⟨#[]⟩, .int .i64 0, .string ⟨#[]⟩, .slice none 0 0, .int .i64 0, .string ⟨#[]⟩, .int .i64 0, .string ⟨#[]⟩, .int .i64 0, .string ⟨#[]⟩, .int .i64 0, .string ⟨#[]⟩, .int .i64 0, .string ⟨#[]⟩, .slice none 0 0, .int .i64 0, .string ⟨#[]⟩, .int .i64 0, .string ⟨#[]⟩, .int .i64 0, .string ⟨#[]⟩, .int .i64 0, .string ⟨#[]⟩, .int .i64 0, .string ⟨#[]⟩, .slice none 0 0] 58), hbx.size, (MapKept.heap_alloc w2 (.cells #[.int .i64 0, .string ⟨#[]⟩, .string ⟨#[]⟩, .int .i64 0, .string ⟨#[]⟩, .int .i64 0, .string ⟨#[]⟩, .slice none 0 0, .slice none 0 0, .int .i64 0, .string ⟨#[]⟩, .int .i64 0, .string ⟨#[]⟩, .int .i64 0, .string ⟨#[]⟩, .int .i64 0, .string ⟨#[]⟩, .int .i64 0, .string ⟨#[]⟩, .slice none 0 0, .int .i64 0, .string ⟨#[]⟩, .int .i64 0, .string ⟨#[]⟩, .int .i64 0, .string ⟨#[]⟩, .int .i64 0, .string ⟨#[]⟩, .int .i64 0, .string ⟨#[]⟩, .slice none 0 0, .int .i64 0, .string ⟨#[]⟩, .int .i64 0, .string ⟨#[]⟩, .int .i64 0, .string ⟨#[]⟩, .int .i64 0, .string ⟨#[]⟩, .int .i64 0, .string ⟨#[]⟩, .slice none 0 0] 58)).1⟩)
   simp only [putAll, Act.put, sI, s0', s1']
   try rfl
 ·refine value_ (w1 := ?_) (v := ?_) (by rfl) rfl ?_ ?_
  rotate_left 2
  ·go_simp
   constructor
   ·rfl
   ·rfl
  refine hK.out _ _ (HLB.out (World.drew (w1.alloc (.cells #[.int .i64 0, .string ⟨#[]⟩, .string ⟨#[]⟩, .int .i64 0, .string ⟨#[]⟩, .int .i64 0, .string ⟨#[]⟩, .slice none 0 0, .slice none 0 0, .int .i64 0, .string ⟨#[]⟩, .int .i64 0, .string ⟨#[]⟩, .int .i64 0, .string ⟨#[]⟩, .int .i64 0, .string ⟨#[]⟩, .int .i64 0, .string ⟨#[]⟩, .slice none 0 0, .int .i64 0, .string ⟨#[]⟩, .int .i64 0, .string ⟨#[]⟩, .int .i64 0, .string ⟨#[]⟩, .int .i64 0, .string ⟨#[]⟩, .int .i64 0, .string ⟨#[]⟩, .slice none 0 0, .int .i64 0, .string ⟨#[]⟩, .int .i64 0, .string ⟨#[]⟩, .int .i64 0, .string ⟨#[]⟩, .int .i64 0, .string ⟨#[]⟩, .int .i64 0, .string ⟨#[]⟩, .slice none 0 0] 58))) (below_drew (below_alloc (bR w1.heap.size w1) (.cells #[.int .i64 0, .string ⟨#[]⟩, .string ⟨#[]⟩, .int .i64 0, .string ⟨#[]⟩, .int .i64 0, .string ⟨#[]⟩, .slice none 0 0, .slice none 0 0, .int .i64 0, .string ⟨#[]⟩, .int .i64 0, .string ⟨#[]⟩, .int .i64 0, .string ⟨#[]⟩, .int .i64 0, .string ⟨#[]⟩, .int .i64 0, .string ⟨#[]⟩, .slice none 0 0, .int .i64 0, .string ⟨#[]⟩, .int .i64 0, .string ⟨#[]⟩, .int .i64 0, .string ⟨#[]⟩, .int .i64 0, .string ⟨#[]⟩, .int .i64 0, .string ⟨#[]⟩, .slice none 0 0, .int .i64 0, .string ⟨#[]⟩, .int .i64 0, .string ⟨#[]⟩, .int .i64 0, .string ⟨#[]⟩, .int .i64 0, .string ⟨#[]⟩, .int .i64 0, .string ⟨#[]⟩, .slice none 0 0] 58)))).1 (fun hHeld => ?_)
  clear hK K
  refine norm_ (a' := ?_) ?_ ?_
  rotate_left
  ·show Act.put _ (some 5) _ = _
   simp only [putAll, Act.put, sI, s0', s1']
   rfl
  have hz : (World.drew (w1.alloc (.cells #[.int .i64 0, .string ⟨#[]⟩, .string ⟨#[]⟩, .int .i64 0, .string ⟨#[]⟩, .int .i64 0, .string ⟨#[]⟩, .slice none 0 0, .slice none 0 0, .int .i64 0, .string ⟨#[]⟩, .int .i64 0, .string ⟨#[]⟩, .int .i64 0, .string ⟨#[]⟩, .int .i64 0, .string ⟨#[]⟩, .int .i64 0, .string ⟨#[]⟩, .slice none 0 0, .int .i64 0, .string ⟨#[]⟩, .int .i64 0, .string ⟨#[]⟩, .int .i64 0, .string ⟨#[]⟩, .int .i64 0, .string ⟨#[]⟩, .int .i64 0, .string ⟨#[]⟩, .slice none 0 0, .int .i64 0, .string ⟨#[]⟩, .int .i64 0, .string ⟨#[]⟩, .int .i64 0, .string ⟨#[]⟩, .int .i64 0, .string ⟨#[]⟩, .int .i64 0, .string ⟨#[]⟩, .slice none 0 0] 58))).heap[w1.heap.size]? = some (.cells #[.int .i64 0, .string ⟨#[]⟩, .string ⟨#[]⟩, .int .i64 0, .string ⟨#[]⟩, .int .i64 0, .string ⟨#[]⟩, .slice none 0 0, .slice none 0 0, .int .i64 0, .string ⟨#[]⟩, .int .i64 0, .string ⟨#[]⟩, .int .i64 0, .string ⟨#[]⟩, .int .i64 0, .string ⟨#[]⟩, .int .i64 0, .string ⟨#[]⟩, .slice none 0 0, .int .i64 0, .string ⟨#[]⟩, .int .i64 0, .string ⟨#[]⟩, .int .i64 0, .string ⟨#[]⟩, .int .i64 0, .string ⟨#[]⟩, .int .i64 0, .string ⟨#[]⟩, .slice none 0 0, .int .i64 0, .string ⟨#[]⟩, .int .i64 0, .string ⟨#[]⟩, .int .i64 0, .string ⟨#[]⟩, .int .i64 0, .string ⟨#[]⟩, .int .i64 0, .string ⟨#[]⟩, .slice none 0 0] 58) := heap_drew (MapKept.heap_alloc w1 (.cells #[.int .i64 0, .string ⟨#[]⟩, .string ⟨#[]⟩, .int .i64 0, .string ⟨#[]⟩, .int .i64 0, .string ⟨#[]⟩, .slice none 0 0, .slice none 0 0, .int .i64 0, .string ⟨#[]⟩, .int .i64 0, .string ⟨#[]⟩, .int .i64 0, .string ⟨#[]⟩, .int .i64 0, .string ⟨#[]⟩, .int .i64 0, .string ⟨#[]⟩, .slice none 0 0, .int .i64 0, .string ⟨#[]⟩, .int .i64 0, .string ⟨#[]⟩, .int .i64 0, .string ⟨#[]⟩, .int .i64 0, .string ⟨#[]⟩, .int .i64 0, .string ⟨#[]⟩, .slice none 0 0, .int .i64 0, .string ⟨#[]⟩, .int .i64 0, .string ⟨#[]⟩, .int .i64 0, .string ⟨#[]⟩, .int .i64 0, .string ⟨#[]⟩, .int .i64 0, .string ⟨#[]⟩, .slice none 0 0] 58)).1
  refine one_ (i := 2) (N := some 9) #[true, true, true, false, false, false, true, false] rfl rfl (by kernel_rfl) (by decide) (fun K hK => ?_)
  refine goes_ Tryd.func33 (by kernel_rfl) rfl #[.pointer (some ⟨bp, 0, none⟩)] (by rfl) rfl rfl (by (try simp only [List.map_toArray, List.map_cons, List.map_nil]); rfl) ?_
  refine (look_at bp s A c l begun fv a tk HTK.out _ (HS1.out.below (below_drew (below_alloc (bR w1.heap.size w1) (.cells #[.int .i64 0, .string ⟨#[]⟩, .string ⟨#[]⟩, .int .i64 0, .string ⟨#[]⟩, .int .i64 0, .string ⟨#[]⟩, .slice none 0 0, .slice none 0 0, .int .i64 0, .string ⟨#[]⟩, .int .i64 0, .string ⟨#[]⟩, .int .i64 0, .string ⟨#[]⟩, .int .i64 0, .string ⟨#[]⟩, .int .i64 0, .string ⟨#[]⟩, .slice none 0 0, .int .i64 0, .string ⟨#[]⟩, .int .i64 0, .string ⟨#[]⟩, .int .i64 0, .string ⟨#[]⟩, .int .i64 0, .string ⟨#[]⟩, .int .i64 0, .string ⟨#[]⟩, .slice none 0 0, .int .i64 0, .string ⟨#[]⟩, .int .i64 0, .string ⟨#[]⟩, .int .i64 0, .string ⟨#[]⟩, .int .i64 0, .string ⟨#[]⟩, .int .i64 0, .string ⟨#[]⟩, .slice none 0 0] 58)))).ps).mono ?_
  rintro e w2 ⟨rfl, hb⟩
  have hbx : Below w1.heap.size w1 w2 := (below_drew (below_alloc (bR w1.heap.size w1) (.cells #[.int .i64 0, .string ⟨#[]⟩, .string ⟨#[]⟩, .int .i64 0, .string ⟨#[]⟩, .int .i64 0, .string ⟨#[]⟩, .slice none 0 0, .slice none 0 0, .int .i64 0, .string ⟨#[]⟩, .int .i64 0, .string ⟨#[]⟩, .int .i64 0, .string ⟨#[]⟩, .int .i64 0, .string ⟨#[]⟩, .int .i64 0, .string ⟨#[]⟩, .slice none 0 0, .int .i64 0, .string ⟨#[]⟩, .int .i64 0, .string ⟨#[]⟩, .int .i64 0, .string ⟨#[]⟩, .int .i64 0, .string ⟨#[]⟩, .int .i64 0, .string ⟨#[]⟩, .slice none 0 0, .int .i64 0, .string ⟨#[]⟩, .int .i64 0, .string ⟨#[]⟩, .int .i64 0, .string ⟨#[]⟩, .int .i64 0, .string ⟨#[]⟩, .int .i64 0, .string ⟨#[]⟩, .slice none 0 0] 58))).trans (hb.mono (below_drew (below_alloc (bR w1.heap.size w1) (.cells #[.int .i64 0, .string ⟨#[]⟩, .string ⟨#[]⟩, .int .i64 0, .string ⟨#[]⟩, .int .i64 0, .string ⟨#[]⟩, .slice none 0 0, .slice none 0 0, .int .i64 0, .string ⟨#[]⟩, .int .i64 0, .string ⟨#[]⟩, .int .i64 0, .string ⟨#[]⟩, .int .i64 0, .string ⟨#[]⟩, .int .i64 0, .string ⟨#[]⟩, .slice none 0 0, .int .i64 0, .string ⟨#[]⟩, .int .i64 0, .string ⟨#[]⟩, .int .i64 0, .string ⟨#[]⟩, .int .i64 0, .string ⟨#[]⟩, .int .i64 0, .string ⟨#[]⟩, .slice none 0 0, .int .i64 0, .string ⟨#[]⟩, .int .i64 0, .string ⟨#[]⟩, .int .i64 0, .string ⟨#[]⟩, .int .i64 0, .string ⟨#[]⟩, .int .i64 0, .string ⟨#[]⟩, .slice none 0 0] 58))).size)
  refine ⟨_, rfl, ?_⟩
  refine hK.out _ _ (HLB.out _ hbx).1 (fun hHeld => ?_)
  clear hK K
  refine norm_ (a' := ?_) ?_ ?_
  rotate_left
  ·show Act.put _ (some 9) _ = _
   simp only [putAll, Act.put, sI, s0', s1']
   rfl
  have hz2 := fbelow hz hb
  refine pure_ (i := 3) (N := some 10) (v := ?_) (a' := ?_) #[true, true, true, true, false, false, true, false] rfl rfl (by kernel_rfl) (fun _ _ _ h => h) (Or.inl ⟨by rfl, ?_⟩) ?_ ?_
  rotate_left
  ·intro w'
   go_simp
   try with_reducible rfl
  rotate_left
  ·simp only [putAll, Act.put, sI, s0', s1']
   rfl
  refine one_ (i := 4) (N := some 11) #[true, true, true, true, true, false, true, false] rfl rfl (by kernel_rfl) (by decide) (fun K hK => ?_)
  have q2 := (HLB.out (w2) hbx).2
  rw [HKV.out] at q2
  refine value_ (w1 := ?_) (v := ?_) (by rfl) rfl ?_ ?_
  rotate_left 2
  ·go_simp
   constructor
   ·rfl
   ·rfl
  refine hK.out _ _ (HLB.out _ hbx).1 (fun hHeld => ?_)
  clear hK K
  refine norm_ (a' := ?_) ?_ ?_
  rotate_left
  ·show Act.put _ (some 11) _ = _
   simp only [putAll, Act.put, sI, s0', s1']
   rfl
  clear q2
  refine pure_ (i := 5) (N := some 12) (v := ?_) (a' := ?_) #[true, true, true, true, true, true, true, false] rfl rfl (by kernel_rfl) (fun _ _ _ h => h) (Or.inl ⟨by rfl, ?_⟩) ?_ ?_
  rotate_left
  ·intro w'
   go_simp
   try with_reducible rfl
  rotate_left
  ·simp only [putAll, Act.put, sI, s0', s1']
   rfl
  refine norm_ ?_ (hcont (w1.heap.size) (w2) ⟨hbx, Nat.le_refl _, hz2⟩)
  simp only [putAll, Act.put, sI, s0', s1']
  try rfl
 rintro xb w2 ⟨hbx, hle, hz⟩
 refine norm_ (a' := ?_) ?_ ?_
 rotate_left
 ·simp only [putAll, Act.put, sI, s0', s1']
  rfl
 refine last_ (i := 7) (N := none) #[true, true, true, true, true, true, true, true] rfl rfl (by kernel_rfl) (by decide) (fun K hK => ?_)
 rw [if_pos (by rfl)]
 refine wp_store_mid 58 (.tmp 5) (.tmp 12) rfl xb 0 #[.int .i64 kv, .string ⟨#[]⟩, .string ⟨#[]⟩, .int .i64 0, .string ⟨#[]⟩, .int .i64 0, .string ⟨#[]⟩, .slice none 0 0, .slice none 0 0, .int .i64 0, .string ⟨#[]⟩, .int .i64 0, .string ⟨#[]⟩, .int .i64 0, .string ⟨#[]⟩, .int .i64 0, .string ⟨#[]⟩, .int .i64 0, .string ⟨#[]⟩, .slice none 0 0, .int .i64 0, .string ⟨#[]⟩, .int .i64 0, .string ⟨#[]⟩, .int .i64 0, .string ⟨#[]⟩, .int .i64 0, .string ⟨#[]⟩, .int .i64 0, .string ⟨#[]⟩, .slice none 0 0, .int .i64 0, .string ⟨#[]⟩, .int .i64 0, .string ⟨#[]⟩, .int .i64 0, .string ⟨#[]⟩, .int .i64 0, .string ⟨#[]⟩, .int .i64 0, .string ⟨#[]⟩, .slice none 0 0] rfl rfl (there_new hz (by kernel_rfl)) (by kernel_rfl) (by kernel_rfl) ?_
 refine hK.out _ _ ?_
 clear hK K
 refine done_ (by kernel_rfl) ?_
 rw [setCells_storeW]
 generalize hsw : storeW w2 xb 0 _ = w3
 have hb : Below w1.heap.size w1 w3 := by rw [← hsw]; exact below_storeW hbx hle _ _
 have HX3 := aS (show w3.heap[xb]? = some (.cells #[.int .i64 kv, .string ⟨#[]⟩, .string ⟨#[]⟩, .int .i64 0, .string ⟨#[]⟩, .int .i64 0, .string ⟨#[]⟩, .slice none 0 0, .slice none 0 0, .int .i64 0, .string ⟨#[]⟩, .int .i64 0, .string ⟨#[]⟩, .int .i64 0, .string ⟨#[]⟩, .int .i64 0, .string ⟨#[]⟩, .int .i64 0, .string ⟨#[]⟩, .slice none 0 0, .int .i64 0, .string ⟨#[]⟩, .int .i64 0, .string ⟨#[]⟩, .int .i64 0, .string ⟨#[]⟩, .int .i64 0, .string ⟨#[]⟩, .int .i64 0, .string ⟨#[]⟩, .slice none 0 0, .int .i64 0, .string ⟨#[]⟩, .int .i64 0, .string ⟨#[]⟩, .int .i64 0, .string ⟨#[]⟩, .int .i64 0, .string ⟨#[]⟩, .int .i64 0, .string ⟨#[]⟩, .slice none 0 0] 58) from by rw [← hsw]; exact storeW_new hz (by kernel_rfl))
 clear hsw
 have HXB := aS (show xb ≠ bp ∧ xb ≠ gb ∧ w.heap.size < xb ∧ G ≤ xb from (by have h2 := HZ1.out; have h3 := HNE.out; omega))
 have HA3 := aS (HA1.out.below HS1.out.lt hb)
 have HS3 := aS (HS1.out.below hb)
 have HO3 := aS (fbelow HO1.out hb)
 have HG3 := aS (fbelow HG1.out hb)
 clear hb hbx hle hz HLB HKV HA1 HS1 HO1 HG1 HZ1 hbm hHeld
 have HK := aS (show keptV (txt (looks (l.drop a))) = kv from by rw [HTK.out]; exact HKV0.out)
 clear HTK HKV0 hfld
 have x0 : w3.cell? ⟨xb, 0, none⟩ = some (.int .i64 kv) := cH HX3.out 0
 have g0 : w3.cell? ⟨gb, 0, none⟩ = some (.int .i64 (n : Int)) := cH HG3.out 0
 have gf := blk_frozen HG3.out 0
 by_cases hk0 : kv = 0
 ·subst hk0
  have HBAD := aS (show some (PR.bad (failE l 20 a) (l.drop a)) = some res by have qq := HQ.out; unfold itemP at qq; rw [if_pos HK.out, fail_at] at qq; exact qq)
  have HBEG := aS (show begunP n (l.drop a) = n by unfold begunP; rw [if_pos (Or.inl HK.out)])
  have y2 := blk_cell HS3.out.blk 2
  simp only [Exit.then, Act.put]
  go_wp2_with (go_at_call 34; refine (fail_calls bp s A c l begun fv a _ HS3.out.ps 20 a HS3.out.room).mono ?_; rintro e w6 ⟨rfl, hw6⟩; rw [hw6])
  exact And.intro rfl ⟨tells_bad HBAD.out rfl HS3.out.room HS3.out.room HA3.out, by rw [HBEG.out]; exact HG3.out⟩
 ·have HKN := aS (show ¬ keptV (txt (looks (l.drop a))) = 0 from by rw [HK.out]; exact hk0)
  have e0 : (kv == 0) = false := beq_eq_false_iff_ne.2 hk0
  have y2 := blk_cell HS3.out.blk 2
  simp only [Exit.then, Act.put]
  go_upto_region 4 with (fail)
  clear x0 e0
  by_cases h64 : 64 ≤ n
  ·have HBAD := aS (show some (PR.bad (failE l 2 a) (l.drop a)) = some res by have qq := HQ.out; unfold itemP at qq; rw [if_neg HKN.out, if_pos h64, fail_at] at qq; exact qq)
   have HBEG := aS (show begunP n (l.drop a) = n by unfold begunP; rw [if_pos (Or.inr h64)])
   have e1 : decide ((64 : Int) ≤ (n : Int)) = true := decide_eq_true (by omega)
   go_wp2_with (go_at_call 34; refine (fail_calls bp s A c l begun fv a _ HS3.out.ps 2 a HS3.out.room).mono ?_; rintro e w6 ⟨rfl, hw6⟩; rw [hw6])
   exact And.intro rfl ⟨tells_bad HBAD.out rfl HS3.out.room HS3.out.room HA3.out, by rw [HBEG.out]; exact HG3.out⟩
  ·have e1 : decide ((64 : Int) ≤ (n : Int)) = false := decide_eq_false (by omega)
   have HBEG := aS (show begunP n (l.drop a) = n + 1 by unfold begunP; rw [if_neg (by rintro (h | h); exact HKN.out h; exact h64 h)])
   have hsn : (n : Int) + 1 ≤ 65 := by have := HN64.out; omega
   go_upto_region 6 with (fail)
   go_upto_region 7 with (fail)
   have HQ5 := aS (show (andThen (some (nameP (l.drop (a + 1)))) fun nm r1 => andThen (partsP k (it0 kv nm) r1) fun x r2 => andThen (some (needP [59] r2)) fun _ r3 => some (.ok x r3)) = some res from by have qq := HQ.out; unfold itemP at qq; rw [if_neg HKN.out, if_neg h64, HK.out, tail_drop] at qq; exact qq)
   have HLT := aS (show a < l.length from by rcases Nat.lt_or_ge a l.length with h | h; exact h; exact absurd (by rw [List.drop_eq_nil_of_le h]; rfl) HKN.out)
   have HA4 := aS (HA3.out.own (p := ⟨gb, 0, none⟩) (.inr rfl) HNE.out.2.1 (.int .i64 ((n : Int) + 1)))
   have HS4 := aS (HS3.out.step ((HS3.out.same (X := (fun k => k = gb))).own (p := ⟨gb, 0, none⟩) (.inr rfl) HNE.out.2.1 (.int .i64 ((n : Int) + 1))) (fun k hk => by have h1 : k = gb := hk; have h2 := HNE.out; omega) HS3.out.room)
   have HO4 := aS ((Below.heap_setCell w3 ⟨gb, 0, none⟩ (.int .i64 ((n : Int) + 1)) _ (show w.heap.size ≠ gb by have h2 := HNE.out; omega)).trans HO3.out)
   have HX4 := aS ((Below.heap_setCell w3 ⟨gb, 0, none⟩ (.int .i64 ((n : Int) + 1)) _ (show xb ≠ gb from HXB.out.2.1)).trans HX3.out)
   have HG4 := aS (show (w3.setCell ⟨gb, 0, none⟩ (.int .i64 ((n : Int) + 1))).heap[gb]? = some (.cells #[.int .i64 ((n : Int) + 1)] 3 (0, 0)) from set_new HG3.out (by kernel_rfl))
   clear HA3 HS3 HO3 HX3 HG3 g0 gf y2 e1 h64
   generalize w3.setCell ⟨gb, 0, none⟩ (.int .i64 ((n : Int) + 1)) = w4 at *
   have y4 := blk_cell HS4.out.blk 2
   have f4 := blk_frozen HS4.out.blk 2
   have hlt := HLT.out
   have hsm := HS4.out.small
   go_upto_region 8 with (fail)
   clear y4 f4 hsm
   have hat : At bp (a + 1) no w4 (w4.setCell ⟨bp, 2, none⟩ (.int .i64 ((a : Int) + 1))) := at_set (bR _ _)
   have HA5 := aS (HA4.out.then_ hat)
   have HS5 := aS (HS4.out.next hat hlt)
   have HO5 := aS (hat.obj HO4.out HNE.out.1 id)
   have HX5 := aS (hat.obj HX4.out HXB.out.1 id)
   have HG5 := aS (hat.obj HG4.out HNE.out.2.1 id)
   clear hat hlt HA4 HS4 HO4 HX4 HG4
   generalize w4.setCell ⟨bp, 2, none⟩ (.int .i64 ((a : Int) + 1)) = w5 at *
   go_upto_region 9 with (go_at_call 35; refine calls_tells (name_tells HS5.out) ?_ (fun er t b a2 w' hq ht hb ha hat => And.intro rfl ⟨tells_bad (and_bad HQ5.out rfl hq) ht hb ha (HA5.out.then_ hat), by rw [HBEG.out]; exact (hat.obj HG5.out HNE.out.2.1 id)⟩); rintro nm r b1 vv w6 hq rfl hb rfl hat; have qq := and_ok HQ5.out rfl hq; have HQ6 := aS qq; clear qq; have HA6 := aS (HA5.out.then_ hat); have HS6 := aS (HS5.out.next hat hb); have HO6 := aS (hat.obj HO5.out HNE.out.1 id); have HX6 := aS (hat.obj HX5.out HXB.out.1 id); have HG6 := aS (hat.obj HG5.out HNE.out.2.1 id); have x1 : w6.cell? ⟨xb, 1, none⟩ = some (.string ⟨#[]⟩) := cH HX6.out 1; have xf := blk_frozen HX6.out 1; clear hq hb hat)
   have HA7 := aS (HA6.out.own (p := ⟨xb, 1, none⟩) (.inl (show w.heap.size ≤ xb from Nat.le_of_lt HXB.out.2.2.1)) HXB.out.1 (.string nm))
   have HS7 := aS (HS6.out.step ((HS6.out.same (X := fun k => k = xb)).own (p := ⟨xb, 1, none⟩) (.inr rfl) HXB.out.1 (.string nm)) (fun k hk => by have h1 : k = xb := hk; rw [h1]; exact HXB.out.2.2.2) HS6.out.room)
   have HO7 := aS ((Below.heap_setCell w6 ⟨xb, 1, none⟩ (.string nm) _ (show w.heap.size ≠ xb from Nat.ne_of_lt HXB.out.2.2.1)).trans HO6.out)
   have HG7 := aS ((Below.heap_setCell w6 ⟨xb, 1, none⟩ (.string nm) _ (show gb ≠ xb from fun q => HXB.out.2.1 q.symm)).trans HG6.out)
   have HX7 := aS (show (w6.setCell ⟨xb, 1, none⟩ (.string nm)).heap[xb]? = some (.cells (itV (it0 kv nm) NS NS NS NS NS) 58 (0, 0)) from set_new HX6.out (by kernel_rfl))
   clear HQ5 HA5 HS5 HO5 HX5 HG5 HA6 HS6 HO6 HX6 HG6 x1 xf
   generalize w6.setCell ⟨xb, 1, none⟩ (.string nm) = w7 at *
   obtain ⟨m0, m1, m2, m3, m4, m5, m6, m7, m8, m9, m10, e0, e1, e2, e3, e4, e5, e6, e7, e8, e9, e10, hmap, hat⟩ := map_made bp w7
   have HMAP := aS hmap
   have hsz7 : w7.heap.size ≠ bp := by have := HS7.out.lt; omega
   have HA8 := aS (hat b1 _ w HA7.out.size hsz7 HS7.out.lt HA7.out)
   have hat8 : At bp b1 no w7 m10 := hat b1 no w7 (Nat.le_refl _) hsz7 HS7.out.lt HS7.out.same
   have hmf : ∀ (fn : Fn) (first cap : Array Value) (w : World), (Instr.makeFunc fn first cap).run Tryd.prog w = .ok (.func fn first cap) w := fun _ _ _ _ => rfl
   have HS8 := aS (HS7.out.next hat8 HS7.out.room)
   have HO8 := aS (hat8.obj HO7.out HNE.out.1 id)
   have HX8 := aS (hat8.obj HX7.out HXB.out.1 id)
   have HG8 := aS (hat8.obj HG7.out HNE.out.2.1 id)
   clear hat hat8 hmap HA7 HS7 HO7 HX7 HG7
   go_upto_region 10 with (fail)
   clear e0 e1 e2 e3 e4 e5 e6 e7 e8 e9 e10 hmf
   have hr : kv = 1 ∨ kv = 2 ∨ kv = 3 ∨ kv = 4 ∨ kv = 5 ∨ kv = 6 ∨ kv = 7 ∨ kv = 8 ∨ kv = 9 ∨ kv = 10 := by have qq := kept_range HKN.out; rw [HK.out] at qq; exact qq
   have HR := aS hr
   obtain ⟨es, clock, hm, hes⟩ := HMAP.out
   obtain ⟨ix, hix⟩ := met_find bp hr
   have hlook := look_run (k := kv) (i := ix) hm (by rw [hes]; exact hix)
   have hF := fun (args : Array Value) (w : World) => met_enter hr args w
   have x0 : m10.cell? ⟨xb, 0, none⟩ = some (.int .i64 kv) := cH HX8.out 0
   obtain ⟨y, hy⟩ := and_get HQ6.out
   have HY := aS hy
   clear hr hm hes hix hy HMAP m0 m1 m2 m3 m4 m5 m6 m7 m8 m9
   go_upto_region 11 with (fail)
   refine calls_tells (parts_tells G bp s A c l begun fv k b1 m10 HS8.out xb HXB.out.2.2.2 HXB.out.1 kv nm HR.out HX8.out y HY.out) ?_ (fun er t b a2 w' hq ht hb ha hat => And.intro rfl ⟨tells_bad (and_bad HQ6.out HY.out hq) ht hb ha (HA8.out.new hat (fun i hi => .inr (by have h1 : i = xb := hi; rw [h1]; exact Nat.le_of_lt HXB.out.2.2.1))), by rw [HBEG.out]; exact (hat.obj HG8.out HNE.out.2.1 (fun q => HXB.out.2.1 q.symm))⟩)
   rintro x r b9 vv w9 hq rfl hb ⟨rfl, hit⟩ hat
   have qq := and_ok HQ6.out HY.out hq
   have HQ9 := aS qq
   clear qq
   have HA9 := aS (HA8.out.new hat (fun i hi => .inr (by have h1 : i = xb := hi; rw [h1]; exact Nat.le_of_lt HXB.out.2.2.1)))
   have HS9 := aS (HS8.out.step hat (fun i hi => by have h1 : i = xb := hi; rw [h1]; exact HXB.out.2.2.2) hb)
   have HO9 := aS (hat.obj HO8.out HNE.out.1 (fun q => Nat.ne_of_lt HXB.out.2.2.1 q))
   have HG9 := aS (hat.obj HG8.out HNE.out.2.1 (fun q => HXB.out.2.1 q.symm))
   have HI9 := aS hit
   have HSZ := aS (show w.heap.size < m10.heap.size from Nat.lt_trans HXB.out.2.2.1 (Array.getElem?_eq_some_iff.1 HX8.out).1)
   clear hq hb hit hat
   go_upto_region 11 with (fail)
   clear hlook hF x0 HA8 HS8 HO8 HX8 HG8 HQ6 HY
   go_upto_region 12 with (go_at_call 39; refine calls_tells (need_tells ⟨#[59]⟩ HS9.out) ?_ (fun er t b a2 w' hq ht hb ha hat => And.intro rfl ⟨tells_bad (and_bad HQ9.out rfl hq) ht hb ha (HA9.out.then_ hat), by rw [HBEG.out]; exact (hat.obj HG9.out HNE.out.2.1 id)⟩); rintro u r b10 vv w10 hq rfl hb henc hat; have qq := and_ok HQ9.out rfl hq; have HQ10 := aS qq; clear qq henc; have HA10 := aS (HA9.out.then_ hat); have HROOM := aS hb; have HO10 := aS (hat.obj HO9.out HNE.out.1 id); have HG10 := aS (hat.obj HG9.out HNE.out.2.1 id); have HI10 := aS (itemAt_at (ok' := fun k => w.heap.size < k) HI9.out hat (fun i hi => by have h1 := HSZ.out; have h3 : m10.heap.size ≤ i := hi; show w.heap.size < i; omega) (fun i hi => by have h1 := HSZ.out; have h2 := HNE.out; have h3 : m10.heap.size ≤ i := hi; exact ⟨by omega, id⟩) HXB.out.1 id); clear hq hb hat)
   obtain ⟨v5, v6, v7, v8, v9, hx, hrr, hok⟩ := HI10.out
   obtain ⟨A5, c5, q5⟩ := Kd.R_slice hrr.r5
   obtain ⟨A6, c6, q6⟩ := Kd.R_slice hrr.r6
   obtain ⟨A7, c7, q7⟩ := Kd.R_slice hrr.r7
   obtain ⟨A8, c8, q8⟩ := Kd.R_slice hrr.r8
   obtain ⟨A9, c9, q9⟩ := Kd.R_slice hrr.r9
   subst q5; subst q6; subst q7; subst q8; subst q9
   have hrg : w10.rangeAt xb 0 (itV x (.slice A5 x.f5.length c5) (.slice A6 x.f6.length c6) (.slice A7 x.f7.f6.length c7) (.slice A8 x.f8.f6.length c8) (.slice A9 x.f9.f6.length c9)).toList := fun j v hv => by rw [Nat.zero_add, cH hx j, Array.getElem?_toList] at *; exact hv
   have hth : w10.there w.heap.size 0 42 := there_new HO10.out (by kernel_rfl)
   go_upto_region 99 with (first | (refine wpList_load_mid rfl 58 (.tmp 5) rfl xb 0 rfl (itV x (.slice A5 x.f5.length c5) (.slice A6 x.f6.length c6) (.slice A7 x.f7.f6.length c7) (.slice A8 x.f8.f6.length c8) (.slice A9 x.f9.f6.length c9)).toList _ hrg Tryd.underlying58 rfl (by kernel_rfl) ?_) | (refine wpList_store_mid rfl 58 (.tmp 4) (.tmp 76) rfl w.heap.size 0 (itV x (.slice A5 x.f5.length c5) (.slice A6 x.f6.length c6) (.slice A7 x.f7.f6.length c7) (.slice A8 x.f8.f6.length c8) (.slice A9 x.f9.f6.length c9)) rfl rfl hth (by kernel_rfl) (by kernel_rfl) ?_))
   rw [setCells_storeW]
   have hrr11 : ItR (Lo w.heap.size) (storeW w10 w.heap.size 0 (itV x (.slice A5 x.f5.length c5) (.slice A6 x.f6.length c6) (.slice A7 x.f7.f6.length c7) (.slice A8 x.f8.f6.length c8) (.slice A9 x.f9.f6.length c9)).toList) x (.slice A5 x.f5.length c5) (.slice A6 x.f6.length c6) (.slice A7 x.f7.f6.length c7) (.slice A8 x.f8.f6.length c8) (.slice A9 x.f9.f6.length c9) := hrr.map (fun q => Kd.R_mono (storeW_rows (g := w.heap.size) (ok := fun k => w.heap.size < k) (fun k hk => by have h1 : w.heap.size < k := hk; omega) _ w10 0 q) (fun k hk => Nat.le_of_lt hk))
   generalize hsw : storeW w10 w.heap.size 0 _ = w11 at hrr11 ⊢
   have HB11 : w11.heap[w.heap.size]? = some (.cells (itV x (.slice A5 x.f5.length c5) (.slice A6 x.f6.length c6) (.slice A7 x.f7.f6.length c7) (.slice A8 x.f8.f6.length c8) (.slice A9 x.f9.f6.length c9)) 58 (0, 0)) := by rw [← hsw]; exact storeW_new HO10.out (by kernel_rfl)
   have HA11 : At bp b10 (fun k => k = gb) w w11 := by rw [← hsw]; exact storeW_at (.inl (Nat.le_refl _)) HNE.out.1 _ _ _ HA10.out
   have HG11 : w11.heap[gb]? = some (.cells #[.int .i64 ((n : Int) + 1)] 3 (0, 0)) := by rw [← hsw]; exact storeW_other (by have h2 := HNE.out; omega) _ _ _ HG10.out
   clear hsw
   refine bodyPost_ret (v := .agg (itV x (.slice A5 x.f5.length c5) (.slice A6 x.f6.length c6) (.slice A7 x.f7.f6.length c7) (.slice A8 x.f8.f6.length c8) (.slice A9 x.f9.f6.length c9))) (results_cell rfl rfl HB11 Tryd.underlying58 rfl (by kernel_rfl)) rfl ⟨tells_ok (show some (PR.ok x (l.drop b10)) = some res from HQ10.out) rfl HROOM.out ⟨_, _, _, _, _, rfl, hrr11, hok⟩ HA11, by rw [HBEG.out]; exact HG11⟩
theorem skip_len0 {l : List Tok} {a : Nat} (h : ¬ a < l.length) : skipP (l.drop a) = l.drop a := by
 rw [List.drop_eq_nil_of_le (by omega)]; rfl
theorem skip_brack {l : List Tok} {a : Nat} (h : txt (looks (l.drop a)) = [125]) : skipP (l.drop a) = l.drop a := by
 cases hq : l.drop a with
 | nil => rfl
 | cons t r => rw [hq] at h; unfold skipP; rw [if_pos (show txt t = [125] from h)]
theorem skip_semi {l : List Tok} {a : Nat} (hlt : a < l.length) (h : txt (looks (l.drop a)) = [59]) : skipP (l.drop a) = l.drop (a + 1) := by
 rw [← tail_drop]
 cases hq : l.drop a with
 | nil => have := congrArg List.length hq; simp at this; omega
 | cons t r => rw [hq] at h; unfold skipP; rw [if_neg (by rw [show txt t = [59] from h]; decide), if_pos (show txt t = [59] from h)]; rfl
theorem skip_other {l : List Tok} {a : Nat} (hlt : a < l.length) (h1 : txt (looks (l.drop a)) ≠ [125]) (h2 : txt (looks (l.drop a)) ≠ [59]) : skipP (l.drop a) = skipP (l.drop (a + 1)) := by
 rw [← tail_drop]
 cases hq : l.drop a with
 | nil => have := congrArg List.length hq; simp at this; omega
 | cons t r => rw [hq] at h1 h2; rw [skipP, if_neg (show txt t ≠ [125] from h1), if_neg (show txt t ≠ [59] from h2)]; rfl
theorem take_eq {x : List UInt8} {r r1 : List Tok} (h : takeP x r = some r1) : txt (looks r) = x := by obtain ⟨t, rfl, ht⟩ := take_some h; exact ht
theorem take_ne {x : List UInt8} {l : List Tok} {a : Nat} (h : takeP x (l.drop a) = none) (hlt : a < l.length) : txt (looks (l.drop a)) ≠ x := by
 cases hq : l.drop a with
 | nil => have := congrArg List.length hq; simp at this; omega
 | cons t r =>
  rw [hq] at h
  intro e
  change (if txt t = x then some r else none) = none at h
  rw [if_pos (show txt t = x from e)] at h; cases h
set_option maxHeartbeats 8000000 in
set_option maxRecDepth 100000 in
theorem skip_calls (G bp : Nat) (s : ByteArray) (A : Option Addr) (c : Nat) (l : List Tok) (begun : Int) (fv : Value) (a t : Nat) (w : World) (h : St G bp s A c l begun fv a w) (ht : t ≤ l.length) :
  Calls Tryd.prog 56 #[.pointer (some ⟨bp, 0, none⟩), .int .i64 t] w fun e w' => e = .returned (.tuple #[]) ∧ ∃ b, b ≤ l.length ∧ skipP (l.drop t) = l.drop b ∧ At bp b no w w' := by
 have y := blk_cell h.blk 2
 have f := blk_frozen h.blk 2
 have HS := aS h
 have HT := aS ht
 have hfld := tok_text
 clear h ht
 go_enter Tryd.func56, Tryd.ntmps56
 go_upto_region 1 with (fail)
 have HA1 := aS (at_set (b := t) (X := no) (bR _ (w.setCell ⟨bp, 2, none⟩ (.int .i64 (t : Int)))))
 have HS1 := aS (HS.out.next HA1.out HT.out)
 clear y f HS
 generalize w.setCell ⟨bp, 2, none⟩ (.int .i64 (t : Int)) = w1 at *
 go_loopg [] (l.length - t) (fun kq w' => ∃ a' : Nat, Aside0 (kq = l.length - a') ∧ Aside0 (skipP (l.drop t) = skipP (l.drop a')) ∧ Aside0 (At bp a' no w w') ∧ Aside0 (St G bp s A c l begun fv a' w'))
 case atStart => exact ⟨t, ⟨rfl⟩, ⟨rfl⟩, HA1, HS1⟩
 case round =>
  clear HA1 HS1
  obtain ⟨a', HK, HQ, HA, HS⟩ := hrel
  generalize wr = w2 at *
  have c1 := blk_cell HS.out.blk 1
  have c2 := blk_cell HS.out.blk 2
  have hsm := HS.out.small
  by_cases hlt : a' < l.length
  ·have d1 : decide ((a' : Int) < l.length) = true := decide_eq_true (by omega)
   have d2 : decide (a' < l.length) = true := decide_eq_true hlt
   have HLT := aS hlt
   clear hlt
   obtain ⟨tk, htk⟩ : ∃ tk, looks (l.drop a') = tk := ⟨_, rfl⟩
   have HTK := aS htk
   have HLK := aS (look_at bp s A c l begun fv a' tk htk)
   clear htk
   by_cases hb : txt tk = [125]
   ·have q0 : tk.f1.toList = [125] := by rw [ByteArray.toList_eq]; exact hb
    have q1 : (tk.f1.toList == ([125] : List UInt8)) = true := by rw [q0]; rfl
    have q2 : (tk.f1.toList == (⟨#[125]⟩ : ByteArray).toList) = true := by rw [q0, ByteArray.toList_eq]; rfl
    have q3 : (tk.f1.toList != ([125] : List UInt8)) = false := by simp [bne, q1]
    have q4 : (tk.f1.toList != (⟨#[125]⟩ : ByteArray).toList) = false := by simp only [bne, q2]; rfl
    clear q0
    have HB := aS hb
    clear hb
    go_wp2
    go_region_with (go_at_call 33; refine (HLK.out _ (HS.out.ps.below (by repeat (first | exact bR _ _ | apply below_drew | apply pw_below_drewN)))).mono ?_; rintro e w5 ⟨rfl, hb⟩)
    all_goals
     have hb0 : Below w2.heap.size w2 w5 := by first | exact hb | exact (below_drew (bR _ _)).trans hb | exact (pw_below_drewN (bR _ _) _).trans hb
     have HA5 := aS (HA.out.below HS.out.lt hb0)
     clear c1 c2 hb hb0
     go_wp2
     exact bodyPost_end (results_none rfl _ _ _) rfl ⟨rfl, a', HS.out.room, by rw [HQ.out, skip_brack (by rw [HTK.out]; exact HB.out)], HA5.out⟩
   ·have q0 : tk.f1.toList ≠ [125] := by rw [ByteArray.toList_eq]; exact hb
    have q1 : (tk.f1.toList == ([125] : List UInt8)) = false := beq_eq_false_iff_ne.2 q0
    have q2 : (tk.f1.toList == (⟨#[125]⟩ : ByteArray).toList) = false := by rw [ByteArray.toList_eq ⟨#[125]⟩]; exact q1
    have q3 : (tk.f1.toList != ([125] : List UInt8)) = true := by simp [bne, q1]
    have q4 : (tk.f1.toList != (⟨#[125]⟩ : ByteArray).toList) = true := by simp only [bne, q2]; rfl
    clear q0
    have HB := aS hb
    clear hb
    go_wp2
    go_region_with (go_at_call 33; refine (HLK.out _ (HS.out.ps.below (by repeat (first | exact bR _ _ | apply below_drew | apply pw_below_drewN)))).mono ?_; rintro e w5 ⟨rfl, hb⟩)
    all_goals
     have hb0 : Below w2.heap.size w2 w5 := by first | exact hb | exact (below_drew (bR _ _)).trans hb | exact (pw_below_drewN (bR _ _) _).trans hb
     have HA5 := aS (HA.out.below HS.out.lt hb0)
     have HS5 := aS (HS.out.below hb0)
     clear c1 c2 hb hb0
     simp only [Exit.then, Act.put]
     go_upto_region 3 with (go_at_call 36; refine calls_take (take_tells ⟨#[59]⟩ HS5.out) ?_ ?_; rotate_left; rintro w6 hq hat; have HNO := aS (take_ne hq HLT.out); have HA6 := aS (HA5.out.then_ hat); have HS6 := aS (HS5.out.next hat HS5.out.room); clear hq hat; rotate_left; rintro w6 hq hb hat; have HYES := aS (take_eq hq); have HA6 := aS (HA5.out.then_ hat); have HB6 := aS hb; clear hq hb hat)
     ·exact bodyPost_ret (results_none rfl _ _ _) rfl ⟨rfl, a' + 1, HB6.out, by rw [HQ.out, skip_semi HLT.out HYES.out], HA6.out⟩
     ·have y6 := blk_cell HS6.out.blk 2
      have f6 := blk_frozen HS6.out.blk 2
      have hlt := HLT.out
      go_wp2
      have hat : At bp (a' + 1) no w6 (w6.setCell ⟨bp, 2, none⟩ (.int .i64 ((a' : Int) + 1))) := at_set (b := a' + 1) (bR _ _)
      have HA7 := aS (HA6.out.then_ hat)
      have HS7 := aS (HS6.out.next hat hlt)
      clear y6 f6 hat
      generalize w6.setCell ⟨bp, 2, none⟩ (.int .i64 ((a' : Int) + 1)) = w7 at *
      go_roundg (l.length - (a' + 1))
      case measure => have := HK.out; omega
      case rel => exact ⟨a' + 1, ⟨rfl⟩, ⟨by rw [HQ.out, skip_other HLT.out (by rw [HTK.out]; exact HB.out) HNO.out]⟩, HA7, HS7⟩
  ·have d1 : decide ((a' : Int) < l.length) = false := decide_eq_false (by omega)
   have d2 : decide (a' < l.length) = false := decide_eq_false hlt
   have HLT := aS hlt
   clear hlt
   go_wp2
   go_region
   all_goals
    have HA5 := aS (HA.out.below HS.out.lt (show Below w2.heap.size w2 w2.drew from below_drew (bR _ _)))
    clear c1 c2
    go_wp2
    exact bodyPost_end (results_none rfl _ _ _) rfl ⟨rfl, a', HS.out.room, by rw [HQ.out, skip_len0 HLT.out], HA5.out⟩
end Go.Proofs.YtenogedclignmaaDoor.Q
