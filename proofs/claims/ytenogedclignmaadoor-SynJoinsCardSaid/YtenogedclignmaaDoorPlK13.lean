/-
  HELPER.
-/
import Derived.Test.YtenogedclignmaaDoorPlKA
import Derived.Recover
import Derived.Test.YtenogedclignmaaDoorPlK12
set_option linter.unusedVariables false
set_option linter.unusedSimpArgs false
namespace Go.Proofs.YtenogedclignmaaDoor.Q
open Go.RowKit Go.Maps Go.WideMaps Go.Proofs.YtenogedclignmaaDoorW.PrintWords Go.Proofs.YtenogedclignmaaDoorW.PrintLast Go.Proofs.YtenogedclignmaaDoorW.PrintMore
theorem At.new {bp b c : Nat} {X Y : Nat → Prop} {w w1 w2 : World} (h : At bp b X w w1) (k : At bp c Y w1 w2) (hY : ∀ i, Y i → X i ∨ w.heap.size ≤ i) : At bp c X w w2 :=
 ⟨k.os.trans h.os, k.tape.trans h.tape, k.output.trans h.output, Nat.le_trans h.size k.size, fun cs T fr e => by
  have := k.blk _ _ _ (h.blk cs T fr e)
  simpa using this, fun i h1 h2 h3 => (k.rest i (Nat.lt_of_lt_of_le h1 h.size) h2 (fun q => (hY i q).elim h3 (fun q => by omega))).trans (h.rest i h1 h2 h3)⟩
theorem At.grown {bp b : Nat} {X : Nat → Prop} {w w1 w2 : World} {row : Option Nat} (h : At bp b X w w1) (hb : bp < w1.heap.size) (hg : w1.grownBy w2 row) (hr : ∀ k, row = some k → k ≠ bp ∧ (X k ∨ w.heap.size ≤ k)) : At bp b X w w2 :=
 ⟨hg.os.trans h.os, hg.tape.trans h.tape, hg.output.trans h.output, Nat.le_trans h.size hg.size, fun cs T fr e => (hg.block bp hb (fun q => (hr bp q.symm).1 rfl)).trans (h.blk cs T fr e),
  fun i h1 h2 h3 => (hg.block i (Nat.lt_of_lt_of_le h1 h.size) (fun q => (hr i q.symm).2.elim h3 (fun q => by omega))).trans (h.rest i h1 h2 h3)⟩
theorem R_append_run {P : Program} {α : Type} (d : Kd α) (t ty e : TypeId) (z : Value) (bytes : Nat) (ht : P.underlying t = some (.slice e)) (hinfo : (P.info? e).map (fun i => (i.zero, i.size, i.bytes)) = some (some z, d.sz, bytes)) (hz : z.cells.size = d.sz) (hs0 : 0 < d.sz) (hb0 : 0 < bytes)
  (W : World) (v : Value) (xs : List α) (p : α) (cs : List Value) (ok okp : Nat → Prop) (hp : d.M W 0 okp p cs) (hokp : ∀ k, okp k → ok k ∧ some k ≠ v.ownBlock) (hfresh : ∀ k, W.heap.size ≤ k → ok k) (HO : d.R e W 0 ok v xs) (hl : (xs.length + 1) * bytes ≤ 140737488355328) :
  ∃ v1 w1, (Builtin.append_ #[t, t] ty #[v, .slice (some ⟨W.heap.size, 0, none⟩) 1 1]).run P (W.alloc (.cells cs.toArray e)) = .ok v1 w1 ∧ d.R e w1 0 ok v1 (xs ++ [p]) ∧ W.grownBy w1 v.ownBlock ∧ ∃ A c, v1 = .slice A (xs.length + 1) c := by
 obtain ⟨i0, hi, hzz⟩ := Option.map_eq_some_iff.1 hinfo
 simp only [Prod.mk.injEq] at hzz
 obtain ⟨hz0, hz1, hz2⟩ := hzz
 obtain ⟨h0, inner, hown, hr⟩ := HO
 have hlen : xs.length + 1 ≤ 140737488355328 := Nat.le_trans (Nat.le_mul_of_pos_right _ hb0) hl
 have hcl := d.K_len (d.K_of_M hp)
 obtain ⟨v1, w1, hrun, hown1, hg, _, hat⟩ := run_append_own_at (P := P) (w := W.alloc (.cells cs.toArray e)) 0 t ty e i0 z d.sz bytes ht hi hz0 hz1 hz2 hz hs0 v xs.length inner (hown.alloc _) ⟨W.heap.size, 0, none⟩ 1 1 cs (by rw [hcl]; simp)
  (by simpa using World.news_of_block (cs := cs.toArray) (t := e) (fr := (0, 0)) (heap_alloc_new W (.cells cs.toArray e))) (d.K_one (d.K_of_M hp)) (by simp only [maxLen]; omega) hl (Nat.zero_le _)
 have hg2 := World.grownBy.trans (World.grownBy_alloc W (.cells cs.toArray e) v.ownBlock) hg
 have hat2 : v1.ownBlock = v.ownBlock ∨ ∃ b, v1.ownBlock = some b ∧ W.heap.size ≤ b := hat.imp id (fun q => ⟨_, q, by simp⟩)
 have hR := Kd.R_appended h0 hr hp hokp hfresh hown1 hg2 hat2
 obtain ⟨A, c, hv, _⟩ := Kd.R_reads hR
 exact ⟨v1, w1, hrun, hR, hg2, A, c, by rw [hv]; simp⟩
theorem step_goes {P : Program} {ops : Array Oper} {Q : Exit → Act → World → Prop} {oi : Oper} {N : Option Tmp} {a : Act} {w : World} {K : Act → World → Prop} {f : FuncId} {fn : Func} {ars : Array Operand} {ts : Array TypeId} (hf : P.funcs[f]? = some fn) (hname : (fn.name == "runtime.NumGoroutine") = false) (hb : fn.body.isSome = true) (args : Array Value)
  (hw : Region.wanted oi (yielded ops a.tmps) = true) (hN : oi.dst = N) (hop : oi.op = .call { callee := .value (.func f), args := ars, argTypes := ts }) (hargs : ars.map a.eval = args)
  (h : Calls P f args w fun
   | .returned v, w'' => K (a.put N v) w''
   | .panicked chain, w'' => Q (.panic chain) a w''
   | .outgrown, _ => LetsOut Q) : if Region.wanted oi (yielded ops a.tmps) = true then Oper.wp P oi a w K Q else K (a.put N undef) w := by
 have he := enters_ hf hname hb args w
 have hrun : (execOp a.eval oi).run P w = .ok (.enter f args) w := by
  unfold execOp
  simp [hop, resolve, Deferred.ofValue, invoke, Act.eval, hargs, he]
 rw [if_pos hw]
 subst hN
 unfold Oper.wp
 rw [hrun]
 exact h
theorem append_exec {P : Program} {oi : Oper} {a : Act} {w w1 : World} {T ty : TypeId} {x y : Operand} {u v r : Value} (h : (Builtin.append_ #[T, T] ty #[u, v]).run P w = .ok r w1) (hop : oi.op = .call { callee := .builtin .append, args := #[x, y], argTypes := #[T, T] }) (hty : oi.type = ty) (hx : a.eval x = u) (hy : a.eval y = v) : (execOp a.eval oi).run P w = .ok (.value r) w1 := by
 subst hty
 unfold execOp
 simp [hop, resolve, invoke, builtin, hx, hy, h]
theorem infoD : (Tryd.prog.info? 51).map (fun i => (i.zero, i.size, i.bytes)) = some (some (.agg #[.string ⟨#[]⟩, .int .i64 0]), 2, 24) := by kernel_rfl
structure Boxes (bp xb pbx xbx : Nat) (w : World) : Prop where
 p : w.heap[pbx]? = some (.cells #[.pointer (some ⟨bp, 0, none⟩)] 65 (0, 0))
 x : w.heap[xbx]? = some (.cells #[.pointer (some ⟨xb, 0, none⟩)] 107 (0, 0))
abbrev itA (f0 : Int) (nm md : ByteArray) (as_ : List Dm) : Itm := { (it0 f0 nm) with f4 := md, f5 := as_ }
def ArgsI (bp xb pbx xbx n0 : Nat) (f0 : Int) (nm md : ByteArray) (as_ : List Dm) (w : World) : Prop :=
 Boxes bp xb pbx xbx w ∧ ∃ B q, w.heap[xb]? = some (.cells (itV (itA f0 nm md as_) (.slice B as_.length q) NS NS NS NS) 58 (0, 0)) ∧ k51.R 51 w 0 (Lo n0) (.slice B as_.length q) as_
theorem set_new {w : World} {g i : Nat} {cs ds : Array Value} {T : TypeId} {fr : Nat × Nat} {v : Value} (h : w.heap[g]? = some (.cells cs T fr)) (he : cs.setIfInBounds i v = ds) : (w.setCell ⟨g, i, none⟩ v).heap[g]? = some (.cells ds T fr) := he ▸ set_heap h
abbrev InX (xb n0 : Nat) : Nat → Prop := fun k => k = xb ∨ n0 ≤ k
set_option maxHeartbeats 8000000 in
set_option maxRecDepth 100000 in
theorem arg_calls (G bp : Nat) (s : ByteArray) (A : Option Addr) (c : Nat) (l : List Tok) (begun : Int) (fv : Value) (a : Nat) (w1 : World) (h : St G bp s A c l begun fv a w1) (xb pbx xbx n0 : Nat) (hne : xb ≠ bp ∧ pbx ≠ bp ∧ xbx ≠ bp ∧ xb < n0 ∧ bp < n0 ∧ n0 ≤ pbx ∧ n0 ≤ xbx ∧ n0 ≤ w1.heap.size ∧ G ≤ xb) (f0 : Int) (nm md : ByteArray) (acc : List Dm) (hacc : acc.length ≤ 1000) (hI : ArgsI bp xb pbx xbx n0 f0 nm md acc w1) (res : PR Dm) (hres : dimP (l.drop a) = res) :
  Calls Tryd.prog 72 #[.pointer (some ⟨xbx, 0, none⟩), .pointer (some ⟨pbx, 0, none⟩)] w1 (Tells bp l (InX xb n0) w1 (fun v x w' => x = .tuple #[] ∧ ArgsI bp xb pbx xbx n0 f0 nm md (acc ++ [v]) w') res) := by
 obtain ⟨hbx, B, q, hit, hrow⟩ := hI
 have HS1 := aS h
 have HBX := aS hbx
 have HIT := aS hit
 have HRW := aS hrow
 have HNE := aS hne
 have HQ := aS hres
 have HLA := aS hacc
 have HA1 := aS (h.same (X := InX xb n0))
 have c1 : w1.cell? ⟨pbx, 0, none⟩ = some (.pointer (some ⟨bp, 0, none⟩)) := cH hbx.p 0
 have c2 : w1.cell? ⟨xbx, 0, none⟩ = some (.pointer (some ⟨xb, 0, none⟩)) := cH hbx.x 0
 have c3 : w1.cell? ⟨xb, 7, none⟩ = some (.slice B acc.length q) := cH hit 7
 clear h hbx hit hrow hne hres hacc
 have HS1d := aS (HS1.out.below (below_drew (bR _ _)))
 have hn1 : pbx ≠ xb := by have := HNE.out; omega
 have hn2 : xbx ≠ xb := by have := HNE.out; omega
 have hn3 : xb ≠ pbx := fun e => hn1 e.symm
 have hn4 : xb ≠ xbx := fun e => hn2 e.symm
 go_enter Tryd.func72, Tryd.ntmps72
 refine start_ (n := 12) (S := fun w' => w'.cell? ⟨pbx, 0, none⟩ = some (.pointer (some ⟨bp, 0, none⟩)) ∧ w'.cell? ⟨xbx, 0, none⟩ = some (.pointer (some ⟨xb, 0, none⟩)) ∧ w'.cell? ⟨xb, 7, none⟩ = some (.slice B acc.length q)) (ds := [11]) #[false, false, false, false, false, false, false, false, false, false, false, false] (by kernel_rfl) rfl rfl ⟨c1, c2, c3⟩ (fun hHeld => ?_)
 refine take_ (i := 0) (N := some 2) (v := ?_) (a' := ?_) #[true, false, false, false, false, false, false, false, false, false, false, false] rfl rfl (by kernel_rfl) (fun _ _ _ h => h) (Or.inl ⟨by rfl, ?_⟩) hHeld ?_ ?_
 rotate_left
 ·rintro w' ⟨s0, s1, s2⟩
  go_simp
  try with_reducible rfl
 rotate_left
 ·simp only [putAll, Act.put, sI, s0', s1']
  rfl
 refine take_ (i := 1) (N := some 3) (v := ?_) (a' := ?_) #[true, true, false, false, false, false, false, false, false, false, false, false] rfl rfl (by kernel_rfl) (fun _ _ _ h => h) (Or.inl ⟨by rfl, ?_⟩) hHeld ?_ ?_
 rotate_left
 ·rintro w' ⟨s0, s1, s2⟩
  go_simp
  try with_reducible rfl
 rotate_left
 ·simp only [putAll, Act.put, sI, s0', s1']
  rfl
 refine pure_ (i := 2) (N := some 4) (v := ?_) (a' := ?_) #[true, true, true, false, false, false, false, false, false, false, false, false] rfl rfl (by kernel_rfl) (fun _ _ _ h => h) (Or.inl ⟨by rfl, ?_⟩) ?_ ?_
 rotate_left
 ·intro w'
  go_simp
  try with_reducible rfl
 rotate_left
 ·simp only [putAll, Act.put, sI, s0', s1']
  rfl
 refine pure_ (i := 3) (N := some 5) (v := ?_) (a' := ?_) #[true, true, true, true, false, false, false, false, false, false, false, false] rfl rfl (by kernel_rfl) (fun _ _ _ h => h) (Or.inl ⟨by rfl, ?_⟩) ?_ ?_
 rotate_left
 ·intro w'
  go_simp
  try with_reducible rfl
 rotate_left
 ·simp only [putAll, Act.put, sI, s0', s1']
  rfl
 refine take_ (i := 4) (N := some 6) (v := ?_) (a' := ?_) #[true, true, true, true, true, false, false, false, false, false, false, false] rfl rfl (by kernel_rfl) (fun _ _ _ h => h) (Or.inl ⟨by rfl, ?_⟩) hHeld ?_ ?_
 rotate_left
 ·rintro w' ⟨s0, s1, s2⟩
  go_simp
  try with_reducible rfl
 rotate_left
 ·simp only [putAll, Act.put, sI, s0', s1']
  rfl
 refine take_ (i := 5) (N := some 7) (v := ?_) (a' := ?_) #[true, true, true, true, true, true, false, false, false, false, false, false] rfl rfl (by kernel_rfl) (fun _ _ _ h => h) (Or.inl ⟨by rfl, ?_⟩) hHeld ?_ ?_
 rotate_left
 ·rintro w' ⟨s0, s1, s2⟩
  go_simp
  try with_reducible rfl
 rotate_left
 ·simp only [putAll, Act.put, sI, s0', s1']
  rfl
 refine one_ (i := 6) (N := some 8) #[true, true, true, true, true, true, true, false, false, false, false, false] rfl rfl (by kernel_rfl) (by decide) (fun K hK => ?_)
 refine step_goes Tryd.func41 (by kernel_rfl) rfl #[.pointer (some ⟨bp, 0, none⟩)] (by rfl) rfl rfl (by (try simp only [List.map_toArray, List.map_cons, List.map_nil]); rfl) ?_
 refine calls_tells (dim_tells HS1d.out) ?_ (fun er t b a2 w' hq ht hb ha hat => And.intro rfl (tells_bad (show some (PR.bad er t) = some res by rw [← hq, HQ.out]) ht hb ha (HA1.out.drew.then_ hat)))
 rintro d r b vv w2 hq rfl hb rfl hat
 have HR := aS (show some (PR.ok d (l.drop b)) = some res by rw [← hq, HQ.out])
 have HA2 := aS (HA1.out.drew.then_ hat)
 have HS2 := aS (HS1d.out.next hat hb)
 have hbp2 := hat.obj (heap_drew HBX.out.p) HNE.out.2.1 id
 have hbx2 := hat.obj (heap_drew HBX.out.x) HNE.out.2.2.1 id
 have hit2 := hat.obj (heap_drew HIT.out) HNE.out.1 id
 have hrw2 := R_at (Kd.R_below HRW.out (below_drew (bR _ _))) hat (fun k hk => ⟨by have h1 : n0 ≤ k := hk; have := HNE.out.2.2.2.2.1; omega, id⟩)
 have hz2 : w1.heap.size ≤ w2.heap.size := hat.size
 have HBP2 := aS hbp2
 have HBX2 := aS hbx2
 have HIT2 := aS hit2
 have HRW2 := aS hrw2
 have HB2 := aS hb
 have HZ2 := aS hz2
 have z1 : w2.cell? ⟨pbx, 0, none⟩ = some (.pointer (some ⟨bp, 0, none⟩)) := cH hbp2 0
 have z2 : w2.cell? ⟨xbx, 0, none⟩ = some (.pointer (some ⟨xb, 0, none⟩)) := cH hbx2 0
 have z3 : w2.cell? ⟨xb, 7, none⟩ = some (.slice B acc.length q) := cH hit2 7
 clear hq hb hat hz2
 refine hK.out _ _ ⟨z1, z2, z3⟩ (fun hHeld => ?_)
 clear hK K
 refine norm_ (a' := ?_) ?_ ?_
 rotate_left
 ·show Act.put _ (some 8) _ = _
  simp only [putAll, Act.put, sI, s0', s1']
  rfl
 have hbr := below_alloc (bR w2.heap.size w2) (.cells #[.string d.f0, .int .i64 d.f1] 51)
 refine one_ (i := 7) (N := some 9) #[true, true, true, true, true, true, true, true, false, false, false, false] rfl rfl (by kernel_rfl) (by decide) (fun K hK => ?_)
 refine value_ (w1 := ?_) (v := ?_) (by rfl) rfl ?_ ?_
 rotate_left 2
 ·go_simp
  constructor
  ·rfl
  ·rfl
 refine hK.out _ _ ⟨cH (fbelow hbp2 hbr) 0, cH (fbelow hbx2 hbr) 0, cH (fbelow hit2 hbr) 7⟩ (fun hHeld => ?_)
 clear hK K
 refine norm_ (a' := ?_) ?_ ?_
 rotate_left
 ·show Act.put _ (some 9) _ = _
  simp only [putAll, Act.put, sI, s0', s1']
  rfl
 obtain ⟨v3, w3, hrun3, hR3, hg3, A3, q3, hv3⟩ := R_append_run (P := Tryd.prog) k51 52 52 51 (.agg #[.string ⟨#[]⟩, .int .i64 0]) 24 Tryd.underlying52 infoD rfl (by decide) (by decide) w2 (.slice B acc.length q) acc d [.string d.f0, .int .i64 d.f1] (Lo n0) (fun _ => False) (k51_mkM _ _ _ d) (fun _ hk => hk.elim) (fun k hk => by have h1 := HZ2.out; have := HNE.out; show n0 ≤ k; omega) HRW2.out (by have := HLA.out; omega)
 subst hv3
 have nb1 := Kd.R_ne hrw2 hbp2 (by decide)
 have nb2 := Kd.R_ne hrw2 hbx2 (by decide)
 have nb3 := Kd.R_ne hrw2 hit2 (by decide)
 have hlt := fun (g : Nat) (o : Obj) (h : w2.heap[g]? = some o) => (Array.getElem?_eq_some_iff.1 h).1
 have hbp3 := (hg3.block _ (hlt _ _ hbp2) nb1).trans hbp2
 have hbx3 := (hg3.block _ (hlt _ _ hbx2) nb2).trans hbx2
 have hit3 := (hg3.block _ (hlt _ _ hit2) nb3).trans hit2
 have HA3 := aS (HA2.out.grown HS2.out.lt hg3 (fun k hk => by have h1 : n0 ≤ k := hrw2.1 k hk; have := HNE.out.2.2.2.2.1; exact ⟨by omega, .inl (.inr h1)⟩))
 have HB3 := HB2
 have HBP3 := aS hbp3
 have HBX3 := aS hbx3
 have HIT3 := aS hit3
 have HRW3 := aS hR3
 refine one_ (i := 8) (N := some 10) #[true, true, true, true, true, true, true, true, true, false, false, false] rfl rfl (by kernel_rfl) (by decide) (fun K hK => ?_)
 refine value_ (w1 := w3) (v := .slice A3 (acc.length + 1) q3) (by rfl) rfl ?_ ?_
 ·exact append_exec hrun3 rfl rfl rfl rfl
 refine hK.out _ _ ⟨cH hbp3 0, cH hbx3 0, cH hit3 7⟩ (fun hHeld => ?_)
 clear hK K
 refine norm_ (a' := ?_) ?_ ?_
 rotate_left
 ·show Act.put _ (some 10) _ = _
  simp only [putAll, Act.put, sI, s0', s1']
  rfl
 refine pure_ (i := 9) (N := some 11) (v := ?_) (a' := ?_) #[true, true, true, true, true, true, true, true, true, true, false, false] rfl rfl (by kernel_rfl) (fun _ _ _ h => h) (Or.inl ⟨by rfl, ?_⟩) ?_ ?_
 rotate_left
 ·intro w'
  go_simp
  try with_reducible rfl
 rotate_left
 ·simp only [putAll, Act.put, sI, s0', s1']
  rfl
 refine pure_ (i := 10) (N := some 12) (v := ?_) (a' := ?_) #[true, true, true, true, true, true, true, true, true, true, true, false] rfl rfl (by kernel_rfl) (fun _ _ _ h => h) (Or.inl ⟨by rfl, ?_⟩) ?_ ?_
 rotate_left
 ·intro w'
  go_simp
  try with_reducible rfl
 rotate_left
 ·simp only [putAll, Act.put, sI, s0', s1']
  rfl
 have f3 := blk_frozen hit3 7
 have y3 : w3.cell? ⟨xb, 7, none⟩ = some (.slice B acc.length q) := cH hit3 7
 refine last_ (i := 11) (N := none) #[true, true, true, true, true, true, true, true, true, true, true, true] rfl rfl (by kernel_rfl) (by decide) (fun K hK => ?_)
 refine skip_ (w1 := w3.setCell ⟨xb, 7, none⟩ (.slice A3 (acc.length + 1) q3)) (by rfl) rfl ?_ ?_
 ·simp [go_sem, y3, f3]
 refine hK.out _ _ ?_
 clear hK K
 refine done_ (by kernel_rfl) ?_
 clear hbp2 hbx2 hit2 hrw2 nb1 nb2 nb3 hlt hbp3 hbx3 hit3 hR3 hg3 hbr
 all_goals
  (try go_wp2)
  have hl : (acc ++ [d]).length = acc.length + 1 := by simp
  have hit4 : (w3.setCell ⟨xb, 7, none⟩ (.slice A3 (acc.length + 1) q3)).heap[xb]? = some (.cells (itV (itA f0 nm md (acc ++ [d])) (.slice A3 (acc.length + 1) q3) NS NS NS NS) 58 (0, 0)) := set_new HIT3.out (by kernel_rfl)
  have HA4 := HA3.out.own (p := ⟨xb, 7, none⟩) (.inr (.inl rfl)) HNE.out.1 (.slice A3 (acc.length + 1) q3)
  refine bodyPost_end (results_none rfl _ _ _) rfl (tells_ok HR.out rfl HB3.out ⟨rfl, ⟨(Below.heap_setCell _ ⟨xb, 7, none⟩ _ _ hn1).trans HBP3.out, (Below.heap_setCell _ ⟨xb, 7, none⟩ _ _ hn2).trans HBX3.out⟩, A3, q3, ?_, ?_⟩ HA4)
  ·rw [hl]; exact hit4
  ·rw [hl]; exact Kd.R_far (p := ⟨xb, 7, none⟩) HRW3.out (fun k hk => by have h1 : n0 ≤ k := hk; have := HNE.out; show k ≠ xb; omega) _
structure Mv (X : Nat → Prop) (w w' : World) : Prop where
 os : w'.os = w.os
 tape : w'.tape = w.tape
 output : w'.output = w.output
 size : w.heap.size ≤ w'.heap.size
 rest : ∀ k, k < w.heap.size → ¬ X k → w'.heap[k]? = w.heap[k]?
theorem Mv.refl (X : Nat → Prop) (w : World) : Mv X w w := ⟨rfl, rfl, rfl, Nat.le_refl _, fun _ _ _ => rfl⟩
theorem Mv.then_ {X Y : Nat → Prop} {w w1 w2 : World} (h : Mv X w w1) (k : Mv Y w1 w2) (hY : ∀ i, Y i → X i ∨ w.heap.size ≤ i) : Mv X w w2 :=
 ⟨k.os.trans h.os, k.tape.trans h.tape, k.output.trans h.output, Nat.le_trans h.size k.size, fun i h1 h2 => (k.rest i (Nat.lt_of_lt_of_le h1 h.size) (fun q => (hY i q).elim h2 (fun q => by omega))).trans (h.rest i h1 h2)⟩
theorem Mv.mono {X Y : Nat → Prop} {w w' : World} (h : Mv X w w') (hx : ∀ k, X k → Y k) : Mv Y w w' := ⟨h.os, h.tape, h.output, h.size, fun k h1 h2 => h.rest k h1 (fun q => h2 (hx k q))⟩
theorem mv_below {X : Nat → Prop} {w w' : World} (h : Below w.heap.size w w') : Mv X w w' := ⟨h.os, h.tape, h.output, h.size, fun k h1 _ => h.block k h1⟩
theorem At.mv {bp b : Nat} {X : Nat → Prop} {w w' : World} (h : At bp b X w w') : Mv (fun k => k = bp ∨ X k) w w' := ⟨h.os, h.tape, h.output, h.size, fun k h1 h2 => h.rest k h1 (fun q => h2 (.inl q)) (fun q => h2 (.inr q))⟩
theorem Mv.set {X : Nat → Prop} {w w1 : World} (h : Mv X w w1) (p : Addr) (hp : X p.block ∨ w.heap.size ≤ p.block) (v : Value) : Mv X w (w1.setCell p v) :=
 ⟨h.os, h.tape, h.output, by rw [size_set]; exact h.size, fun k h1 h2 => (Below.heap_setCell _ _ _ _ (fun q => by
  rcases hp with hp | hp
  ·exact h2 (q ▸ hp)
  ·omega)).trans (h.rest k h1 h2)⟩
theorem Mv.obj {X : Nat → Prop} {w w' : World} {g : Nat} {o : Obj} (h : Mv X w w') (hg : w.heap[g]? = some o) (hx : ¬ X g) : w'.heap[g]? = some o := (h.rest g (Array.getElem?_eq_some_iff.1 hg).1 hx).trans hg
theorem Mv.row {α : Type} {d : Kd α} {e : Nat} {ok X : Nat → Prop} {w w' : World} {v : Value} {xs : List α} (h : d.R e w 0 ok v xs) (hm : Mv X w w') (hX : ∀ k, ok k → ¬ X k) : d.R e w' 0 ok v xs :=
 Kd.R_step h (fun k hk hlt => hm.rest k hlt (hX k hk))
theorem mv_grown {X : Nat → Prop} {w w1 w2 : World} {row : Option Nat} (h : Mv X w w1) (hg : w1.grownBy w2 row) (hr : ∀ k, row = some k → X k ∨ w.heap.size ≤ k) : Mv X w w2 :=
 ⟨hg.os.trans h.os, hg.tape.trans h.tape, hg.output.trans h.output, Nat.le_trans h.size hg.size, fun i h1 h2 => (hg.block i (Nat.lt_of_lt_of_le h1 h.size) (fun q => (hr i q.symm).elim h2 (fun q => by omega))).trans (h.rest i h1 h2)⟩
theorem St.move {G bp : Nat} {s : ByteArray} {A : Option Addr} {c : Nat} {l : List Tok} {begun begun2 : Int} {fv fv2 : Value} {a b : Nat} {X : Nat → Prop} {w w' : World} (h : St G bp s A c l begun fv a w) (hm : Mv X w w') (hX : ∀ k, X k → G ≤ k) (hb : b ≤ l.length)
  (hk : w'.heap[bp]? = some (.cells #[.string s, .slice A l.length c, .int .i64 b, .int .i64 begun2, fv2] 67 (0, 0))) : St G bp s A c l begun2 fv2 b w' := by
 have hs : ∀ k, k < G → w'.heap[k]? = w.heap[k]? := fun k hk => hm.rest k (Nat.lt_of_lt_of_le hk h.tab.size) (fun q => by have := hX k q; omega)
 exact ⟨hk, Kd.R_step h.toks (fun k hk _ => hs k hk), hb, h.small, h.short, h.tab.same hs, h.low⟩
theorem wr_eql (e : Int) (t : Nat) (w : World) : (binOp BinOp.eql 20 (wrongV e t) .nilIface).run Tryd.prog w = .ok (.bool false) w := by kernel_rfl
theorem wr_assert (e : Int) (t : Nat) (w : World) : (Instr.typeAssert (wrongV e t) 20 69 true).run Tryd.prog w = .ok (.tuple #[.agg #[.int .i64 e, .int .i64 t], .bool true]) w := by kernel_rfl
theorem nil_eql (w : World) : (binOp BinOp.eql 20 .nilIface .nilIface).run Tryd.prog w = .ok (.bool true) w := by kernel_rfl
def placeT (s : ByteArray) (l : List Tok) (t : Nat) : Int := if t < l.length then (looks (l.drop t)).f3 else s.size
abbrev fltT (s : ByteArray) (l : List Tok) (e : Int) (t : Nat) : Flt := ⟨e, placeT s l t, 0, 0⟩
abbrev FltR (F : Nat → Prop) (w : World) (v : Value) (fs : List Flt) : Prop := k35.R 35 w 0 F v fs
theorem infoF : (Tryd.prog.info? 35).map (fun i => (i.zero, i.size, i.bytes)) = some (some (.agg #[.int .i64 0, .int .i64 0, .int .i64 0, .int .i64 0]), 4, 32) := by kernel_rfl
set_option maxHeartbeats 8000000 in
set_option maxRecDepth 100000 in
theorem catch_wrong (G bp : Nat) (s : ByteArray) (A : Option Addr) (c : Nat) (l : List Tok) (begun : Int) (B : Option Addr) (q a : Nat) (w : World) (gw gk pbx : Nat) (e : Int) (t : Nat) (ht : t ≤ l.length) (F : Nat → Prop) (fs : List Flt) (h : St G bp s A c l begun (.slice B fs.length q) a w)
  (hw : w.heap[gw]? = some (.cells #[.int .i64 0, .int .i64 0] 69 (0, 0))) (hk : w.heap[gk]? = some (.cells #[.bool false] 4 (0, 0))) (hp : w.heap[pbx]? = some (.cells #[.pointer (some ⟨bp, 0, none⟩)] 65 (0, 0)))
  (hne : gw ≠ bp ∧ gk ≠ bp ∧ pbx ≠ bp ∧ gw ≠ gk ∧ gw ≠ pbx ∧ gk ≠ pbx ∧ G ≤ gw ∧ G ≤ gk) (hR : FltR F w (.slice B fs.length q) fs) (hF : ∀ k, F k → k ≠ bp ∧ k ≠ gw ∧ k ≠ gk ∧ k ≠ pbx ∧ G ≤ k) (hl : fs.length ≤ 1000) (older : List PanicEntry) :
  CallsD Tryd.prog 32 #[.pointer (some ⟨gw, 0, none⟩), .pointer (some ⟨gk, 0, none⟩), .pointer (some ⟨pbx, 0, none⟩)] (.panicking ({ v := wrongV e t, recovered := false } :: older)) w fun en u' w' =>
   en = .returned (.tuple #[]) ∧ u' = .panicking ({ v := wrongV e t, recovered := true } :: older) ∧ w'.heap[gw]? = some (.cells #[.int .i64 e, .int .i64 t] 69 (0, 0)) ∧ w'.heap[gk]? = some (.cells #[.bool false] 4 (0, 0)) ∧
   ∃ B2 q2, St G bp s A c l begun (.slice B2 (fs.length + 1) q2) a w' ∧ FltR (fun k => F k ∨ w.heap.size ≤ k) w' (.slice B2 (fs.length + 1) q2) (fs ++ [fltT s l e t]) ∧ Mv (fun k => k = bp ∨ k = gw ∨ k = gk ∨ F k) w w' := by
 have HS := aS h
 have HW := aS hw
 have HK := aS hk
 have HP := aS hp
 have HNE := aS hne
 have HR := aS hR
 have HF := aS hF
 have HL := aS hl
 have HT := aS ht
 clear h hw hk hp hne hR hF hl ht
 refine callsD_of_wpS Tryd.func32 rfl fun c₀ cs hu => ?_
 simp only [Tryd.ntmps32, List.size_toArray, List.length_cons, List.length_nil, Nat.reduceAdd, Nat.reduceSub, Array.replicate_succ, Array.replicate_zero, List.push_toArray, List.append_toArray, List.nil_append, List.cons_append]
 apply wpS_seq
 apply wpS_region
 simp [wpOpsS, go_sem, recoverD, hu, Exit.thenS]
 refine wpS_of_wp ?_
 have HU := aS hu
 clear hu
 have g1 : ∀ w : World, (binOp BinOp.eql 20 (.iface 69 (.agg #[.int .i64 e, .int .i64 t])) .nilIface).run Tryd.prog w = .ok (.bool false) w := wr_eql e t
 have g2 : ∀ w : World, (Instr.typeAssert (.iface 69 (.agg #[.int .i64 e, .int .i64 t])) 20 69 true).run Tryd.prog w = .ok (.tuple #[.agg #[.int .i64 e, .int .i64 t], .bool true]) w := wr_assert e t
 go_upto_region 6 with (fail)
 clear g1 g2
 have hz := (MapKept.heap_alloc w (.cells #[.int .i64 0, .int .i64 0] 69)).1
 have m0 := cH hz 0
 have m1 := cH hz 1
 have n0 := blk_frozen hz 0
 have n1 := blk_frozen hz 1
 have hsz : (w.alloc (.cells #[.int .i64 0, .int .i64 0] 69)).heap.size = w.heap.size + 1 := by show (w.heap.push _).size = _; simp
 go_upto_region 7 with (fail)
 have hb1 : Below w.heap.size w (w.alloc (.cells #[.int .i64 e, .int .i64 (t : Int)] 69)) := below_alloc (bR w.heap.size w) (.cells #[.int .i64 e, .int .i64 (t : Int)] 69)
 have hx1 : (w.alloc (.cells #[.int .i64 e, .int .i64 (t : Int)] 69)).heap[w.heap.size]? = some (.cells #[.int .i64 e, .int .i64 (t : Int)] 69 (0, 0)) := (MapKept.heap_alloc w (.cells #[.int .i64 e, .int .i64 (t : Int)] 69)).1
 have HB1 := aS hb1
 have HX1 := aS hx1
 have HZ1 := aS (show (w.alloc (.cells #[.int .i64 e, .int .i64 (t : Int)] 69)).heap.size = w.heap.size + 1 by show (w.heap.push _).size = _; simp)
 clear hz m0 m1 n0 n1 hsz hb1 hx1
 generalize w.alloc (.cells #[.int .i64 e, .int .i64 (t : Int)] 69) = w1 at *
 have x0 := cH HX1.out 0
 have x1 := cH HX1.out 1
 have hw1 := fbelow HW.out HB1.out
 have hk1 := fbelow HK.out HB1.out
 have a0 := cH hw1 0
 have a1 := cH hw1 1
 have b0 := blk_frozen hw1 0
 have b1 := blk_frozen hw1 1
 have c0 := cH hk1 0
 have d0 := blk_frozen hk1 0
 have hn1 : gw ≠ gk := HNE.out.2.2.2.1
 have hn2 : gk ≠ gw := fun q => hn1 q.symm
 go_upto_region 8 with (fail)
 have hm2 : Mv (fun k => k = gw ∨ k = gk) w (((w1.setCell ⟨gw, 0, none⟩ (.int .i64 e)).setCell ⟨gw, 1, none⟩ (.int .i64 (t : Int))).setCell ⟨gk, 0, none⟩ (.bool false)) := (((mv_below HB1.out).set ⟨gw, 0, none⟩ (.inl (.inl rfl)) _).set ⟨gw, 1, none⟩ (.inl (.inl rfl)) _).set ⟨gk, 0, none⟩ (.inl (.inr rfl)) _
 have hw2 : (((w1.setCell ⟨gw, 0, none⟩ (.int .i64 e)).setCell ⟨gw, 1, none⟩ (.int .i64 (t : Int))).setCell ⟨gk, 0, none⟩ (.bool false)).heap[gw]? = some (.cells #[.int .i64 e, .int .i64 (t : Int)] 69 (0, 0)) := (Below.heap_setCell _ ⟨gk, 0, none⟩ _ _ hn1).trans (fill2 hw1)
 have hk2 : (((w1.setCell ⟨gw, 0, none⟩ (.int .i64 e)).setCell ⟨gw, 1, none⟩ (.int .i64 (t : Int))).setCell ⟨gk, 0, none⟩ (.bool false)).heap[gk]? = some (.cells #[.bool false] 4 (0, 0)) := set_new ((Below.heap_setCell _ ⟨gw, 1, none⟩ _ _ hn2).trans ((Below.heap_setCell _ ⟨gw, 0, none⟩ _ _ hn2).trans hk1)) (by kernel_rfl)
 have hwl : gw < w.heap.size ∧ gk < w.heap.size := ⟨(Array.getElem?_eq_some_iff.1 HW.out).1, (Array.getElem?_eq_some_iff.1 HK.out).1⟩
 have hx2 : (((w1.setCell ⟨gw, 0, none⟩ (.int .i64 e)).setCell ⟨gw, 1, none⟩ (.int .i64 (t : Int))).setCell ⟨gk, 0, none⟩ (.bool false)).heap[w.heap.size]? = some (.cells #[.int .i64 e, .int .i64 (t : Int)] 69 (0, 0)) := (Below.heap_setCell _ ⟨gk, 0, none⟩ _ _ (show w.heap.size ≠ gk by omega)).trans ((Below.heap_setCell _ ⟨gw, 1, none⟩ _ _ (show w.heap.size ≠ gw by omega)).trans ((Below.heap_setCell _ ⟨gw, 0, none⟩ _ _ (show w.heap.size ≠ gw by omega)).trans HX1.out))
 have HZ2 := aS (show (((w1.setCell ⟨gw, 0, none⟩ (.int .i64 e)).setCell ⟨gw, 1, none⟩ (.int .i64 (t : Int))).setCell ⟨gk, 0, none⟩ (.bool false)).heap.size = w.heap.size + 1 by rw [size_set, size_set, size_set]; exact HZ1.out)
 have HM2 := aS hm2
 have HW2 := aS hw2
 have HK2 := aS hk2
 have HX2 := aS hx2
 have HWL := aS hwl
 have HP2 := aS (hm2.obj HP.out (fun q => q.elim (fun q => HNE.out.2.2.2.2.1 q.symm) (fun q => HNE.out.2.2.2.2.2.1 q.symm)))
 have HS2 := aS (HS.out.move hm2 (fun k q => q.elim (fun q => by rw [q]; exact HNE.out.2.2.2.2.2.2.1) (fun q => by rw [q]; exact HNE.out.2.2.2.2.2.2.2)) HS.out.room (hm2.obj HS.out.blk (fun q => q.elim (fun q => HNE.out.1 q.symm) (fun q => HNE.out.2.1 q.symm))))
 have HR2 := aS (show FltR F (((w1.setCell ⟨gw, 0, none⟩ (.int .i64 e)).setCell ⟨gw, 1, none⟩ (.int .i64 (t : Int))).setCell ⟨gk, 0, none⟩ (.bool false)) (.slice B fs.length q) fs from Mv.row HR.out hm2 (fun k hk q => q.elim (HF.out k hk).2.1 (HF.out k hk).2.2.1))
 clear x0 x1 hw1 hk1 a0 a1 b0 b1 c0 d0 hn1 hn2 hm2 hw2 hk2 hwl hx2 HB1 HX1 HZ1
 generalize ((w1.setCell ⟨gw, 0, none⟩ (.int .i64 e)).setCell ⟨gw, 1, none⟩ (.int .i64 (t : Int))).setCell ⟨gk, 0, none⟩ (.bool false) = w2 at *
 have x0 := cH HX2.out 0
 have x1 := cH HX2.out 1
 have p0 := cH HP2.out 0
 have y0 := blk_cell HS2.out.blk 0
 have y1 := blk_cell HS2.out.blk 1
 have hsm := HS2.out.small
 by_cases hlt : t < l.length
 ·have d1 : decide ((t : Int) < l.length) = true := decide_eq_true (by omega)
  have d2 : decide (t < l.length) = true := decide_eq_true hlt
  obtain ⟨ad, e0, k0, k1, k2, k3⟩ := at_T37 (Kd.R_reads' HS2.out.ps.toks).2.2 (t : Int) (by omega) (by omega)
  subst e0
  have hi0 : 0 ≤ (t : Int) := by omega
  have hi1 : (t : Int) < l.length := by omega
  simp only [Int.toNat_natCast] at k0 k1 k2 k3
  clear k0 k1 k2
  have hd : looks (l.drop t) = rd_T37 l (t : Int) := by
   unfold looks rd_T37
   rw [Int.toNat_natCast, List.drop_eq_getElem_cons hlt]
   simp [hlt]
  have HD := aS hd
  have HLT := aS hlt
  clear hd hlt
  go_upto_region 9 with (fail)
  go_region
  all_goals
   go_upto_region 10 with (fail)
   go_region
  all_goals
   go_upto_region 11 with (fail)
   have hb3 : Below w2.heap.size w2 w2.drew.drew := below_drew (below_drew (bR _ _))
   clear d1 d2 hi0 hi1 k3
   generalize w2.drew.drew = w3 at *
   have HB3 := aS hb3
   have HP3 := aS (fbelow HP2.out hb3)
   have HX3 := aS (fbelow HX2.out hb3)
   have HW3 := aS (fbelow HW2.out hb3)
   have HK3 := aS (fbelow HK2.out hb3)
   have HS3 := aS (HS2.out.below hb3)
   have HR3 := aS (show FltR F w3 (.slice B fs.length q) fs from Kd.R_below HR2.out hb3)
   clear x0 x1 p0 y0 y1 hsm hb3 HP2 HX2 HW2 HK2 HS2 HR2
   refine start_ (n := 14) (S := fun w' => w'.cell? ⟨pbx, 0, none⟩ = some (.pointer (some ⟨bp, 0, none⟩)) ∧ w'.cell? ⟨bp, 4, none⟩ = some (.slice B fs.length q) ∧ w'.cell? ⟨w.heap.size, 0, none⟩ = some (.int .i64 e)) (ds := [13]) #[false, false, false, false, false, false, false, false, false, false, false, false, false, false] (by kernel_rfl) rfl rfl ⟨cH HP3.out 0, cH HS3.out.blk 4, cH HX3.out 0⟩ (fun hHeld => ?_)
   refine take_ (i := 0) (N := some 36) (v := ?_) (a' := ?_) #[true, false, false, false, false, false, false, false, false, false, false, false, false, false] rfl rfl (by kernel_rfl) (fun _ _ _ h => h) (Or.inl ⟨by rfl, ?_⟩) hHeld ?_ ?_
   rotate_left
   ·rintro w' ⟨s0, s1, s2⟩
    go_simp
    try with_reducible rfl
   rotate_left
   ·simp only [putAll, Act.put, sI, s0', s1']
    rfl
   refine take_ (i := 1) (N := some 37) (v := ?_) (a' := ?_) #[true, true, false, false, false, false, false, false, false, false, false, false, false, false] rfl rfl (by kernel_rfl) (fun _ _ _ h => h) (Or.inl ⟨by rfl, ?_⟩) hHeld ?_ ?_
   rotate_left
   ·rintro w' ⟨s0, s1, s2⟩
    go_simp
    try with_reducible rfl
   rotate_left
   ·simp only [putAll, Act.put, sI, s0', s1']
    rfl
   refine pure_ (i := 2) (N := some 38) (v := ?_) (a' := ?_) #[true, true, true, false, false, false, false, false, false, false, false, false, false, false] rfl rfl (by kernel_rfl) (fun _ _ _ h => h) (Or.inl ⟨by rfl, ?_⟩) ?_ ?_
   rotate_left
   ·intro w'
    go_simp
    try with_reducible rfl
   rotate_left
   ·simp only [putAll, Act.put, sI, s0', s1']
    rfl
   refine pure_ (i := 3) (N := some 39) (v := ?_) (a' := ?_) #[true, true, true, true, false, false, false, false, false, false, false, false, false, false] rfl rfl (by kernel_rfl) (fun _ _ _ h => h) (Or.inl ⟨by rfl, ?_⟩) ?_ ?_
   rotate_left
   ·intro w'
    go_simp
    try with_reducible rfl
   rotate_left
   ·simp only [putAll, Act.put, sI, s0', s1']
    rfl
   refine take_ (i := 4) (N := some 40) (v := ?_) (a' := ?_) #[true, true, true, true, true, false, false, false, false, false, false, false, false, false] rfl rfl (by kernel_rfl) (fun _ _ _ h => h) (Or.inl ⟨by rfl, ?_⟩) hHeld ?_ ?_
   rotate_left
   ·rintro w' ⟨s0, s1, s2⟩
    go_simp
    try with_reducible rfl
   rotate_left
   ·simp only [putAll, Act.put, sI, s0', s1']
    rfl
   refine pure_ (i := 5) (N := some 41) (v := ?_) (a' := ?_) #[true, true, true, true, true, true, false, false, false, false, false, false, false, false] rfl rfl (by kernel_rfl) (fun _ _ _ h => h) (Or.inl ⟨by rfl, ?_⟩) ?_ ?_
   rotate_left
   ·intro w'
    go_simp
    try with_reducible rfl
   rotate_left
   ·simp only [putAll, Act.put, sI, s0', s1']
    rfl
   refine take_ (i := 6) (N := some 42) (v := ?_) (a' := ?_) #[true, true, true, true, true, true, true, false, false, false, false, false, false, false] rfl rfl (by kernel_rfl) (fun _ _ _ h => h) (Or.inl ⟨by rfl, ?_⟩) hHeld ?_ ?_
   rotate_left
   ·rintro w' ⟨s0, s1, s2⟩
    go_simp
    try with_reducible rfl
   rotate_left
   ·simp only [putAll, Act.put, sI, s0', s1']
    rfl
   refine pure_ (i := 7) (N := some 43) (v := ?_) (a' := ?_) #[true, true, true, true, true, true, true, true, false, false, false, false, false, false] rfl rfl (by kernel_rfl) (fun _ _ _ h => h) (Or.inl ⟨by rfl, ?_⟩) ?_ ?_
   rotate_left
   ·intro w'
    go_simp
    try with_reducible rfl
   rotate_left
   ·simp only [putAll, Act.put, sI, s0', s1']
    rfl
   refine pure_ (i := 8) (N := some 44) (v := ?_) (a' := ?_) #[true, true, true, true, true, true, true, true, true, false, false, false, false, false] rfl rfl (by kernel_rfl) (fun _ _ _ h => h) (Or.inl ⟨by rfl, ?_⟩) ?_ ?_
   rotate_left
   ·intro w'
    go_simp
    try with_reducible rfl
   rotate_left
   ·simp only [putAll, Act.put, sI, s0', s1']
    rfl
   have hbr := below_alloc (bR w3.drew.heap.size w3.drew) (.cells #[.int .i64 e, .int .i64 (rd_T37 l (t : Int)).f3, .int .i64 0, .int .i64 0] 35)
   refine one_ (i := 9) (N := some 45) #[true, true, true, true, true, true, true, true, true, true, false, false, false, false] rfl rfl (by kernel_rfl) (by decide) (fun K hK => ?_)
   refine value_ (w1 := ?_) (v := ?_) (by rfl) rfl ?_ ?_
   rotate_left 2
   ·go_simp
    constructor
    ·rfl
    ·rfl
   refine hK.out _ _ ⟨cH (fbelow (heap_drew HP3.out) hbr) 0, cH (fbelow (heap_drew HS3.out.blk) hbr) 4, cH (fbelow (heap_drew HX3.out) hbr) 0⟩ (fun hHeld => ?_)
   clear hK K
   refine norm_ (a' := ?_) ?_ ?_
   rotate_left
   ·show Act.put _ (some 45) _ = _
    simp only [putAll, Act.put, sI, s0', s1']
    rfl
   obtain ⟨v4, w4, hrun4, hR4, hg4, B4, q4, hv4⟩ := R_append_run (P := Tryd.prog) k35 27 27 35 (.agg #[.int .i64 0, .int .i64 0, .int .i64 0, .int .i64 0]) 32 Tryd.underlying27 infoF rfl (by decide) (by decide) w3.drew (.slice B fs.length q) fs (⟨e, (rd_T37 l (t : Int)).f3, 0, 0⟩ : Flt) [.int .i64 e, .int .i64 (rd_T37 l (t : Int)).f3, .int .i64 0, .int .i64 0] (fun k => F k ∨ w.heap.size ≤ k) (fun _ => False) (k35_mkM _ _ _ (⟨e, (rd_T37 l (t : Int)).f3, 0, 0⟩ : Flt)) (fun _ hk => hk.elim) (fun k hk => by have h1 : w3.heap.size ≤ k := hk; have h2 := HB3.out.size; have h3 := HZ2.out; exact .inr (by omega)) (Kd.R_mono (Kd.R_below HR3.out (below_drew (bR _ _))) (fun k hk => .inl hk)) (by have := HL.out; omega)
   subst hv4
   have hlt4 := fun (g : Nat) (o : Obj) (h : w3.heap[g]? = some o) => (Array.getElem?_eq_some_iff.1 h).1
   have nb0 := Kd.R_ne HR3.out HS3.out.blk (by decide)
   have nb1 := Kd.R_ne HR3.out HW3.out (by decide)
   have nb2 := Kd.R_ne HR3.out HK3.out (by decide)
   have nb3 := Kd.R_ne HR3.out HP3.out (by decide)
   have hblk4 := (hg4.block bp (hlt4 _ _ HS3.out.blk) nb0).trans (heap_drew HS3.out.blk)
   have hw4 := (hg4.block gw (hlt4 _ _ HW3.out) nb1).trans (heap_drew HW3.out)
   have hk4 := (hg4.block gk (hlt4 _ _ HK3.out) nb2).trans (heap_drew HK3.out)
   have hp4 := (hg4.block pbx (hlt4 _ _ HP3.out) nb3).trans (heap_drew HP3.out)
   have hx4 := (hg4.block w.heap.size (hlt4 _ _ HX3.out) (Kd.R_ne HR3.out HX3.out (by decide))).trans (heap_drew HX3.out)
   refine one_ (i := 10) (N := some 46) #[true, true, true, true, true, true, true, true, true, true, true, false, false, false] rfl rfl (by kernel_rfl) (by decide) (fun K hK => ?_)
   refine value_ (w1 := w4) (v := .slice B4 (fs.length + 1) q4) (by rfl) rfl ?_ ?_
   ·exact append_exec hrun4 rfl rfl rfl rfl
   refine hK.out _ _ ⟨cH hp4 0, cH hblk4 4, cH hx4 0⟩ (fun hHeld => ?_)
   clear hK K
   refine norm_ (a' := ?_) ?_ ?_
   rotate_left
   ·show Act.put _ (some 46) _ = _
    simp only [putAll, Act.put, sI, s0', s1']
    rfl
   refine pure_ (i := 11) (N := some 47) (v := ?_) (a' := ?_) #[true, true, true, true, true, true, true, true, true, true, true, true, false, false] rfl rfl (by kernel_rfl) (fun _ _ _ h => h) (Or.inl ⟨by rfl, ?_⟩) ?_ ?_
   rotate_left
   ·intro w'
    go_simp
    try with_reducible rfl
   rotate_left
   ·simp only [putAll, Act.put, sI, s0', s1']
    rfl
   refine pure_ (i := 12) (N := some 48) (v := ?_) (a' := ?_) #[true, true, true, true, true, true, true, true, true, true, true, true, true, false] rfl rfl (by kernel_rfl) (fun _ _ _ h => h) (Or.inl ⟨by rfl, ?_⟩) ?_ ?_
   rotate_left
   ·intro w'
    go_simp
    try with_reducible rfl
   rotate_left
   ·simp only [putAll, Act.put, sI, s0', s1']
    rfl
   have f4 := blk_frozen hblk4 4
   have y4 := cH hblk4 4
   refine last_ (i := 13) (N := none) #[true, true, true, true, true, true, true, true, true, true, true, true, true, true] rfl rfl (by kernel_rfl) (by decide) (fun K hK => ?_)
   refine skip_ (w1 := w4.setCell ⟨bp, 4, none⟩ (.slice B4 (fs.length + 1) q4)) (by rfl) rfl ?_ ?_
   ·simp [go_sem, y4, f4]
   refine hK.out _ _ ?_
   clear hK K
   refine done_ (by kernel_rfl) ?_
   have hm4 : Mv (fun k => k = bp ∨ k = gw ∨ k = gk ∨ F k) w w4 := mv_grown ((HM2.out.mono (fun k q => .inr (q.imp id .inl))).then_ (mv_below (X := fun _ => False) (HB3.out.trans ((below_drew (bR w3.heap.size w3)).mono HB3.out.size))) (fun _ q => q.elim)) hg4 (fun k hk => by
     have h5 := HR3.out.1 k hk
     exact .inl (.inr (.inr (.inr h5))))
   have hm5 := hm4.set ⟨bp, 4, none⟩ (.inl (.inl rfl)) (.slice B4 (fs.length + 1) q4)
   have hblk5 : (w4.setCell ⟨bp, 4, none⟩ (.slice B4 (fs.length + 1) q4)).heap[bp]? = some (.cells #[.string s, .slice (some ad) l.length c, .int .i64 a, .int .i64 begun, .slice B4 (fs.length + 1) q4] 67 (0, 0)) := set_new hblk4 (by kernel_rfl)
   simp only [Exit.then, Exit.inBlock, Act.put]
   try simp only [bodyPostS]
   refine ⟨rfl, _, rfl, .tuple #[], results_none rfl _ _ _, rfl, rfl, (Below.heap_setCell _ ⟨bp, 4, none⟩ _ _ HNE.out.1).trans hw4, (Below.heap_setCell _ ⟨bp, 4, none⟩ _ _ HNE.out.2.1).trans hk4, B4, q4, ?_, ?_, hm5⟩
   ·exact HS.out.move hm5 (fun k q => by rcases q with q | q | q | q; rw [q]; exact HS.out.low; rw [q]; exact HNE.out.2.2.2.2.2.2.1; rw [q]; exact HNE.out.2.2.2.2.2.2.2; exact (HF.out k q).2.2.2.2) HS.out.room hblk5
   ·have hpl : fltT s l e t = (⟨e, (rd_T37 l (t : Int)).f3, 0, 0⟩ : Flt) := by unfold fltT placeT; rw [if_pos HLT.out, HD.out]
    rw [hpl]
    exact Kd.R_far (p := ⟨bp, 4, none⟩) hR4 (fun k hk => by rcases hk with hk | hk; exact (HF.out k hk).1; have h1 := HS.out.lt; show k ≠ bp; omega) _
 ·have d1 : decide ((t : Int) < l.length) = false := decide_eq_false (by omega)
  have d2 : decide (t < l.length) = false := decide_eq_false hlt
  have HLT := aS hlt
  clear hlt
  go_upto_region 9 with (fail)
  go_region
  all_goals
   go_upto_region 11 with (fail)
   have hb3 : Below w2.heap.size w2 w2.drew := below_drew (bR _ _)
   clear d1 d2
   generalize w2.drew = w3 at *
   have HB3 := aS hb3
   have HP3 := aS (fbelow HP2.out hb3)
   have HX3 := aS (fbelow HX2.out hb3)
   have HW3 := aS (fbelow HW2.out hb3)
   have HK3 := aS (fbelow HK2.out hb3)
   have HS3 := aS (HS2.out.below hb3)
   have HR3 := aS (show FltR F w3 (.slice B fs.length q) fs from Kd.R_below HR2.out hb3)
   clear x0 x1 p0 y0 y1 hsm hb3 HP2 HX2 HW2 HK2 HS2 HR2
   refine start_ (n := 14) (S := fun w' => w'.cell? ⟨pbx, 0, none⟩ = some (.pointer (some ⟨bp, 0, none⟩)) ∧ w'.cell? ⟨bp, 4, none⟩ = some (.slice B fs.length q) ∧ w'.cell? ⟨w.heap.size, 0, none⟩ = some (.int .i64 e)) (ds := [13]) #[false, false, false, false, false, false, false, false, false, false, false, false, false, false] (by kernel_rfl) rfl rfl ⟨cH HP3.out 0, cH HS3.out.blk 4, cH HX3.out 0⟩ (fun hHeld => ?_)
   refine take_ (i := 0) (N := some 36) (v := ?_) (a' := ?_) #[true, false, false, false, false, false, false, false, false, false, false, false, false, false] rfl rfl (by kernel_rfl) (fun _ _ _ h => h) (Or.inl ⟨by rfl, ?_⟩) hHeld ?_ ?_
   rotate_left
   ·rintro w' ⟨s0, s1, s2⟩
    go_simp
    try with_reducible rfl
   rotate_left
   ·simp only [putAll, Act.put, sI, s0', s1']
    rfl
   refine take_ (i := 1) (N := some 37) (v := ?_) (a' := ?_) #[true, true, false, false, false, false, false, false, false, false, false, false, false, false] rfl rfl (by kernel_rfl) (fun _ _ _ h => h) (Or.inl ⟨by rfl, ?_⟩) hHeld ?_ ?_
   rotate_left
   ·rintro w' ⟨s0, s1, s2⟩
    go_simp
    try with_reducible rfl
   rotate_left
   ·simp only [putAll, Act.put, sI, s0', s1']
    rfl
   refine pure_ (i := 2) (N := some 38) (v := ?_) (a' := ?_) #[true, true, true, false, false, false, false, false, false, false, false, false, false, false] rfl rfl (by kernel_rfl) (fun _ _ _ h => h) (Or.inl ⟨by rfl, ?_⟩) ?_ ?_
   rotate_left
   ·intro w'
    go_simp
    try with_reducible rfl
   rotate_left
   ·simp only [putAll, Act.put, sI, s0', s1']
    rfl
   refine pure_ (i := 3) (N := some 39) (v := ?_) (a' := ?_) #[true, true, true, true, false, false, false, false, false, false, false, false, false, false] rfl rfl (by kernel_rfl) (fun _ _ _ h => h) (Or.inl ⟨by rfl, ?_⟩) ?_ ?_
   rotate_left
   ·intro w'
    go_simp
    try with_reducible rfl
   rotate_left
   ·simp only [putAll, Act.put, sI, s0', s1']
    rfl
   refine take_ (i := 4) (N := some 40) (v := ?_) (a' := ?_) #[true, true, true, true, true, false, false, false, false, false, false, false, false, false] rfl rfl (by kernel_rfl) (fun _ _ _ h => h) (Or.inl ⟨by rfl, ?_⟩) hHeld ?_ ?_
   rotate_left
   ·rintro w' ⟨s0, s1, s2⟩
    go_simp
    try with_reducible rfl
   rotate_left
   ·simp only [putAll, Act.put, sI, s0', s1']
    rfl
   refine pure_ (i := 5) (N := some 41) (v := ?_) (a' := ?_) #[true, true, true, true, true, true, false, false, false, false, false, false, false, false] rfl rfl (by kernel_rfl) (fun _ _ _ h => h) (Or.inl ⟨by rfl, ?_⟩) ?_ ?_
   rotate_left
   ·intro w'
    go_simp
    try with_reducible rfl
   rotate_left
   ·simp only [putAll, Act.put, sI, s0', s1']
    rfl
   refine take_ (i := 6) (N := some 42) (v := ?_) (a' := ?_) #[true, true, true, true, true, true, true, false, false, false, false, false, false, false] rfl rfl (by kernel_rfl) (fun _ _ _ h => h) (Or.inl ⟨by rfl, ?_⟩) hHeld ?_ ?_
   rotate_left
   ·rintro w' ⟨s0, s1, s2⟩
    go_simp
    try with_reducible rfl
   rotate_left
   ·simp only [putAll, Act.put, sI, s0', s1']
    rfl
   refine pure_ (i := 7) (N := some 43) (v := ?_) (a' := ?_) #[true, true, true, true, true, true, true, true, false, false, false, false, false, false] rfl rfl (by kernel_rfl) (fun _ _ _ h => h) (Or.inl ⟨by rfl, ?_⟩) ?_ ?_
   rotate_left
   ·intro w'
    go_simp
    try with_reducible rfl
   rotate_left
   ·simp only [putAll, Act.put, sI, s0', s1']
    rfl
   refine pure_ (i := 8) (N := some 44) (v := ?_) (a' := ?_) #[true, true, true, true, true, true, true, true, true, false, false, false, false, false] rfl rfl (by kernel_rfl) (fun _ _ _ h => h) (Or.inl ⟨by rfl, ?_⟩) ?_ ?_
   rotate_left
   ·intro w'
    go_simp
    try with_reducible rfl
   rotate_left
   ·simp only [putAll, Act.put, sI, s0', s1']
    rfl
   have hbr := below_alloc (bR w3.drew.heap.size w3.drew) (.cells #[.int .i64 e, .int .i64 (s.size : Int), .int .i64 0, .int .i64 0] 35)
   refine one_ (i := 9) (N := some 45) #[true, true, true, true, true, true, true, true, true, true, false, false, false, false] rfl rfl (by kernel_rfl) (by decide) (fun K hK => ?_)
   refine value_ (w1 := ?_) (v := ?_) (by rfl) rfl ?_ ?_
   rotate_left 2
   ·go_simp
    constructor
    ·rfl
    ·rfl
   refine hK.out _ _ ⟨cH (fbelow (heap_drew HP3.out) hbr) 0, cH (fbelow (heap_drew HS3.out.blk) hbr) 4, cH (fbelow (heap_drew HX3.out) hbr) 0⟩ (fun hHeld => ?_)
   clear hK K
   refine norm_ (a' := ?_) ?_ ?_
   rotate_left
   ·show Act.put _ (some 45) _ = _
    simp only [putAll, Act.put, sI, s0', s1']
    rfl
   obtain ⟨v4, w4, hrun4, hR4, hg4, B4, q4, hv4⟩ := R_append_run (P := Tryd.prog) k35 27 27 35 (.agg #[.int .i64 0, .int .i64 0, .int .i64 0, .int .i64 0]) 32 Tryd.underlying27 infoF rfl (by decide) (by decide) w3.drew (.slice B fs.length q) fs (⟨e, (s.size : Int), 0, 0⟩ : Flt) [.int .i64 e, .int .i64 (s.size : Int), .int .i64 0, .int .i64 0] (fun k => F k ∨ w.heap.size ≤ k) (fun _ => False) (k35_mkM _ _ _ (⟨e, (s.size : Int), 0, 0⟩ : Flt)) (fun _ hk => hk.elim) (fun k hk => by have h1 : w3.heap.size ≤ k := hk; have h2 := HB3.out.size; have h3 := HZ2.out; exact .inr (by omega)) (Kd.R_mono (Kd.R_below HR3.out (below_drew (bR _ _))) (fun k hk => .inl hk)) (by have := HL.out; omega)
   subst hv4
   have hlt4 := fun (g : Nat) (o : Obj) (h : w3.heap[g]? = some o) => (Array.getElem?_eq_some_iff.1 h).1
   have nb0 := Kd.R_ne HR3.out HS3.out.blk (by decide)
   have nb1 := Kd.R_ne HR3.out HW3.out (by decide)
   have nb2 := Kd.R_ne HR3.out HK3.out (by decide)
   have nb3 := Kd.R_ne HR3.out HP3.out (by decide)
   have hblk4 := (hg4.block bp (hlt4 _ _ HS3.out.blk) nb0).trans (heap_drew HS3.out.blk)
   have hw4 := (hg4.block gw (hlt4 _ _ HW3.out) nb1).trans (heap_drew HW3.out)
   have hk4 := (hg4.block gk (hlt4 _ _ HK3.out) nb2).trans (heap_drew HK3.out)
   have hp4 := (hg4.block pbx (hlt4 _ _ HP3.out) nb3).trans (heap_drew HP3.out)
   have hx4 := (hg4.block w.heap.size (hlt4 _ _ HX3.out) (Kd.R_ne HR3.out HX3.out (by decide))).trans (heap_drew HX3.out)
   refine one_ (i := 10) (N := some 46) #[true, true, true, true, true, true, true, true, true, true, true, false, false, false] rfl rfl (by kernel_rfl) (by decide) (fun K hK => ?_)
   refine value_ (w1 := w4) (v := .slice B4 (fs.length + 1) q4) (by rfl) rfl ?_ ?_
   ·exact append_exec hrun4 rfl rfl rfl rfl
   refine hK.out _ _ ⟨cH hp4 0, cH hblk4 4, cH hx4 0⟩ (fun hHeld => ?_)
   clear hK K
   refine norm_ (a' := ?_) ?_ ?_
   rotate_left
   ·show Act.put _ (some 46) _ = _
    simp only [putAll, Act.put, sI, s0', s1']
    rfl
   refine pure_ (i := 11) (N := some 47) (v := ?_) (a' := ?_) #[true, true, true, true, true, true, true, true, true, true, true, true, false, false] rfl rfl (by kernel_rfl) (fun _ _ _ h => h) (Or.inl ⟨by rfl, ?_⟩) ?_ ?_
   rotate_left
   ·intro w'
    go_simp
    try with_reducible rfl
   rotate_left
   ·simp only [putAll, Act.put, sI, s0', s1']
    rfl
   refine pure_ (i := 12) (N := some 48) (v := ?_) (a' := ?_) #[true, true, true, true, true, true, true, true, true, true, true, true, true, false] rfl rfl (by kernel_rfl) (fun _ _ _ h => h) (Or.inl ⟨by rfl, ?_⟩) ?_ ?_
   rotate_left
   ·intro w'
    go_simp
    try with_reducible rfl
   rotate_left
   ·simp only [putAll, Act.put, sI, s0', s1']
    rfl
   have f4 := blk_frozen hblk4 4
   have y4 := cH hblk4 4
   refine last_ (i := 13) (N := none) #[true, true, true, true, true, true, true, true, true, true, true, true, true, true] rfl rfl (by kernel_rfl) (by decide) (fun K hK => ?_)
   refine skip_ (w1 := w4.setCell ⟨bp, 4, none⟩ (.slice B4 (fs.length + 1) q4)) (by rfl) rfl ?_ ?_
   ·simp [go_sem, y4, f4]
   refine hK.out _ _ ?_
   clear hK K
   refine done_ (by kernel_rfl) ?_
   have hm4 : Mv (fun k => k = bp ∨ k = gw ∨ k = gk ∨ F k) w w4 := mv_grown ((HM2.out.mono (fun k q => .inr (q.imp id .inl))).then_ (mv_below (X := fun _ => False) (HB3.out.trans ((below_drew (bR w3.heap.size w3)).mono HB3.out.size))) (fun _ q => q.elim)) hg4 (fun k hk => by
     have h5 := HR3.out.1 k hk
     exact .inl (.inr (.inr (.inr h5))))
   have hm5 := hm4.set ⟨bp, 4, none⟩ (.inl (.inl rfl)) (.slice B4 (fs.length + 1) q4)
   have hblk5 : (w4.setCell ⟨bp, 4, none⟩ (.slice B4 (fs.length + 1) q4)).heap[bp]? = some (.cells #[.string s, .slice A l.length c, .int .i64 a, .int .i64 begun, .slice B4 (fs.length + 1) q4] 67 (0, 0)) := set_new hblk4 (by kernel_rfl)
   simp only [Exit.then, Exit.inBlock, Act.put]
   try simp only [bodyPostS]
   refine ⟨rfl, _, rfl, .tuple #[], results_none rfl _ _ _, rfl, rfl, (Below.heap_setCell _ ⟨bp, 4, none⟩ _ _ HNE.out.1).trans hw4, (Below.heap_setCell _ ⟨bp, 4, none⟩ _ _ HNE.out.2.1).trans hk4, B4, q4, ?_, ?_, hm5⟩
   ·exact HS.out.move hm5 (fun k q => by rcases q with q | q | q | q; rw [q]; exact HS.out.low; rw [q]; exact HNE.out.2.2.2.2.2.2.1; rw [q]; exact HNE.out.2.2.2.2.2.2.2; exact (HF.out k q).2.2.2.2) HS.out.room hblk5
   ·have hpl : fltT s l e t = (⟨e, (s.size : Int), 0, 0⟩ : Flt) := by unfold fltT placeT; rw [if_neg HLT.out]
    rw [hpl]
    exact Kd.R_far (p := ⟨bp, 4, none⟩) hR4 (fun k hk => by rcases hk with hk | hk; exact (HF.out k hk).1; have h1 := HS.out.lt; show k ≠ bp; omega) _
theorem catch_idle (gw gk pbx : Nat) (w : World) :
  CallsD Tryd.prog 32 #[.pointer (some ⟨gw, 0, none⟩), .pointer (some ⟨gk, 0, none⟩), .pointer (some ⟨pbx, 0, none⟩)] .returning w fun en u' w' => en = .returned (.tuple #[]) ∧ u' = .returning ∧ w' = w := by
 refine callsD_of_wpS Tryd.func32 rfl fun c₀ cs hu => ?_
 simp only [Tryd.ntmps32, List.size_toArray, List.length_cons, List.length_nil, Nat.reduceAdd, Nat.reduceSub, Array.replicate_succ, Array.replicate_zero, List.push_toArray, List.append_toArray, List.nil_append, List.cons_append]
 apply wpS_seq
 apply wpS_region
 simp [wpOpsS, go_sem, recoverD, hu, Exit.thenS]
 refine wpS_of_wp ?_
 have HU := aS hu
 clear hu
 have g1 := nil_eql
 go_wp2
 have hu := HU.out
 clear HU
 cases c₀
 simp_all [bodyPostS, results, Tryd.results32]
set_option maxHeartbeats 8000000 in
set_option maxRecDepth 100000 in
theorem guarded_calls (G bp : Nat) (s : ByteArray) (A : Option Addr) (c : Nat) (l : List Tok) (begun : Int) (fv : Value) (a : Nat) (w : World) (F : Nat → Prop) (h : St G bp s A c l begun fv a w) (hF : ∀ k, F k → k ≠ bp ∧ G ≤ k ∧ k < w.heap.size)
  (X : Nat → Prop) (hX : ∀ k, X k → k < w.heap.size) (fn : Nat) (cap : Array Value) (hfn : ∀ w : World, (callFunc fn cap).run Tryd.prog w = .ok (.enter fn cap) w) (OK : World → World → Prop) (Bad : World → World → Int → Nat → Nat → Int → List Flt → (Nat → Prop) → Prop)
  (hread : ∀ w1, Below w.heap.size w w1 → w1.heap.size = w.heap.size + 3 → Calls Tryd.prog fn cap w1 fun e w2 => (e = .returned (.tuple #[]) ∧ OK w1 w2 ∧ Mv X w1 w2) ∨ ∃ (er : Int) (b a2 : Nat) (begun2 : Int) (B2 : Option Addr) (q2 : Nat) (fs2 : List Flt) (F2 : Nat → Prop), e = gaveUp er b ∧ b ≤ l.length ∧ St G bp s A c l begun2 (.slice B2 fs2.length q2) a2 w2 ∧ FltR F2 w2 (.slice B2 fs2.length q2) fs2 ∧ (∀ k, F2 k → F k ∨ w1.heap.size ≤ k) ∧ fs2.length ≤ 1000 ∧ Mv X w1 w2 ∧ Bad w1 w2 er b a2 begun2 fs2 F2) :
  Calls Tryd.prog 22 #[.pointer (some ⟨bp, 0, none⟩), .func (.func fn) #[] cap] w fun e w' =>
   (e = .returned (.tuple #[.agg #[.int .i64 0, .int .i64 0], .bool true]) ∧ ∃ w1 w2, Below w.heap.size w w1 ∧ w1.heap.size = w.heap.size + 3 ∧ OK w1 w2 ∧ Mv X w1 w2 ∧ Mv (fun k => w.heap.size ≤ k ∧ k < w1.heap.size) w2 w') ∨
   ∃ (er : Int) (b a2 : Nat) (begun2 : Int) (fs2 : List Flt) (F2 : Nat → Prop) (B3 : Option Addr) (q3 : Nat) (w1 w2 : World), e = .returned (.tuple #[.agg #[.int .i64 er, .int .i64 b], .bool false]) ∧ b ≤ l.length ∧ Below w.heap.size w w1 ∧ w1.heap.size = w.heap.size + 3 ∧ Mv X w1 w2 ∧ Bad w1 w2 er b a2 begun2 fs2 F2 ∧
    St G bp s A c l begun2 (.slice B3 (fs2.length + 1) q3) a2 w' ∧ FltR (fun k => F2 k ∨ w2.heap.size ≤ k) w' (.slice B3 (fs2.length + 1) q3) (fs2 ++ [fltT s l er b]) ∧ (∀ k, F2 k → F k ∨ w1.heap.size ≤ k) ∧ Mv (fun k => k = bp ∨ F2 k ∨ w.heap.size ≤ k ∧ k < w1.heap.size) w2 w' := by
 have HS := aS h
 have HF := aS hF
 have HX := aS hX
 have HRD := aS hread
 have hmf : ∀ (fn : Fn) (first cap : Array Value) (w : World), (Instr.makeFunc fn first cap).run Tryd.prog w = .ok (.func fn first cap) w := fun _ _ _ _ => rfl
 have hGw : G ≤ w.heap.size := h.tab.size
 have hbw := h.lt
 have HGW := aS hGw
 have HBW := aS hbw
 clear h hF hX hread hGw hbw
 go_enter_defers Tryd.func22, Tryd.ntmps22
 go_upto_region 2 with (fail)
 have hb1 : Below w.heap.size w (((w.alloc (.cells #[.pointer (some ⟨bp, 0, none⟩)] 65)).alloc (.cells #[.int .i64 0, .int .i64 0] 69)).alloc (.cells #[.bool false] 4)) := below_alloc (below_alloc (below_alloc (bR w.heap.size w) (.cells #[.pointer (some ⟨bp, 0, none⟩)] 65)) (.cells #[.int .i64 0, .int .i64 0] 69)) (.cells #[.bool false] 4)
 have hz1 : (w.alloc (.cells #[.pointer (some ⟨bp, 0, none⟩)] 65)).heap.size = w.heap.size + 1 := by show (w.heap.push _).size = _; simp
 have hz2 : ((w.alloc (.cells #[.pointer (some ⟨bp, 0, none⟩)] 65)).alloc (.cells #[.int .i64 0, .int .i64 0] 69)).heap.size = w.heap.size + 1 + 1 := by show ((w.heap.push _).push _).size = _; simp
 have hz3 : (((w.alloc (.cells #[.pointer (some ⟨bp, 0, none⟩)] 65)).alloc (.cells #[.int .i64 0, .int .i64 0] 69)).alloc (.cells #[.bool false] 4)).heap.size = w.heap.size + 3 := by show (((w.heap.push _).push _).push _).size = _; simp
 have hp1 := fbelow (fbelow (MapKept.heap_alloc w (.cells #[.pointer (some ⟨bp, 0, none⟩)] 65)).1 (below_alloc (bR _ (w.alloc (.cells #[.pointer (some ⟨bp, 0, none⟩)] 65))) (.cells #[.int .i64 0, .int .i64 0] 69))) (below_alloc (bR _ ((w.alloc (.cells #[.pointer (some ⟨bp, 0, none⟩)] 65)).alloc (.cells #[.int .i64 0, .int .i64 0] 69))) (.cells #[.bool false] 4))
 have hw1 := fbelow (MapKept.heap_alloc (w.alloc (.cells #[.pointer (some ⟨bp, 0, none⟩)] 65)) (.cells #[.int .i64 0, .int .i64 0] 69)).1 (below_alloc (bR _ ((w.alloc (.cells #[.pointer (some ⟨bp, 0, none⟩)] 65)).alloc (.cells #[.int .i64 0, .int .i64 0] 69))) (.cells #[.bool false] 4))
 have hk1 := (MapKept.heap_alloc ((w.alloc (.cells #[.pointer (some ⟨bp, 0, none⟩)] 65)).alloc (.cells #[.int .i64 0, .int .i64 0] 69)) (.cells #[.bool false] 4)).1
 rw [hz1] at hw1
 rw [hz2] at hk1
 have HB1 := aS hb1
 have HZ1 := aS hz3
 have HP1 := aS hp1
 have HW1 := aS hw1
 have HK1 := aS hk1
 clear hb1 hz1 hz2 hz3 hp1 hw1 hk1 hmf
 generalize ((w.alloc (.cells #[.pointer (some ⟨bp, 0, none⟩)] 65)).alloc (.cells #[.int .i64 0, .int .i64 0] 69)).alloc (.cells #[.bool false] 4) = w1 at *
 generalize hgw : w.heap.size + 1 = gw at *
 generalize hgk : gw + 1 = gk at *
 have HGE := aS (And.intro hgw hgk)
 clear hgw hgk
 go_upto_region 3 with (refine (HRD.out w1 HB1.out HZ1.out).mono ?_; rintro e w2 (⟨rfl, hok, hm⟩ | ⟨er, b, a2, begun2, B2, q2, fs2, F2, rfl, hb, hst, hfr, hf2, hl2, hm, hbad⟩))
 ·have hxo : ∀ k, w.heap.size ≤ k → ¬ X k := fun k hk q => by have := HX.out k q; omega
  have hge := HGE.out
  have hw2 := hm.obj HW1.out (hxo _ (by omega))
  have hk2 := hm.obj HK1.out (hxo _ (by omega))
  have HXO := aS hxo
  have HW2 := aS hw2
  have HK2 := aS hk2
  have HOK := aS hok
  have HM := aS hm
  have a0 := cH hw2 0
  have a1 := cH hw2 1
  have b0 := blk_frozen hw2 0
  have b1 := blk_frozen hw2 1
  have c0 := cH hk2 0
  have d0 := blk_frozen hk2 0
  have hn1 : gw ≠ gk := by omega
  have hn2 : gk ≠ gw := by omega
  clear hxo hge hw2 hk2 hok hm
  go_wp2
  refine leaves_cons (f := 32) (args := #[.pointer (some ⟨gw, 0, none⟩), .pointer (some ⟨gk, 0, none⟩), .pointer (some ⟨w.heap.size, 0, none⟩)]) (by simp) (by simp [go_sem]) ?_
  refine (catch_idle _ _ _ _).mono ?_
  rintro e u' w'' ⟨rfl, rfl, rfl⟩
  have hw3 : (((w2.setCell ⟨gw, 0, none⟩ (.int .i64 0)).setCell ⟨gw, 1, none⟩ (.int .i64 0)).setCell ⟨gk, 0, none⟩ (.bool true)).heap[gw]? = some (.cells #[.int .i64 0, .int .i64 0] 69 (0, 0)) := (Below.heap_setCell _ ⟨gk, 0, none⟩ _ _ hn1).trans (fill2 HW2.out)
  have hk3 : (((w2.setCell ⟨gw, 0, none⟩ (.int .i64 0)).setCell ⟨gw, 1, none⟩ (.int .i64 0)).setCell ⟨gk, 0, none⟩ (.bool true)).heap[gk]? = some (.cells #[.bool true] 4 (0, 0)) := set_new ((Below.heap_setCell _ ⟨gw, 1, none⟩ _ _ hn2).trans ((Below.heap_setCell _ ⟨gw, 0, none⟩ _ _ hn2).trans HK2.out)) (by kernel_rfl)
  have hge := HGE.out
  have hz1 := HZ1.out
  have hin : ∀ k, k = gw ∨ k = gk → w.heap.size ≤ k ∧ k < w1.heap.size := fun k hk => by omega
  have hm3 : Mv (fun k => w.heap.size ≤ k ∧ k < w1.heap.size) w2 (((w2.setCell ⟨gw, 0, none⟩ (.int .i64 0)).setCell ⟨gw, 1, none⟩ (.int .i64 0)).setCell ⟨gk, 0, none⟩ (.bool true)) := (((Mv.refl _ w2).set ⟨gw, 0, none⟩ (.inl (hin gw (.inl rfl))) _).set ⟨gw, 1, none⟩ (.inl (hin gw (.inl rfl))) _).set ⟨gk, 0, none⟩ (.inl (hin gk (.inr rfl))) _
  clear a0 a1 b0 b1 c0 d0 hin
  generalize (((w2.setCell ⟨gw, 0, none⟩ (.int .i64 0)).setCell ⟨gw, 1, none⟩ (.int .i64 0)).setCell ⟨gk, 0, none⟩ (.bool true)) = w3 at *
  have g0 := cH hw3 0
  have g1 := cH hw3 1
  have g2 := cH hk3 0
  clear hw3 hk3
  show ∃ v, (results _ _).run _ _ = .ok v _ ∧ _
  refine ⟨.tuple #[.agg #[.int .i64 0, .int .i64 0], .bool true], ?_, Or.inl ⟨rfl, w1, w2, HB1.out, HZ1.out, HOK.out, HM.out, hm3⟩⟩
  simp [results, Tryd.results22, go_sem, g0, g1, g2]
 ·have hxo : ∀ k, w.heap.size ≤ k → ¬ X k := fun k hk q => by have := HX.out k q; omega
  have hge := HGE.out
  have hz1 := HZ1.out
  have hgw0 := HGW.out
  have hbw0 := HBW.out
  have hw2 := hm.obj HW1.out (hxo _ (by omega))
  have hk2 := hm.obj HK1.out (hxo _ (by omega))
  have hp2 := hm.obj HP1.out (hxo _ (by omega))
  have hF2 : ∀ k, F2 k → k ≠ bp ∧ k ≠ gw ∧ k ≠ gk ∧ k ≠ w.heap.size ∧ G ≤ k := fun k hk => by
   rcases hf2 k hk with h1 | h1
   ·have h2 := HF.out k h1
    exact ⟨h2.1, by omega, by omega, by omega, h2.2.1⟩
   ·exact ⟨by omega, by omega, by omega, by omega, by omega⟩
  refine leaves_cons (f := 32) (args := #[.pointer (some ⟨gw, 0, none⟩), .pointer (some ⟨gk, 0, none⟩), .pointer (some ⟨w.heap.size, 0, none⟩)]) (by simp) (by simp [go_sem]) ?_
  refine (catch_wrong G bp s A c l begun2 B2 q2 a2 w2 gw gk w.heap.size er b hb F2 fs2 hst hw2 hk2 hp2 ⟨by omega, by omega, by omega, by omega, by omega, by omega, by omega, by omega⟩ hfr hF2 hl2 []).mono ?_
  rintro e u' w' ⟨rfl, rfl, hw', hk', B3, q3, hst', hfr', hm'⟩
  have g0 := cH hw' 0
  have g1 := cH hw' 1
  have g2 := cH hk' 0
  have hm4 : Mv (fun k => k = bp ∨ F2 k ∨ w.heap.size ≤ k ∧ k < w1.heap.size) w2 w' := hm'.mono (fun k hk => by
   rcases hk with hk | hk | hk | hk
   ·exact .inl hk
   ·exact .inr (.inr ⟨by omega, by omega⟩)
   ·exact .inr (.inr ⟨by omega, by omega⟩)
   ·exact .inr (.inl hk))
  show ∃ v, (results _ _).run _ _ = .ok v _ ∧ _
  refine ⟨.tuple #[.agg #[.int .i64 er, .int .i64 b], .bool false], ?_, Or.inr ⟨er, b, a2, begun2, fs2, F2, B3, q3, w1, w2, rfl, hb, HB1.out, hz1, hm, hbad, hst', hfr', hf2, hm4⟩⟩
  clear hw' hk' hst' hfr' hm' hm4 hF2 hw2 hk2 hp2 hbad hst hfr hf2 hm hxo
  simp [results, Tryd.results22, go_sem, g0, g1, g2]
end Go.Proofs.YtenogedclignmaaDoor.Q
