/-
  HELPER.
-/
import Derived.Test.YtenogedclignmaaDoorPlKA
import Derived.WalkLawsBesides
import Derived.Recover
import Derived.Defers
import Derived.Test.YtenogedclignmaaDoorRows
import Derived.Maps.Own
import Derived.Maps.OwnOps
import Derived.Maps.OwnSet
import Derived.Test.YtenogedclignmaaDoorPlK0
set_option linter.unusedVariables false
set_option linter.unusedSimpArgs false
namespace Go.Proofs.YtenogedclignmaaDoor.Q
open Go.RowKit Go.Proofs.YtenogedclignmaaDoorW.PrintWords Go.Proofs.YtenogedclignmaaDoorW.PrintLast Go.Proofs.YtenogedclignmaaDoorW.PrintMore
abbrev Tok := S37
abbrev Dm := S51
abbrev Ex := S56
abbrev Prt := S64
abbrev Bnd := S79
abbrev Itm := S58
abbrev Mdl := S47
abbrev Flt := S35
inductive PR (α : Type) where
 | ok (v : α) (r : List Tok)
 | bad (e : Int) (r : List Tok)
def andThen {α β : Type} (x : Option (PR α)) (f : α → List Tok → Option (PR β)) : Option (PR β) :=
 match x with
 | none => none
 | some (.bad e r) => some (.bad e r)
 | some (.ok v r) => f v r
def zTok : Tok := ⟨0, ⟨#[]⟩, 0, 0⟩
def looks (r : List Tok) : Tok := r.headD zTok
def txt (t : Tok) : List UInt8 := t.f1.data.toList
def failP {α : Type} (e : Int) : List Tok → PR α
 | [] => .bad 21 []
 | t :: r => .bad e (t :: r)
def takeP (x : List UInt8) : List Tok → Option (List Tok)
 | [] => none
 | t :: r => if txt t = x then some r else none
def needP (x : List UInt8) (r : List Tok) : PR Unit :=
 match takeP x r with
 | some r' => .ok () r'
 | none => failP 20 r
def kModule : List UInt8 := [109, 111, 100, 117, 108, 101]
def kIn : List UInt8 := [105, 110]
def kIf : List UInt8 := [105, 102]
def kAny : List UInt8 := [97, 110, 121]
def kAll : List UInt8 := [97, 108, 108]
def kPast : List UInt8 := [112, 97, 115, 116]
def kAt : List UInt8 := [97, 116]
def kWire : List UInt8 := [119, 105, 114, 101]
def kReg : List UInt8 := [114, 101, 103]
def kNext : List UInt8 := [110, 101, 120, 116]
def kOut : List UInt8 := [111, 117, 116]
def kMem : List UInt8 := [109, 101, 109]
def kPut : List UInt8 := [112, 117, 116]
def kInst : List UInt8 := [105, 110, 115, 116]
def kAssert : List UInt8 := [97, 115, 115, 101, 114, 116]
def kAssume : List UInt8 := [97, 115, 115, 117, 109, 101]
def kCover : List UInt8 := [99, 111, 118, 101, 114]
def keptL : List (List UInt8 × Int) := [(kAll, 0), (kAny, 0), (kAssert, 8), (kAssume, 9), (kAt, 0), (kCover, 10), (kIf, 0), (kIn, 0), (kInst, 7), (kMem, 5), (kModule, 0), (kNext, 3), (kOut, 4), (kPast, 0), (kPut, 6), (kReg, 2), (kWire, 1)]
def keptV (x : List UInt8) : Int := (keptL.lookup x).getD 0
def wordP (x : List UInt8) : Bool := (keptL.lookup x).isSome
def levelL : Nat → List (List UInt8 × Int)
 | 0 => [([124], 7)]
 | 1 => [([94], 8)]
 | 2 => [([38], 6)]
 | 3 => [([33, 61], 13), ([60], 14), ([60, 61], 15), ([61, 61], 12)]
 | 4 => [([43], 9), ([45], 10)]
 | 5 => [([42], 11)]
 | _ => []
def levelV (n : Nat) (x : List UInt8) : Int := ((levelL n).lookup x).getD 0
def wordsL : List (List UInt8 × Int) := [(kAll, 5), (kAny, 4), (kAt, 19), (kPast, 20)]
mutual
def deepE : Ex → Nat
 | ⟨_, _, _, _, _, _, ks⟩ => deepL ks
def deepL : List Ex → Nat
 | [] => 0
 | k :: ks => max (1 + deepE k) (deepL ks)
end
def zDm : Dm := ⟨⟨#[]⟩, 0⟩
def zEx : Ex := ⟨0, zDm, zDm, zDm, zDm, ⟨#[]⟩, []⟩
def exK (op : Int) (ks : List Ex) : Ex := ⟨op, zDm, zDm, zDm, zDm, ⟨#[]⟩, ks⟩
def exCut (hi lo : Dm) (a : Ex) : Ex := ⟨18, zDm, zDm, hi, lo, ⟨#[]⟩, [a]⟩
def exLit (wid val : Dm) : Ex := ⟨1, val, wid, zDm, zDm, ⟨#[]⟩, []⟩
def exRef (nm : ByteArray) : Ex := ⟨2, zDm, zDm, zDm, zDm, nm, []⟩
def exRead (nm : ByteArray) (a : Ex) : Ex := ⟨19, zDm, zDm, zDm, zDm, nm, [a]⟩
def nameP (r : List Tok) : PR ByteArray := if (looks r).f0 = 1 ∧ wordP (txt (looks r)) = false then .ok (looks r).f1 r.tail else failP 20 r
def numberP (r : List Tok) : PR Int := if (looks r).f0 = 2 then .ok (looks r).f2 r.tail else failP 20 r
def singleP (r : List Tok) : PR Dm :=
 if (looks r).f0 = 2 then
  match numberP r with
  | .ok n r1 => .ok ⟨⟨#[]⟩, n⟩ r1
  | .bad e t => .bad e t
 else
  match nameP r with
  | .ok s r1 => .ok ⟨s, 0⟩ r1
  | .bad e t => .bad e t
def dimP (r : List Tok) : PR Dm :=
 match singleP r with
 | .bad e t => .bad e t
 | .ok d r1 =>
  if d.f0.data.toList = [] then .ok d r1 else
  match takeP [43] r1 with
  | none => .ok d r1
  | some r2 =>
   match numberP r2 with
   | .ok n r3 => .ok ⟨d.f0, n⟩ r3
   | .bad e t => .bad e t
def listP {α : Type} (stop : List UInt8) (one : List Tok → Option (PR α)) : Nat → List α → List Tok → Option (PR (List α))
 | 0, _, r => some (failP 2 r)
 | m + 1, acc, r => andThen (one r) fun v r1 =>
  match takeP [44] r1 with
  | some r2 => listP stop one m (acc ++ [v]) r2
  | none =>
   match needP stop r1 with
   | .ok _ r2 => some (.ok (acc ++ [v]) r2)
   | .bad e t => some (.bad e t)
def madeP (at_ : List Tok) (e : Ex) (r : List Tok) : Option (PR Ex) := some (if deepE e > 8 then failP 2 at_ else .ok e r)
def plainP (r : List Tok) : PR Ex :=
 match singleP r with
 | .bad e t => .bad e t
 | .ok d r1 =>
  if (looks r).f0 = 2 ∨ txt (looks r1) = [39] then
   match needP [39] r1 with
   | .bad e t => .bad e t
   | .ok _ r2 =>
    match singleP r2 with
    | .ok v r3 => .ok (exLit d v) r3
    | .bad e t => .bad e t
  else
   match takeP [46] r1 with
   | none => .ok (exRef d.f0) r1
   | some r2 =>
    match nameP r2 with
    | .ok s r3 => .ok (exRef (d.f0 ++ ((⟨#[46]⟩ : ByteArray) ++ s))) r3
    | .bad e t => .bad e t
def opP (lev : Nat) (t : Tok) : Int := if t.f0 = 3 then levelV lev (txt t) else 0
mutual
def betweenP : Nat → Nat → List Tok → Option (PR Ex)
 | 0, _, _ => none
 | k + 1, lev, r => if lev = 6 then unaryP k r else andThen (betweenP k (lev + 1) r) fun a r1 => loopP k lev a r1
def loopP : Nat → Nat → Ex → List Tok → Option (PR Ex)
 | 0, _, _, _ => none
 | k + 1, lev, a, r =>
  if opP lev (looks r) = 0 then some (.ok a r) else
  andThen (betweenP k (lev + 1) r.tail) fun b r1 => andThen (madeP r (exK (opP lev (looks r)) [a, b]) r1) fun a' r2 =>
   if lev = 3 then some (.ok a' r2) else loopP k lev a' r2
def exprP : Nat → List Tok → Option (PR Ex)
 | 0, _ => none
 | k + 1, r => andThen (betweenP k 0 r) fun a r1 =>
  match takeP [63] r1 with
  | none => some (.ok a r1)
  | some r2 => andThen (exprP k r2) fun b r3 => andThen (some (needP [58] r3)) fun _ r4 => andThen (exprP k r4) fun c r5 => madeP r1 (exK 16 [a, b, c]) r5
def unaryP : Nat → List Tok → Option (PR Ex)
 | 0, _ => none
 | k + 1, r =>
  match takeP [126] r with
  | some r1 => andThen (unaryP k r1) fun a r2 => madeP r (exK 3 [a]) r2
  | none => andThen (primaryP k r) fun a r1 => cutsP k a r1
def cutsP : Nat → Ex → List Tok → Option (PR Ex)
 | 0, _, _ => none
 | k + 1, a, r =>
  match takeP [91] r with
  | none => some (.ok a r)
  | some r1 => andThen (some (dimP r1)) fun hi r2 =>
   match takeP [58] r2 with
   | some r3 => andThen (some (dimP r3)) fun lo r4 => andThen (some (needP [93] r4)) fun _ r5 => andThen (madeP r (exCut hi lo a) r5) fun a' r6 => cutsP k a' r6
   | none => andThen (some (needP [93] r2)) fun _ r5 => andThen (madeP r (exCut hi hi a) r5) fun a' r6 => cutsP k a' r6
def primaryP : Nat → List Tok → Option (PR Ex)
 | 0, _ => none
 | k + 1, r =>
  if (looks r).f0 = 2 ∨ (looks r).f0 = 1 ∧ wordP (txt (looks r)) = false then some (plainP r) else
  match takeP [40] r with
  | some r1 => andThen (exprP k r1) fun a r2 => andThen (some (needP [41] r2)) fun _ r3 => some (.ok a r3)
  | none =>
   match takeP [123] r with
   | some r1 => andThen (exprP k r1) fun a r2 => andThen (some (needP [44] r2)) fun _ r3 => andThen (exprP k r3) fun b r4 => andThen (some (needP [125] r4)) fun _ r5 => madeP r (exK 17 [a, b]) r5
   | none =>
    match wordsL.lookup (txt (looks r)) with
    | none => some (failP 20 r)
    | some op => andThen (some (needP [40] r.tail)) fun _ r1 =>
     if op = 19 then andThen (some (nameP r1)) fun nm r2 => andThen (some (needP [44] r2)) fun _ r3 => andThen (exprP k r3) fun a r4 => andThen (some (needP [41] r4)) fun _ r5 => madeP r (exRead nm a) r5
     else andThen (exprP k r1) fun a r4 => andThen (some (needP [41] r4)) fun _ r5 => madeP r (exK op [a]) r5
end
def zItm : Itm := ⟨0, ⟨#[]⟩, zDm, zDm, ⟨#[]⟩, [], [], zEx, zEx, zEx⟩
def bindP (k : Nat) (r : List Tok) : Option (PR Bnd) := andThen (some (nameP r)) fun nm r1 => andThen (some (needP [58] r1)) fun _ r2 => andThen (exprP k r2) fun e r3 => some (.ok ⟨nm, e⟩ r3)
def wireP (k : Nat) (x : Itm) (r : List Tok) : Option (PR Itm) := andThen (some (needP [58] r)) fun _ r1 => andThen (some (dimP r1)) fun d r2 => andThen (some (needP [61] r2)) fun _ r3 => andThen (exprP k r3) fun e r4 => some (.ok { x with f2 := d, f7 := e } r4)
def regP (x : Itm) (r : List Tok) : Option (PR Itm) := andThen (some (needP [58] r)) fun _ r1 => andThen (some (dimP r1)) fun d r2 => andThen (some (needP [61] r2)) fun _ r3 => andThen (some (dimP r3)) fun v r4 => some (.ok { x with f2 := d, f3 := v } r4)
def memP (x : Itm) (r : List Tok) : Option (PR Itm) := andThen (some (needP [91] r)) fun _ r1 => andThen (some (dimP r1)) fun v r2 => andThen (some (needP [93] r2)) fun _ r3 => andThen (some (needP [58] r3)) fun _ r4 => andThen (some (dimP r4)) fun d r5 => some (.ok { x with f2 := d, f3 := v } r5)
def putP (k : Nat) (x : Itm) (r : List Tok) : Option (PR Itm) := andThen (some (needP [91] r)) fun _ r1 => andThen (exprP k r1) fun a r2 => andThen (some (needP [93] r2)) fun _ r3 => andThen (some (needP [61] r3)) fun _ r4 => andThen (exprP k r4) fun e r5 => andThen (some (needP kIf r5)) fun _ r6 => andThen (exprP k r6) fun i r7 => some (.ok { x with f7 := e, f8 := a, f9 := i } r7)
def getsP (k : Nat) (x : Itm) (r : List Tok) : Option (PR Itm) := andThen (some (needP [61] r)) fun _ r1 => andThen (exprP k r1) fun e r2 => some (.ok { x with f7 := e } r2)
def saysP (k : Nat) (x : Itm) (r : List Tok) : Option (PR Itm) := andThen (some (needP [58] r)) fun _ r1 => andThen (exprP k r1) fun e r2 => some (.ok { x with f7 := e } r2)
def argsP (r : List Tok) : Option (PR (List Dm)) :=
 match takeP [60] r with
 | none => some (.ok [] r)
 | some r1 => listP [62] (fun r => some (dimP r)) 4 [] r1
def bindsP (k : Nat) (r : List Tok) : Option (PR (List Bnd)) :=
 match takeP [41] r with
 | some r1 => some (.ok [] r1)
 | none => listP [41] (bindP k) 16 [] r
def instP (k : Nat) (x : Itm) (r : List Tok) : Option (PR Itm) := andThen (some (nameP r)) fun md r1 => andThen (argsP r1) fun as_ r2 => andThen (some (needP [40] r2)) fun _ r3 => andThen (bindsP k r3) fun bs r4 => some (.ok { x with f4 := md, f5 := as_, f6 := bs } r4)
def partsP (k : Nat) (x : Itm) (r : List Tok) : Option (PR Itm) :=
 if x.f0 = 1 then wireP k x r else if x.f0 = 2 then regP x r else if x.f0 = 3 then getsP k x r else if x.f0 = 4 then getsP k x r else if x.f0 = 5 then memP x r else if x.f0 = 6 then putP k x r else if x.f0 = 7 then instP k x r else saysP k x r
def itemP (k : Nat) (begun : Nat) (r : List Tok) : Option (PR Itm) :=
 if keptV (txt (looks r)) = 0 then some (failP 20 r) else
 if 64 ≤ begun then some (failP 2 r) else
 andThen (some (nameP r.tail)) fun nm r1 => andThen (partsP k { zItm with f0 := keptV (txt (looks r)), f1 := nm } r1) fun x r2 => andThen (some (needP [59] r2)) fun _ r3 => some (.ok x r3)
def begunP (begun : Nat) (r : List Tok) : Nat := if keptV (txt (looks r)) = 0 ∨ 64 ≤ begun then begun else begun + 1
def skipP : List Tok → List Tok
 | [] => []
 | t :: r => if txt t = [125] then t :: r else if txt t = [59] then r else skipP r
abbrev Wr := Int × List Tok
def overP (fs : List Wr) : Bool := decide (20 ≤ fs.length) || (match fs.getLast? with | some f => decide (f.1 = 21) | none => false)
inductive MR (α : Type) where
 | done (v : α) (r : List Tok) (fs : List Wr)
 | stop (fs : List Wr) (r : List Tok)
 | bad (e : Int) (r : List Tok) (fs : List Wr)
def itemsP : Nat → Nat → List Itm → List Wr → List Tok → Option (MR (List Itm))
 | 0, _, _, _, _ => none
 | k + 1, begun, out, fs, r =>
  match takeP [125] r with
  | some r1 => some (.done out r1 fs)
  | none =>
   if r = [] then some (.bad 21 [] fs) else
   match itemP k begun r with
   | none => none
   | some (.ok x r1) => itemsP k (begunP begun r) (out ++ [x]) fs r1
   | some (.bad e t) => if overP (fs ++ [(e, t)]) = true then some (.stop (fs ++ [(e, t)]) t) else itemsP k (begunP begun r) out (fs ++ [(e, t)]) (skipP t)
def portP (r : List Tok) : Option (PR Prt) :=
 match takeP kIn r with
 | some r1 => andThen (some (nameP r1)) fun nm r2 => andThen (some (needP [58] r2)) fun _ r3 => andThen (some (dimP r3)) fun d r4 => some (.ok ⟨true, nm, d⟩ r4)
 | none => andThen (some (needP kOut r)) fun _ r1 => andThen (some (nameP r1)) fun nm r2 => andThen (some (needP [58] r2)) fun _ r3 => andThen (some (dimP r3)) fun d r4 => some (.ok ⟨false, nm, d⟩ r4)
def paramsP (r : List Tok) : Option (PR (List ByteArray)) :=
 match takeP [60] r with
 | none => some (.ok [] r)
 | some r1 => listP [62] (fun r => some (nameP r)) 4 [] r1
def portsP (r : List Tok) : Option (PR (List Prt)) :=
 match takeP [41] r with
 | some r1 => some (.ok [] r1)
 | none => listP [41] portP 16 [] r
def frontP (r : List Tok) : Option (PR (ByteArray × List ByteArray × List Prt)) :=
 andThen (some (nameP r)) fun nm r1 => andThen (paramsP r1) fun ps r2 => andThen (some (needP [40] r2)) fun _ r3 => andThen (portsP r3) fun qs r4 => andThen (some (needP [123] r4)) fun _ r5 => some (.ok (nm, ps, qs) r5)
def moduleP (k : Nat) (begun : Nat) (fs : List Wr) (r : List Tok) : Option (MR Mdl) :=
 if txt (looks r) ≠ kModule then (match failP (α := Unit) 20 r with | .bad e t => some (.bad e t fs) | .ok _ _ => none) else
 if 16 ≤ begun then some (.bad 2 r fs) else
 match frontP r.tail with
 | none => none
 | some (.bad e t) => some (.bad e t fs)
 | some (.ok (nm, ps, qs) r1) =>
  match itemsP k 0 [] fs r1 with
  | none => none
  | some (.done xs r2 fs2) => some (.done ⟨nm, ps, qs, xs⟩ r2 fs2)
  | some (.stop fs2 r2) => some (.stop fs2 r2)
  | some (.bad e t fs2) => some (.bad e t fs2)
def begunM (begun : Nat) (r : List Tok) : Nat := if txt (looks r) ≠ kModule ∨ 16 ≤ begun then begun else begun + 1
def nextP (e : Int) (t : List Tok) : List Tok := (if e = 2 then t.tail else t).dropWhile fun x => decide (txt x ≠ kModule)
def modulesP : Nat → Nat → List Mdl → List Wr → List Tok → Option (List Mdl × List Wr)
 | 0, _, _, _, _ => none
 | k + 1, begun, ms, fs, r =>
  if r = [] ∨ overP fs = true then some (ms, fs) else
  match moduleP k begun fs r with
  | none => none
  | some (.done m r1 fs1) => modulesP k (begunM begun r) (ms ++ [m]) fs1 r1
  | some (.stop fs1 r1) => modulesP k (begunM begun r) ms fs1 r1
  | some (.bad e t fs1) => if overP (fs1 ++ [(e, t)]) = true then modulesP k (begunM begun r) ms (fs1 ++ [(e, t)]) t else modulesP k (begunM begun r) ms (fs1 ++ [(e, t)]) (nextP e t)
structure PS (bp : Nat) (s : ByteArray) (A : Option Addr) (c : Nat) (l : List Tok) (begun : Int) (fv : Value) (a : Nat) (w : World) : Prop where
 blk : w.heap[bp]? = some (.cells #[.string s, .slice A l.length c, .int .i64 a, .int .i64 begun, fv] 67 (0, 0))
 toks : Kd.R k37 37 w 0 (fun k => k ≠ bp) (.slice A l.length c) l
 room : a ≤ l.length
 small : l.length ≤ 1000000000
abbrev wrongV (e : Int) (t : Nat) : Value := .iface 69 (.agg #[.int .i64 e, .int .i64 t])
abbrev gaveUp (e : Int) (t : Nat) : Ending := .panicked [{ v := wrongV e t, recovered := false }]
def failE (l : List Tok) (e : Int) (t : Nat) : Int := if t < l.length then e else 21
theorem fail_calls (bp : Nat) (s : ByteArray) (A : Option Addr) (c : Nat) (l : List Tok) (begun : Int) (fv : Value) (a : Nat) (w : World) (hP : PS bp s A c l begun fv a w) (e : Int) (t : Nat) (ht : t ≤ l.length) :
  Calls Tryd.prog 34 #[.pointer (some ⟨bp, 0, none⟩), .int .i64 e, .int .i64 t] w fun en w' => en = gaveUp (failE l e t) t ∧ w' = w := by
 unfold failE
 have c1 := blk_cell hP.blk 1
 have hs := hP.small
 have HS := aS hP
 clear hP
 by_cases hlt : t < l.length
 ·rw [if_pos hlt]
  have d1 : decide ((l.length : Int) ≤ t) = false := decide_eq_false (by omega)
  have d2 : decide (l.length ≤ t) = false := decide_eq_false (by omega)
  go_enter Tryd.func34, Tryd.ntmps34
  go_wp2
  first | exact rfl | exact ⟨rfl, rfl⟩ | exact ⟨rfl, rfl, rfl⟩ | (trace_state; fail)
 ·rw [if_neg hlt]
  have d1 : decide ((l.length : Int) ≤ t) = true := decide_eq_true (by omega)
  have d2 : decide (l.length ≤ t) = true := decide_eq_true (by omega)
  go_enter Tryd.func34, Tryd.ntmps34
  go_wp2
  first | exact rfl | exact ⟨rfl, rfl⟩ | exact ⟨rfl, rfl, rfl⟩ | (trace_state; fail)
theorem set_heap {w : World} {g i : Nat} {cs : Array Value} {T : TypeId} {fr : Nat × Nat} {v : Value} (h : w.heap[g]? = some (.cells cs T fr)) : (w.setCell ⟨g, i, none⟩ v).heap[g]? = some (.cells (cs.setIfInBounds i v) T fr) := by
 show (w.heap.modify g _)[g]? = _
 rw [Array.getElem?_modify, if_pos rfl, h]
 rfl
theorem fill4 {w : World} {g : Nat} {a0 a1 a2 a3 b0 b1 b2 b3 : Value} {T : TypeId} {fr : Nat × Nat} (h : w.heap[g]? = some (.cells #[a0, a1, a2, a3] T fr)) :
  ((((w.setCell ⟨g, 0, none⟩ b0).setCell ⟨g, 1, none⟩ b1).setCell ⟨g, 2, none⟩ b2).setCell ⟨g, 3, none⟩ b3).heap[g]? = some (.cells #[b0, b1, b2, b3] T fr) :=
 set_heap (i := 3) (v := b3) (set_heap (i := 2) (v := b2) (set_heap (i := 1) (v := b1) (set_heap (i := 0) (v := b0) h)))
theorem below_fill4 {B : Nat} {w w1 : World} {g : Nat} {b0 b1 b2 b3 : Value} (h : Below B w w1) (hg : B ≤ g) :
  Below B w ((((w1.setCell ⟨g, 0, none⟩ b0).setCell ⟨g, 1, none⟩ b1).setCell ⟨g, 2, none⟩ b2).setCell ⟨g, 3, none⟩ b3) :=
 (((h.setCell hg _).setCell hg _).setCell hg _).setCell hg _
abbrev tokV (t : Tok) : Value := .agg #[.int .i64 t.f0, .string t.f1, .int .i64 t.f2, .int .i64 t.f3]
set_option maxHeartbeats 4000000 in
set_option maxRecDepth 100000 in
theorem look_calls (bp : Nat) (s : ByteArray) (A : Option Addr) (c : Nat) (l : List Tok) (begun : Int) (fv : Value) (a : Nat) (w : World) (hP : PS bp s A c l begun fv a w) :
  Calls Tryd.prog 33 #[.pointer (some ⟨bp, 0, none⟩)] w fun en w' => en = .returned (tokV (looks (l.drop a))) ∧ Below w.heap.size w w' := by
 have hlt' : bp < w.heap.size := (Array.getElem?_eq_some_iff.1 hP.blk).1
 have c1 := blk_cell hP.blk 1
 have c2 := blk_cell hP.blk 2
 have hs := hP.small
 have HS := aS hP
 clear hP
 by_cases hlt : a < l.length
 ·obtain ⟨ad, e0, x0, x1, x2, x3⟩ := at_T37 (Kd.R_reads' HS.out.toks).2.2 (a : Int) (by omega) (by omega)
  subst e0
  have d1 : decide ((a : Int) < l.length) = true := decide_eq_true (by omega)
  have d2 : decide (a < l.length) = true := decide_eq_true (by omega)
  have hi0 : 0 ≤ (a : Int) := by omega
  have hi1 : (a : Int) < l.length := by omega
  simp only [Int.toNat_natCast] at x0 x1 x2 x3
  go_enter Tryd.func33, Tryd.ntmps33
  go_wp2
  have hb1 := below_alloc (bR w.heap.size w) (.cells #[.int .i64 0, .string ⟨#[]⟩, .int .i64 0, .int .i64 0] 37)
  have ho := (MapKept.heap_alloc w (.cells #[.int .i64 0, .string ⟨#[]⟩, .int .i64 0, .int .i64 0] 37)).1
  have y0 := pw_cell_below hb1 x0
  have y1 := pw_cell_below hb1 x1
  have y2 := pw_cell_below hb1 x2
  have y3 := pw_cell_below hb1 x3
  have z1 := pw_cell_below hb1 c1
  have z2 := pw_cell_below hb1 c2
  have m0 := cH ho 0
  have m1 := cH ho 1
  have m2 := cH ho 2
  have m3 := cH ho 3
  have fr := fun i => blk_frozen ho i
  have fr0 := fr 0
  have fr1 := fr 1
  have fr2 := fr 2
  have fr3 := fr 3
  clear fr x0 x1 x2 x3 c1 c2
  have HB := aS hb1
  have HO := aS ho
  clear hb1 ho
  generalize w.alloc (.cells #[.int .i64 0, .string ⟨#[]⟩, .int .i64 0, .int .i64 0] 37) = w1 at *
  go_quiet (fail)
  go_wp2
  go_region
  go_wp2
  have hd : looks (l.drop a) = rd_T37 l (a : Int) := by
   unfold looks rd_T37
   rw [Int.toNat_natCast, List.drop_eq_getElem_cons hlt]
   simp [hlt]
  rw [hd]
  refine bodyPost_ret (v := tokV (rd_T37 l (a : Int))) ?_ rfl ⟨rfl, below_fill4 (pw_below_drewN HB.out _) (Nat.le_refl _)⟩
  have hq := fill4 (b0 := .int .i64 (rd_T37 l (a : Int)).f0) (b1 := .string (rd_T37 l (a : Int)).f1) (b2 := .int .i64 (rd_T37 l (a : Int)).f2) (b3 := .int .i64 (rd_T37 l (a : Int)).f3) (show (w1.drewN (nq + 1)).heap[w.heap.size]? = _ from HO.out)
  have g0 := cH hq 0
  have g1 := cH hq 1
  have g2 := cH hq 2
  have g3 := cH hq 3
  clear hq
  generalize ((((w1.drewN (nq + 1)).setCell _ _).setCell _ _).setCell _ _).setCell _ _ = wf at *
  simp [results, Tryd.results33, go_sem, g0, g1, g2, g3]
 ·have d1 : decide ((a : Int) < l.length) = false := decide_eq_false (by omega)
  have d2 : decide (a < l.length) = false := decide_eq_false (by omega)
  have hd : looks (l.drop a) = zTok := by
   unfold looks
   rw [List.drop_eq_nil_of_le (by omega)]
   rfl
  rw [hd]
  clear hd
  go_enter Tryd.func33, Tryd.ntmps33
  go_wp2
  have hb1 := below_alloc (bR w.heap.size w) (.cells #[.int .i64 0, .string ⟨#[]⟩, .int .i64 0, .int .i64 0] 37)
  have ho := (MapKept.heap_alloc w (.cells #[.int .i64 0, .string ⟨#[]⟩, .int .i64 0, .int .i64 0] 37)).1
  have z1 := pw_cell_below hb1 c1
  have z2 := pw_cell_below hb1 c2
  have m0 := cH ho 0
  have m1 := cH ho 1
  have m2 := cH ho 2
  have m3 := cH ho 3
  have fr0 := blk_frozen ho 0
  have fr1 := blk_frozen ho 1
  have fr2 := blk_frozen ho 2
  have fr3 := blk_frozen ho 3
  clear c1 c2
  have HB := aS hb1
  have HO := aS ho
  clear hb1 ho
  generalize w.alloc (.cells #[.int .i64 0, .string ⟨#[]⟩, .int .i64 0, .int .i64 0] 37) = w1 at *
  go_quiet (fail)
  go_wp2
  refine bodyPost_ret (v := tokV zTok) ?_ rfl ⟨rfl, below_fill4 (pw_below_drewN HB.out _) (Nat.le_refl _)⟩
  have hq := fill4 (b0 := .int .i64 0) (b1 := .string ⟨#[]⟩) (b2 := .int .i64 0) (b3 := .int .i64 0) (show (w1.drewN nq).heap[w.heap.size]? = _ from HO.out)
  have g0 := cH hq 0
  have g1 := cH hq 1
  have g2 := cH hq 2
  have g3 := cH hq 3
  clear hq
  generalize ((((w1.drewN nq).setCell _ _).setCell _ _).setCell _ _).setCell _ _ = wf at *
  simp [results, Tryd.results33, go_sem, g0, g1, g2, g3, zTok]
theorem look_at (bp : Nat) (s : ByteArray) (A : Option Addr) (c : Nat) (l : List Tok) (begun : Int) (fv : Value) (a : Nat) (tk : Tok) (htk : looks (l.drop a) = tk) (w : World) (hP : PS bp s A c l begun fv a w) :
  Calls Tryd.prog 33 #[.pointer (some ⟨bp, 0, none⟩)] w fun en w' => en = .returned (.agg #[.int .i64 tk.f0, .string tk.f1, .int .i64 tk.f2, .int .i64 tk.f3]) ∧ Below w.heap.size w w' := by
 subst htk
 exact look_calls bp s A c l begun fv a w hP
theorem tok_text (v0 v1 v2 v3 : Value) (w : World) : (Instr.field 37 (.agg #[v0, v1, v2, v3]) 1).run Tryd.prog w = .ok v1 w := by kernel_rfl
theorem PS.below {bp : Nat} {s : ByteArray} {A : Option Addr} {c : Nat} {l : List Tok} {begun : Int} {fv : Value} {a : Nat} {w w1 : World} (h : PS bp s A c l begun fv a w) (hb : Below w.heap.size w w1) : PS bp s A c l begun fv a w1 :=
 ⟨(hb.block bp (Array.getElem?_eq_some_iff.1 h.blk).1).trans h.blk, Kd.R_below h.toks hb, h.room, h.small⟩
theorem PS.set {bp : Nat} {s : ByteArray} {A : Option Addr} {c : Nat} {l : List Tok} {begun : Int} {fv : Value} {a : Nat} {w : World} (h : PS bp s A c l begun fv a w) (a2 : Nat) (h2 : a2 ≤ l.length) : PS bp s A c l begun fv a2 (w.setCell ⟨bp, 2, none⟩ (.int .i64 a2)) :=
 ⟨set_heap h.blk, Kd.R_far h.toks (fun k hk => hk) _, h2, h.small⟩
theorem below_both {w w2 : World} {p : Addr} {v : Value} (h : Below w.heap.size w w2) : Below w.heap.size (w.setCell p v) (w2.setCell p v) := by
 refine ⟨h.os, h.tape, h.output, ?_, fun k hk => ?_⟩
 ·show (w.heap.modify _ _).size ≤ (w2.heap.modify _ _).size
  rw [Array.size_modify, Array.size_modify]; exact h.size
 ·show (w2.heap.modify _ _)[k]? = (w.heap.modify _ _)[k]?
  rw [Array.getElem?_modify, Array.getElem?_modify, h.block k hk]
theorem size_set (w : World) (p : Addr) (v : Value) : (w.setCell p v).heap.size = w.heap.size := by
 show (w.heap.modify _ _).size = _
 rw [Array.size_modify]
theorem step_trans {bp : Nat} {w w1 w2 : World} {u v : Value} {cs : Array Value} {T : TypeId} {fr : Nat × Nat} (hbp : w.heap[bp]? = some (.cells cs T fr)) (h1 : Below w.heap.size (w.setCell ⟨bp, 2, none⟩ u) w1) (h2 : Below w1.heap.size (w1.setCell ⟨bp, 2, none⟩ v) w2) : Below w.heap.size (w.setCell ⟨bp, 2, none⟩ v) w2 := by
 have hz := h1.size
 rw [size_set] at hz
 have h3 : Below w.heap.size ((w.setCell ⟨bp, 2, none⟩ u).setCell ⟨bp, 2, none⟩ v) (w1.setCell ⟨bp, 2, none⟩ v) := by
  have := below_both (p := ⟨bp, 2, none⟩) (v := v) (w := w.setCell ⟨bp, 2, none⟩ u) (by rw [size_set]; exact h1)
  rw [size_set] at this
  exact this
 have h4 : Below w.heap.size (w.setCell ⟨bp, 2, none⟩ v) ((w.setCell ⟨bp, 2, none⟩ u).setCell ⟨bp, 2, none⟩ v) := by
  refine ⟨rfl, rfl, rfl, by rw [size_set, size_set, size_set]; exact Nat.le_refl _, fun k hk => ?_⟩
  by_cases e : bp = k
  ·subst e
   rw [set_heap (set_heap hbp), set_heap hbp]
   simp
  ·rw [Below.heap_setCell _ _ _ _ (fun q => e q.symm), Below.heap_setCell _ _ _ _ (fun q => e q.symm), Below.heap_setCell _ _ _ _ (fun q => e q.symm)]
 exact h4.trans (h3.trans (h2.mono hz))
set_option maxHeartbeats 4000000 in
set_option maxRecDepth 100000 in
theorem take_calls (x : ByteArray) (bp : Nat) (s : ByteArray) (A : Option Addr) (c : Nat) (l : List Tok) (begun : Int) (fv : Value) (a : Nat) (w : World) (hP : PS bp s A c l begun fv a w) (hlt : a < l.length) (hx : txt (looks (l.drop a)) = x.data.toList) :
  Calls Tryd.prog 36 #[.pointer (some ⟨bp, 0, none⟩), .string x] w fun en w' => en = .returned (.bool true) ∧ Below w.heap.size (w.setCell ⟨bp, 2, none⟩ (.int .i64 ((a : Int) + 1))) w' := by
 have c1 := blk_cell hP.blk 1
 have c2 := blk_cell hP.blk 2
 have hs := hP.small
 have HS := aS hP
 clear hP
 have d1 : decide ((l.length : Int) ≤ a) = false := decide_eq_false (by omega)
 have d2 : decide (l.length ≤ a) = false := decide_eq_false (by omega)
 obtain ⟨tk, htk⟩ : ∃ tk, looks (l.drop a) = tk := ⟨_, rfl⟩
 have HLK := aS (look_at bp s A c l begun fv a tk htk)
 rw [htk] at hx
 have hx1 : (tk.f1.toList == x.toList) = true := by rw [ByteArray.toList_eq, ByteArray.toList_eq]; exact beq_iff_eq.2 hx
 have hx2 : (tk.f1.toList != x.toList) = false := by simp [bne, hx1]
 clear htk hx
 have hfld := tok_text
 go_enter Tryd.func36, Tryd.ntmps36
 go_wp2
 go_region_with (go_at_call 33; refine (HLK.out _ (HS.out.below (by repeat (first | exact bR _ _ | apply below_drew | apply pw_below_drewN)))).mono ?_; rintro e w2 ⟨rfl, hb⟩)
 all_goals
  have hb0 : Below w.heap.size w w2 := by first | exact hb | exact (below_drew (bR _ _)).trans hb | exact (pw_below_drewN (bR _ _) _).trans hb
  have HP2 := aS (HS.out.below hb0)
  have HB2 := aS hb0
  have y1 := blk_cell HP2.out.blk 1
  have y2 := blk_cell HP2.out.blk 2
  have f2 := blk_frozen HP2.out.blk 2
  clear c1 c2 hb hb0
  go_wp2
  go_ret
  exact ⟨rfl, below_both HB2.out⟩
set_option maxHeartbeats 4000000 in
set_option maxRecDepth 100000 in
theorem take_not (x : ByteArray) (bp : Nat) (s : ByteArray) (A : Option Addr) (c : Nat) (l : List Tok) (begun : Int) (fv : Value) (a : Nat) (w : World) (hP : PS bp s A c l begun fv a w) (hx : a < l.length → txt (looks (l.drop a)) ≠ x.data.toList) :
  Calls Tryd.prog 36 #[.pointer (some ⟨bp, 0, none⟩), .string x] w fun en w' => en = .returned (.bool false) ∧ Below w.heap.size w w' := by
 have c1 := blk_cell hP.blk 1
 have c2 := blk_cell hP.blk 2
 have hs := hP.small
 have HS := aS hP
 clear hP
 by_cases hlt : a < l.length
 ·have d1 : decide ((l.length : Int) ≤ a) = false := decide_eq_false (by omega)
  have d2 : decide (l.length ≤ a) = false := decide_eq_false (by omega)
  have hx0 := hx hlt
  obtain ⟨tk, htk⟩ : ∃ tk, looks (l.drop a) = tk := ⟨_, rfl⟩
  have HLK := aS (look_at bp s A c l begun fv a tk htk)
  rw [htk] at hx0
  have hx1 : (tk.f1.toList == x.toList) = false := by rw [ByteArray.toList_eq, ByteArray.toList_eq]; exact beq_eq_false_iff_ne.2 hx0
  have hx2 : (tk.f1.toList != x.toList) = true := by simp [bne, hx1]
  clear htk hx hx0
  have hfld := tok_text
  go_enter Tryd.func36, Tryd.ntmps36
  go_wp2
  go_region_with (go_at_call 33; refine (HLK.out _ (HS.out.below (by repeat (first | exact bR _ _ | apply below_drew | apply pw_below_drewN)))).mono ?_; rintro e w2 ⟨rfl, hb⟩)
  all_goals
   have hb0 : Below w.heap.size w w2 := by first | exact hb | exact (below_drew (bR _ _)).trans hb | exact (pw_below_drewN (bR _ _) _).trans hb
   have HB2 := aS hb0
   clear c1 c2 hb hb0
   go_wp2
   go_ret
   exact ⟨rfl, HB2.out⟩
 ·have d1 : decide ((l.length : Int) ≤ a) = true := decide_eq_true (by omega)
  have d2 : decide (l.length ≤ a) = true := decide_eq_true (by omega)
  clear hx
  go_enter Tryd.func36, Tryd.ntmps36
  go_wp2
  go_quiet (fail)
  go_wp2
  go_ret
  exact ⟨rfl, pw_below_drewN (bR _ _) _⟩
set_option maxHeartbeats 4000000 in
set_option maxRecDepth 100000 in
theorem need_calls (x : ByteArray) (bp : Nat) (s : ByteArray) (A : Option Addr) (c : Nat) (l : List Tok) (begun : Int) (fv : Value) (a : Nat) (w : World) (hP : PS bp s A c l begun fv a w) (hlt : a < l.length) (hx : txt (looks (l.drop a)) = x.data.toList) :
  Calls Tryd.prog 39 #[.pointer (some ⟨bp, 0, none⟩), .string x] w fun en w' => en = .returned (.tuple #[]) ∧ Below w.heap.size (w.setCell ⟨bp, 2, none⟩ (.int .i64 ((a : Int) + 1))) w' := by
 have HT := aS (take_calls x bp s A c l begun fv a w hP hlt hx)
 clear hP hx hlt
 go_enter Tryd.func39, Tryd.ntmps39
 go_wp2_with (go_at_call 36; refine HT.out.mono ?_; rintro e w2 ⟨rfl, hb⟩; have HB := aS hb; clear hb)
 go_end0
 exact ⟨rfl, HB.out⟩
set_option maxHeartbeats 4000000 in
set_option maxRecDepth 100000 in
theorem need_not (x : ByteArray) (bp : Nat) (s : ByteArray) (A : Option Addr) (c : Nat) (l : List Tok) (begun : Int) (fv : Value) (a : Nat) (w : World) (hP : PS bp s A c l begun fv a w) (hx : a < l.length → txt (looks (l.drop a)) ≠ x.data.toList) :
  Calls Tryd.prog 39 #[.pointer (some ⟨bp, 0, none⟩), .string x] w fun en w' => en = gaveUp (failE l 20 a) a ∧ Below w.heap.size w w' := by
 have HT := aS (take_not x bp s A c l begun fv a w hP hx)
 have HS := aS hP
 clear hP hx
 go_enter Tryd.func39, Tryd.ntmps39
 go_wp2_with (first
  | (go_at_call 36; refine HT.out.mono ?_; rintro e w2 ⟨rfl, hb⟩; have HP2 := aS (HS.out.below hb); have HB := aS hb; have y2 := blk_cell HP2.out.blk 2; clear hb)
  | (go_at_call 34; refine (fail_calls bp s A c l begun fv a _ HP2.out 20 a HP2.out.room).mono ?_; rintro e w3 ⟨rfl, rfl⟩))
 first | exact ⟨rfl, rfl, HB.out⟩ | exact ⟨rfl, HB.out⟩ | (trace_state; fail)
end Go.Proofs.YtenogedclignmaaDoor.Q
namespace Go.Proofs.YtenogedclignmaaDoor.Q
open Go.RowKit Go.Maps Go.WideMaps Go.Proofs.YtenogedclignmaaDoorW.PrintWords Go.Proofs.YtenogedclignmaaDoorW.PrintLast Go.Proofs.YtenogedclignmaaDoorW.PrintMore
def encL (L : List (List UInt8 × Int)) : DataW Unit := .map (L.map fun p => (.string p.1, .lit (.int .i64 p.2)))
theorem atKey_enc (x : List UInt8) : ∀ L : List (List UInt8 × Int), (encL L).atKey (.string x) (.lit (.int .i64 0)) = .lit (.int .i64 ((L.lookup x).getD 0))
 | [] => rfl
 | (k, v) :: L => by
  have ih := atKey_enc x L
  unfold encL DataW.atKey at ih ⊢
  simp only [List.map_cons, List.find?_cons, List.lookup_cons, Lit.sameKey] at ih ⊢
  by_cases h : k = x
  ·subst h; simp
  ·have h1 : (k == x) = false := beq_eq_false_iff_ne.2 h
   have h2 : (x == k) = false := beq_eq_false_iff_ne.2 (fun e => h e.symm)
   rw [h1, h2]
   exact ih
theorem has_enc (x : List UInt8) : ∀ L : List (List UInt8 × Int), Maps.has (encL L) (.string x) = (L.lookup x).isSome
 | [] => rfl
 | (k, v) :: L => by
  have ih := has_enc x L
  unfold encL Maps.has at ih ⊢
  simp only [List.map_cons, List.any_cons, List.lookup_cons, Lit.sameKey] at ih ⊢
  by_cases h : k = x
  ·subst h; simp
  ·have h1 : (k == x) = false := beq_eq_false_iff_ne.2 h
   have h2 : (x == k) = false := beq_eq_false_iff_ne.2 (fun e => h e.symm)
   rw [h1, h2, Bool.false_or]
   exact ih
def MapAt (g j : Nat) (L : List (List UInt8 × Int)) (w : World) : Prop :=
 ∃ bm n, w.cell? ⟨g, j, none⟩ = some (.map (some bm)) ∧ w.ownsMap (H := Unit) Tryd.prog 9 (plainElem Tryd.prog 3) bm n (encL L)
theorem MapAt.below {g j : Nat} {L : List (List UInt8 × Int)} {w w1 : World} (h : MapAt g j L w) (hb : Below w.heap.size w w1) : MapAt g j L w1 := by
 obtain ⟨bm, n, h2, h3⟩ := h
 refine ⟨bm, n, pw_cell_below hb h2, ?_⟩
 have hlt := h3.lt
 obtain ⟨es, clock, g1, g2, g3, g4⟩ := h3
 exact ⟨es, clock, (hb.block bm hlt).trans g1, g2, g3, g4⟩
structure KTab (w : World) : Prop where
 kept : MapAt 0 0 keptL w
 words : MapAt 6 0 wordsL w
 levels : ∀ n, n < 6 → MapAt 5 n (levelL n) w
theorem KTab.below {w w1 : World} (h : KTab w) (hb : Below w.heap.size w w1) : KTab w1 := ⟨h.kept.below hb, h.words.below hb, fun n hn => (h.levels n hn).below hb⟩
theorem strKey : Maps.Keyed Tryd.prog 9 := Maps.string_keyed Tryd.underlying9
theorem zeroInt (w : World) : (zeroValue 3).run Tryd.prog w = .ok (.int .i64 0) w := by kernel_rfl
set_option maxHeartbeats 1000000 in
theorem word_calls (x : ByteArray) (w : World) (hK : KTab w) (hx : x.size ≤ 140737488355328) :
  Calls Tryd.prog 18 #[.string x] w fun e w' => e = .returned (.bool (wordP x.data.toList)) ∧ w' = w := by
 obtain ⟨bm, n, hc, hown⟩ := hK.kept
 have hkey := keyOf_string_mk (s := x) Tryd.underlying9 (by unfold maxLen; omega)
 have HH := aS (has_enc x.data.toList keptL)
 have HO := aS hown
 have HKY := aS hkey
 clear hown hkey hK
 go_enter Tryd.func18, Tryd.ntmps18
 go_wp2_with (at_lookup; refine wpList_lookup_own_ok_int _ rfl _ _ 82 rfl 9 3 .i64 strKey Tryd.underlying82 Tryd.underlying3 (zeroInt _) bm n _ rfl HO.out _ _ rfl HKY.out ?_; intro c hat hwc; rw [HH.out]; clear hat hwc)
 go_ret
 exact ⟨rfl, rfl⟩
end Go.Proofs.YtenogedclignmaaDoor.Q
namespace Go.Proofs.YtenogedclignmaaDoor.Q
open Go.RowKit Go.Proofs.YtenogedclignmaaDoorW.PrintWords Go.Proofs.YtenogedclignmaaDoorW.PrintLast Go.Proofs.YtenogedclignmaaDoorW.PrintMore
def shortL (l : List Tok) : Prop := ∀ t ∈ l, t.f1.size ≤ 140737488355328
theorem looks_short {l : List Tok} (h : shortL l) (a : Nat) : (looks (l.drop a)).f1.size ≤ 140737488355328 := by
 unfold looks
 cases hd : l.drop a with
 | nil => show (0 : Nat) ≤ _; omega
 | cons t r => exact h t (List.mem_of_mem_drop (by rw [hd]; simp))
theorem looks_lt {l : List Tok} {a : Nat} (h : (looks (l.drop a)).f0 ≠ 0) : a < l.length := by
 by_cases hlt : a < l.length
 ·exact hlt
 ·exfalso; apply h
  rw [List.drop_eq_nil_of_le (by omega)]; rfl
set_option maxHeartbeats 4000000 in
set_option maxRecDepth 100000 in
theorem name_calls (bp : Nat) (s : ByteArray) (A : Option Addr) (c : Nat) (l : List Tok) (begun : Int) (fv : Value) (a : Nat) (w : World) (hP : PS bp s A c l begun fv a w) (hK : KTab w) (hl : shortL l) (tk : Tok) (htk : looks (l.drop a) = tk) (h1 : tk.f0 = 1) (h2 : wordP (txt tk) = false) :
  Calls Tryd.prog 35 #[.pointer (some ⟨bp, 0, none⟩)] w fun en w' => en = .returned (.string tk.f1) ∧ Below w.heap.size (w.setCell ⟨bp, 2, none⟩ (.int .i64 ((a : Int) + 1))) w' := by
 have hlt := looks_lt (l := l) (a := a) (by rw [htk, h1]; decide)
 have hsz := looks_short hl a
 rw [htk] at hsz
 have HS := aS hP
 have HK := aS hK
 have HLK := aS (look_at bp s A c l begun fv a tk htk w hP)
 have e1 : (tk.f0 != 1) = false := by rw [h1]; rfl
 have HW := aS (show wordP tk.f1.data.toList = false from h2)
 have hs := hP.small
 clear hP hK hl htk h1 h2
 go_enter Tryd.func35, Tryd.ntmps35
 go_upto_region 2 with (go_at_call 33; refine HLK.out.mono ?_; rintro e w2 ⟨rfl, hb⟩; have HB0 := aS hb; clear hb)
 have hb1 := below_alloc HB0.out (.cells #[.int .i64 tk.f0, .string tk.f1, .int .i64 tk.f2, .int .i64 tk.f3] 37)
 have ho := (MapKept.heap_alloc w2 (.cells #[.int .i64 tk.f0, .string tk.f1, .int .i64 tk.f2, .int .i64 tk.f3] 37)).1
 have hz := HB0.out.size
 have HB := aS hb1
 have HP1 := aS (HS.out.below hb1)
 have HK1 := aS (HK.out.below hb1)
 have m0 := cH ho 0
 have m1 := cH ho 1
 have y2 := blk_cell HP1.out.blk 2
 have f2 := blk_frozen HP1.out.blk 2
 have hne : w2.heap.size ≠ bp := by have := (Array.getElem?_eq_some_iff.1 HS.out.blk).1; omega
 have HO := aS ho
 clear hb1 ho
 generalize w2.alloc (.cells #[.int .i64 tk.f0, .string tk.f1, .int .i64 tk.f2, .int .i64 tk.f3] 37) = w3 at *
 go_wp2_with (go_at_call 18; refine (word_calls tk.f1 _ HK1.out hsz).mono ?_; rintro e w4 ⟨rfl, rfl⟩; rw [HW.out])
 go_ret
 exact ⟨rfl, below_both HB.out⟩
set_option maxHeartbeats 4000000 in
set_option maxRecDepth 100000 in
theorem name_not (bp : Nat) (s : ByteArray) (A : Option Addr) (c : Nat) (l : List Tok) (begun : Int) (fv : Value) (a : Nat) (w : World) (hP : PS bp s A c l begun fv a w) (hK : KTab w) (hl : shortL l) (tk : Tok) (htk : looks (l.drop a) = tk) (h1 : tk.f0 ≠ 1 ∨ wordP (txt tk) = true) :
  Calls Tryd.prog 35 #[.pointer (some ⟨bp, 0, none⟩)] w fun en w' => en = gaveUp (failE l 20 a) a ∧ Below w.heap.size w w' := by
 have hsz := looks_short hl a
 rw [htk] at hsz
 have HS := aS hP
 have HK := aS hK
 have HLK := aS (look_at bp s A c l begun fv a tk htk w hP)
 have hs := hP.small
 clear hP hK hl htk
 have HC := aS h1
 clear h1
 by_cases hk : tk.f0 = 1
 ·have e1 : (tk.f0 != 1) = false := by rw [hk]; rfl
  have HW := aS (show wordP tk.f1.data.toList = true from HC.out.elim (fun h => absurd hk h) id)
  clear hk
  go_enter Tryd.func35, Tryd.ntmps35
  go_upto_region 2 with (go_at_call 33; refine HLK.out.mono ?_; rintro e w2 ⟨rfl, hb⟩; have HB0 := aS hb; clear hb)
  have hb1 := below_alloc HB0.out (.cells #[.int .i64 tk.f0, .string tk.f1, .int .i64 tk.f2, .int .i64 tk.f3] 37)
  have ho := (MapKept.heap_alloc w2 (.cells #[.int .i64 tk.f0, .string tk.f1, .int .i64 tk.f2, .int .i64 tk.f3] 37)).1
  have HB := aS hb1
  have HP1 := aS (HS.out.below hb1)
  have HK1 := aS (HK.out.below hb1)
  have m0 := cH ho 0
  have m1 := cH ho 1
  have y2 := blk_cell HP1.out.blk 2
  clear hb1 ho
  generalize w2.alloc (.cells #[.int .i64 tk.f0, .string tk.f1, .int .i64 tk.f2, .int .i64 tk.f3] 37) = w3 at *
  go_wp2_with (first
   | (go_at_call 18; refine (word_calls tk.f1 _ HK1.out hsz).mono ?_; rintro e w4 ⟨rfl, rfl⟩; rw [HW.out])
   | (go_at_call 34; refine (fail_calls bp s A c l begun fv a _ HP1.out 20 a HP1.out.room).mono ?_; rintro e w5 ⟨rfl, rfl⟩))
  first | exact ⟨rfl, rfl, HB.out⟩ | exact ⟨rfl, HB.out⟩ | (trace_state; fail)
 ·have e1 : (tk.f0 != 1) = true := bne_iff_ne.2 hk
  clear hk
  go_enter Tryd.func35, Tryd.ntmps35
  go_upto_region 2 with (go_at_call 33; refine HLK.out.mono ?_; rintro e w2 ⟨rfl, hb⟩; have HB0 := aS hb; clear hb)
  have hb1 := below_alloc HB0.out (.cells #[.int .i64 tk.f0, .string tk.f1, .int .i64 tk.f2, .int .i64 tk.f3] 37)
  have ho := (MapKept.heap_alloc w2 (.cells #[.int .i64 tk.f0, .string tk.f1, .int .i64 tk.f2, .int .i64 tk.f3] 37)).1
  have HB := aS hb1
  have HP1 := aS (HS.out.below hb1)
  have m0 := cH ho 0
  have m1 := cH ho 1
  have y2 := blk_cell HP1.out.blk 2
  clear hb1 ho
  generalize w2.alloc (.cells #[.int .i64 tk.f0, .string tk.f1, .int .i64 tk.f2, .int .i64 tk.f3] 37) = w3 at *
  go_wp2_with (go_at_call 34; refine (fail_calls bp s A c l begun fv a _ HP1.out 20 a HP1.out.room).mono ?_; rintro e w5 ⟨rfl, rfl⟩)
  first | exact ⟨rfl, rfl, HB.out⟩ | exact ⟨rfl, HB.out⟩ | (trace_state; fail)
set_option maxHeartbeats 4000000 in
set_option maxRecDepth 100000 in
theorem number_calls (bp : Nat) (s : ByteArray) (A : Option Addr) (c : Nat) (l : List Tok) (begun : Int) (fv : Value) (a : Nat) (w : World) (hP : PS bp s A c l begun fv a w) (tk : Tok) (htk : looks (l.drop a) = tk) (h1 : tk.f0 = 2) :
  Calls Tryd.prog 53 #[.pointer (some ⟨bp, 0, none⟩)] w fun en w' => en = .returned (.int .i64 tk.f2) ∧ Below w.heap.size (w.setCell ⟨bp, 2, none⟩ (.int .i64 ((a : Int) + 1))) w' := by
 have hlt := looks_lt (l := l) (a := a) (by rw [htk, h1]; decide)
 have HS := aS hP
 have HLK := aS (look_at bp s A c l begun fv a tk htk w hP)
 have e1 : (tk.f0 != 2) = false := by rw [h1]; rfl
 have hs := hP.small
 clear hP htk h1
 go_enter Tryd.func53, Tryd.ntmps53
 go_upto_region 2 with (go_at_call 33; refine HLK.out.mono ?_; rintro e w2 ⟨rfl, hb⟩; have HB0 := aS hb; clear hb)
 have hb1 := below_alloc HB0.out (.cells #[.int .i64 tk.f0, .string tk.f1, .int .i64 tk.f2, .int .i64 tk.f3] 37)
 have ho := (MapKept.heap_alloc w2 (.cells #[.int .i64 tk.f0, .string tk.f1, .int .i64 tk.f2, .int .i64 tk.f3] 37)).1
 have hz := HB0.out.size
 have HB := aS hb1
 have HP1 := aS (HS.out.below hb1)
 have m0 := cH ho 0
 have m2 := cH ho 2
 have y2 := blk_cell HP1.out.blk 2
 have f2 := blk_frozen HP1.out.blk 2
 have hne : w2.heap.size ≠ bp := by have := (Array.getElem?_eq_some_iff.1 HS.out.blk).1; omega
 have HO := aS ho
 clear hb1 ho
 generalize w2.alloc (.cells #[.int .i64 tk.f0, .string tk.f1, .int .i64 tk.f2, .int .i64 tk.f3] 37) = w3 at *
 go_wp2
 go_ret
 exact ⟨rfl, below_both HB.out⟩
set_option maxHeartbeats 4000000 in
set_option maxRecDepth 100000 in
theorem number_not (bp : Nat) (s : ByteArray) (A : Option Addr) (c : Nat) (l : List Tok) (begun : Int) (fv : Value) (a : Nat) (w : World) (hP : PS bp s A c l begun fv a w) (tk : Tok) (htk : looks (l.drop a) = tk) (h1 : tk.f0 ≠ 2) :
  Calls Tryd.prog 53 #[.pointer (some ⟨bp, 0, none⟩)] w fun en w' => en = gaveUp (failE l 20 a) a ∧ Below w.heap.size w w' := by
 have HS := aS hP
 have HLK := aS (look_at bp s A c l begun fv a tk htk w hP)
 have hs := hP.small
 clear hP htk
 have e1 : (tk.f0 != 2) = true := bne_iff_ne.2 h1
 clear h1
 go_enter Tryd.func53, Tryd.ntmps53
 go_upto_region 2 with (go_at_call 33; refine HLK.out.mono ?_; rintro e w2 ⟨rfl, hb⟩; have HB0 := aS hb; clear hb)
 have hb1 := below_alloc HB0.out (.cells #[.int .i64 tk.f0, .string tk.f1, .int .i64 tk.f2, .int .i64 tk.f3] 37)
 have ho := (MapKept.heap_alloc w2 (.cells #[.int .i64 tk.f0, .string tk.f1, .int .i64 tk.f2, .int .i64 tk.f3] 37)).1
 have HB := aS hb1
 have HP1 := aS (HS.out.below hb1)
 have m0 := cH ho 0
 have y2 := blk_cell HP1.out.blk 2
 clear hb1 ho
 generalize w2.alloc (.cells #[.int .i64 tk.f0, .string tk.f1, .int .i64 tk.f2, .int .i64 tk.f3] 37) = w3 at *
 go_wp2_with (go_at_call 34; refine (fail_calls bp s A c l begun fv a _ HP1.out 20 a HP1.out.room).mono ?_; rintro e w5 ⟨rfl, rfl⟩)
 first | exact ⟨rfl, rfl, HB.out⟩ | exact ⟨rfl, HB.out⟩ | (trace_state; fail)
theorem fill2 {w : World} {g : Nat} {a0 a1 b0 b1 : Value} {T : TypeId} {fr : Nat × Nat} (h : w.heap[g]? = some (.cells #[a0, a1] T fr)) :
  ((w.setCell ⟨g, 0, none⟩ b0).setCell ⟨g, 1, none⟩ b1).heap[g]? = some (.cells #[b0, b1] T fr) :=
 set_heap (i := 1) (v := b1) (set_heap (i := 0) (v := b0) h)
theorem below_fill2 {B : Nat} {w w1 : World} {g : Nat} {b0 b1 : Value} (h : Below B w w1) (hg : B ≤ g) : Below B w ((w1.setCell ⟨g, 0, none⟩ b0).setCell ⟨g, 1, none⟩ b1) := (h.setCell hg _).setCell hg _
theorem fbelow {w1 w' : World} {f : Nat} {o : Obj} (h : w1.heap[f]? = some o) (hb : Below w1.heap.size w1 w') : w'.heap[f]? = some o := (hb.block f (Array.getElem?_eq_some_iff.1 h).1).trans h
theorem tok_kind (v0 v1 v2 v3 : Value) (w : World) : (Instr.field 37 (.agg #[v0, v1, v2, v3]) 0).run Tryd.prog w = .ok v0 w := by kernel_rfl
theorem tail_drop (l : List Tok) (a : Nat) : (l.drop a).tail = l.drop (a + 1) := by rw [List.tail_drop]
theorem step_block {w w' : World} {g bp : Nat} {u : Value} {o : Obj} (hb : Below w.heap.size (w.setCell ⟨bp, 2, none⟩ u) w') (hg : w.heap[g]? = some o) (hne : g ≠ bp) : w'.heap[g]? = some o :=
 (hb.block g (Array.getElem?_eq_some_iff.1 hg).1).trans ((Below.heap_setCell _ _ _ _ hne).trans hg)
theorem step_after {w w2 w3 : World} {bp : Nat} {u : Value} (h : Below w.heap.size w w2) (h3 : Below w2.heap.size (w2.setCell ⟨bp, 2, none⟩ u) w3) : Below w.heap.size (w.setCell ⟨bp, 2, none⟩ u) w3 := (below_both h).trans (h3.mono h.size)
set_option maxHeartbeats 4000000 in
set_option maxRecDepth 100000 in
theorem single_number (bp : Nat) (s : ByteArray) (A : Option Addr) (c : Nat) (l : List Tok) (begun : Int) (fv : Value) (a : Nat) (w : World) (hP : PS bp s A c l begun fv a w) (tk : Tok) (htk : looks (l.drop a) = tk) (h1 : tk.f0 = 2) :
  Calls Tryd.prog 52 #[.pointer (some ⟨bp, 0, none⟩)] w fun en w' => en = .returned (.agg #[.string ⟨#[]⟩, .int .i64 tk.f2]) ∧ Below w.heap.size (w.setCell ⟨bp, 2, none⟩ (.int .i64 ((a : Int) + 1))) w' := by
 have hlt := looks_lt (l := l) (a := a) (by rw [htk, h1]; decide)
 have hbp : bp < w.heap.size := (Array.getElem?_eq_some_iff.1 hP.blk).1
 have hb1 := below_alloc (bR w.heap.size w) (.cells #[.string ⟨#[]⟩, .int .i64 0] 51)
 have ho := (MapKept.heap_alloc w (.cells #[.string ⟨#[]⟩, .int .i64 0] 51)).1
 have hsz : (w.alloc (.cells #[.string ⟨#[]⟩, .int .i64 0] 51)).heap.size = w.heap.size + 1 := by show (w.heap.push _).size = _; simp
 have HS := aS (hP.below hb1)
 have HLK := aS (look_at bp s A c l begun fv a tk htk _ (hP.below hb1))
 have e1 : (tk.f0 == 2) = true := by rw [h1]; rfl
 have HTK := aS htk
 have H1 := aS h1
 have hfld := tok_kind
 have HB := aS hb1
 have HO := aS ho
 have HSZ := aS hsz
 clear hP htk h1 hb1 ho hsz
 go_enter Tryd.func52, Tryd.ntmps52
 go_upto_region 1 with (fail)
 generalize w.alloc (.cells #[.string ⟨#[]⟩, .int .i64 0] 51) = w1 at *
 go_wp2_with (first
  | (go_at_call 33; refine HLK.out.mono ?_; rintro e w2 ⟨rfl, hb⟩; have HB2 := aS hb; have HS2 := aS (HS.out.below hb); clear hb)
  | (go_at_call 53; refine (number_calls bp s A c l begun fv a _ HS2.out tk HTK.out H1.out).mono ?_; rintro e w3 ⟨rfl, hb⟩; have HB3 := aS hb; have hg3 := step_block hb (fbelow HO.out HB2.out) (by omega); have m0 := cH hg3 0; have m1 := cH hg3 1; have f0 := blk_frozen hg3 0; have f1 := blk_frozen hg3 1; have HG3 := aS hg3; clear hb hg3))
 have hbel := below_fill2 (b0 := .string ⟨#[]⟩) (b1 := .int .i64 tk.f2) (step_after (HB.out.trans (HB2.out.mono (by rw [HSZ.out]; omega))) HB3.out) (Nat.le_refl _)
 refine bodyPost_ret (v := .agg #[.string ⟨#[]⟩, .int .i64 tk.f2]) ?_ rfl ⟨rfl, hbel⟩
 have hq := fill2 (b0 := .string ⟨#[]⟩) (b1 := .int .i64 tk.f2) HG3.out
 have g0 := cH hq 0
 have g1 := cH hq 1
 clear hq hbel m0 m1 f0 f1
 generalize (w3.setCell _ _).setCell _ _ = wf at *
 simp [results, Tryd.results52, go_sem, g0, g1]
set_option maxHeartbeats 4000000 in
set_option maxRecDepth 100000 in
theorem single_name (bp : Nat) (s : ByteArray) (A : Option Addr) (c : Nat) (l : List Tok) (begun : Int) (fv : Value) (a : Nat) (w : World) (hP : PS bp s A c l begun fv a w) (hK : KTab w) (hl : shortL l) (tk : Tok) (htk : looks (l.drop a) = tk) (h1 : tk.f0 = 1) (h2 : wordP (txt tk) = false) :
  Calls Tryd.prog 52 #[.pointer (some ⟨bp, 0, none⟩)] w fun en w' => en = .returned (.agg #[.string tk.f1, .int .i64 0]) ∧ Below w.heap.size (w.setCell ⟨bp, 2, none⟩ (.int .i64 ((a : Int) + 1))) w' := by
 have hlt := looks_lt (l := l) (a := a) (by rw [htk, h1]; decide)
 have hbp : bp < w.heap.size := (Array.getElem?_eq_some_iff.1 hP.blk).1
 have hb1 := below_alloc (bR w.heap.size w) (.cells #[.string ⟨#[]⟩, .int .i64 0] 51)
 have ho := (MapKept.heap_alloc w (.cells #[.string ⟨#[]⟩, .int .i64 0] 51)).1
 have hsz : (w.alloc (.cells #[.string ⟨#[]⟩, .int .i64 0] 51)).heap.size = w.heap.size + 1 := by show (w.heap.push _).size = _; simp
 have HS := aS (hP.below hb1)
 have HLK := aS (look_at bp s A c l begun fv a tk htk _ (hP.below hb1))
 have e1 : (tk.f0 == 2) = false := by rw [h1]; rfl
 have HTK := aS htk
 have H1 := aS h1
 have H2 := aS h2
 have HL := aS hl
 have HK := aS (hK.below hb1)
 have hfld := tok_kind
 have HB := aS hb1
 have HO := aS ho
 have HSZ := aS hsz
 clear hP hK hl htk h1 h2 hb1 ho hsz
 go_enter Tryd.func52, Tryd.ntmps52
 go_upto_region 1 with (fail)
 generalize w.alloc (.cells #[.string ⟨#[]⟩, .int .i64 0] 51) = w1 at *
 go_wp2_with (first
  | (go_at_call 33; refine HLK.out.mono ?_; rintro e w2 ⟨rfl, hb⟩; have HB2 := aS hb; have HS2 := aS (HS.out.below hb); clear hb)
  | (go_at_call 35; refine (name_calls bp s A c l begun fv a _ HS2.out (HK.out.below HB2.out) HL.out tk HTK.out H1.out H2.out).mono ?_; rintro e w3 ⟨rfl, hb⟩; have HB3 := aS hb; have hg3 := step_block hb (fbelow HO.out HB2.out) (by omega); have m0 := cH hg3 0; have m1 := cH hg3 1; have f0 := blk_frozen hg3 0; have f1 := blk_frozen hg3 1; have HG3 := aS hg3; clear hb hg3))
 have hbel := below_fill2 (b0 := .string tk.f1) (b1 := .int .i64 0) (step_after (HB.out.trans (HB2.out.mono (by rw [HSZ.out]; omega))) HB3.out) (Nat.le_refl _)
 refine bodyPost_ret (v := .agg #[.string tk.f1, .int .i64 0]) ?_ rfl ⟨rfl, hbel⟩
 have hq := fill2 (b0 := .string tk.f1) (b1 := .int .i64 0) HG3.out
 have g0 := cH hq 0
 have g1 := cH hq 1
 clear hq hbel m0 m1 f0 f1
 generalize (w3.setCell _ _).setCell _ _ = wf at *
 simp [results, Tryd.results52, go_sem, g0, g1]
set_option maxHeartbeats 4000000 in
set_option maxRecDepth 100000 in
theorem single_not (bp : Nat) (s : ByteArray) (A : Option Addr) (c : Nat) (l : List Tok) (begun : Int) (fv : Value) (a : Nat) (w : World) (hP : PS bp s A c l begun fv a w) (hK : KTab w) (hl : shortL l) (tk : Tok) (htk : looks (l.drop a) = tk) (h0 : tk.f0 ≠ 2) (h1 : tk.f0 ≠ 1 ∨ wordP (txt tk) = true) :
  Calls Tryd.prog 52 #[.pointer (some ⟨bp, 0, none⟩)] w fun en w' => en = gaveUp (failE l 20 a) a ∧ Below w.heap.size w w' := by
 have hbp : bp < w.heap.size := (Array.getElem?_eq_some_iff.1 hP.blk).1
 have hb1 := below_alloc (bR w.heap.size w) (.cells #[.string ⟨#[]⟩, .int .i64 0] 51)
 have ho := (MapKept.heap_alloc w (.cells #[.string ⟨#[]⟩, .int .i64 0] 51)).1
 have hsz : (w.alloc (.cells #[.string ⟨#[]⟩, .int .i64 0] 51)).heap.size = w.heap.size + 1 := by show (w.heap.push _).size = _; simp
 have HS := aS (hP.below hb1)
 have HLK := aS (look_at bp s A c l begun fv a tk htk _ (hP.below hb1))
 have e1 : (tk.f0 == 2) = false := beq_eq_false_iff_ne.2 h0
 have HTK := aS htk
 have H1 := aS h1
 have HL := aS hl
 have HK := aS (hK.below hb1)
 have hfld := tok_kind
 have HB := aS hb1
 have HO := aS ho
 have HSZ := aS hsz
 clear hP hK hl htk h0 h1 hb1 ho hsz
 go_enter Tryd.func52, Tryd.ntmps52
 go_upto_region 1 with (fail)
 generalize w.alloc (.cells #[.string ⟨#[]⟩, .int .i64 0] 51) = w1 at *
 go_wp2_with (first
  | (go_at_call 33; refine HLK.out.mono ?_; rintro e w2 ⟨rfl, hb⟩; have HB2 := aS hb; have HS2 := aS (HS.out.below hb); clear hb)
  | (go_at_call 35; refine (name_not bp s A c l begun fv a _ HS2.out (HK.out.below HB2.out) HL.out tk HTK.out H1.out).mono ?_; rintro e w3 ⟨rfl, hb⟩; have HB3 := aS hb; clear hb))
 have hz2 := HB2.out.size
 have hbel := HB.out.trans ((HB2.out.trans (HB3.out.mono hz2)).mono (by rw [HSZ.out]; omega))
 first | exact ⟨rfl, rfl, hbel⟩ | exact ⟨rfl, hbel⟩ | (trace_state; fail)
theorem fail_at {α : Type} (l : List Tok) (e : Int) (a : Nat) : (failP e (l.drop a) : PR α) = .bad (failE l e a) (l.drop a) := by
 unfold failE
 by_cases h : a < l.length
 ·rw [if_pos h, List.drop_eq_getElem_cons h]; rfl
 ·rw [if_neg h, List.drop_eq_nil_of_le (by omega)]; rfl
theorem single_is (l : List Tok) (a : Nat) : singleP (l.drop a) =
  if (looks (l.drop a)).f0 = 2 then .ok ⟨⟨#[]⟩, (looks (l.drop a)).f2⟩ (l.drop (a + 1))
  else if (looks (l.drop a)).f0 = 1 ∧ wordP (txt (looks (l.drop a))) = false then .ok ⟨(looks (l.drop a)).f1, 0⟩ (l.drop (a + 1))
  else .bad (failE l 20 a) (l.drop a) := by
 unfold singleP numberP nameP
 by_cases h : (looks (l.drop a)).f0 = 2
 ·rw [if_pos h, if_pos h, if_pos h, tail_drop]
 ·rw [if_neg h, if_neg h]
  by_cases h2 : (looks (l.drop a)).f0 = 1 ∧ wordP (txt (looks (l.drop a))) = false
  ·rw [if_pos h2, if_pos h2, tail_drop]
  ·rw [if_neg h2, if_neg h2, fail_at]
theorem single_ok (bp : Nat) (s : ByteArray) (A : Option Addr) (c : Nat) (l : List Tok) (begun : Int) (fv : Value) (a : Nat) (w : World) (hP : PS bp s A c l begun fv a w) (hK : KTab w) (hl : shortL l) (d : Dm) (r : List Tok) (h : singleP (l.drop a) = .ok d r) :
  r = l.drop (a + 1) ∧ a < l.length ∧ Calls Tryd.prog 52 #[.pointer (some ⟨bp, 0, none⟩)] w fun en w' => en = .returned (.agg #[.string d.f0, .int .i64 d.f1]) ∧ Below w.heap.size (w.setCell ⟨bp, 2, none⟩ (.int .i64 ((a : Int) + 1))) w' := by
 rw [single_is] at h
 by_cases h1 : (looks (l.drop a)).f0 = 2
 ·rw [if_pos h1] at h
  cases h
  exact ⟨rfl, looks_lt (by rw [h1]; decide), single_number bp s A c l begun fv a w hP _ rfl h1⟩
 ·rw [if_neg h1] at h
  by_cases h2 : (looks (l.drop a)).f0 = 1 ∧ wordP (txt (looks (l.drop a))) = false
  ·rw [if_pos h2] at h
   cases h
   exact ⟨rfl, looks_lt (by rw [h2.1]; decide), single_name bp s A c l begun fv a w hP hK hl _ rfl h2.1 h2.2⟩
  ·rw [if_neg h2] at h; cases h
theorem single_bad (bp : Nat) (s : ByteArray) (A : Option Addr) (c : Nat) (l : List Tok) (begun : Int) (fv : Value) (a : Nat) (w : World) (hP : PS bp s A c l begun fv a w) (hK : KTab w) (hl : shortL l) (er : Int) (t : List Tok) (h : singleP (l.drop a) = .bad er t) :
  er = failE l 20 a ∧ t = l.drop a ∧ Calls Tryd.prog 52 #[.pointer (some ⟨bp, 0, none⟩)] w fun en w' => en = gaveUp (failE l 20 a) a ∧ Below w.heap.size w w' := by
 rw [single_is] at h
 by_cases h1 : (looks (l.drop a)).f0 = 2
 ·rw [if_pos h1] at h; cases h
 ·rw [if_neg h1] at h
  by_cases h2 : (looks (l.drop a)).f0 = 1 ∧ wordP (txt (looks (l.drop a))) = false
  ·rw [if_pos h2] at h; cases h
  ·rw [if_neg h2] at h
   cases h
   refine ⟨rfl, rfl, single_not bp s A c l begun fv a w hP hK hl _ rfl h1 ?_⟩
   by_cases h3 : (looks (l.drop a)).f0 = 1
   ·right
    cases hq : wordP (txt (looks (l.drop a))) with
    | true => rfl
    | false => exact absurd ⟨h3, hq⟩ h2
   ·exact .inl h3
end Go.Proofs.YtenogedclignmaaDoor.Q
