/-
  HELPER.
-/
import Derived.Test.YtenogedclignmaaDoorPlK16
import Derived.Test.YtenogedclignmaaDoorLeWords
import Derived.Test.YtenogedclignmaaDoorLeK0
import Derived.Test.YtenogedclignmaaDoorLeK5
set_option linter.unusedVariables false
set_option linter.unusedSimpArgs false
namespace Go.Proofs.YtenogedclignmaaDoor.Q
open Go.RowKit Go.Proofs.YtenogedclignmaaDoorW.PrintWords Go.Proofs.YtenogedclignmaaDoorW.PrintLast Go.Proofs.YtenogedclignmaaDoorW.PrintMore
abbrev sg (t : Tok) : Int × ByteArray × Int := (t.f0, t.f1, t.f2)
def Ag (n : Nat) (a b : List Tok) : Prop := ∀ i, i ≤ n → (a[i]?).map sg = (b[i]?).map sg
def J (m : Nat) (d : Int) (a b : List Tok) : Prop := m ≤ a.length → (b.length : Int) = a.length + d ∧ Ag (a.length - m) a b
section
variable {m : Nat} {d : Int} {α β : Type}
def S (m : Nat) (d : Int) (a : List Tok) (x z : Option (PR α)) : Prop := ∀ y, x = some y → match y with
  | .ok v r => r.length ≤ a.length ∧ (m ≤ r.length → ∃ r2, z = some (.ok v r2) ∧ J m d r r2)
  | .bad e t => m = 0 → ∃ t2, z = some (.bad e t2) ∧ J m d t t2
end
end Go.Proofs.YtenogedclignmaaDoor.Q
