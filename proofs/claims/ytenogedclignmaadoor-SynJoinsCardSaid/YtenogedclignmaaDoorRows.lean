/-
  NARROWER THAN 'FOR EVERY INPUT', by the rows' own cells (each row's printed sentence says how): SynPlaces: laid · SynJoins: laid · SynCuts: laid · SynSpares: laid · SynLexes: laid · SynSpread: laid.
  DERIVED. THE GIVEN ROWS OF THIS SEAT. 6 by the template 'for every input the law returns true; each argument reads behind the call as it read before'; 0 by the template 'total and deterministic' (their statements: YtenogedclignmaaDoorTotals.lean).
  GIVEN WITH THE SEED: the statements are not yours to turn. If you find one false, say at which input.
  Laid BY PROGRAM, IN A SANDBOX (cutbox-rows.mjs): the forced cells as the released guide's own fill.sh prints them over the translation b320ef95cb5ac400… (all of the seat's roots in one cut). By AI agents, Wed Nov 11 2026. No macro, syntax, notation, axiom, sorry.
-/
import Derived.Test.YtenogedclignmaaDoorChecked
import GoSem.Claim
import GoSem.ClaimJoined
import GoSem.ClaimMapViews
import Derived.JoinedTies
import Derived.KernelRfl
namespace Go.Proofs.YtenogedclignmaaDoor
/- THE CELL 'sum', in the pinned program and in every row, IS THE sha256 OF THE DUMP (.gsa) THAT YtenogedclignmaaDoorProg.lean LOADS. Nothing in Lean hashes anything: it is a label: what it is worth is what the hold of that sum in a sandbox is worth. -/
noncomputable def Tryd.pinned : Pinned := { name := "ytenogedclignmaadoor", sum := "b320ef95cb5ac400418e490c42073f09b36309f237fe2ee016a0efd1903a3bf8", checked := Tryd.checked }
namespace Rows
def none {H : Type} : Left H := { results := [], args := [] }

/- WHAT THE LISTED PACKAGE-LEVEL VARIABLES READ AS WHEN THE CALL BEGINS. Each datum BY PROGRAM (the guide's laid-datum.mjs) off the statement by which the dump's own 'gosem.cut.vars' lays the variable. In a bare row this is a premise. The card (YtenogedclignmaaDoorCards.lean) ties it to the program's text. -/
def laid_math_bits_deBruijn32tab {H : Type} : DataW H := .agg [.lit (.int .u8 0), .lit (.int .u8 1), .lit (.int .u8 28), .lit (.int .u8 2), .lit (.int .u8 29), .lit (.int .u8 14), .lit (.int .u8 24), .lit (.int .u8 3), .lit (.int .u8 30), .lit (.int .u8 22), .lit (.int .u8 20), .lit (.int .u8 15), .lit (.int .u8 25), .lit (.int .u8 17), .lit (.int .u8 4), .lit (.int .u8 8), .lit (.int .u8 31), .lit (.int .u8 27), .lit (.int .u8 13), .lit (.int .u8 23), .lit (.int .u8 21), .lit (.int .u8 19), .lit (.int .u8 16), .lit (.int .u8 7), .lit (.int .u8 26), .lit (.int .u8 12), .lit (.int .u8 18), .lit (.int .u8 6), .lit (.int .u8 11), .lit (.int .u8 5), .lit (.int .u8 10), .lit (.int .u8 9)]
def laid_math_bits_deBruijn64tab {H : Type} : DataW H := .agg [.lit (.int .u8 0), .lit (.int .u8 1), .lit (.int .u8 56), .lit (.int .u8 2), .lit (.int .u8 57), .lit (.int .u8 49), .lit (.int .u8 28), .lit (.int .u8 3), .lit (.int .u8 61), .lit (.int .u8 58), .lit (.int .u8 42), .lit (.int .u8 50), .lit (.int .u8 38), .lit (.int .u8 29), .lit (.int .u8 17), .lit (.int .u8 4), .lit (.int .u8 62), .lit (.int .u8 47), .lit (.int .u8 59), .lit (.int .u8 36), .lit (.int .u8 45), .lit (.int .u8 43), .lit (.int .u8 51), .lit (.int .u8 22), .lit (.int .u8 53), .lit (.int .u8 39), .lit (.int .u8 33), .lit (.int .u8 30), .lit (.int .u8 24), .lit (.int .u8 18), .lit (.int .u8 12), .lit (.int .u8 5), .lit (.int .u8 63), .lit (.int .u8 55), .lit (.int .u8 48), .lit (.int .u8 27), .lit (.int .u8 60), .lit (.int .u8 41), .lit (.int .u8 37), .lit (.int .u8 16), .lit (.int .u8 46), .lit (.int .u8 35), .lit (.int .u8 44), .lit (.int .u8 21), .lit (.int .u8 52), .lit (.int .u8 32), .lit (.int .u8 23), .lit (.int .u8 11), .lit (.int .u8 54), .lit (.int .u8 26), .lit (.int .u8 40), .lit (.int .u8 15), .lit (.int .u8 34), .lit (.int .u8 20), .lit (.int .u8 31), .lit (.int .u8 10), .lit (.int .u8 25), .lit (.int .u8 14), .lit (.int .u8 19), .lit (.int .u8 9), .lit (.int .u8 13), .lit (.int .u8 8), .lit (.int .u8 7), .lit (.int .u8 6)]
def laid_internal_strconv_uint64pow10 {H : Type} : DataW H := .agg [.lit (.int .u64 1), .lit (.int .u64 10), .lit (.int .u64 100), .lit (.int .u64 1000), .lit (.int .u64 10000), .lit (.int .u64 100000), .lit (.int .u64 1000000), .lit (.int .u64 10000000), .lit (.int .u64 100000000), .lit (.int .u64 1000000000), .lit (.int .u64 10000000000), .lit (.int .u64 100000000000), .lit (.int .u64 1000000000000), .lit (.int .u64 10000000000000), .lit (.int .u64 100000000000000), .lit (.int .u64 1000000000000000), .lit (.int .u64 10000000000000000), .lit (.int .u64 100000000000000000), .lit (.int .u64 1000000000000000000), .lit (.int .u64 10000000000000000000)]
def laid_strconv_ErrRange {H : Type} : DataW H := .iface "*errors.errorString" (.ptr (.agg [.lit (.string [118, 97, 108, 117, 101, 32, 111, 117, 116, 32, 111, 102, 32, 114, 97, 110, 103, 101])]))
def laid_strconv_ErrSyntax {H : Type} : DataW H := .iface "*errors.errorString" (.ptr (.agg [.lit (.string [105, 110, 118, 97, 108, 105, 100, 32, 115, 121, 110, 116, 97, 120])]))
def laid_proofmark_lex_signs {H : Type} : DataW H := .agg [.lit (.string [60, 61]), .lit (.string [61, 61]), .lit (.string [33, 61]), .lit (.string [40]), .lit (.string [41]), .lit (.string [123]), .lit (.string [125]), .lit (.string [60]), .lit (.string [62]), .lit (.string [91]), .lit (.string [93]), .lit (.string [58]), .lit (.string [59]), .lit (.string [44]), .lit (.string [61]), .lit (.string [38]), .lit (.string [124]), .lit (.string [94]), .lit (.string [126]), .lit (.string [43]), .lit (.string [45]), .lit (.string [42]), .lit (.string [63]), .lit (.string [46]), .lit (.string [39])]
def laid_proofmark_syn_kept {H : Type} : DataW H := .map [(.string [97, 108, 108], .lit (.int .i64 0)), (.string [97, 110, 121], .lit (.int .i64 0)), (.string [97, 115, 115, 101, 114, 116], .lit (.int .i64 8)), (.string [97, 115, 115, 117, 109, 101], .lit (.int .i64 9)), (.string [97, 116], .lit (.int .i64 0)), (.string [99, 111, 118, 101, 114], .lit (.int .i64 10)), (.string [105, 102], .lit (.int .i64 0)), (.string [105, 110], .lit (.int .i64 0)), (.string [105, 110, 115, 116], .lit (.int .i64 7)), (.string [109, 101, 109], .lit (.int .i64 5)), (.string [109, 111, 100, 117, 108, 101], .lit (.int .i64 0)), (.string [110, 101, 120, 116], .lit (.int .i64 3)), (.string [111, 117, 116], .lit (.int .i64 4)), (.string [112, 97, 115, 116], .lit (.int .i64 0)), (.string [112, 117, 116], .lit (.int .i64 6)), (.string [114, 101, 103], .lit (.int .i64 2)), (.string [119, 105, 114, 101], .lit (.int .i64 1))]
def laid_proofmark_syn_levels {H : Type} : DataW H := .agg [.map [(.string [124], .lit (.int .i64 7))], .map [(.string [94], .lit (.int .i64 8))], .map [(.string [38], .lit (.int .i64 6))], .map [(.string [33, 61], .lit (.int .i64 13)), (.string [60], .lit (.int .i64 14)), (.string [60, 61], .lit (.int .i64 15)), (.string [61, 61], .lit (.int .i64 12))], .map [(.string [43], .lit (.int .i64 9)), (.string [45], .lit (.int .i64 10))], .map [(.string [42], .lit (.int .i64 11))]]
def laid_proofmark_syn_words {H : Type} : DataW H := .map [(.string [97, 108, 108], .lit (.int .i64 5)), (.string [97, 110, 121], .lit (.int .i64 4)), (.string [97, 116], .lit (.int .i64 19)), (.string [112, 97, 115, 116], .lit (.int .i64 20))]

/-- 'proofmarklaw02.SynPlaces': WHATEVER THE INPUT: true; the input reads as it did. -/
def synPlacesSpec : ChangeSpec := { name := "synPlaces", fn := fun _ => fun
  | [d] => { results := [.lit (.bool true)], args := [d] }
  | _ => none }
def synPlacesRow : OpenClaim := { program := "ytenogedclignmaadoor", sum := "b320ef95cb5ac400418e490c42073f09b36309f237fe2ee016a0efd1903a3bf8", func := "proofmark/proofmarklaw02.SynPlaces", spec := "synPlaces", unfollowed := true, recurses := true, named := ["strconv.ErrSyntax", "strconv.ErrRange", "internal/strconv.uint64pow10", "math/bits.deBruijn32tab", "math/bits.deBruijn64tab", "proofmark/lex.signs", "proofmark/syn.kept", "proofmark/syn.levels", "proofmark/syn.words"], apart := false, laid := [("math/bits.deBruijn32tab", laid_math_bits_deBruijn32tab), ("math/bits.deBruijn64tab", laid_math_bits_deBruijn64tab), ("internal/strconv.uint64pow10", laid_internal_strconv_uint64pow10), ("strconv.ErrRange", laid_strconv_ErrRange), ("strconv.ErrSyntax", laid_strconv_ErrSyntax), ("proofmark/lex.signs", laid_proofmark_lex_signs), ("proofmark/syn.kept", laid_proofmark_syn_kept), ("proofmark/syn.levels", laid_proofmark_syn_levels), ("proofmark/syn.words", laid_proofmark_syn_words)] }
def SynPlacesSaid : Prop := synPlacesRow.holds Tryd.pinned (OpenSpec.ofChange synPlacesSpec)

/-- ITS FALSE NEIGHBOUR: 'it returns false'. Refute it at one input. -/
def synPlacesWrong : ChangeSpec := { name := "synPlaces", fn := fun _ => fun
  | [d] => { results := [.lit (.bool false)], args := [d] }
  | _ => none }
def SynPlacesWrongFalsely : Prop := synPlacesRow.holds Tryd.pinned (OpenSpec.ofChange synPlacesWrong)

/-- 'proofmarklaw02.SynJoins': WHATEVER THE INPUT: true; the input reads as it did. -/
def synJoinsSpec : ChangeSpec := { name := "synJoins", fn := fun _ => fun
  | [d1, d2] => { results := [.lit (.bool true)], args := [d1, d2] }
  | _ => none }
def synJoinsRow : OpenClaim := { program := "ytenogedclignmaadoor", sum := "b320ef95cb5ac400418e490c42073f09b36309f237fe2ee016a0efd1903a3bf8", func := "proofmark/proofmarklaw02.SynJoins", spec := "synJoins", unfollowed := true, recurses := true, named := ["strconv.ErrSyntax", "strconv.ErrRange", "internal/strconv.uint64pow10", "math/bits.deBruijn32tab", "math/bits.deBruijn64tab", "proofmark/lex.signs", "proofmark/syn.kept", "proofmark/syn.levels", "proofmark/syn.words"], apart := false, laid := [("math/bits.deBruijn32tab", laid_math_bits_deBruijn32tab), ("math/bits.deBruijn64tab", laid_math_bits_deBruijn64tab), ("internal/strconv.uint64pow10", laid_internal_strconv_uint64pow10), ("strconv.ErrRange", laid_strconv_ErrRange), ("strconv.ErrSyntax", laid_strconv_ErrSyntax), ("proofmark/lex.signs", laid_proofmark_lex_signs), ("proofmark/syn.kept", laid_proofmark_syn_kept), ("proofmark/syn.levels", laid_proofmark_syn_levels), ("proofmark/syn.words", laid_proofmark_syn_words)] }
def SynJoinsSaid : Prop := synJoinsRow.holds Tryd.pinned (OpenSpec.ofChange synJoinsSpec)

/-- ITS FALSE NEIGHBOUR: 'it returns false'. Refute it at one input. -/
def synJoinsWrong : ChangeSpec := { name := "synJoins", fn := fun _ => fun
  | [d1, d2] => { results := [.lit (.bool false)], args := [d1, d2] }
  | _ => none }
def SynJoinsWrongFalsely : Prop := synJoinsRow.holds Tryd.pinned (OpenSpec.ofChange synJoinsWrong)

/-- 'proofmarklaw02.SynCuts': WHATEVER THE INPUT: true; the input reads as it did. -/
def synCutsSpec : ChangeSpec := { name := "synCuts", fn := fun _ => fun
  | [d1, d2] => { results := [.lit (.bool true)], args := [d1, d2] }
  | _ => none }
def synCutsRow : OpenClaim := { program := "ytenogedclignmaadoor", sum := "b320ef95cb5ac400418e490c42073f09b36309f237fe2ee016a0efd1903a3bf8", func := "proofmark/proofmarklaw02.SynCuts", spec := "synCuts", unfollowed := true, recurses := true, named := ["strconv.ErrSyntax", "strconv.ErrRange", "internal/strconv.uint64pow10", "math/bits.deBruijn32tab", "math/bits.deBruijn64tab", "proofmark/lex.signs", "proofmark/syn.kept", "proofmark/syn.levels", "proofmark/syn.words"], apart := false, laid := [("math/bits.deBruijn32tab", laid_math_bits_deBruijn32tab), ("math/bits.deBruijn64tab", laid_math_bits_deBruijn64tab), ("internal/strconv.uint64pow10", laid_internal_strconv_uint64pow10), ("strconv.ErrRange", laid_strconv_ErrRange), ("strconv.ErrSyntax", laid_strconv_ErrSyntax), ("proofmark/lex.signs", laid_proofmark_lex_signs), ("proofmark/syn.kept", laid_proofmark_syn_kept), ("proofmark/syn.levels", laid_proofmark_syn_levels), ("proofmark/syn.words", laid_proofmark_syn_words)] }
def SynCutsSaid : Prop := synCutsRow.holds Tryd.pinned (OpenSpec.ofChange synCutsSpec)

/-- ITS FALSE NEIGHBOUR: 'it returns false'. Refute it at one input. -/
def synCutsWrong : ChangeSpec := { name := "synCuts", fn := fun _ => fun
  | [d1, d2] => { results := [.lit (.bool false)], args := [d1, d2] }
  | _ => none }
def SynCutsWrongFalsely : Prop := synCutsRow.holds Tryd.pinned (OpenSpec.ofChange synCutsWrong)

/-- 'proofmarklaw02.SynSpares': WHATEVER THE INPUT: true; the input reads as it did. -/
def synSparesSpec : ChangeSpec := { name := "synSpares", fn := fun _ => fun
  | [d1, d2] => { results := [.lit (.bool true)], args := [d1, d2] }
  | _ => none }
def synSparesRow : OpenClaim := { program := "ytenogedclignmaadoor", sum := "b320ef95cb5ac400418e490c42073f09b36309f237fe2ee016a0efd1903a3bf8", func := "proofmark/proofmarklaw02.SynSpares", spec := "synSpares", unfollowed := true, recurses := true, named := ["strconv.ErrSyntax", "strconv.ErrRange", "internal/strconv.uint64pow10", "math/bits.deBruijn32tab", "math/bits.deBruijn64tab", "proofmark/lex.signs", "proofmark/syn.kept", "proofmark/syn.levels", "proofmark/syn.words"], apart := false, laid := [("math/bits.deBruijn32tab", laid_math_bits_deBruijn32tab), ("math/bits.deBruijn64tab", laid_math_bits_deBruijn64tab), ("internal/strconv.uint64pow10", laid_internal_strconv_uint64pow10), ("strconv.ErrRange", laid_strconv_ErrRange), ("strconv.ErrSyntax", laid_strconv_ErrSyntax), ("proofmark/lex.signs", laid_proofmark_lex_signs), ("proofmark/syn.kept", laid_proofmark_syn_kept), ("proofmark/syn.levels", laid_proofmark_syn_levels), ("proofmark/syn.words", laid_proofmark_syn_words)] }
def SynSparesSaid : Prop := synSparesRow.holds Tryd.pinned (OpenSpec.ofChange synSparesSpec)

/-- ITS FALSE NEIGHBOUR: 'it returns false'. Refute it at one input. -/
def synSparesWrong : ChangeSpec := { name := "synSpares", fn := fun _ => fun
  | [d1, d2] => { results := [.lit (.bool false)], args := [d1, d2] }
  | _ => none }
def SynSparesWrongFalsely : Prop := synSparesRow.holds Tryd.pinned (OpenSpec.ofChange synSparesWrong)

/-- 'proofmarklaw02.SynLexes': WHATEVER THE INPUT: true; the input reads as it did. -/
def synLexesSpec : ChangeSpec := { name := "synLexes", fn := fun _ => fun
  | [d1, d2, d3] => { results := [.lit (.bool true)], args := [d1, d2, d3] }
  | _ => none }
def synLexesRow : OpenClaim := { program := "ytenogedclignmaadoor", sum := "b320ef95cb5ac400418e490c42073f09b36309f237fe2ee016a0efd1903a3bf8", func := "proofmark/proofmarklaw02.SynLexes", spec := "synLexes", unfollowed := true, recurses := true, named := ["strconv.ErrSyntax", "strconv.ErrRange", "internal/strconv.uint64pow10", "math/bits.deBruijn32tab", "math/bits.deBruijn64tab", "proofmark/lex.signs", "proofmark/syn.kept", "proofmark/syn.levels", "proofmark/syn.words"], apart := false, laid := [("math/bits.deBruijn32tab", laid_math_bits_deBruijn32tab), ("math/bits.deBruijn64tab", laid_math_bits_deBruijn64tab), ("internal/strconv.uint64pow10", laid_internal_strconv_uint64pow10), ("strconv.ErrRange", laid_strconv_ErrRange), ("strconv.ErrSyntax", laid_strconv_ErrSyntax), ("proofmark/lex.signs", laid_proofmark_lex_signs), ("proofmark/syn.kept", laid_proofmark_syn_kept), ("proofmark/syn.levels", laid_proofmark_syn_levels), ("proofmark/syn.words", laid_proofmark_syn_words)] }
def SynLexesSaid : Prop := synLexesRow.holds Tryd.pinned (OpenSpec.ofChange synLexesSpec)

/-- ITS FALSE NEIGHBOUR: 'it returns false'. Refute it at one input. -/
def synLexesWrong : ChangeSpec := { name := "synLexes", fn := fun _ => fun
  | [d1, d2, d3] => { results := [.lit (.bool false)], args := [d1, d2, d3] }
  | _ => none }
def SynLexesWrongFalsely : Prop := synLexesRow.holds Tryd.pinned (OpenSpec.ofChange synLexesWrong)

/-- 'proofmarklaw02.SynSpread': WHATEVER THE INPUT: true; the input reads as it did. -/
def synSpreadSpec : ChangeSpec := { name := "synSpread", fn := fun _ => fun
  | [d] => { results := [.lit (.bool true)], args := [d] }
  | _ => none }
def synSpreadRow : OpenClaim := { program := "ytenogedclignmaadoor", sum := "b320ef95cb5ac400418e490c42073f09b36309f237fe2ee016a0efd1903a3bf8", func := "proofmark/proofmarklaw02.SynSpread", spec := "synSpread", inPlace := ["internal/abi.NoEscape", "internal/bytealg.MakeNoZero"], unfollowed := true, recurses := true, named := ["strconv.ErrSyntax", "strconv.ErrRange", "internal/strconv.uint64pow10", "math/bits.deBruijn32tab", "math/bits.deBruijn64tab", "proofmark/lex.signs", "proofmark/syn.kept", "proofmark/syn.levels", "proofmark/syn.words"], apart := false, laid := [("math/bits.deBruijn32tab", laid_math_bits_deBruijn32tab), ("math/bits.deBruijn64tab", laid_math_bits_deBruijn64tab), ("internal/strconv.uint64pow10", laid_internal_strconv_uint64pow10), ("strconv.ErrRange", laid_strconv_ErrRange), ("strconv.ErrSyntax", laid_strconv_ErrSyntax), ("proofmark/lex.signs", laid_proofmark_lex_signs), ("proofmark/syn.kept", laid_proofmark_syn_kept), ("proofmark/syn.levels", laid_proofmark_syn_levels), ("proofmark/syn.words", laid_proofmark_syn_words)] }
def SynSpreadSaid : Prop := synSpreadRow.holds Tryd.pinned (OpenSpec.ofChange synSpreadSpec)

/-- ITS FALSE NEIGHBOUR: 'it returns false'. Refute it at one input. -/
def synSpreadWrong : ChangeSpec := { name := "synSpread", fn := fun _ => fun
  | [d] => { results := [.lit (.bool false)], args := [d] }
  | _ => none }
def SynSpreadWrongFalsely : Prop := synSpreadRow.holds Tryd.pinned (OpenSpec.ofChange synSpreadWrong)

/- THE SECOND FORM. 'bulk': how many values and letters a reading holds, each counted each time it is reached (what is shared counts as often as it is met; a slice's spare places count too). A statement '..UptoSaid' is the law's where the arguments, and the package variables that the reading takes, are together of bulk at most 1048576: NARROWER than '..Said'. Prove '..Said' where nothing that the law and all that it calls make is longer than what came in: it says more and counts as full. Else prove '..UptoSaid'. A law counts once. -/
mutual
def uptoBulk {H : Type} : DataW H → Nat
  | .lit (.string bytes) => bytes.length + 1
  | .lit _ => 1
  | .nil => 1
  | .ptr d => uptoBulk d + 1
  | .slice elems spare => uptoBulkAll elems + uptoBulkAll spare + 1
  | .agg parts => uptoBulkAll parts + 1
  | .iface _ d => uptoBulk d + 1
  | .map entries => uptoBulkEntries entries + 1
  | .held _ => 1
def uptoBulkAll {H : Type} : List (DataW H) → Nat
  | [] => 0
  | d :: r => uptoBulk d + uptoBulkAll r
def uptoBulkEntries {H : Type} : List (Lit × DataW H) → Nat
  | [] => 0
  | x :: r => uptoBulkEntry x + uptoBulkEntries r
def uptoBulkEntry {H : Type} : Lit × DataW H → Nat
  | (.string bytes, d) => bytes.length + uptoBulk d + 1
  | (_, d) => uptoBulk d + 1
 end
def uptoSmall : (H : Type) → List (DataW H) → Bool := fun _ ds => decide (uptoBulkAll ds ≤ 1048576)
def OpenSpec.upto (s : _root_.Go.ChangeSpec) : _root_.Go.OpenSpec := { _root_.Go.OpenSpec.ofChange s with cond := some uptoSmall }

/-- 'proofmarklaw02.SynPlaces', WHERE WHAT IT READS IS OF BULK AT MOST 1048576: true; the input reads as it did. -/
def synPlacesUptoRow : OpenClaim := { program := "ytenogedclignmaadoor", sum := "b320ef95cb5ac400418e490c42073f09b36309f237fe2ee016a0efd1903a3bf8", func := "proofmark/proofmarklaw02.SynPlaces", spec := "synPlaces", unfollowed := true, recurses := true, named := ["strconv.ErrSyntax", "strconv.ErrRange", "internal/strconv.uint64pow10", "math/bits.deBruijn32tab", "math/bits.deBruijn64tab", "proofmark/lex.signs", "proofmark/syn.kept", "proofmark/syn.levels", "proofmark/syn.words"], apart := false, laid := [("math/bits.deBruijn32tab", laid_math_bits_deBruijn32tab), ("math/bits.deBruijn64tab", laid_math_bits_deBruijn64tab), ("internal/strconv.uint64pow10", laid_internal_strconv_uint64pow10), ("strconv.ErrRange", laid_strconv_ErrRange), ("strconv.ErrSyntax", laid_strconv_ErrSyntax), ("proofmark/lex.signs", laid_proofmark_lex_signs), ("proofmark/syn.kept", laid_proofmark_syn_kept), ("proofmark/syn.levels", laid_proofmark_syn_levels), ("proofmark/syn.words", laid_proofmark_syn_words)], narrowed := true }
def SynPlacesUptoSaid : Prop := synPlacesUptoRow.holds Tryd.pinned (OpenSpec.upto synPlacesSpec)

/-- 'proofmarklaw02.SynJoins', WHERE WHAT IT READS IS OF BULK AT MOST 1048576: true; the input reads as it did. -/
def synJoinsUptoRow : OpenClaim := { program := "ytenogedclignmaadoor", sum := "b320ef95cb5ac400418e490c42073f09b36309f237fe2ee016a0efd1903a3bf8", func := "proofmark/proofmarklaw02.SynJoins", spec := "synJoins", unfollowed := true, recurses := true, named := ["strconv.ErrSyntax", "strconv.ErrRange", "internal/strconv.uint64pow10", "math/bits.deBruijn32tab", "math/bits.deBruijn64tab", "proofmark/lex.signs", "proofmark/syn.kept", "proofmark/syn.levels", "proofmark/syn.words"], apart := false, laid := [("math/bits.deBruijn32tab", laid_math_bits_deBruijn32tab), ("math/bits.deBruijn64tab", laid_math_bits_deBruijn64tab), ("internal/strconv.uint64pow10", laid_internal_strconv_uint64pow10), ("strconv.ErrRange", laid_strconv_ErrRange), ("strconv.ErrSyntax", laid_strconv_ErrSyntax), ("proofmark/lex.signs", laid_proofmark_lex_signs), ("proofmark/syn.kept", laid_proofmark_syn_kept), ("proofmark/syn.levels", laid_proofmark_syn_levels), ("proofmark/syn.words", laid_proofmark_syn_words)], narrowed := true }
def SynJoinsUptoSaid : Prop := synJoinsUptoRow.holds Tryd.pinned (OpenSpec.upto synJoinsSpec)

/-- 'proofmarklaw02.SynCuts', WHERE WHAT IT READS IS OF BULK AT MOST 1048576: true; the input reads as it did. -/
def synCutsUptoRow : OpenClaim := { program := "ytenogedclignmaadoor", sum := "b320ef95cb5ac400418e490c42073f09b36309f237fe2ee016a0efd1903a3bf8", func := "proofmark/proofmarklaw02.SynCuts", spec := "synCuts", unfollowed := true, recurses := true, named := ["strconv.ErrSyntax", "strconv.ErrRange", "internal/strconv.uint64pow10", "math/bits.deBruijn32tab", "math/bits.deBruijn64tab", "proofmark/lex.signs", "proofmark/syn.kept", "proofmark/syn.levels", "proofmark/syn.words"], apart := false, laid := [("math/bits.deBruijn32tab", laid_math_bits_deBruijn32tab), ("math/bits.deBruijn64tab", laid_math_bits_deBruijn64tab), ("internal/strconv.uint64pow10", laid_internal_strconv_uint64pow10), ("strconv.ErrRange", laid_strconv_ErrRange), ("strconv.ErrSyntax", laid_strconv_ErrSyntax), ("proofmark/lex.signs", laid_proofmark_lex_signs), ("proofmark/syn.kept", laid_proofmark_syn_kept), ("proofmark/syn.levels", laid_proofmark_syn_levels), ("proofmark/syn.words", laid_proofmark_syn_words)], narrowed := true }
def SynCutsUptoSaid : Prop := synCutsUptoRow.holds Tryd.pinned (OpenSpec.upto synCutsSpec)

/-- 'proofmarklaw02.SynSpares', WHERE WHAT IT READS IS OF BULK AT MOST 1048576: true; the input reads as it did. -/
def synSparesUptoRow : OpenClaim := { program := "ytenogedclignmaadoor", sum := "b320ef95cb5ac400418e490c42073f09b36309f237fe2ee016a0efd1903a3bf8", func := "proofmark/proofmarklaw02.SynSpares", spec := "synSpares", unfollowed := true, recurses := true, named := ["strconv.ErrSyntax", "strconv.ErrRange", "internal/strconv.uint64pow10", "math/bits.deBruijn32tab", "math/bits.deBruijn64tab", "proofmark/lex.signs", "proofmark/syn.kept", "proofmark/syn.levels", "proofmark/syn.words"], apart := false, laid := [("math/bits.deBruijn32tab", laid_math_bits_deBruijn32tab), ("math/bits.deBruijn64tab", laid_math_bits_deBruijn64tab), ("internal/strconv.uint64pow10", laid_internal_strconv_uint64pow10), ("strconv.ErrRange", laid_strconv_ErrRange), ("strconv.ErrSyntax", laid_strconv_ErrSyntax), ("proofmark/lex.signs", laid_proofmark_lex_signs), ("proofmark/syn.kept", laid_proofmark_syn_kept), ("proofmark/syn.levels", laid_proofmark_syn_levels), ("proofmark/syn.words", laid_proofmark_syn_words)], narrowed := true }
def SynSparesUptoSaid : Prop := synSparesUptoRow.holds Tryd.pinned (OpenSpec.upto synSparesSpec)

/-- 'proofmarklaw02.SynLexes', WHERE WHAT IT READS IS OF BULK AT MOST 1048576: true; the input reads as it did. -/
def synLexesUptoRow : OpenClaim := { program := "ytenogedclignmaadoor", sum := "b320ef95cb5ac400418e490c42073f09b36309f237fe2ee016a0efd1903a3bf8", func := "proofmark/proofmarklaw02.SynLexes", spec := "synLexes", unfollowed := true, recurses := true, named := ["strconv.ErrSyntax", "strconv.ErrRange", "internal/strconv.uint64pow10", "math/bits.deBruijn32tab", "math/bits.deBruijn64tab", "proofmark/lex.signs", "proofmark/syn.kept", "proofmark/syn.levels", "proofmark/syn.words"], apart := false, laid := [("math/bits.deBruijn32tab", laid_math_bits_deBruijn32tab), ("math/bits.deBruijn64tab", laid_math_bits_deBruijn64tab), ("internal/strconv.uint64pow10", laid_internal_strconv_uint64pow10), ("strconv.ErrRange", laid_strconv_ErrRange), ("strconv.ErrSyntax", laid_strconv_ErrSyntax), ("proofmark/lex.signs", laid_proofmark_lex_signs), ("proofmark/syn.kept", laid_proofmark_syn_kept), ("proofmark/syn.levels", laid_proofmark_syn_levels), ("proofmark/syn.words", laid_proofmark_syn_words)], narrowed := true }
def SynLexesUptoSaid : Prop := synLexesUptoRow.holds Tryd.pinned (OpenSpec.upto synLexesSpec)

/-- 'proofmarklaw02.SynSpread', WHERE WHAT IT READS IS OF BULK AT MOST 1048576: true; the input reads as it did. -/
def synSpreadUptoRow : OpenClaim := { program := "ytenogedclignmaadoor", sum := "b320ef95cb5ac400418e490c42073f09b36309f237fe2ee016a0efd1903a3bf8", func := "proofmark/proofmarklaw02.SynSpread", spec := "synSpread", inPlace := ["internal/abi.NoEscape", "internal/bytealg.MakeNoZero"], unfollowed := true, recurses := true, named := ["strconv.ErrSyntax", "strconv.ErrRange", "internal/strconv.uint64pow10", "math/bits.deBruijn32tab", "math/bits.deBruijn64tab", "proofmark/lex.signs", "proofmark/syn.kept", "proofmark/syn.levels", "proofmark/syn.words"], apart := false, laid := [("math/bits.deBruijn32tab", laid_math_bits_deBruijn32tab), ("math/bits.deBruijn64tab", laid_math_bits_deBruijn64tab), ("internal/strconv.uint64pow10", laid_internal_strconv_uint64pow10), ("strconv.ErrRange", laid_strconv_ErrRange), ("strconv.ErrSyntax", laid_strconv_ErrSyntax), ("proofmark/lex.signs", laid_proofmark_lex_signs), ("proofmark/syn.kept", laid_proofmark_syn_kept), ("proofmark/syn.levels", laid_proofmark_syn_levels), ("proofmark/syn.words", laid_proofmark_syn_words)], narrowed := true }
def SynSpreadUptoSaid : Prop := synSpreadUptoRow.holds Tryd.pinned (OpenSpec.upto synSpreadSpec)

end Rows
end Go.Proofs.YtenogedclignmaaDoor
