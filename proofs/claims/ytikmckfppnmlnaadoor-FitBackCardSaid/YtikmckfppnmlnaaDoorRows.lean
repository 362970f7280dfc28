/-
  NARROWER THAN 'FOR EVERY INPUT', by the rows' own cells (each row's printed sentence says how): ResolveNames: loops, laid · FitMisfits: loops, laid · FitWidens: loops, laid · FitLimit: laid · FitFlat: loops, laid · FitNames: laid · FitReduces: loops, laid · FitBack: loops, laid · FitReducesSame: loops, laid.
  DERIVED. THE GIVEN ROWS OF THIS SEAT. 9 by the template 'for every input the law returns true; each argument reads behind the call as it read before'; 0 by the template 'total and deterministic' (their statements: YtikmckfppnmlnaaDoorTotals.lean).
  GIVEN WITH THE SEED: the statements are not yours to turn. If you find one false, say at which input.
  Laid BY PROGRAM, IN A SANDBOX (cutbox-rows.mjs): the forced cells as the released guide's own fill.sh prints them over the translation ff04a89834ce7dd6… (all of the seat's roots in one cut). By AI agents, Wed Nov 11 2026. No macro, syntax, notation, axiom, sorry.
-/
import Derived.Test.YtikmckfppnmlnaaDoorChecked
import GoSem.PinnedTables
import GoSem.Claim
import GoSem.ClaimJoined
import GoSem.ClaimMapViews
import Derived.JoinedTies
import Derived.KernelRfl
namespace Go.Proofs.YtikmckfppnmlnaaDoor
/- THE CELL 'sum', in the pinned program and in every row, IS THE sha256 OF THE DUMP (.gsa) THAT YtikmckfppnmlnaaDoorProg.lean LOADS. Nothing in Lean hashes anything: it is a label: what it is worth is what the hold of that sum in a sandbox is worth. -/
noncomputable def Tryd.pinned : Pinned := { name := "ytikmckfppnmlnaadoor", sum := "ff04a89834ce7dd603d0ba240539fab66e6352d5325b9cdc55b9549fc8383745", checked := Tryd.checked }
namespace Rows
def none {H : Type} : Left H := { results := [], args := [] }

/- WHAT THE LISTED PACKAGE-LEVEL VARIABLES READ AS WHEN THE CALL BEGINS. Each datum BY PROGRAM (the guide's laid-datum.mjs) off the statement by which the dump's own 'gosem.cut.vars' lays the variable. In a bare row this is a premise. The card (YtikmckfppnmlnaaDoorCards.lean) ties it to the program's text. -/
def laid_math_bits_deBruijn32tab {H : Type} : DataW H := .agg [.lit (.int .u8 0), .lit (.int .u8 1), .lit (.int .u8 28), .lit (.int .u8 2), .lit (.int .u8 29), .lit (.int .u8 14), .lit (.int .u8 24), .lit (.int .u8 3), .lit (.int .u8 30), .lit (.int .u8 22), .lit (.int .u8 20), .lit (.int .u8 15), .lit (.int .u8 25), .lit (.int .u8 17), .lit (.int .u8 4), .lit (.int .u8 8), .lit (.int .u8 31), .lit (.int .u8 27), .lit (.int .u8 13), .lit (.int .u8 23), .lit (.int .u8 21), .lit (.int .u8 19), .lit (.int .u8 16), .lit (.int .u8 7), .lit (.int .u8 26), .lit (.int .u8 12), .lit (.int .u8 18), .lit (.int .u8 6), .lit (.int .u8 11), .lit (.int .u8 5), .lit (.int .u8 10), .lit (.int .u8 9)]
def laid_math_bits_deBruijn64tab {H : Type} : DataW H := .agg [.lit (.int .u8 0), .lit (.int .u8 1), .lit (.int .u8 56), .lit (.int .u8 2), .lit (.int .u8 57), .lit (.int .u8 49), .lit (.int .u8 28), .lit (.int .u8 3), .lit (.int .u8 61), .lit (.int .u8 58), .lit (.int .u8 42), .lit (.int .u8 50), .lit (.int .u8 38), .lit (.int .u8 29), .lit (.int .u8 17), .lit (.int .u8 4), .lit (.int .u8 62), .lit (.int .u8 47), .lit (.int .u8 59), .lit (.int .u8 36), .lit (.int .u8 45), .lit (.int .u8 43), .lit (.int .u8 51), .lit (.int .u8 22), .lit (.int .u8 53), .lit (.int .u8 39), .lit (.int .u8 33), .lit (.int .u8 30), .lit (.int .u8 24), .lit (.int .u8 18), .lit (.int .u8 12), .lit (.int .u8 5), .lit (.int .u8 63), .lit (.int .u8 55), .lit (.int .u8 48), .lit (.int .u8 27), .lit (.int .u8 60), .lit (.int .u8 41), .lit (.int .u8 37), .lit (.int .u8 16), .lit (.int .u8 46), .lit (.int .u8 35), .lit (.int .u8 44), .lit (.int .u8 21), .lit (.int .u8 52), .lit (.int .u8 32), .lit (.int .u8 23), .lit (.int .u8 11), .lit (.int .u8 54), .lit (.int .u8 26), .lit (.int .u8 40), .lit (.int .u8 15), .lit (.int .u8 34), .lit (.int .u8 20), .lit (.int .u8 31), .lit (.int .u8 10), .lit (.int .u8 25), .lit (.int .u8 14), .lit (.int .u8 19), .lit (.int .u8 9), .lit (.int .u8 13), .lit (.int .u8 8), .lit (.int .u8 7), .lit (.int .u8 6)]
def laid_internal_strconv_uint64pow10 {H : Type} : DataW H := .agg [.lit (.int .u64 1), .lit (.int .u64 10), .lit (.int .u64 100), .lit (.int .u64 1000), .lit (.int .u64 10000), .lit (.int .u64 100000), .lit (.int .u64 1000000), .lit (.int .u64 10000000), .lit (.int .u64 100000000), .lit (.int .u64 1000000000), .lit (.int .u64 10000000000), .lit (.int .u64 100000000000), .lit (.int .u64 1000000000000), .lit (.int .u64 10000000000000), .lit (.int .u64 100000000000000), .lit (.int .u64 1000000000000000), .lit (.int .u64 10000000000000000), .lit (.int .u64 100000000000000000), .lit (.int .u64 1000000000000000000), .lit (.int .u64 10000000000000000000)]
def laid_unicode_utf8_acceptRanges {H : Type} : DataW H := .agg [.agg [.lit (.int .u8 128), .lit (.int .u8 191)], .agg [.lit (.int .u8 160), .lit (.int .u8 191)], .agg [.lit (.int .u8 128), .lit (.int .u8 159)], .agg [.lit (.int .u8 144), .lit (.int .u8 191)], .agg [.lit (.int .u8 128), .lit (.int .u8 143)], .agg [.lit (.int .u8 0), .lit (.int .u8 0)], .agg [.lit (.int .u8 0), .lit (.int .u8 0)], .agg [.lit (.int .u8 0), .lit (.int .u8 0)], .agg [.lit (.int .u8 0), .lit (.int .u8 0)], .agg [.lit (.int .u8 0), .lit (.int .u8 0)], .agg [.lit (.int .u8 0), .lit (.int .u8 0)], .agg [.lit (.int .u8 0), .lit (.int .u8 0)], .agg [.lit (.int .u8 0), .lit (.int .u8 0)], .agg [.lit (.int .u8 0), .lit (.int .u8 0)], .agg [.lit (.int .u8 0), .lit (.int .u8 0)], .agg [.lit (.int .u8 0), .lit (.int .u8 0)]]
/-- One of Go's own tables, pinned by name: the form's constant. -/
def laid_unicode_utf8_first : DataW Unit := Go.Pinned.utf8First

/-- 'manifoldlaw23.ResolveNames': WHATEVER THE INPUT: true; the input reads as it did. -/
def resolveNamesSpec : ChangeSpec := { name := "resolveNames", fn := fun _ => fun
  | [d1, d2] => { results := [.lit (.bool true)], args := [d1, d2] }
  | _ => none }
def resolveNamesRow : OpenClaim := { program := "ytikmckfppnmlnaadoor", sum := "ff04a89834ce7dd603d0ba240539fab66e6352d5325b9cdc55b9549fc8383745", func := "manifold/manifoldlaw23.ResolveNames", spec := "resolveNames", inPlace := ["internal/abi.NoEscape", "internal/bytealg.MakeNoZero", "internal/bytealg.abigen_runtime_cmpstring"], unfollowed := true, recurses := true, named := ["internal/strconv.uint64pow10", "math/bits.deBruijn32tab", "math/bits.deBruijn64tab"], loops := true, apart := false, laid := [("math/bits.deBruijn32tab", laid_math_bits_deBruijn32tab), ("math/bits.deBruijn64tab", laid_math_bits_deBruijn64tab), ("internal/strconv.uint64pow10", laid_internal_strconv_uint64pow10)] }
def ResolveNamesSaid : Prop := resolveNamesRow.holds Tryd.pinned (OpenSpec.ofChange resolveNamesSpec)

/-- ITS FALSE NEIGHBOUR: 'it returns false'. Refute it at one input. -/
def resolveNamesWrong : ChangeSpec := { name := "resolveNames", fn := fun _ => fun
  | [d1, d2] => { results := [.lit (.bool false)], args := [d1, d2] }
  | _ => none }
def ResolveNamesWrongFalsely : Prop := resolveNamesRow.holds Tryd.pinned (OpenSpec.ofChange resolveNamesWrong)

/-- 'manifoldlaw07.FitMisfits': WHATEVER THE INPUT: true; the input reads as it did. -/
def fitMisfitsSpec : ChangeSpec := { name := "fitMisfits", fn := fun _ => fun
  | [d1, d2] => { results := [.lit (.bool true)], args := [d1, d2] }
  | _ => none }
def fitMisfitsRow : OpenClaim := { program := "ytikmckfppnmlnaadoor", sum := "ff04a89834ce7dd603d0ba240539fab66e6352d5325b9cdc55b9549fc8383745", func := "manifold/manifoldlaw07.FitMisfits", spec := "fitMisfits", inPlace := ["internal/bytealg.abigen_runtime_cmpstring", "slices.overlaps[manifold/api.Field]"], unfollowed := true, recurses := true, named := ["unicode/utf8.first", "unicode/utf8.acceptRanges", "internal/strconv.uint64pow10", "math/bits.deBruijn32tab", "math/bits.deBruijn64tab"], loops := true, apart := false, laid := [("math/bits.deBruijn32tab", laid_math_bits_deBruijn32tab), ("math/bits.deBruijn64tab", laid_math_bits_deBruijn64tab), ("internal/strconv.uint64pow10", laid_internal_strconv_uint64pow10), ("unicode/utf8.acceptRanges", laid_unicode_utf8_acceptRanges), ("unicode/utf8.first", laid_unicode_utf8_first)] }
def FitMisfitsSaid : Prop := fitMisfitsRow.holds Tryd.pinned (OpenSpec.ofChange fitMisfitsSpec)

/-- ITS FALSE NEIGHBOUR: 'it returns false'. Refute it at one input. -/
def fitMisfitsWrong : ChangeSpec := { name := "fitMisfits", fn := fun _ => fun
  | [d1, d2] => { results := [.lit (.bool false)], args := [d1, d2] }
  | _ => none }
def FitMisfitsWrongFalsely : Prop := fitMisfitsRow.holds Tryd.pinned (OpenSpec.ofChange fitMisfitsWrong)

/-- 'manifoldlaw07.FitWidens': WHATEVER THE INPUT: true; the input reads as it did. -/
def fitWidensSpec : ChangeSpec := { name := "fitWidens", fn := fun _ => fun
  | [d1, d2, d3] => { results := [.lit (.bool true)], args := [d1, d2, d3] }
  | _ => none }
def fitWidensRow : OpenClaim := { program := "ytikmckfppnmlnaadoor", sum := "ff04a89834ce7dd603d0ba240539fab66e6352d5325b9cdc55b9549fc8383745", func := "manifold/manifoldlaw07.FitWidens", spec := "fitWidens", inPlace := ["internal/bytealg.abigen_runtime_cmpstring", "slices.overlaps[manifold/api.Field]"], unfollowed := true, recurses := true, named := ["unicode/utf8.first", "unicode/utf8.acceptRanges", "internal/strconv.uint64pow10", "math/bits.deBruijn32tab", "math/bits.deBruijn64tab"], loops := true, apart := false, laid := [("math/bits.deBruijn32tab", laid_math_bits_deBruijn32tab), ("math/bits.deBruijn64tab", laid_math_bits_deBruijn64tab), ("internal/strconv.uint64pow10", laid_internal_strconv_uint64pow10), ("unicode/utf8.acceptRanges", laid_unicode_utf8_acceptRanges), ("unicode/utf8.first", laid_unicode_utf8_first)] }
def FitWidensSaid : Prop := fitWidensRow.holds Tryd.pinned (OpenSpec.ofChange fitWidensSpec)

/-- ITS FALSE NEIGHBOUR: 'it returns false'. Refute it at one input. -/
def fitWidensWrong : ChangeSpec := { name := "fitWidens", fn := fun _ => fun
  | [d1, d2, d3] => { results := [.lit (.bool false)], args := [d1, d2, d3] }
  | _ => none }
def FitWidensWrongFalsely : Prop := fitWidensRow.holds Tryd.pinned (OpenSpec.ofChange fitWidensWrong)

/-- 'manifoldlaw07.FitLimit': WHATEVER THE INPUT: true; the input reads as it did. -/
def fitLimitSpec : ChangeSpec := { name := "fitLimit", fn := fun _ => fun
  | [d] => { results := [.lit (.bool true)], args := [d] }
  | _ => none }
def fitLimitRow : OpenClaim := { program := "ytikmckfppnmlnaadoor", sum := "ff04a89834ce7dd603d0ba240539fab66e6352d5325b9cdc55b9549fc8383745", func := "manifold/manifoldlaw07.FitLimit", spec := "fitLimit", inPlace := ["internal/bytealg.abigen_runtime_cmpstring", "slices.overlaps[manifold/api.Field]"], unfollowed := true, recurses := true, named := ["unicode/utf8.first", "unicode/utf8.acceptRanges", "internal/strconv.uint64pow10", "math/bits.deBruijn32tab", "math/bits.deBruijn64tab"], apart := false, laid := [("math/bits.deBruijn32tab", laid_math_bits_deBruijn32tab), ("math/bits.deBruijn64tab", laid_math_bits_deBruijn64tab), ("internal/strconv.uint64pow10", laid_internal_strconv_uint64pow10), ("unicode/utf8.acceptRanges", laid_unicode_utf8_acceptRanges), ("unicode/utf8.first", laid_unicode_utf8_first)] }
def FitLimitSaid : Prop := fitLimitRow.holds Tryd.pinned (OpenSpec.ofChange fitLimitSpec)

/-- ITS FALSE NEIGHBOUR: 'it returns false'. Refute it at one input. -/
def fitLimitWrong : ChangeSpec := { name := "fitLimit", fn := fun _ => fun
  | [d] => { results := [.lit (.bool false)], args := [d] }
  | _ => none }
def FitLimitWrongFalsely : Prop := fitLimitRow.holds Tryd.pinned (OpenSpec.ofChange fitLimitWrong)

/-- 'manifoldlaw07.FitFlat': WHATEVER THE INPUT: true; the input reads as it did. -/
def fitFlatSpec : ChangeSpec := { name := "fitFlat", fn := fun _ => fun
  | [d] => { results := [.lit (.bool true)], args := [d] }
  | _ => none }
def fitFlatRow : OpenClaim := { program := "ytikmckfppnmlnaadoor", sum := "ff04a89834ce7dd603d0ba240539fab66e6352d5325b9cdc55b9549fc8383745", func := "manifold/manifoldlaw07.FitFlat", spec := "fitFlat", inPlace := ["internal/bytealg.abigen_runtime_cmpstring", "slices.overlaps[manifold/api.Field]"], unfollowed := true, recurses := true, named := ["unicode/utf8.first", "unicode/utf8.acceptRanges", "internal/strconv.uint64pow10", "math/bits.deBruijn32tab", "math/bits.deBruijn64tab"], loops := true, apart := false, laid := [("math/bits.deBruijn32tab", laid_math_bits_deBruijn32tab), ("math/bits.deBruijn64tab", laid_math_bits_deBruijn64tab), ("internal/strconv.uint64pow10", laid_internal_strconv_uint64pow10), ("unicode/utf8.acceptRanges", laid_unicode_utf8_acceptRanges), ("unicode/utf8.first", laid_unicode_utf8_first)] }
def FitFlatSaid : Prop := fitFlatRow.holds Tryd.pinned (OpenSpec.ofChange fitFlatSpec)

/-- ITS FALSE NEIGHBOUR: 'it returns false'. Refute it at one input. -/
def fitFlatWrong : ChangeSpec := { name := "fitFlat", fn := fun _ => fun
  | [d] => { results := [.lit (.bool false)], args := [d] }
  | _ => none }
def FitFlatWrongFalsely : Prop := fitFlatRow.holds Tryd.pinned (OpenSpec.ofChange fitFlatWrong)

/-- 'manifoldlaw07.FitNames': WHATEVER THE INPUT: true; the input reads as it did. -/
def fitNamesSpec : ChangeSpec := { name := "fitNames", fn := fun _ => fun
  | [d] => { results := [.lit (.bool true)], args := [d] }
  | _ => none }
def fitNamesRow : OpenClaim := { program := "ytikmckfppnmlnaadoor", sum := "ff04a89834ce7dd603d0ba240539fab66e6352d5325b9cdc55b9549fc8383745", func := "manifold/manifoldlaw07.FitNames", spec := "fitNames", inPlace := ["internal/bytealg.abigen_runtime_cmpstring", "slices.overlaps[manifold/api.Field]"], unfollowed := true, recurses := true, named := ["unicode/utf8.first", "unicode/utf8.acceptRanges", "internal/strconv.uint64pow10", "math/bits.deBruijn32tab", "math/bits.deBruijn64tab"], apart := false, laid := [("math/bits.deBruijn32tab", laid_math_bits_deBruijn32tab), ("math/bits.deBruijn64tab", laid_math_bits_deBruijn64tab), ("internal/strconv.uint64pow10", laid_internal_strconv_uint64pow10), ("unicode/utf8.acceptRanges", laid_unicode_utf8_acceptRanges), ("unicode/utf8.first", laid_unicode_utf8_first)] }
def FitNamesSaid : Prop := fitNamesRow.holds Tryd.pinned (OpenSpec.ofChange fitNamesSpec)

/-- ITS FALSE NEIGHBOUR: 'it returns false'. Refute it at one input. -/
def fitNamesWrong : ChangeSpec := { name := "fitNames", fn := fun _ => fun
  | [d] => { results := [.lit (.bool false)], args := [d] }
  | _ => none }
def FitNamesWrongFalsely : Prop := fitNamesRow.holds Tryd.pinned (OpenSpec.ofChange fitNamesWrong)

/-- 'manifoldlaw07.FitReduces': WHATEVER THE INPUT: true; the input reads as it did. -/
def fitReducesSpec : ChangeSpec := { name := "fitReduces", fn := fun _ => fun
  | [d1, d2] => { results := [.lit (.bool true)], args := [d1, d2] }
  | _ => none }
def fitReducesRow : OpenClaim := { program := "ytikmckfppnmlnaadoor", sum := "ff04a89834ce7dd603d0ba240539fab66e6352d5325b9cdc55b9549fc8383745", func := "manifold/manifoldlaw07.FitReduces", spec := "fitReduces", inPlace := ["internal/bytealg.abigen_runtime_cmpstring", "slices.overlaps[manifold/api.Field]"], unfollowed := true, recurses := true, named := ["unicode/utf8.first", "unicode/utf8.acceptRanges", "internal/strconv.uint64pow10", "math/bits.deBruijn32tab", "math/bits.deBruijn64tab"], loops := true, apart := false, laid := [("math/bits.deBruijn32tab", laid_math_bits_deBruijn32tab), ("math/bits.deBruijn64tab", laid_math_bits_deBruijn64tab), ("internal/strconv.uint64pow10", laid_internal_strconv_uint64pow10), ("unicode/utf8.acceptRanges", laid_unicode_utf8_acceptRanges), ("unicode/utf8.first", laid_unicode_utf8_first)] }
def FitReducesSaid : Prop := fitReducesRow.holds Tryd.pinned (OpenSpec.ofChange fitReducesSpec)

/-- ITS FALSE NEIGHBOUR: 'it returns false'. Refute it at one input. -/
def fitReducesWrong : ChangeSpec := { name := "fitReduces", fn := fun _ => fun
  | [d1, d2] => { results := [.lit (.bool false)], args := [d1, d2] }
  | _ => none }
def FitReducesWrongFalsely : Prop := fitReducesRow.holds Tryd.pinned (OpenSpec.ofChange fitReducesWrong)

/-- 'manifoldlaw07.FitBack': WHATEVER THE INPUT: true; the input reads as it did. -/
def fitBackSpec : ChangeSpec := { name := "fitBack", fn := fun _ => fun
  | [d1, d2] => { results := [.lit (.bool true)], args := [d1, d2] }
  | _ => none }
def fitBackRow : OpenClaim := { program := "ytikmckfppnmlnaadoor", sum := "ff04a89834ce7dd603d0ba240539fab66e6352d5325b9cdc55b9549fc8383745", func := "manifold/manifoldlaw07.FitBack", spec := "fitBack", inPlace := ["internal/bytealg.abigen_runtime_cmpstring", "slices.overlaps[manifold/api.Field]"], unfollowed := true, recurses := true, named := ["unicode/utf8.first", "unicode/utf8.acceptRanges", "internal/strconv.uint64pow10", "math/bits.deBruijn32tab", "math/bits.deBruijn64tab"], loops := true, apart := false, laid := [("math/bits.deBruijn32tab", laid_math_bits_deBruijn32tab), ("math/bits.deBruijn64tab", laid_math_bits_deBruijn64tab), ("internal/strconv.uint64pow10", laid_internal_strconv_uint64pow10), ("unicode/utf8.acceptRanges", laid_unicode_utf8_acceptRanges), ("unicode/utf8.first", laid_unicode_utf8_first)] }
def FitBackSaid : Prop := fitBackRow.holds Tryd.pinned (OpenSpec.ofChange fitBackSpec)

/-- ITS FALSE NEIGHBOUR: 'it returns false'. Refute it at one input. -/
def fitBackWrong : ChangeSpec := { name := "fitBack", fn := fun _ => fun
  | [d1, d2] => { results := [.lit (.bool false)], args := [d1, d2] }
  | _ => none }
def FitBackWrongFalsely : Prop := fitBackRow.holds Tryd.pinned (OpenSpec.ofChange fitBackWrong)

/-- 'manifoldlaw07.FitReducesSame': WHATEVER THE INPUT: true; the input reads as it did. -/
def fitReducesSameSpec : ChangeSpec := { name := "fitReducesSame", fn := fun _ => fun
  | [d1, d2, d3] => { results := [.lit (.bool true)], args := [d1, d2, d3] }
  | _ => none }
def fitReducesSameRow : OpenClaim := { program := "ytikmckfppnmlnaadoor", sum := "ff04a89834ce7dd603d0ba240539fab66e6352d5325b9cdc55b9549fc8383745", func := "manifold/manifoldlaw07.FitReducesSame", spec := "fitReducesSame", inPlace := ["internal/bytealg.abigen_runtime_cmpstring", "slices.overlaps[manifold/api.Field]"], unfollowed := true, recurses := true, named := ["unicode/utf8.first", "unicode/utf8.acceptRanges", "internal/strconv.uint64pow10", "math/bits.deBruijn32tab", "math/bits.deBruijn64tab"], loops := true, apart := false, laid := [("math/bits.deBruijn32tab", laid_math_bits_deBruijn32tab), ("math/bits.deBruijn64tab", laid_math_bits_deBruijn64tab), ("internal/strconv.uint64pow10", laid_internal_strconv_uint64pow10), ("unicode/utf8.acceptRanges", laid_unicode_utf8_acceptRanges), ("unicode/utf8.first", laid_unicode_utf8_first)] }
def FitReducesSameSaid : Prop := fitReducesSameRow.holds Tryd.pinned (OpenSpec.ofChange fitReducesSameSpec)

/-- ITS FALSE NEIGHBOUR: 'it returns false'. Refute it at one input. -/
def fitReducesSameWrong : ChangeSpec := { name := "fitReducesSame", fn := fun _ => fun
  | [d1, d2, d3] => { results := [.lit (.bool false)], args := [d1, d2, d3] }
  | _ => none }
def FitReducesSameWrongFalsely : Prop := fitReducesSameRow.holds Tryd.pinned (OpenSpec.ofChange fitReducesSameWrong)

/- THE SECOND FORM. 'bulk': how many values and letters a reading holds, each counted each time it is reached (what is shared counts as often as it is met; a slice's spare places count too). A statement '..UptoSaid' is the law's where the arguments, and the package variables that the reading takes, are together of bulk at most 1048576: NARROWER than '..Said'. Prove '..Said' where nothing that the law and all that it calls make is longer than what came in: it says more and counts as full. Else prove '..UptoSaid'. A law counts once. -/
mutual
def uptoBulk {H : Type} : DataW H → Nat
  | .lit (.string bytes) => bytes.length + 1
  | .lit _ => 1
  | .nil => 1
  | .ptr d => uptoBulk d + 1
  | .slice elems spare => uptoBulkAll elems + uptoBulkAll spare + 1
  | .agg parts => uptoBulkAll parts + 1
  | .iface _ d => uptoBulk d + 1
  | .map entries => uptoBulkEntries entries + 1
  | .held _ => 1
def uptoBulkAll {H : Type} : List (DataW H) → Nat
  | [] => 0
  | d :: r => uptoBulk d + uptoBulkAll r
def uptoBulkEntries {H : Type} : List (Lit × DataW H) → Nat
  | [] => 0
  | x :: r => uptoBulkEntry x + uptoBulkEntries r
def uptoBulkEntry {H : Type} : Lit × DataW H → Nat
  | (.string bytes, d) => bytes.length + uptoBulk d + 1
  | (_, d) => uptoBulk d + 1
 end
def uptoSmall : (H : Type) → List (DataW H) → Bool := fun _ ds => decide (uptoBulkAll ds ≤ 1048576)
def OpenSpec.upto (s : _root_.Go.ChangeSpec) : _root_.Go.OpenSpec := { _root_.Go.OpenSpec.ofChange s with cond := some uptoSmall }

/-- 'manifoldlaw23.ResolveNames', WHERE WHAT IT READS IS OF BULK AT MOST 1048576: true; the input reads as it did. -/
def resolveNamesUptoRow : OpenClaim := { program := "ytikmckfppnmlnaadoor", sum := "ff04a89834ce7dd603d0ba240539fab66e6352d5325b9cdc55b9549fc8383745", func := "manifold/manifoldlaw23.ResolveNames", spec := "resolveNames", inPlace := ["internal/abi.NoEscape", "internal/bytealg.MakeNoZero", "internal/bytealg.abigen_runtime_cmpstring"], unfollowed := true, recurses := true, named := ["internal/strconv.uint64pow10", "math/bits.deBruijn32tab", "math/bits.deBruijn64tab"], loops := true, apart := false, laid := [("math/bits.deBruijn32tab", laid_math_bits_deBruijn32tab), ("math/bits.deBruijn64tab", laid_math_bits_deBruijn64tab), ("internal/strconv.uint64pow10", laid_internal_strconv_uint64pow10)], narrowed := true }
def ResolveNamesUptoSaid : Prop := resolveNamesUptoRow.holds Tryd.pinned (OpenSpec.upto resolveNamesSpec)

/-- 'manifoldlaw07.FitMisfits', WHERE WHAT IT READS IS OF BULK AT MOST 1048576: true; the input reads as it did. -/
def fitMisfitsUptoRow : OpenClaim := { program := "ytikmckfppnmlnaadoor", sum := "ff04a89834ce7dd603d0ba240539fab66e6352d5325b9cdc55b9549fc8383745", func := "manifold/manifoldlaw07.FitMisfits", spec := "fitMisfits", inPlace := ["internal/bytealg.abigen_runtime_cmpstring", "slices.overlaps[manifold/api.Field]"], unfollowed := true, recurses := true, named := ["unicode/utf8.first", "unicode/utf8.acceptRanges", "internal/strconv.uint64pow10", "math/bits.deBruijn32tab", "math/bits.deBruijn64tab"], loops := true, apart := false, laid := [("math/bits.deBruijn32tab", laid_math_bits_deBruijn32tab), ("math/bits.deBruijn64tab", laid_math_bits_deBruijn64tab), ("internal/strconv.uint64pow10", laid_internal_strconv_uint64pow10), ("unicode/utf8.acceptRanges", laid_unicode_utf8_acceptRanges), ("unicode/utf8.first", laid_unicode_utf8_first)], narrowed := true }
def FitMisfitsUptoSaid : Prop := fitMisfitsUptoRow.holds Tryd.pinned (OpenSpec.upto fitMisfitsSpec)

/-- 'manifoldlaw07.FitWidens', WHERE WHAT IT READS IS OF BULK AT MOST 1048576: true; the input reads as it did. -/
def fitWidensUptoRow : OpenClaim := { program := "ytikmckfppnmlnaadoor", sum := "ff04a89834ce7dd603d0ba240539fab66e6352d5325b9cdc55b9549fc8383745", func := "manifold/manifoldlaw07.FitWidens", spec := "fitWidens", inPlace := ["internal/bytealg.abigen_runtime_cmpstring", "slices.overlaps[manifold/api.Field]"], unfollowed := true, recurses := true, named := ["unicode/utf8.first", "unicode/utf8.acceptRanges", "internal/strconv.uint64pow10", "math/bits.deBruijn32tab", "math/bits.deBruijn64tab"], loops := true, apart := false, laid := [("math/bits.deBruijn32tab", laid_math_bits_deBruijn32tab), ("math/bits.deBruijn64tab", laid_math_bits_deBruijn64tab), ("internal/strconv.uint64pow10", laid_internal_strconv_uint64pow10), ("unicode/utf8.acceptRanges", laid_unicode_utf8_acceptRanges), ("unicode/utf8.first", laid_unicode_utf8_first)], narrowed := true }
def FitWidensUptoSaid : Prop := fitWidensUptoRow.holds Tryd.pinned (OpenSpec.upto fitWidensSpec)

/-- 'manifoldlaw07.FitLimit', WHERE WHAT IT READS IS OF BULK AT MOST 1048576: true; the input reads as it did. -/
def fitLimitUptoRow : OpenClaim := { program := "ytikmckfppnmlnaadoor", sum := "ff04a89834ce7dd603d0ba240539fab66e6352d5325b9cdc55b9549fc8383745", func := "manifold/manifoldlaw07.FitLimit", spec := "fitLimit", inPlace := ["internal/bytealg.abigen_runtime_cmpstring", "slices.overlaps[manifold/api.Field]"], unfollowed := true, recurses := true, named := ["unicode/utf8.first", "unicode/utf8.acceptRanges", "internal/strconv.uint64pow10", "math/bits.deBruijn32tab", "math/bits.deBruijn64tab"], apart := false, laid := [("math/bits.deBruijn32tab", laid_math_bits_deBruijn32tab), ("math/bits.deBruijn64tab", laid_math_bits_deBruijn64tab), ("internal/strconv.uint64pow10", laid_internal_strconv_uint64pow10), ("unicode/utf8.acceptRanges", laid_unicode_utf8_acceptRanges), ("unicode/utf8.first", laid_unicode_utf8_first)], narrowed := true }
def FitLimitUptoSaid : Prop := fitLimitUptoRow.holds Tryd.pinned (OpenSpec.upto fitLimitSpec)

/-- 'manifoldlaw07.FitFlat', WHERE WHAT IT READS IS OF BULK AT MOST 1048576: true; the input reads as it did. -/
def fitFlatUptoRow : OpenClaim := { program := "ytikmckfppnmlnaadoor", sum := "ff04a89834ce7dd603d0ba240539fab66e6352d5325b9cdc55b9549fc8383745", func := "manifold/manifoldlaw07.FitFlat", spec := "fitFlat", inPlace := ["internal/bytealg.abigen_runtime_cmpstring", "slices.overlaps[manifold/api.Field]"], unfollowed := true, recurses := true, named := ["unicode/utf8.first", "unicode/utf8.acceptRanges", "internal/strconv.uint64pow10", "math/bits.deBruijn32tab", "math/bits.deBruijn64tab"], loops := true, apart := false, laid := [("math/bits.deBruijn32tab", laid_math_bits_deBruijn32tab), ("math/bits.deBruijn64tab", laid_math_bits_deBruijn64tab), ("internal/strconv.uint64pow10", laid_internal_strconv_uint64pow10), ("unicode/utf8.acceptRanges", laid_unicode_utf8_acceptRanges), ("unicode/utf8.first", laid_unicode_utf8_first)], narrowed := true }
def FitFlatUptoSaid : Prop := fitFlatUptoRow.holds Tryd.pinned (OpenSpec.upto fitFlatSpec)

/-- 'manifoldlaw07.FitNames', WHERE WHAT IT READS IS OF BULK AT MOST 1048576: true; the input reads as it did. -/
def fitNamesUptoRow : OpenClaim := { program := "ytikmckfppnmlnaadoor", sum := "ff04a89834ce7dd603d0ba240539fab66e6352d5325b9cdc55b9549fc8383745", func := "manifold/manifoldlaw07.FitNames", spec := "fitNames", inPlace := ["internal/bytealg.abigen_runtime_cmpstring", "slices.overlaps[manifold/api.Field]"], unfollowed := true, recurses := true, named := ["unicode/utf8.first", "unicode/utf8.acceptRanges", "internal/strconv.uint64pow10", "math/bits.deBruijn32tab", "math/bits.deBruijn64tab"], apart := false, laid := [("math/bits.deBruijn32tab", laid_math_bits_deBruijn32tab), ("math/bits.deBruijn64tab", laid_math_bits_deBruijn64tab), ("internal/strconv.uint64pow10", laid_internal_strconv_uint64pow10), ("unicode/utf8.acceptRanges", laid_unicode_utf8_acceptRanges), ("unicode/utf8.first", laid_unicode_utf8_first)], narrowed := true }
def FitNamesUptoSaid : Prop := fitNamesUptoRow.holds Tryd.pinned (OpenSpec.upto fitNamesSpec)

/-- 'manifoldlaw07.FitReduces', WHERE WHAT IT READS IS OF BULK AT MOST 1048576: true; the input reads as it did. -/
def fitReducesUptoRow : OpenClaim := { program := "ytikmckfppnmlnaadoor", sum := "ff04a89834ce7dd603d0ba240539fab66e6352d5325b9cdc55b9549fc8383745", func := "manifold/manifoldlaw07.FitReduces", spec := "fitReduces", inPlace := ["internal/bytealg.abigen_runtime_cmpstring", "slices.overlaps[manifold/api.Field]"], unfollowed := true, recurses := true, named := ["unicode/utf8.first", "unicode/utf8.acceptRanges", "internal/strconv.uint64pow10", "math/bits.deBruijn32tab", "math/bits.deBruijn64tab"], loops := true, apart := false, laid := [("math/bits.deBruijn32tab", laid_math_bits_deBruijn32tab), ("math/bits.deBruijn64tab", laid_math_bits_deBruijn64tab), ("internal/strconv.uint64pow10", laid_internal_strconv_uint64pow10), ("unicode/utf8.acceptRanges", laid_unicode_utf8_acceptRanges), ("unicode/utf8.first", laid_unicode_utf8_first)], narrowed := true }
def FitReducesUptoSaid : Prop := fitReducesUptoRow.holds Tryd.pinned (OpenSpec.upto fitReducesSpec)

/-- 'manifoldlaw07.FitBack', WHERE WHAT IT READS IS OF BULK AT MOST 1048576: true; the input reads as it did. -/
def fitBackUptoRow : OpenClaim := { program := "ytikmckfppnmlnaadoor", sum := "ff04a89834ce7dd603d0ba240539fab66e6352d5325b9cdc55b9549fc8383745", func := "manifold/manifoldlaw07.FitBack", spec := "fitBack", inPlace := ["internal/bytealg.abigen_runtime_cmpstring", "slices.overlaps[manifold/api.Field]"], unfollowed := true, recurses := true, named := ["unicode/utf8.first", "unicode/utf8.acceptRanges", "internal/strconv.uint64pow10", "math/bits.deBruijn32tab", "math/bits.deBruijn64tab"], loops := true, apart := false, laid := [("math/bits.deBruijn32tab", laid_math_bits_deBruijn32tab), ("math/bits.deBruijn64tab", laid_math_bits_deBruijn64tab), ("internal/strconv.uint64pow10", laid_internal_strconv_uint64pow10), ("unicode/utf8.acceptRanges", laid_unicode_utf8_acceptRanges), ("unicode/utf8.first", laid_unicode_utf8_first)], narrowed := true }
def FitBackUptoSaid : Prop := fitBackUptoRow.holds Tryd.pinned (OpenSpec.upto fitBackSpec)

/-- 'manifoldlaw07.FitReducesSame', WHERE WHAT IT READS IS OF BULK AT MOST 1048576: true; the input reads as it did. -/
def fitReducesSameUptoRow : OpenClaim := { program := "ytikmckfppnmlnaadoor", sum := "ff04a89834ce7dd603d0ba240539fab66e6352d5325b9cdc55b9549fc8383745", func := "manifold/manifoldlaw07.FitReducesSame", spec := "fitReducesSame", inPlace := ["internal/bytealg.abigen_runtime_cmpstring", "slices.overlaps[manifold/api.Field]"], unfollowed := true, recurses := true, named := ["unicode/utf8.first", "unicode/utf8.acceptRanges", "internal/strconv.uint64pow10", "math/bits.deBruijn32tab", "math/bits.deBruijn64tab"], loops := true, apart := false, laid := [("math/bits.deBruijn32tab", laid_math_bits_deBruijn32tab), ("math/bits.deBruijn64tab", laid_math_bits_deBruijn64tab), ("internal/strconv.uint64pow10", laid_internal_strconv_uint64pow10), ("unicode/utf8.acceptRanges", laid_unicode_utf8_acceptRanges), ("unicode/utf8.first", laid_unicode_utf8_first)], narrowed := true }
def FitReducesSameUptoSaid : Prop := fitReducesSameUptoRow.holds Tryd.pinned (OpenSpec.upto fitReducesSameSpec)

end Rows
end Go.Proofs.YtikmckfppnmlnaaDoor
