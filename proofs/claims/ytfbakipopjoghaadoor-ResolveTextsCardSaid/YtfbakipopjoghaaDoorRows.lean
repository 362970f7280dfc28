/-
  NARROWER THAN 'FOR EVERY INPUT', by the rows' own cells (each row's printed sentence says how): ResolveEnds: loops, laid · ResolveAutomatic: laid · ResolveLookups: loops, laid · ResolveSchemas: loops, laid · ResolveTexts: laid · ResolveOrders: laid · ResolveWalks: loops, laid · ResolveNames: loops, laid.
  DERIVED. THE GIVEN ROWS OF THIS SEAT. 8 by the template 'for every input the law returns true; each argument reads behind the call as it read before'; 0 by the template 'total and deterministic' (their statements: YtfbakipopjoghaaDoorTotals.lean).
  GIVEN WITH THE SEED: the statements are not yours to turn. If you find one false, say at which input.
  Laid BY PROGRAM, IN A SANDBOX (cutbox-rows.mjs): the forced cells as the released guide's own fill.sh prints them over the translation 9eacabaf55df8f15… (all of the seat's roots in one cut). By AI agents, Wed Nov 11 2026. No macro, syntax, notation, axiom, sorry.
-/
import Derived.Test.YtfbakipopjoghaaDoorChecked
import GoSem.Claim
import GoSem.ClaimJoined
import GoSem.ClaimMapViews
import Derived.JoinedTies
import Derived.KernelRfl
namespace Go.Proofs.YtfbakipopjoghaaDoor
/- THE CELL 'sum', in the pinned program and in every row, IS THE sha256 OF THE DUMP (.gsa) THAT YtfbakipopjoghaaDoorProg.lean LOADS. Nothing in Lean hashes anything: it is a label: what it is worth is what the hold of that sum in a sandbox is worth. -/
noncomputable def Tryd.pinned : Pinned := { name := "ytfbakipopjoghaadoor", sum := "9eacabaf55df8f15d1528dce0565723734665bf2e43ab900a5fa09bb30ed6343", checked := Tryd.checked }
namespace Rows
def none {H : Type} : Left H := { results := [], args := [] }

/- WHAT THE LISTED PACKAGE-LEVEL VARIABLES READ AS WHEN THE CALL BEGINS. Each datum BY PROGRAM (the guide's laid-datum.mjs) off the statement by which the dump's own 'gosem.cut.vars' lays the variable. In a bare row this is a premise. The card (YtfbakipopjoghaaDoorCards.lean) ties it to the program's text. -/
def laid_math_bits_deBruijn32tab {H : Type} : DataW H := .agg [.lit (.int .u8 0), .lit (.int .u8 1), .lit (.int .u8 28), .lit (.int .u8 2), .lit (.int .u8 29), .lit (.int .u8 14), .lit (.int .u8 24), .lit (.int .u8 3), .lit (.int .u8 30), .lit (.int .u8 22), .lit (.int .u8 20), .lit (.int .u8 15), .lit (.int .u8 25), .lit (.int .u8 17), .lit (.int .u8 4), .lit (.int .u8 8), .lit (.int .u8 31), .lit (.int .u8 27), .lit (.int .u8 13), .lit (.int .u8 23), .lit (.int .u8 21), .lit (.int .u8 19), .lit (.int .u8 16), .lit (.int .u8 7), .lit (.int .u8 26), .lit (.int .u8 12), .lit (.int .u8 18), .lit (.int .u8 6), .lit (.int .u8 11), .lit (.int .u8 5), .lit (.int .u8 10), .lit (.int .u8 9)]
def laid_math_bits_deBruijn64tab {H : Type} : DataW H := .agg [.lit (.int .u8 0), .lit (.int .u8 1), .lit (.int .u8 56), .lit (.int .u8 2), .lit (.int .u8 57), .lit (.int .u8 49), .lit (.int .u8 28), .lit (.int .u8 3), .lit (.int .u8 61), .lit (.int .u8 58), .lit (.int .u8 42), .lit (.int .u8 50), .lit (.int .u8 38), .lit (.int .u8 29), .lit (.int .u8 17), .lit (.int .u8 4), .lit (.int .u8 62), .lit (.int .u8 47), .lit (.int .u8 59), .lit (.int .u8 36), .lit (.int .u8 45), .lit (.int .u8 43), .lit (.int .u8 51), .lit (.int .u8 22), .lit (.int .u8 53), .lit (.int .u8 39), .lit (.int .u8 33), .lit (.int .u8 30), .lit (.int .u8 24), .lit (.int .u8 18), .lit (.int .u8 12), .lit (.int .u8 5), .lit (.int .u8 63), .lit (.int .u8 55), .lit (.int .u8 48), .lit (.int .u8 27), .lit (.int .u8 60), .lit (.int .u8 41), .lit (.int .u8 37), .lit (.int .u8 16), .lit (.int .u8 46), .lit (.int .u8 35), .lit (.int .u8 44), .lit (.int .u8 21), .lit (.int .u8 52), .lit (.int .u8 32), .lit (.int .u8 23), .lit (.int .u8 11), .lit (.int .u8 54), .lit (.int .u8 26), .lit (.int .u8 40), .lit (.int .u8 15), .lit (.int .u8 34), .lit (.int .u8 20), .lit (.int .u8 31), .lit (.int .u8 10), .lit (.int .u8 25), .lit (.int .u8 14), .lit (.int .u8 19), .lit (.int .u8 9), .lit (.int .u8 13), .lit (.int .u8 8), .lit (.int .u8 7), .lit (.int .u8 6)]
def laid_internal_strconv_uint64pow10 {H : Type} : DataW H := .agg [.lit (.int .u64 1), .lit (.int .u64 10), .lit (.int .u64 100), .lit (.int .u64 1000), .lit (.int .u64 10000), .lit (.int .u64 100000), .lit (.int .u64 1000000), .lit (.int .u64 10000000), .lit (.int .u64 100000000), .lit (.int .u64 1000000000), .lit (.int .u64 10000000000), .lit (.int .u64 100000000000), .lit (.int .u64 1000000000000), .lit (.int .u64 10000000000000), .lit (.int .u64 100000000000000), .lit (.int .u64 1000000000000000), .lit (.int .u64 10000000000000000), .lit (.int .u64 100000000000000000), .lit (.int .u64 1000000000000000000), .lit (.int .u64 10000000000000000000)]

/-- 'manifoldlaw23.ResolveEnds': WHATEVER THE INPUT: true; the input reads as it did. -/
def resolveEndsSpec : ChangeSpec := { name := "resolveEnds", fn := fun _ => fun
  | [d] => { results := [.lit (.bool true)], args := [d] }
  | _ => none }
def resolveEndsRow : OpenClaim := { program := "ytfbakipopjoghaadoor", sum := "9eacabaf55df8f15d1528dce0565723734665bf2e43ab900a5fa09bb30ed6343", func := "manifold/manifoldlaw23.ResolveEnds", spec := "resolveEnds", inPlace := ["internal/abi.NoEscape", "internal/bytealg.MakeNoZero"], unfollowed := true, recurses := true, named := ["internal/strconv.uint64pow10", "math/bits.deBruijn32tab", "math/bits.deBruijn64tab"], loops := true, apart := false, laid := [("math/bits.deBruijn32tab", laid_math_bits_deBruijn32tab), ("math/bits.deBruijn64tab", laid_math_bits_deBruijn64tab), ("internal/strconv.uint64pow10", laid_internal_strconv_uint64pow10)] }
def ResolveEndsSaid : Prop := resolveEndsRow.holds Tryd.pinned (OpenSpec.ofChange resolveEndsSpec)

/-- ITS FALSE NEIGHBOUR: 'it returns false'. Refute it at one input. -/
def resolveEndsWrong : ChangeSpec := { name := "resolveEnds", fn := fun _ => fun
  | [d] => { results := [.lit (.bool false)], args := [d] }
  | _ => none }
def ResolveEndsWrongFalsely : Prop := resolveEndsRow.holds Tryd.pinned (OpenSpec.ofChange resolveEndsWrong)

/-- 'manifoldlaw23.ResolveAutomatic': WHATEVER THE INPUT: true; the input reads as it did. -/
def resolveAutomaticSpec : ChangeSpec := { name := "resolveAutomatic", fn := fun _ => fun
  | [d1, d2] => { results := [.lit (.bool true)], args := [d1, d2] }
  | _ => none }
def resolveAutomaticRow : OpenClaim := { program := "ytfbakipopjoghaadoor", sum := "9eacabaf55df8f15d1528dce0565723734665bf2e43ab900a5fa09bb30ed6343", func := "manifold/manifoldlaw23.ResolveAutomatic", spec := "resolveAutomatic", inPlace := ["internal/abi.NoEscape", "internal/bytealg.MakeNoZero"], unfollowed := true, recurses := true, named := ["internal/strconv.uint64pow10", "math/bits.deBruijn32tab", "math/bits.deBruijn64tab"], apart := false, laid := [("math/bits.deBruijn32tab", laid_math_bits_deBruijn32tab), ("math/bits.deBruijn64tab", laid_math_bits_deBruijn64tab), ("internal/strconv.uint64pow10", laid_internal_strconv_uint64pow10)] }
def ResolveAutomaticSaid : Prop := resolveAutomaticRow.holds Tryd.pinned (OpenSpec.ofChange resolveAutomaticSpec)

/-- ITS FALSE NEIGHBOUR: 'it returns false'. Refute it at one input. -/
def resolveAutomaticWrong : ChangeSpec := { name := "resolveAutomatic", fn := fun _ => fun
  | [d1, d2] => { results := [.lit (.bool false)], args := [d1, d2] }
  | _ => none }
def ResolveAutomaticWrongFalsely : Prop := resolveAutomaticRow.holds Tryd.pinned (OpenSpec.ofChange resolveAutomaticWrong)

/-- 'manifoldlaw23.ResolveLookups': WHATEVER THE INPUT: true; the input reads as it did. -/
def resolveLookupsSpec : ChangeSpec := { name := "resolveLookups", fn := fun _ => fun
  | [d1, d2] => { results := [.lit (.bool true)], args := [d1, d2] }
  | _ => none }
def resolveLookupsRow : OpenClaim := { program := "ytfbakipopjoghaadoor", sum := "9eacabaf55df8f15d1528dce0565723734665bf2e43ab900a5fa09bb30ed6343", func := "manifold/manifoldlaw23.ResolveLookups", spec := "resolveLookups", inPlace := ["internal/abi.NoEscape", "internal/bytealg.MakeNoZero"], unfollowed := true, recurses := true, named := ["internal/strconv.uint64pow10", "math/bits.deBruijn32tab", "math/bits.deBruijn64tab"], loops := true, apart := false, laid := [("math/bits.deBruijn32tab", laid_math_bits_deBruijn32tab), ("math/bits.deBruijn64tab", laid_math_bits_deBruijn64tab), ("internal/strconv.uint64pow10", laid_internal_strconv_uint64pow10)] }
def ResolveLookupsSaid : Prop := resolveLookupsRow.holds Tryd.pinned (OpenSpec.ofChange resolveLookupsSpec)

/-- ITS FALSE NEIGHBOUR: 'it returns false'. Refute it at one input. -/
def resolveLookupsWrong : ChangeSpec := { name := "resolveLookups", fn := fun _ => fun
  | [d1, d2] => { results := [.lit (.bool false)], args := [d1, d2] }
  | _ => none }
def ResolveLookupsWrongFalsely : Prop := resolveLookupsRow.holds Tryd.pinned (OpenSpec.ofChange resolveLookupsWrong)

/-- 'manifoldlaw23.ResolveSchemas': WHATEVER THE INPUT: true; the input reads as it did. -/
def resolveSchemasSpec : ChangeSpec := { name := "resolveSchemas", fn := fun _ => fun
  | [d1, d2, d3] => { results := [.lit (.bool true)], args := [d1, d2, d3] }
  | _ => none }
def resolveSchemasRow : OpenClaim := { program := "ytfbakipopjoghaadoor", sum := "9eacabaf55df8f15d1528dce0565723734665bf2e43ab900a5fa09bb30ed6343", func := "manifold/manifoldlaw23.ResolveSchemas", spec := "resolveSchemas", inPlace := ["internal/abi.NoEscape", "internal/bytealg.MakeNoZero"], unfollowed := true, recurses := true, named := ["internal/strconv.uint64pow10", "math/bits.deBruijn32tab", "math/bits.deBruijn64tab"], loops := true, apart := false, laid := [("math/bits.deBruijn32tab", laid_math_bits_deBruijn32tab), ("math/bits.deBruijn64tab", laid_math_bits_deBruijn64tab), ("internal/strconv.uint64pow10", laid_internal_strconv_uint64pow10)] }
def ResolveSchemasSaid : Prop := resolveSchemasRow.holds Tryd.pinned (OpenSpec.ofChange resolveSchemasSpec)

/-- ITS FALSE NEIGHBOUR: 'it returns false'. Refute it at one input. -/
def resolveSchemasWrong : ChangeSpec := { name := "resolveSchemas", fn := fun _ => fun
  | [d1, d2, d3] => { results := [.lit (.bool false)], args := [d1, d2, d3] }
  | _ => none }
def ResolveSchemasWrongFalsely : Prop := resolveSchemasRow.holds Tryd.pinned (OpenSpec.ofChange resolveSchemasWrong)

/-- 'manifoldlaw23.ResolveTexts': WHATEVER THE INPUT: true; the input reads as it did. -/
def resolveTextsSpec : ChangeSpec := { name := "resolveTexts", fn := fun _ => fun
  | [d] => { results := [.lit (.bool true)], args := [d] }
  | _ => none }
def resolveTextsRow : OpenClaim := { program := "ytfbakipopjoghaadoor", sum := "9eacabaf55df8f15d1528dce0565723734665bf2e43ab900a5fa09bb30ed6343", func := "manifold/manifoldlaw23.ResolveTexts", spec := "resolveTexts", inPlace := ["internal/abi.NoEscape", "internal/bytealg.MakeNoZero"], unfollowed := true, recurses := true, named := ["internal/strconv.uint64pow10", "math/bits.deBruijn32tab", "math/bits.deBruijn64tab"], apart := false, laid := [("math/bits.deBruijn32tab", laid_math_bits_deBruijn32tab), ("math/bits.deBruijn64tab", laid_math_bits_deBruijn64tab), ("internal/strconv.uint64pow10", laid_internal_strconv_uint64pow10)] }
def ResolveTextsSaid : Prop := resolveTextsRow.holds Tryd.pinned (OpenSpec.ofChange resolveTextsSpec)

/-- ITS FALSE NEIGHBOUR: 'it returns false'. Refute it at one input. -/
def resolveTextsWrong : ChangeSpec := { name := "resolveTexts", fn := fun _ => fun
  | [d] => { results := [.lit (.bool false)], args := [d] }
  | _ => none }
def ResolveTextsWrongFalsely : Prop := resolveTextsRow.holds Tryd.pinned (OpenSpec.ofChange resolveTextsWrong)

/-- 'manifoldlaw23.ResolveOrders': WHATEVER THE INPUT: true; the input reads as it did. -/
def resolveOrdersSpec : ChangeSpec := { name := "resolveOrders", fn := fun _ => fun
  | [d1, d2, d3] => { results := [.lit (.bool true)], args := [d1, d2, d3] }
  | _ => none }
def resolveOrdersRow : OpenClaim := { program := "ytfbakipopjoghaadoor", sum := "9eacabaf55df8f15d1528dce0565723734665bf2e43ab900a5fa09bb30ed6343", func := "manifold/manifoldlaw23.ResolveOrders", spec := "resolveOrders", inPlace := ["internal/bytealg.abigen_runtime_cmpstring", "internal/abi.NoEscape", "internal/bytealg.MakeNoZero"], unfollowed := true, recurses := true, named := ["internal/strconv.uint64pow10", "math/bits.deBruijn32tab", "math/bits.deBruijn64tab"], apart := false, laid := [("math/bits.deBruijn32tab", laid_math_bits_deBruijn32tab), ("math/bits.deBruijn64tab", laid_math_bits_deBruijn64tab), ("internal/strconv.uint64pow10", laid_internal_strconv_uint64pow10)] }
def ResolveOrdersSaid : Prop := resolveOrdersRow.holds Tryd.pinned (OpenSpec.ofChange resolveOrdersSpec)

/-- ITS FALSE NEIGHBOUR: 'it returns false'. Refute it at one input. -/
def resolveOrdersWrong : ChangeSpec := { name := "resolveOrders", fn := fun _ => fun
  | [d1, d2, d3] => { results := [.lit (.bool false)], args := [d1, d2, d3] }
  | _ => none }
def ResolveOrdersWrongFalsely : Prop := resolveOrdersRow.holds Tryd.pinned (OpenSpec.ofChange resolveOrdersWrong)

/-- 'manifoldlaw23.ResolveWalks': WHATEVER THE INPUT: true; the input reads as it did. -/
def resolveWalksSpec : ChangeSpec := { name := "resolveWalks", fn := fun _ => fun
  | [d1, d2, d3] => { results := [.lit (.bool true)], args := [d1, d2, d3] }
  | _ => none }
def resolveWalksRow : OpenClaim := { program := "ytfbakipopjoghaadoor", sum := "9eacabaf55df8f15d1528dce0565723734665bf2e43ab900a5fa09bb30ed6343", func := "manifold/manifoldlaw23.ResolveWalks", spec := "resolveWalks", inPlace := ["internal/abi.NoEscape", "internal/bytealg.MakeNoZero", "internal/bytealg.abigen_runtime_cmpstring"], unfollowed := true, recurses := true, named := ["internal/strconv.uint64pow10", "math/bits.deBruijn32tab", "math/bits.deBruijn64tab"], loops := true, apart := false, laid := [("math/bits.deBruijn32tab", laid_math_bits_deBruijn32tab), ("math/bits.deBruijn64tab", laid_math_bits_deBruijn64tab), ("internal/strconv.uint64pow10", laid_internal_strconv_uint64pow10)] }
def ResolveWalksSaid : Prop := resolveWalksRow.holds Tryd.pinned (OpenSpec.ofChange resolveWalksSpec)

/-- ITS FALSE NEIGHBOUR: 'it returns false'. Refute it at one input. -/
def resolveWalksWrong : ChangeSpec := { name := "resolveWalks", fn := fun _ => fun
  | [d1, d2, d3] => { results := [.lit (.bool false)], args := [d1, d2, d3] }
  | _ => none }
def ResolveWalksWrongFalsely : Prop := resolveWalksRow.holds Tryd.pinned (OpenSpec.ofChange resolveWalksWrong)

/-- 'manifoldlaw23.ResolveNames': WHATEVER THE INPUT: true; the input reads as it did. -/
def resolveNamesSpec : ChangeSpec := { name := "resolveNames", fn := fun _ => fun
  | [d1, d2] => { results := [.lit (.bool true)], args := [d1, d2] }
  | _ => none }
def resolveNamesRow : OpenClaim := { program := "ytfbakipopjoghaadoor", sum := "9eacabaf55df8f15d1528dce0565723734665bf2e43ab900a5fa09bb30ed6343", func := "manifold/manifoldlaw23.ResolveNames", spec := "resolveNames", inPlace := ["internal/abi.NoEscape", "internal/bytealg.MakeNoZero", "internal/bytealg.abigen_runtime_cmpstring"], unfollowed := true, recurses := true, named := ["internal/strconv.uint64pow10", "math/bits.deBruijn32tab", "math/bits.deBruijn64tab"], loops := true, apart := false, laid := [("math/bits.deBruijn32tab", laid_math_bits_deBruijn32tab), ("math/bits.deBruijn64tab", laid_math_bits_deBruijn64tab), ("internal/strconv.uint64pow10", laid_internal_strconv_uint64pow10)] }
def ResolveNamesSaid : Prop := resolveNamesRow.holds Tryd.pinned (OpenSpec.ofChange resolveNamesSpec)

/-- ITS FALSE NEIGHBOUR: 'it returns false'. Refute it at one input. -/
def resolveNamesWrong : ChangeSpec := { name := "resolveNames", fn := fun _ => fun
  | [d1, d2] => { results := [.lit (.bool false)], args := [d1, d2] }
  | _ => none }
def ResolveNamesWrongFalsely : Prop := resolveNamesRow.holds Tryd.pinned (OpenSpec.ofChange resolveNamesWrong)

/- THE SECOND FORM. 'bulk': how many values and letters a reading holds, each counted each time it is reached (what is shared counts as often as it is met; a slice's spare places count too). A statement '..UptoSaid' is the law's where the arguments, and the package variables that the reading takes, are together of bulk at most 1048576: NARROWER than '..Said'. Prove '..Said' where nothing that the law and all that it calls make is longer than what came in: it says more and counts as full. Else prove '..UptoSaid'. A law counts once. -/
mutual
def uptoBulk {H : Type} : DataW H → Nat
  | .lit (.string bytes) => bytes.length + 1
  | .lit _ => 1
  | .nil => 1
  | .ptr d => uptoBulk d + 1
  | .slice elems spare => uptoBulkAll elems + uptoBulkAll spare + 1
  | .agg parts => uptoBulkAll parts + 1
  | .iface _ d => uptoBulk d + 1
  | .map entries => uptoBulkEntries entries + 1
  | .held _ => 1
def uptoBulkAll {H : Type} : List (DataW H) → Nat
  | [] => 0
  | d :: r => uptoBulk d + uptoBulkAll r
def uptoBulkEntries {H : Type} : List (Lit × DataW H) → Nat
  | [] => 0
  | x :: r => uptoBulkEntry x + uptoBulkEntries r
def uptoBulkEntry {H : Type} : Lit × DataW H → Nat
  | (.string bytes, d) => bytes.length + uptoBulk d + 1
  | (_, d) => uptoBulk d + 1
 end
def uptoSmall : (H : Type) → List (DataW H) → Bool := fun _ ds => decide (uptoBulkAll ds ≤ 1048576)
def OpenSpec.upto (s : _root_.Go.ChangeSpec) : _root_.Go.OpenSpec := { _root_.Go.OpenSpec.ofChange s with cond := some uptoSmall }

/-- 'manifoldlaw23.ResolveEnds', WHERE WHAT IT READS IS OF BULK AT MOST 1048576: true; the input reads as it did. -/
def resolveEndsUptoRow : OpenClaim := { program := "ytfbakipopjoghaadoor", sum := "9eacabaf55df8f15d1528dce0565723734665bf2e43ab900a5fa09bb30ed6343", func := "manifold/manifoldlaw23.ResolveEnds", spec := "resolveEnds", inPlace := ["internal/abi.NoEscape", "internal/bytealg.MakeNoZero"], unfollowed := true, recurses := true, named := ["internal/strconv.uint64pow10", "math/bits.deBruijn32tab", "math/bits.deBruijn64tab"], loops := true, apart := false, laid := [("math/bits.deBruijn32tab", laid_math_bits_deBruijn32tab), ("math/bits.deBruijn64tab", laid_math_bits_deBruijn64tab), ("internal/strconv.uint64pow10", laid_internal_strconv_uint64pow10)], narrowed := true }
def ResolveEndsUptoSaid : Prop := resolveEndsUptoRow.holds Tryd.pinned (OpenSpec.upto resolveEndsSpec)

/-- 'manifoldlaw23.ResolveAutomatic', WHERE WHAT IT READS IS OF BULK AT MOST 1048576: true; the input reads as it did. -/
def resolveAutomaticUptoRow : OpenClaim := { program := "ytfbakipopjoghaadoor", sum := "9eacabaf55df8f15d1528dce0565723734665bf2e43ab900a5fa09bb30ed6343", func := "manifold/manifoldlaw23.ResolveAutomatic", spec := "resolveAutomatic", inPlace := ["internal/abi.NoEscape", "internal/bytealg.MakeNoZero"], unfollowed := true, recurses := true, named := ["internal/strconv.uint64pow10", "math/bits.deBruijn32tab", "math/bits.deBruijn64tab"], apart := false, laid := [("math/bits.deBruijn32tab", laid_math_bits_deBruijn32tab), ("math/bits.deBruijn64tab", laid_math_bits_deBruijn64tab), ("internal/strconv.uint64pow10", laid_internal_strconv_uint64pow10)], narrowed := true }
def ResolveAutomaticUptoSaid : Prop := resolveAutomaticUptoRow.holds Tryd.pinned (OpenSpec.upto resolveAutomaticSpec)

/-- 'manifoldlaw23.ResolveLookups', WHERE WHAT IT READS IS OF BULK AT MOST 1048576: true; the input reads as it did. -/
def resolveLookupsUptoRow : OpenClaim := { program := "ytfbakipopjoghaadoor", sum := "9eacabaf55df8f15d1528dce0565723734665bf2e43ab900a5fa09bb30ed6343", func := "manifold/manifoldlaw23.ResolveLookups", spec := "resolveLookups", inPlace := ["internal/abi.NoEscape", "internal/bytealg.MakeNoZero"], unfollowed := true, recurses := true, named := ["internal/strconv.uint64pow10", "math/bits.deBruijn32tab", "math/bits.deBruijn64tab"], loops := true, apart := false, laid := [("math/bits.deBruijn32tab", laid_math_bits_deBruijn32tab), ("math/bits.deBruijn64tab", laid_math_bits_deBruijn64tab), ("internal/strconv.uint64pow10", laid_internal_strconv_uint64pow10)], narrowed := true }
def ResolveLookupsUptoSaid : Prop := resolveLookupsUptoRow.holds Tryd.pinned (OpenSpec.upto resolveLookupsSpec)

/-- 'manifoldlaw23.ResolveSchemas', WHERE WHAT IT READS IS OF BULK AT MOST 1048576: true; the input reads as it did. -/
def resolveSchemasUptoRow : OpenClaim := { program := "ytfbakipopjoghaadoor", sum := "9eacabaf55df8f15d1528dce0565723734665bf2e43ab900a5fa09bb30ed6343", func := "manifold/manifoldlaw23.ResolveSchemas", spec := "resolveSchemas", inPlace := ["internal/abi.NoEscape", "internal/bytealg.MakeNoZero"], unfollowed := true, recurses := true, named := ["internal/strconv.uint64pow10", "math/bits.deBruijn32tab", "math/bits.deBruijn64tab"], loops := true, apart := false, laid := [("math/bits.deBruijn32tab", laid_math_bits_deBruijn32tab), ("math/bits.deBruijn64tab", laid_math_bits_deBruijn64tab), ("internal/strconv.uint64pow10", laid_internal_strconv_uint64pow10)], narrowed := true }
def ResolveSchemasUptoSaid : Prop := resolveSchemasUptoRow.holds Tryd.pinned (OpenSpec.upto resolveSchemasSpec)

/-- 'manifoldlaw23.ResolveTexts', WHERE WHAT IT READS IS OF BULK AT MOST 1048576: true; the input reads as it did. -/
def resolveTextsUptoRow : OpenClaim := { program := "ytfbakipopjoghaadoor", sum := "9eacabaf55df8f15d1528dce0565723734665bf2e43ab900a5fa09bb30ed6343", func := "manifold/manifoldlaw23.ResolveTexts", spec := "resolveTexts", inPlace := ["internal/abi.NoEscape", "internal/bytealg.MakeNoZero"], unfollowed := true, recurses := true, named := ["internal/strconv.uint64pow10", "math/bits.deBruijn32tab", "math/bits.deBruijn64tab"], apart := false, laid := [("math/bits.deBruijn32tab", laid_math_bits_deBruijn32tab), ("math/bits.deBruijn64tab", laid_math_bits_deBruijn64tab), ("internal/strconv.uint64pow10", laid_internal_strconv_uint64pow10)], narrowed := true }
def ResolveTextsUptoSaid : Prop := resolveTextsUptoRow.holds Tryd.pinned (OpenSpec.upto resolveTextsSpec)

/-- 'manifoldlaw23.ResolveOrders', WHERE WHAT IT READS IS OF BULK AT MOST 1048576: true; the input reads as it did. -/
def resolveOrdersUptoRow : OpenClaim := { program := "ytfbakipopjoghaadoor", sum := "9eacabaf55df8f15d1528dce0565723734665bf2e43ab900a5fa09bb30ed6343", func := "manifold/manifoldlaw23.ResolveOrders", spec := "resolveOrders", inPlace := ["internal/bytealg.abigen_runtime_cmpstring", "internal/abi.NoEscape", "internal/bytealg.MakeNoZero"], unfollowed := true, recurses := true, named := ["internal/strconv.uint64pow10", "math/bits.deBruijn32tab", "math/bits.deBruijn64tab"], apart := false, laid := [("math/bits.deBruijn32tab", laid_math_bits_deBruijn32tab), ("math/bits.deBruijn64tab", laid_math_bits_deBruijn64tab), ("internal/strconv.uint64pow10", laid_internal_strconv_uint64pow10)], narrowed := true }
def ResolveOrdersUptoSaid : Prop := resolveOrdersUptoRow.holds Tryd.pinned (OpenSpec.upto resolveOrdersSpec)

/-- 'manifoldlaw23.ResolveWalks', WHERE WHAT IT READS IS OF BULK AT MOST 1048576: true; the input reads as it did. -/
def resolveWalksUptoRow : OpenClaim := { program := "ytfbakipopjoghaadoor", sum := "9eacabaf55df8f15d1528dce0565723734665bf2e43ab900a5fa09bb30ed6343", func := "manifold/manifoldlaw23.ResolveWalks", spec := "resolveWalks", inPlace := ["internal/abi.NoEscape", "internal/bytealg.MakeNoZero", "internal/bytealg.abigen_runtime_cmpstring"], unfollowed := true, recurses := true, named := ["internal/strconv.uint64pow10", "math/bits.deBruijn32tab", "math/bits.deBruijn64tab"], loops := true, apart := false, laid := [("math/bits.deBruijn32tab", laid_math_bits_deBruijn32tab), ("math/bits.deBruijn64tab", laid_math_bits_deBruijn64tab), ("internal/strconv.uint64pow10", laid_internal_strconv_uint64pow10)], narrowed := true }
def ResolveWalksUptoSaid : Prop := resolveWalksUptoRow.holds Tryd.pinned (OpenSpec.upto resolveWalksSpec)

/-- 'manifoldlaw23.ResolveNames', WHERE WHAT IT READS IS OF BULK AT MOST 1048576: true; the input reads as it did. -/
def resolveNamesUptoRow : OpenClaim := { program := "ytfbakipopjoghaadoor", sum := "9eacabaf55df8f15d1528dce0565723734665bf2e43ab900a5fa09bb30ed6343", func := "manifold/manifoldlaw23.ResolveNames", spec := "resolveNames", inPlace := ["internal/abi.NoEscape", "internal/bytealg.MakeNoZero", "internal/bytealg.abigen_runtime_cmpstring"], unfollowed := true, recurses := true, named := ["internal/strconv.uint64pow10", "math/bits.deBruijn32tab", "math/bits.deBruijn64tab"], loops := true, apart := false, laid := [("math/bits.deBruijn32tab", laid_math_bits_deBruijn32tab), ("math/bits.deBruijn64tab", laid_math_bits_deBruijn64tab), ("internal/strconv.uint64pow10", laid_internal_strconv_uint64pow10)], narrowed := true }
def ResolveNamesUptoSaid : Prop := resolveNamesUptoRow.holds Tryd.pinned (OpenSpec.upto resolveNamesSpec)

end Rows
end Go.Proofs.YtfbakipopjoghaaDoor
