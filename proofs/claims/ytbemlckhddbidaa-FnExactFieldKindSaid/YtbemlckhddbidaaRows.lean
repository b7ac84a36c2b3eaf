/-
  No cell of these rows narrows 'for every input' (looked for: loops, veiled, ifaces, maps, wideKeys, modest, calm, conditions, laid).
  DERIVED. THE GIVEN ROWS OF THIS SEAT. 10 by the template 'for every input the law returns true; each argument reads behind the call as it read before'; 0 by the template 'total and deterministic' (their statements: YtbemlckhddbidaaTotals.lean).
  GIVEN WITH THE SEED: the statements are not yours to turn. If you find one false, say at which input.
  Laid BY PROGRAM, IN A SANDBOX (cutbox-rows.mjs): the forced cells as the released guide's own fill.sh prints them over the translation 9b367e35e185b023… (all of the seat's roots in one cut). By AI agents, Wed Nov 11 2026. No macro, syntax, notation, axiom, sorry.
-/
import Derived.Test.YtbemlckhddbidaaChecked
import GoSem.Claim
import GoSem.ClaimJoined
import GoSem.ClaimMapViews
import Derived.JoinedTies
import Derived.KernelRfl
namespace Go.Proofs.Ytbemlckhddbidaa
/- THE CELL 'sum', in the pinned program and in every row, IS THE sha256 OF THE DUMP (.gsa) THAT YtbemlckhddbidaaProg.lean LOADS. Nothing in Lean hashes anything: it is a label: what it is worth is what the hold of that sum in a sandbox is worth. -/
noncomputable def Try.pinned : Pinned := { name := "ytbemlckhddbidaa", sum := "9b367e35e185b0234fcdc40718751a9c464e46f55aa7abc9941d064c4d195aad", checked := Try.checked }
namespace Rows
def none {H : Type} : Left H := { results := [], args := [] }

/-- 'laws.FnExactConstants': WHATEVER THE INPUT: true; the input reads as it did. -/
def fnExactConstantsSpec : ChangeSpec := { name := "fnExactConstants", fn := fun _ => fun
  | [] => { results := [.lit (.bool true)], args := [] }
  | _ => none }
def fnExactConstantsRow : OpenClaim := { program := "ytbemlckhddbidaa", sum := "9b367e35e185b0234fcdc40718751a9c464e46f55aa7abc9941d064c4d195aad", func := "loop.example/g00976/laws.FnExactConstants", spec := "fnExactConstants", apart := false }
def FnExactConstantsSaid : Prop := fnExactConstantsRow.holds Try.pinned (OpenSpec.ofChange fnExactConstantsSpec)

/-- ITS FALSE NEIGHBOUR: 'it returns false'. Refute it at one input. -/
def fnExactConstantsWrong : ChangeSpec := { name := "fnExactConstants", fn := fun _ => fun
  | [] => { results := [.lit (.bool false)], args := [] }
  | _ => none }
def FnExactConstantsWrongFalsely : Prop := fnExactConstantsRow.holds Try.pinned (OpenSpec.ofChange fnExactConstantsWrong)

/-- 'laws.FnExactClamp': WHATEVER THE INPUT: true; the input reads as it did. -/
def fnExactClampSpec : ChangeSpec := { name := "fnExactClamp", fn := fun _ => fun
  | [d1, d2, d3] => { results := [.lit (.bool true)], args := [d1, d2, d3] }
  | _ => none }
def fnExactClampRow : OpenClaim := { program := "ytbemlckhddbidaa", sum := "9b367e35e185b0234fcdc40718751a9c464e46f55aa7abc9941d064c4d195aad", func := "loop.example/g00976/laws.FnExactClamp", spec := "fnExactClamp", apart := false }
def FnExactClampSaid : Prop := fnExactClampRow.holds Try.pinned (OpenSpec.ofChange fnExactClampSpec)

/-- ITS FALSE NEIGHBOUR: 'it returns false'. Refute it at one input. -/
def fnExactClampWrong : ChangeSpec := { name := "fnExactClamp", fn := fun _ => fun
  | [d1, d2, d3] => { results := [.lit (.bool false)], args := [d1, d2, d3] }
  | _ => none }
def FnExactClampWrongFalsely : Prop := fnExactClampRow.holds Try.pinned (OpenSpec.ofChange fnExactClampWrong)

/-- 'laws.FnExactIsValidAttrName': WHATEVER THE INPUT: true; the input reads as it did. -/
def fnExactIsValidAttrNameSpec : ChangeSpec := { name := "fnExactIsValidAttrName", fn := fun _ => fun
  | [d] => { results := [.lit (.bool true)], args := [d] }
  | _ => none }
def fnExactIsValidAttrNameRow : OpenClaim := { program := "ytbemlckhddbidaa", sum := "9b367e35e185b0234fcdc40718751a9c464e46f55aa7abc9941d064c4d195aad", func := "loop.example/g00976/laws.FnExactIsValidAttrName", spec := "fnExactIsValidAttrName", apart := false }
def FnExactIsValidAttrNameSaid : Prop := fnExactIsValidAttrNameRow.holds Try.pinned (OpenSpec.ofChange fnExactIsValidAttrNameSpec)

/-- ITS FALSE NEIGHBOUR: 'it returns false'. Refute it at one input. -/
def fnExactIsValidAttrNameWrong : ChangeSpec := { name := "fnExactIsValidAttrName", fn := fun _ => fun
  | [d] => { results := [.lit (.bool false)], args := [d] }
  | _ => none }
def FnExactIsValidAttrNameWrongFalsely : Prop := fnExactIsValidAttrNameRow.holds Try.pinned (OpenSpec.ofChange fnExactIsValidAttrNameWrong)

/-- 'laws.FnExactIntValue': WHATEVER THE INPUT: true; the input reads as it did. -/
def fnExactIntValueSpec : ChangeSpec := { name := "fnExactIntValue", fn := fun _ => fun
  | [d] => { results := [.lit (.bool true)], args := [d] }
  | _ => none }
def fnExactIntValueRow : OpenClaim := { program := "ytbemlckhddbidaa", sum := "9b367e35e185b0234fcdc40718751a9c464e46f55aa7abc9941d064c4d195aad", func := "loop.example/g00976/laws.FnExactIntValue", spec := "fnExactIntValue", apart := false }
def FnExactIntValueSaid : Prop := fnExactIntValueRow.holds Try.pinned (OpenSpec.ofChange fnExactIntValueSpec)

/-- ITS FALSE NEIGHBOUR: 'it returns false'. Refute it at one input. -/
def fnExactIntValueWrong : ChangeSpec := { name := "fnExactIntValue", fn := fun _ => fun
  | [d] => { results := [.lit (.bool false)], args := [d] }
  | _ => none }
def FnExactIntValueWrongFalsely : Prop := fnExactIntValueRow.holds Try.pinned (OpenSpec.ofChange fnExactIntValueWrong)

/-- 'laws.FnExactStringValue': WHATEVER THE INPUT: true; the input reads as it did. -/
def fnExactStringValueSpec : ChangeSpec := { name := "fnExactStringValue", fn := fun _ => fun
  | [d] => { results := [.lit (.bool true)], args := [d] }
  | _ => none }
def fnExactStringValueRow : OpenClaim := { program := "ytbemlckhddbidaa", sum := "9b367e35e185b0234fcdc40718751a9c464e46f55aa7abc9941d064c4d195aad", func := "loop.example/g00976/laws.FnExactStringValue", spec := "fnExactStringValue", apart := false }
def FnExactStringValueSaid : Prop := fnExactStringValueRow.holds Try.pinned (OpenSpec.ofChange fnExactStringValueSpec)

/-- ITS FALSE NEIGHBOUR: 'it returns false'. Refute it at one input. -/
def fnExactStringValueWrong : ChangeSpec := { name := "fnExactStringValue", fn := fun _ => fun
  | [d] => { results := [.lit (.bool false)], args := [d] }
  | _ => none }
def FnExactStringValueWrongFalsely : Prop := fnExactStringValueRow.holds Try.pinned (OpenSpec.ofChange fnExactStringValueWrong)

/-- 'laws.FnExactIsValidString': WHATEVER THE INPUT: true; the input reads as it did. -/
def fnExactIsValidStringSpec : ChangeSpec := { name := "fnExactIsValidString", fn := fun _ => fun
  | [d] => { results := [.lit (.bool true)], args := [d] }
  | _ => none }
def fnExactIsValidStringRow : OpenClaim := { program := "ytbemlckhddbidaa", sum := "9b367e35e185b0234fcdc40718751a9c464e46f55aa7abc9941d064c4d195aad", func := "loop.example/g00976/laws.FnExactIsValidString", spec := "fnExactIsValidString", apart := false }
def FnExactIsValidStringSaid : Prop := fnExactIsValidStringRow.holds Try.pinned (OpenSpec.ofChange fnExactIsValidStringSpec)

/-- ITS FALSE NEIGHBOUR: 'it returns false'. Refute it at one input. -/
def fnExactIsValidStringWrong : ChangeSpec := { name := "fnExactIsValidString", fn := fun _ => fun
  | [d] => { results := [.lit (.bool false)], args := [d] }
  | _ => none }
def FnExactIsValidStringWrongFalsely : Prop := fnExactIsValidStringRow.holds Try.pinned (OpenSpec.ofChange fnExactIsValidStringWrong)

/-- 'laws.FnExactEncodeHex': WHATEVER THE INPUT: true; the input reads as it did. -/
def fnExactEncodeHexSpec : ChangeSpec := { name := "fnExactEncodeHex", fn := fun _ => fun
  | [d] => { results := [.lit (.bool true)], args := [d] }
  | _ => none }
def fnExactEncodeHexRow : OpenClaim := { program := "ytbemlckhddbidaa", sum := "9b367e35e185b0234fcdc40718751a9c464e46f55aa7abc9941d064c4d195aad", func := "loop.example/g00976/laws.FnExactEncodeHex", spec := "fnExactEncodeHex", apart := false }
def FnExactEncodeHexSaid : Prop := fnExactEncodeHexRow.holds Try.pinned (OpenSpec.ofChange fnExactEncodeHexSpec)

/-- ITS FALSE NEIGHBOUR: 'it returns false'. Refute it at one input. -/
def fnExactEncodeHexWrong : ChangeSpec := { name := "fnExactEncodeHex", fn := fun _ => fun
  | [d] => { results := [.lit (.bool false)], args := [d] }
  | _ => none }
def FnExactEncodeHexWrongFalsely : Prop := fnExactEncodeHexRow.holds Try.pinned (OpenSpec.ofChange fnExactEncodeHexWrong)

/-- 'laws.FnExactIsValidValue': WHATEVER THE INPUT: true; the input reads as it did. -/
def fnExactIsValidValueSpec : ChangeSpec := { name := "fnExactIsValidValue", fn := fun _ => fun
  | [d] => { results := [.lit (.bool true)], args := [d] }
  | _ => none }
def fnExactIsValidValueRow : OpenClaim := { program := "ytbemlckhddbidaa", sum := "9b367e35e185b0234fcdc40718751a9c464e46f55aa7abc9941d064c4d195aad", func := "loop.example/g00976/laws.FnExactIsValidValue", spec := "fnExactIsValidValue", apart := false }
def FnExactIsValidValueSaid : Prop := fnExactIsValidValueRow.holds Try.pinned (OpenSpec.ofChange fnExactIsValidValueSpec)

/-- ITS FALSE NEIGHBOUR: 'it returns false'. Refute it at one input. -/
def fnExactIsValidValueWrong : ChangeSpec := { name := "fnExactIsValidValue", fn := fun _ => fun
  | [d] => { results := [.lit (.bool false)], args := [d] }
  | _ => none }
def FnExactIsValidValueWrongFalsely : Prop := fnExactIsValidValueRow.holds Try.pinned (OpenSpec.ofChange fnExactIsValidValueWrong)

/-- 'laws.FnExactCompareValues': WHATEVER THE INPUT: true; the input reads as it did. -/
def fnExactCompareValuesSpec : ChangeSpec := { name := "fnExactCompareValues", fn := fun _ => fun
  | [d1, d2] => { results := [.lit (.bool true)], args := [d1, d2] }
  | _ => none }
def fnExactCompareValuesRow : OpenClaim := { program := "ytbemlckhddbidaa", sum := "9b367e35e185b0234fcdc40718751a9c464e46f55aa7abc9941d064c4d195aad", func := "loop.example/g00976/laws.FnExactCompareValues", spec := "fnExactCompareValues", apart := false }
def FnExactCompareValuesSaid : Prop := fnExactCompareValuesRow.holds Try.pinned (OpenSpec.ofChange fnExactCompareValuesSpec)

/-- ITS FALSE NEIGHBOUR: 'it returns false'. Refute it at one input. -/
def fnExactCompareValuesWrong : ChangeSpec := { name := "fnExactCompareValues", fn := fun _ => fun
  | [d1, d2] => { results := [.lit (.bool false)], args := [d1, d2] }
  | _ => none }
def FnExactCompareValuesWrongFalsely : Prop := fnExactCompareValuesRow.holds Try.pinned (OpenSpec.ofChange fnExactCompareValuesWrong)

/-- 'laws.FnExactFieldKind': WHATEVER THE INPUT: true; the input reads as it did. -/
def fnExactFieldKindSpec : ChangeSpec := { name := "fnExactFieldKind", fn := fun _ => fun
  | [d1, d2] => { results := [.lit (.bool true)], args := [d1, d2] }
  | _ => none }
def fnExactFieldKindRow : OpenClaim := { program := "ytbemlckhddbidaa", sum := "9b367e35e185b0234fcdc40718751a9c464e46f55aa7abc9941d064c4d195aad", func := "loop.example/g00976/laws.FnExactFieldKind", spec := "fnExactFieldKind", apart := false }
def FnExactFieldKindSaid : Prop := fnExactFieldKindRow.holds Try.pinned (OpenSpec.ofChange fnExactFieldKindSpec)

/-- ITS FALSE NEIGHBOUR: 'it returns false'. Refute it at one input. -/
def fnExactFieldKindWrong : ChangeSpec := { name := "fnExactFieldKind", fn := fun _ => fun
  | [d1, d2] => { results := [.lit (.bool false)], args := [d1, d2] }
  | _ => none }
def FnExactFieldKindWrongFalsely : Prop := fnExactFieldKindRow.holds Try.pinned (OpenSpec.ofChange fnExactFieldKindWrong)

/- THE SECOND FORM. 'bulk': how many values and letters a reading holds, each counted each time it is reached (what is shared counts as often as it is met; a slice's spare places count too). A statement '..UptoSaid' is the law's where the arguments, and the package variables that the reading takes, are together of bulk at most 1048576: NARROWER than '..Said'. Prove '..Said' where nothing that the law and all that it calls make is longer than what came in: it says more and counts as full. Else prove '..UptoSaid'. A law counts once. -/
mutual
def uptoBulk {H : Type} : DataW H → Nat
  | .lit (.string bytes) => bytes.length + 1
  | .lit _ => 1
  | .nil => 1
  | .ptr d => uptoBulk d + 1
  | .slice elems spare => uptoBulkAll elems + uptoBulkAll spare + 1
  | .agg parts => uptoBulkAll parts + 1
  | .iface _ d => uptoBulk d + 1
  | .map entries => uptoBulkEntries entries + 1
  | .held _ => 1
def uptoBulkAll {H : Type} : List (DataW H) → Nat
  | [] => 0
  | d :: r => uptoBulk d + uptoBulkAll r
def uptoBulkEntries {H : Type} : List (Lit × DataW H) → Nat
  | [] => 0
  | x :: r => uptoBulkEntry x + uptoBulkEntries r
def uptoBulkEntry {H : Type} : Lit × DataW H → Nat
  | (.string bytes, d) => bytes.length + uptoBulk d + 1
  | (_, d) => uptoBulk d + 1
 end
def uptoSmall : (H : Type) → List (DataW H) → Bool := fun _ ds => decide (uptoBulkAll ds ≤ 1048576)
def OpenSpec.upto (s : _root_.Go.ChangeSpec) : _root_.Go.OpenSpec := { _root_.Go.OpenSpec.ofChange s with cond := some uptoSmall }

/-- 'laws.FnExactConstants', WHERE WHAT IT READS IS OF BULK AT MOST 1048576: true; the input reads as it did. -/
def fnExactConstantsUptoRow : OpenClaim := { program := "ytbemlckhddbidaa", sum := "9b367e35e185b0234fcdc40718751a9c464e46f55aa7abc9941d064c4d195aad", func := "loop.example/g00976/laws.FnExactConstants", spec := "fnExactConstants", apart := false, narrowed := true }
def FnExactConstantsUptoSaid : Prop := fnExactConstantsUptoRow.holds Try.pinned (OpenSpec.upto fnExactConstantsSpec)

/-- 'laws.FnExactClamp', WHERE WHAT IT READS IS OF BULK AT MOST 1048576: true; the input reads as it did. -/
def fnExactClampUptoRow : OpenClaim := { program := "ytbemlckhddbidaa", sum := "9b367e35e185b0234fcdc40718751a9c464e46f55aa7abc9941d064c4d195aad", func := "loop.example/g00976/laws.FnExactClamp", spec := "fnExactClamp", apart := false, narrowed := true }
def FnExactClampUptoSaid : Prop := fnExactClampUptoRow.holds Try.pinned (OpenSpec.upto fnExactClampSpec)

/-- 'laws.FnExactIsValidAttrName', WHERE WHAT IT READS IS OF BULK AT MOST 1048576: true; the input reads as it did. -/
def fnExactIsValidAttrNameUptoRow : OpenClaim := { program := "ytbemlckhddbidaa", sum := "9b367e35e185b0234fcdc40718751a9c464e46f55aa7abc9941d064c4d195aad", func := "loop.example/g00976/laws.FnExactIsValidAttrName", spec := "fnExactIsValidAttrName", apart := false, narrowed := true }
def FnExactIsValidAttrNameUptoSaid : Prop := fnExactIsValidAttrNameUptoRow.holds Try.pinned (OpenSpec.upto fnExactIsValidAttrNameSpec)

/-- 'laws.FnExactIntValue', WHERE WHAT IT READS IS OF BULK AT MOST 1048576: true; the input reads as it did. -/
def fnExactIntValueUptoRow : OpenClaim := { program := "ytbemlckhddbidaa", sum := "9b367e35e185b0234fcdc40718751a9c464e46f55aa7abc9941d064c4d195aad", func := "loop.example/g00976/laws.FnExactIntValue", spec := "fnExactIntValue", apart := false, narrowed := true }
def FnExactIntValueUptoSaid : Prop := fnExactIntValueUptoRow.holds Try.pinned (OpenSpec.upto fnExactIntValueSpec)

/-- 'laws.FnExactStringValue', WHERE WHAT IT READS IS OF BULK AT MOST 1048576: true; the input reads as it did. -/
def fnExactStringValueUptoRow : OpenClaim := { program := "ytbemlckhddbidaa", sum := "9b367e35e185b0234fcdc40718751a9c464e46f55aa7abc9941d064c4d195aad", func := "loop.example/g00976/laws.FnExactStringValue", spec := "fnExactStringValue", apart := false, narrowed := true }
def FnExactStringValueUptoSaid : Prop := fnExactStringValueUptoRow.holds Try.pinned (OpenSpec.upto fnExactStringValueSpec)

/-- 'laws.FnExactIsValidString', WHERE WHAT IT READS IS OF BULK AT MOST 1048576: true; the input reads as it did. -/
def fnExactIsValidStringUptoRow : OpenClaim := { program := "ytbemlckhddbidaa", sum := "9b367e35e185b0234fcdc40718751a9c464e46f55aa7abc9941d064c4d195aad", func := "loop.example/g00976/laws.FnExactIsValidString", spec := "fnExactIsValidString", apart := false, narrowed := true }
def FnExactIsValidStringUptoSaid : Prop := fnExactIsValidStringUptoRow.holds Try.pinned (OpenSpec.upto fnExactIsValidStringSpec)

/-- 'laws.FnExactEncodeHex', WHERE WHAT IT READS IS OF BULK AT MOST 1048576: true; the input reads as it did. -/
def fnExactEncodeHexUptoRow : OpenClaim := { program := "ytbemlckhddbidaa", sum := "9b367e35e185b0234fcdc40718751a9c464e46f55aa7abc9941d064c4d195aad", func := "loop.example/g00976/laws.FnExactEncodeHex", spec := "fnExactEncodeHex", apart := false, narrowed := true }
def FnExactEncodeHexUptoSaid : Prop := fnExactEncodeHexUptoRow.holds Try.pinned (OpenSpec.upto fnExactEncodeHexSpec)

/-- 'laws.FnExactIsValidValue', WHERE WHAT IT READS IS OF BULK AT MOST 1048576: true; the input reads as it did. -/
def fnExactIsValidValueUptoRow : OpenClaim := { program := "ytbemlckhddbidaa", sum := "9b367e35e185b0234fcdc40718751a9c464e46f55aa7abc9941d064c4d195aad", func := "loop.example/g00976/laws.FnExactIsValidValue", spec := "fnExactIsValidValue", apart := false, narrowed := true }
def FnExactIsValidValueUptoSaid : Prop := fnExactIsValidValueUptoRow.holds Try.pinned (OpenSpec.upto fnExactIsValidValueSpec)

/-- 'laws.FnExactCompareValues', WHERE WHAT IT READS IS OF BULK AT MOST 1048576: true; the input reads as it did. -/
def fnExactCompareValuesUptoRow : OpenClaim := { program := "ytbemlckhddbidaa", sum := "9b367e35e185b0234fcdc40718751a9c464e46f55aa7abc9941d064c4d195aad", func := "loop.example/g00976/laws.FnExactCompareValues", spec := "fnExactCompareValues", apart := false, narrowed := true }
def FnExactCompareValuesUptoSaid : Prop := fnExactCompareValuesUptoRow.holds Try.pinned (OpenSpec.upto fnExactCompareValuesSpec)

/-- 'laws.FnExactFieldKind', WHERE WHAT IT READS IS OF BULK AT MOST 1048576: true; the input reads as it did. -/
def fnExactFieldKindUptoRow : OpenClaim := { program := "ytbemlckhddbidaa", sum := "9b367e35e185b0234fcdc40718751a9c464e46f55aa7abc9941d064c4d195aad", func := "loop.example/g00976/laws.FnExactFieldKind", spec := "fnExactFieldKind", apart := false, narrowed := true }
def FnExactFieldKindUptoSaid : Prop := fnExactFieldKindUptoRow.holds Try.pinned (OpenSpec.upto fnExactFieldKindSpec)

end Rows
end Go.Proofs.Ytbemlckhddbidaa
