/-
  No cell of these rows narrows 'for every input' (looked for: loops, veiled, ifaces, maps, wideKeys, modest, calm, conditions, laid).
  DERIVED. THE GIVEN ROWS OF THIS SEAT. 11 by the template 'for every input the law returns true; each argument reads behind the call as it read before'; 0 by the template 'total and deterministic' (their statements: YtjnjjifijelgpaaTotals.lean).
  GIVEN WITH THE SEED: the statements are not yours to turn. If you find one false, say at which input.
  Laid BY PROGRAM, IN A SANDBOX (cutbox-rows.mjs): the forced cells as the released guide's own fill.sh prints them over the translation 66579eb131a89d4e… (all of the seat's roots in one cut). By AI agents, Wed Nov 11 2026. No macro, syntax, notation, axiom, sorry.
-/
import Derived.Test.YtjnjjifijelgpaaChecked
import GoSem.Claim
import GoSem.ClaimJoined
import GoSem.ClaimMapViews
import Derived.JoinedTies
import Derived.KernelRfl
namespace Go.Proofs.Ytjnjjifijelgpaa
/- THE CELL 'sum', in the pinned program and in every row, IS THE sha256 OF THE DUMP (.gsa) THAT YtjnjjifijelgpaaProg.lean LOADS. Nothing in Lean hashes anything: it is a label: what it is worth is what the hold of that sum in a sandbox is worth. -/
noncomputable def Try.pinned : Pinned := { name := "ytjnjjifijelgpaa", sum := "66579eb131a89d4ea45cea692a231436a7f9a5a7fd68197da56ceefbad61a57a", checked := Try.checked }
namespace Rows
def none {H : Type} : Left H := { results := [], args := [] }

/-- 'laws.FnExactIsValidSchema': WHATEVER THE INPUT: true; the input reads as it did. -/
def fnExactIsValidSchemaSpec : ChangeSpec := { name := "fnExactIsValidSchema", fn := fun _ => fun
  | [d] => { results := [.lit (.bool true)], args := [d] }
  | _ => none }
def fnExactIsValidSchemaRow : OpenClaim := { program := "ytjnjjifijelgpaa", sum := "66579eb131a89d4ea45cea692a231436a7f9a5a7fd68197da56ceefbad61a57a", func := "loop.example/g00976/laws.FnExactIsValidSchema", spec := "fnExactIsValidSchema", apart := false }
def FnExactIsValidSchemaSaid : Prop := fnExactIsValidSchemaRow.holds Try.pinned (OpenSpec.ofChange fnExactIsValidSchemaSpec)

/-- ITS FALSE NEIGHBOUR: 'it returns false'. Refute it at one input. -/
def fnExactIsValidSchemaWrong : ChangeSpec := { name := "fnExactIsValidSchema", fn := fun _ => fun
  | [d] => { results := [.lit (.bool false)], args := [d] }
  | _ => none }
def FnExactIsValidSchemaWrongFalsely : Prop := fnExactIsValidSchemaRow.holds Try.pinned (OpenSpec.ofChange fnExactIsValidSchemaWrong)

/-- 'laws.FnValueOrder': WHATEVER THE INPUT: true; the input reads as it did. -/
def fnValueOrderSpec : ChangeSpec := { name := "fnValueOrder", fn := fun _ => fun
  | [d] => { results := [.lit (.bool true)], args := [d] }
  | _ => none }
def fnValueOrderRow : OpenClaim := { program := "ytjnjjifijelgpaa", sum := "66579eb131a89d4ea45cea692a231436a7f9a5a7fd68197da56ceefbad61a57a", func := "loop.example/g00976/laws.FnValueOrder", spec := "fnValueOrder", apart := false }
def FnValueOrderSaid : Prop := fnValueOrderRow.holds Try.pinned (OpenSpec.ofChange fnValueOrderSpec)

/-- ITS FALSE NEIGHBOUR: 'it returns false'. Refute it at one input. -/
def fnValueOrderWrong : ChangeSpec := { name := "fnValueOrder", fn := fun _ => fun
  | [d] => { results := [.lit (.bool false)], args := [d] }
  | _ => none }
def FnValueOrderWrongFalsely : Prop := fnValueOrderRow.holds Try.pinned (OpenSpec.ofChange fnValueOrderWrong)

/-- 'laws.FnExactBuildIndex': WHATEVER THE INPUT: true; the input reads as it did. -/
def fnExactBuildIndexSpec : ChangeSpec := { name := "fnExactBuildIndex", fn := fun _ => fun
  | [d] => { results := [.lit (.bool true)], args := [d] }
  | _ => none }
def fnExactBuildIndexRow : OpenClaim := { program := "ytjnjjifijelgpaa", sum := "66579eb131a89d4ea45cea692a231436a7f9a5a7fd68197da56ceefbad61a57a", func := "loop.example/g00976/laws.FnExactBuildIndex", spec := "fnExactBuildIndex", inPlace := ["slices.overlaps[loop.example/g00976/impl.Posting]", "slices.overlaps[int]"], unfollowed := true, recurses := true, apart := false }
def FnExactBuildIndexSaid : Prop := fnExactBuildIndexRow.holds Try.pinned (OpenSpec.ofChange fnExactBuildIndexSpec)

/-- ITS FALSE NEIGHBOUR: 'it returns false'. Refute it at one input. -/
def fnExactBuildIndexWrong : ChangeSpec := { name := "fnExactBuildIndex", fn := fun _ => fun
  | [d] => { results := [.lit (.bool false)], args := [d] }
  | _ => none }
def FnExactBuildIndexWrongFalsely : Prop := fnExactBuildIndexRow.holds Try.pinned (OpenSpec.ofChange fnExactBuildIndexWrong)

/-- 'laws.FnExactEqualQueries': WHATEVER THE INPUT: true; the input reads as it did. -/
def fnExactEqualQueriesSpec : ChangeSpec := { name := "fnExactEqualQueries", fn := fun _ => fun
  | [d1, d2] => { results := [.lit (.bool true)], args := [d1, d2] }
  | _ => none }
def fnExactEqualQueriesRow : OpenClaim := { program := "ytjnjjifijelgpaa", sum := "66579eb131a89d4ea45cea692a231436a7f9a5a7fd68197da56ceefbad61a57a", func := "loop.example/g00976/laws.FnExactEqualQueries", spec := "fnExactEqualQueries", apart := false }
def FnExactEqualQueriesSaid : Prop := fnExactEqualQueriesRow.holds Try.pinned (OpenSpec.ofChange fnExactEqualQueriesSpec)

/-- ITS FALSE NEIGHBOUR: 'it returns false'. Refute it at one input. -/
def fnExactEqualQueriesWrong : ChangeSpec := { name := "fnExactEqualQueries", fn := fun _ => fun
  | [d1, d2] => { results := [.lit (.bool false)], args := [d1, d2] }
  | _ => none }
def FnExactEqualQueriesWrongFalsely : Prop := fnExactEqualQueriesRow.holds Try.pinned (OpenSpec.ofChange fnExactEqualQueriesWrong)

/-- 'laws.FnExactCanWrite': WHATEVER THE INPUT: true; the input reads as it did. -/
def fnExactCanWriteSpec : ChangeSpec := { name := "fnExactCanWrite", fn := fun _ => fun
  | [d1, d2] => { results := [.lit (.bool true)], args := [d1, d2] }
  | _ => none }
def fnExactCanWriteRow : OpenClaim := { program := "ytjnjjifijelgpaa", sum := "66579eb131a89d4ea45cea692a231436a7f9a5a7fd68197da56ceefbad61a57a", func := "loop.example/g00976/laws.FnExactCanWrite", spec := "fnExactCanWrite", apart := false }
def FnExactCanWriteSaid : Prop := fnExactCanWriteRow.holds Try.pinned (OpenSpec.ofChange fnExactCanWriteSpec)

/-- ITS FALSE NEIGHBOUR: 'it returns false'. Refute it at one input. -/
def fnExactCanWriteWrong : ChangeSpec := { name := "fnExactCanWrite", fn := fun _ => fun
  | [d1, d2] => { results := [.lit (.bool false)], args := [d1, d2] }
  | _ => none }
def FnExactCanWriteWrongFalsely : Prop := fnExactCanWriteRow.holds Try.pinned (OpenSpec.ofChange fnExactCanWriteWrong)

/-- 'laws.FnExactCanRead': WHATEVER THE INPUT: true; the input reads as it did. -/
def fnExactCanReadSpec : ChangeSpec := { name := "fnExactCanRead", fn := fun _ => fun
  | [d1, d2] => { results := [.lit (.bool true)], args := [d1, d2] }
  | _ => none }
def fnExactCanReadRow : OpenClaim := { program := "ytjnjjifijelgpaa", sum := "66579eb131a89d4ea45cea692a231436a7f9a5a7fd68197da56ceefbad61a57a", func := "loop.example/g00976/laws.FnExactCanRead", spec := "fnExactCanRead", apart := false }
def FnExactCanReadSaid : Prop := fnExactCanReadRow.holds Try.pinned (OpenSpec.ofChange fnExactCanReadSpec)

/-- ITS FALSE NEIGHBOUR: 'it returns false'. Refute it at one input. -/
def fnExactCanReadWrong : ChangeSpec := { name := "fnExactCanRead", fn := fun _ => fun
  | [d1, d2] => { results := [.lit (.bool false)], args := [d1, d2] }
  | _ => none }
def FnExactCanReadWrongFalsely : Prop := fnExactCanReadRow.holds Try.pinned (OpenSpec.ofChange fnExactCanReadWrong)

/-- 'laws.FnExactMatchesSchema': WHATEVER THE INPUT: true; the input reads as it did. -/
def fnExactMatchesSchemaSpec : ChangeSpec := { name := "fnExactMatchesSchema", fn := fun _ => fun
  | [d1, d2, d3] => { results := [.lit (.bool true)], args := [d1, d2, d3] }
  | _ => none }
def fnExactMatchesSchemaRow : OpenClaim := { program := "ytjnjjifijelgpaa", sum := "66579eb131a89d4ea45cea692a231436a7f9a5a7fd68197da56ceefbad61a57a", func := "loop.example/g00976/laws.FnExactMatchesSchema", spec := "fnExactMatchesSchema", apart := false }
def FnExactMatchesSchemaSaid : Prop := fnExactMatchesSchemaRow.holds Try.pinned (OpenSpec.ofChange fnExactMatchesSchemaSpec)

/-- ITS FALSE NEIGHBOUR: 'it returns false'. Refute it at one input. -/
def fnExactMatchesSchemaWrong : ChangeSpec := { name := "fnExactMatchesSchema", fn := fun _ => fun
  | [d1, d2, d3] => { results := [.lit (.bool false)], args := [d1, d2, d3] }
  | _ => none }
def FnExactMatchesSchemaWrongFalsely : Prop := fnExactMatchesSchemaRow.holds Try.pinned (OpenSpec.ofChange fnExactMatchesSchemaWrong)

/-- 'laws.FnExactGetAttr': WHATEVER THE INPUT: true; the input reads as it did. -/
def fnExactGetAttrSpec : ChangeSpec := { name := "fnExactGetAttr", fn := fun _ => fun
  | [d1, d2] => { results := [.lit (.bool true)], args := [d1, d2] }
  | _ => none }
def fnExactGetAttrRow : OpenClaim := { program := "ytjnjjifijelgpaa", sum := "66579eb131a89d4ea45cea692a231436a7f9a5a7fd68197da56ceefbad61a57a", func := "loop.example/g00976/laws.FnExactGetAttr", spec := "fnExactGetAttr", apart := false }
def FnExactGetAttrSaid : Prop := fnExactGetAttrRow.holds Try.pinned (OpenSpec.ofChange fnExactGetAttrSpec)

/-- ITS FALSE NEIGHBOUR: 'it returns false'. Refute it at one input. -/
def fnExactGetAttrWrong : ChangeSpec := { name := "fnExactGetAttr", fn := fun _ => fun
  | [d1, d2] => { results := [.lit (.bool false)], args := [d1, d2] }
  | _ => none }
def FnExactGetAttrWrongFalsely : Prop := fnExactGetAttrRow.holds Try.pinned (OpenSpec.ofChange fnExactGetAttrWrong)

/-- 'laws.FnExactEqualFiles': WHATEVER THE INPUT: true; the input reads as it did. -/
def fnExactEqualFilesSpec : ChangeSpec := { name := "fnExactEqualFiles", fn := fun _ => fun
  | [d1, d2] => { results := [.lit (.bool true)], args := [d1, d2] }
  | _ => none }
def fnExactEqualFilesRow : OpenClaim := { program := "ytjnjjifijelgpaa", sum := "66579eb131a89d4ea45cea692a231436a7f9a5a7fd68197da56ceefbad61a57a", func := "loop.example/g00976/laws.FnExactEqualFiles", spec := "fnExactEqualFiles", apart := false }
def FnExactEqualFilesSaid : Prop := fnExactEqualFilesRow.holds Try.pinned (OpenSpec.ofChange fnExactEqualFilesSpec)

/-- ITS FALSE NEIGHBOUR: 'it returns false'. Refute it at one input. -/
def fnExactEqualFilesWrong : ChangeSpec := { name := "fnExactEqualFiles", fn := fun _ => fun
  | [d1, d2] => { results := [.lit (.bool false)], args := [d1, d2] }
  | _ => none }
def FnExactEqualFilesWrongFalsely : Prop := fnExactEqualFilesRow.holds Try.pinned (OpenSpec.ofChange fnExactEqualFilesWrong)

/-- 'laws.FnExactIntAttr': WHATEVER THE INPUT: true; the input reads as it did. -/
def fnExactIntAttrSpec : ChangeSpec := { name := "fnExactIntAttr", fn := fun _ => fun
  | [d1, d2] => { results := [.lit (.bool true)], args := [d1, d2] }
  | _ => none }
def fnExactIntAttrRow : OpenClaim := { program := "ytjnjjifijelgpaa", sum := "66579eb131a89d4ea45cea692a231436a7f9a5a7fd68197da56ceefbad61a57a", func := "loop.example/g00976/laws.FnExactIntAttr", spec := "fnExactIntAttr", apart := false }
def FnExactIntAttrSaid : Prop := fnExactIntAttrRow.holds Try.pinned (OpenSpec.ofChange fnExactIntAttrSpec)

/-- ITS FALSE NEIGHBOUR: 'it returns false'. Refute it at one input. -/
def fnExactIntAttrWrong : ChangeSpec := { name := "fnExactIntAttr", fn := fun _ => fun
  | [d1, d2] => { results := [.lit (.bool false)], args := [d1, d2] }
  | _ => none }
def FnExactIntAttrWrongFalsely : Prop := fnExactIntAttrRow.holds Try.pinned (OpenSpec.ofChange fnExactIntAttrWrong)

/-- 'laws.FnExactEqualIndexes': WHATEVER THE INPUT: true; the input reads as it did. -/
def fnExactEqualIndexesSpec : ChangeSpec := { name := "fnExactEqualIndexes", fn := fun _ => fun
  | [d1, d2] => { results := [.lit (.bool true)], args := [d1, d2] }
  | _ => none }
def fnExactEqualIndexesRow : OpenClaim := { program := "ytjnjjifijelgpaa", sum := "66579eb131a89d4ea45cea692a231436a7f9a5a7fd68197da56ceefbad61a57a", func := "loop.example/g00976/laws.FnExactEqualIndexes", spec := "fnExactEqualIndexes", unfollowed := true, recurses := true, apart := false }
def FnExactEqualIndexesSaid : Prop := fnExactEqualIndexesRow.holds Try.pinned (OpenSpec.ofChange fnExactEqualIndexesSpec)

/-- ITS FALSE NEIGHBOUR: 'it returns false'. Refute it at one input. -/
def fnExactEqualIndexesWrong : ChangeSpec := { name := "fnExactEqualIndexes", fn := fun _ => fun
  | [d1, d2] => { results := [.lit (.bool false)], args := [d1, d2] }
  | _ => none }
def FnExactEqualIndexesWrongFalsely : Prop := fnExactEqualIndexesRow.holds Try.pinned (OpenSpec.ofChange fnExactEqualIndexesWrong)

/- THE SECOND FORM. 'bulk': how many values and letters a reading holds, each counted each time it is reached (what is shared counts as often as it is met; a slice's spare places count too). A statement '..UptoSaid' is the law's where the arguments, and the package variables that the reading takes, are together of bulk at most 1048576: NARROWER than '..Said'. Prove '..Said' where nothing that the law and all that it calls make is longer than what came in: it says more and counts as full. Else prove '..UptoSaid'. A law counts once. -/
mutual
def uptoBulk {H : Type} : DataW H → Nat
  | .lit (.string bytes) => bytes.length + 1
  | .lit _ => 1
  | .nil => 1
  | .ptr d => uptoBulk d + 1
  | .slice elems spare => uptoBulkAll elems + uptoBulkAll spare + 1
  | .agg parts => uptoBulkAll parts + 1
  | .iface _ d => uptoBulk d + 1
  | .map entries => uptoBulkEntries entries + 1
  | .held _ => 1
def uptoBulkAll {H : Type} : List (DataW H) → Nat
  | [] => 0
  | d :: r => uptoBulk d + uptoBulkAll r
def uptoBulkEntries {H : Type} : List (Lit × DataW H) → Nat
  | [] => 0
  | x :: r => uptoBulkEntry x + uptoBulkEntries r
def uptoBulkEntry {H : Type} : Lit × DataW H → Nat
  | (.string bytes, d) => bytes.length + uptoBulk d + 1
  | (_, d) => uptoBulk d + 1
 end
def uptoSmall : (H : Type) → List (DataW H) → Bool := fun _ ds => decide (uptoBulkAll ds ≤ 1048576)
def OpenSpec.upto (s : _root_.Go.ChangeSpec) : _root_.Go.OpenSpec := { _root_.Go.OpenSpec.ofChange s with cond := some uptoSmall }

/-- 'laws.FnExactIsValidSchema', WHERE WHAT IT READS IS OF BULK AT MOST 1048576: true; the input reads as it did. -/
def fnExactIsValidSchemaUptoRow : OpenClaim := { program := "ytjnjjifijelgpaa", sum := "66579eb131a89d4ea45cea692a231436a7f9a5a7fd68197da56ceefbad61a57a", func := "loop.example/g00976/laws.FnExactIsValidSchema", spec := "fnExactIsValidSchema", apart := false, narrowed := true }
def FnExactIsValidSchemaUptoSaid : Prop := fnExactIsValidSchemaUptoRow.holds Try.pinned (OpenSpec.upto fnExactIsValidSchemaSpec)

/-- 'laws.FnValueOrder', WHERE WHAT IT READS IS OF BULK AT MOST 1048576: true; the input reads as it did. -/
def fnValueOrderUptoRow : OpenClaim := { program := "ytjnjjifijelgpaa", sum := "66579eb131a89d4ea45cea692a231436a7f9a5a7fd68197da56ceefbad61a57a", func := "loop.example/g00976/laws.FnValueOrder", spec := "fnValueOrder", apart := false, narrowed := true }
def FnValueOrderUptoSaid : Prop := fnValueOrderUptoRow.holds Try.pinned (OpenSpec.upto fnValueOrderSpec)

/-- 'laws.FnExactBuildIndex', WHERE WHAT IT READS IS OF BULK AT MOST 1048576: true; the input reads as it did. -/
def fnExactBuildIndexUptoRow : OpenClaim := { program := "ytjnjjifijelgpaa", sum := "66579eb131a89d4ea45cea692a231436a7f9a5a7fd68197da56ceefbad61a57a", func := "loop.example/g00976/laws.FnExactBuildIndex", spec := "fnExactBuildIndex", inPlace := ["slices.overlaps[loop.example/g00976/impl.Posting]", "slices.overlaps[int]"], unfollowed := true, recurses := true, apart := false, narrowed := true }
def FnExactBuildIndexUptoSaid : Prop := fnExactBuildIndexUptoRow.holds Try.pinned (OpenSpec.upto fnExactBuildIndexSpec)

/-- 'laws.FnExactEqualQueries', WHERE WHAT IT READS IS OF BULK AT MOST 1048576: true; the input reads as it did. -/
def fnExactEqualQueriesUptoRow : OpenClaim := { program := "ytjnjjifijelgpaa", sum := "66579eb131a89d4ea45cea692a231436a7f9a5a7fd68197da56ceefbad61a57a", func := "loop.example/g00976/laws.FnExactEqualQueries", spec := "fnExactEqualQueries", apart := false, narrowed := true }
def FnExactEqualQueriesUptoSaid : Prop := fnExactEqualQueriesUptoRow.holds Try.pinned (OpenSpec.upto fnExactEqualQueriesSpec)

/-- 'laws.FnExactCanWrite', WHERE WHAT IT READS IS OF BULK AT MOST 1048576: true; the input reads as it did. -/
def fnExactCanWriteUptoRow : OpenClaim := { program := "ytjnjjifijelgpaa", sum := "66579eb131a89d4ea45cea692a231436a7f9a5a7fd68197da56ceefbad61a57a", func := "loop.example/g00976/laws.FnExactCanWrite", spec := "fnExactCanWrite", apart := false, narrowed := true }
def FnExactCanWriteUptoSaid : Prop := fnExactCanWriteUptoRow.holds Try.pinned (OpenSpec.upto fnExactCanWriteSpec)

/-- 'laws.FnExactCanRead', WHERE WHAT IT READS IS OF BULK AT MOST 1048576: true; the input reads as it did. -/
def fnExactCanReadUptoRow : OpenClaim := { program := "ytjnjjifijelgpaa", sum := "66579eb131a89d4ea45cea692a231436a7f9a5a7fd68197da56ceefbad61a57a", func := "loop.example/g00976/laws.FnExactCanRead", spec := "fnExactCanRead", apart := false, narrowed := true }
def FnExactCanReadUptoSaid : Prop := fnExactCanReadUptoRow.holds Try.pinned (OpenSpec.upto fnExactCanReadSpec)

/-- 'laws.FnExactMatchesSchema', WHERE WHAT IT READS IS OF BULK AT MOST 1048576: true; the input reads as it did. -/
def fnExactMatchesSchemaUptoRow : OpenClaim := { program := "ytjnjjifijelgpaa", sum := "66579eb131a89d4ea45cea692a231436a7f9a5a7fd68197da56ceefbad61a57a", func := "loop.example/g00976/laws.FnExactMatchesSchema", spec := "fnExactMatchesSchema", apart := false, narrowed := true }
def FnExactMatchesSchemaUptoSaid : Prop := fnExactMatchesSchemaUptoRow.holds Try.pinned (OpenSpec.upto fnExactMatchesSchemaSpec)

/-- 'laws.FnExactGetAttr', WHERE WHAT IT READS IS OF BULK AT MOST 1048576: true; the input reads as it did. -/
def fnExactGetAttrUptoRow : OpenClaim := { program := "ytjnjjifijelgpaa", sum := "66579eb131a89d4ea45cea692a231436a7f9a5a7fd68197da56ceefbad61a57a", func := "loop.example/g00976/laws.FnExactGetAttr", spec := "fnExactGetAttr", apart := false, narrowed := true }
def FnExactGetAttrUptoSaid : Prop := fnExactGetAttrUptoRow.holds Try.pinned (OpenSpec.upto fnExactGetAttrSpec)

/-- 'laws.FnExactEqualFiles', WHERE WHAT IT READS IS OF BULK AT MOST 1048576: true; the input reads as it did. -/
def fnExactEqualFilesUptoRow : OpenClaim := { program := "ytjnjjifijelgpaa", sum := "66579eb131a89d4ea45cea692a231436a7f9a5a7fd68197da56ceefbad61a57a", func := "loop.example/g00976/laws.FnExactEqualFiles", spec := "fnExactEqualFiles", apart := false, narrowed := true }
def FnExactEqualFilesUptoSaid : Prop := fnExactEqualFilesUptoRow.holds Try.pinned (OpenSpec.upto fnExactEqualFilesSpec)

/-- 'laws.FnExactIntAttr', WHERE WHAT IT READS IS OF BULK AT MOST 1048576: true; the input reads as it did. -/
def fnExactIntAttrUptoRow : OpenClaim := { program := "ytjnjjifijelgpaa", sum := "66579eb131a89d4ea45cea692a231436a7f9a5a7fd68197da56ceefbad61a57a", func := "loop.example/g00976/laws.FnExactIntAttr", spec := "fnExactIntAttr", apart := false, narrowed := true }
def FnExactIntAttrUptoSaid : Prop := fnExactIntAttrUptoRow.holds Try.pinned (OpenSpec.upto fnExactIntAttrSpec)

/-- 'laws.FnExactEqualIndexes', WHERE WHAT IT READS IS OF BULK AT MOST 1048576: true; the input reads as it did. -/
def fnExactEqualIndexesUptoRow : OpenClaim := { program := "ytjnjjifijelgpaa", sum := "66579eb131a89d4ea45cea692a231436a7f9a5a7fd68197da56ceefbad61a57a", func := "loop.example/g00976/laws.FnExactEqualIndexes", spec := "fnExactEqualIndexes", unfollowed := true, recurses := true, apart := false, narrowed := true }
def FnExactEqualIndexesUptoSaid : Prop := fnExactEqualIndexesUptoRow.holds Try.pinned (OpenSpec.upto fnExactEqualIndexesSpec)

end Rows
end Go.Proofs.Ytjnjjifijelgpaa
