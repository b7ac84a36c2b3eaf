/-
  No cell of these rows narrows 'for every input' (looked for: loops, veiled, ifaces, maps, wideKeys, modest, calm, conditions, laid).
  DERIVED. THE GIVEN ROWS OF THIS SEAT. 10 by the template 'for every input the law returns true; each argument reads behind the call as it read before'; 0 by the template 'total and deterministic' (their statements: YtoceoakpnlohiaaTotals.lean).
  GIVEN WITH THE SEED: the statements are not yours to turn. If you find one false, say at which input.
  Laid BY PROGRAM, IN A SANDBOX (cutbox-rows.mjs): the forced cells as the released guide's own fill.sh prints them over the translation 39a1646d7c890507… (all of the seat's roots in one cut). By AI agents, Wed Nov 11 2026. No macro, syntax, notation, axiom, sorry.
-/
import Derived.Test.YtoceoakpnlohiaaChecked
import GoSem.Claim
import GoSem.ClaimJoined
import GoSem.ClaimMapViews
import Derived.JoinedTies
import Derived.KernelRfl
namespace Go.Proofs.Ytoceoakpnlohiaa
/- THE CELL 'sum', in the pinned program and in every row, IS THE sha256 OF THE DUMP (.gsa) THAT YtoceoakpnlohiaaProg.lean LOADS. Nothing in Lean hashes anything: it is a label: what it is worth is what the hold of that sum in a sandbox is worth. -/
noncomputable def Try.pinned : Pinned := { name := "ytoceoakpnlohiaa", sum := "39a1646d7c8905073dee4732df6f5c7abd3e1442dea8270c1ae5bec27592ce6f", checked := Try.checked }
namespace Rows
def none {H : Type} : Left H := { results := [], args := [] }

/-- 'laws.FnExactBuildIndex': WHATEVER THE INPUT: true; the input reads as it did. -/
def fnExactBuildIndexSpec : ChangeSpec := { name := "fnExactBuildIndex", fn := fun _ => fun
  | [d] => { results := [.lit (.bool true)], args := [d] }
  | _ => none }
def fnExactBuildIndexRow : OpenClaim := { program := "ytoceoakpnlohiaa", sum := "39a1646d7c8905073dee4732df6f5c7abd3e1442dea8270c1ae5bec27592ce6f", func := "loop.example/g00976/laws.FnExactBuildIndex", spec := "fnExactBuildIndex", inPlace := ["slices.overlaps[loop.example/g00976/impl.Posting]", "slices.overlaps[int]"], unfollowed := true, recurses := true, apart := false }
def FnExactBuildIndexSaid : Prop := fnExactBuildIndexRow.holds Try.pinned (OpenSpec.ofChange fnExactBuildIndexSpec)

/-- ITS FALSE NEIGHBOUR: 'it returns false'. Refute it at one input. -/
def fnExactBuildIndexWrong : ChangeSpec := { name := "fnExactBuildIndex", fn := fun _ => fun
  | [d] => { results := [.lit (.bool false)], args := [d] }
  | _ => none }
def FnExactBuildIndexWrongFalsely : Prop := fnExactBuildIndexRow.holds Try.pinned (OpenSpec.ofChange fnExactBuildIndexWrong)

/-- 'laws.FnExactAddField': WHATEVER THE INPUT: true; the input reads as it did. -/
def fnExactAddFieldSpec : ChangeSpec := { name := "fnExactAddField", fn := fun _ => fun
  | [d1, d2] => { results := [.lit (.bool true)], args := [d1, d2] }
  | _ => none }
def fnExactAddFieldRow : OpenClaim := { program := "ytoceoakpnlohiaa", sum := "39a1646d7c8905073dee4732df6f5c7abd3e1442dea8270c1ae5bec27592ce6f", func := "loop.example/g00976/laws.FnExactAddField", spec := "fnExactAddField", inPlace := ["slices.overlaps[loop.example/g00976/impl.Field]"], unfollowed := true, recurses := true, apart := false }
def FnExactAddFieldSaid : Prop := fnExactAddFieldRow.holds Try.pinned (OpenSpec.ofChange fnExactAddFieldSpec)

/-- ITS FALSE NEIGHBOUR: 'it returns false'. Refute it at one input. -/
def fnExactAddFieldWrong : ChangeSpec := { name := "fnExactAddField", fn := fun _ => fun
  | [d1, d2] => { results := [.lit (.bool false)], args := [d1, d2] }
  | _ => none }
def FnExactAddFieldWrongFalsely : Prop := fnExactAddFieldRow.holds Try.pinned (OpenSpec.ofChange fnExactAddFieldWrong)

/-- 'laws.FnExactSetAttr': WHATEVER THE INPUT: true; the input reads as it did. -/
def fnExactSetAttrSpec : ChangeSpec := { name := "fnExactSetAttr", fn := fun _ => fun
  | [d1, d2, d3] => { results := [.lit (.bool true)], args := [d1, d2, d3] }
  | _ => none }
def fnExactSetAttrRow : OpenClaim := { program := "ytoceoakpnlohiaa", sum := "39a1646d7c8905073dee4732df6f5c7abd3e1442dea8270c1ae5bec27592ce6f", func := "loop.example/g00976/laws.FnExactSetAttr", spec := "fnExactSetAttr", inPlace := ["slices.overlaps[loop.example/g00976/impl.Attr]"], unfollowed := true, recurses := true, apart := false }
def FnExactSetAttrSaid : Prop := fnExactSetAttrRow.holds Try.pinned (OpenSpec.ofChange fnExactSetAttrSpec)

/-- ITS FALSE NEIGHBOUR: 'it returns false'. Refute it at one input. -/
def fnExactSetAttrWrong : ChangeSpec := { name := "fnExactSetAttr", fn := fun _ => fun
  | [d1, d2, d3] => { results := [.lit (.bool false)], args := [d1, d2, d3] }
  | _ => none }
def FnExactSetAttrWrongFalsely : Prop := fnExactSetAttrRow.holds Try.pinned (OpenSpec.ofChange fnExactSetAttrWrong)

/-- 'laws.FnExactEqualForUser': WHATEVER THE INPUT: true; the input reads as it did. -/
def fnExactEqualForUserSpec : ChangeSpec := { name := "fnExactEqualForUser", fn := fun _ => fun
  | [d1, d2, d3] => { results := [.lit (.bool true)], args := [d1, d2, d3] }
  | _ => none }
def fnExactEqualForUserRow : OpenClaim := { program := "ytoceoakpnlohiaa", sum := "39a1646d7c8905073dee4732df6f5c7abd3e1442dea8270c1ae5bec27592ce6f", func := "loop.example/g00976/laws.FnExactEqualForUser", spec := "fnExactEqualForUser", unfollowed := true, recurses := true, apart := false }
def FnExactEqualForUserSaid : Prop := fnExactEqualForUserRow.holds Try.pinned (OpenSpec.ofChange fnExactEqualForUserSpec)

/-- ITS FALSE NEIGHBOUR: 'it returns false'. Refute it at one input. -/
def fnExactEqualForUserWrong : ChangeSpec := { name := "fnExactEqualForUser", fn := fun _ => fun
  | [d1, d2, d3] => { results := [.lit (.bool false)], args := [d1, d2, d3] }
  | _ => none }
def FnExactEqualForUserWrongFalsely : Prop := fnExactEqualForUserRow.holds Try.pinned (OpenSpec.ofChange fnExactEqualForUserWrong)

/-- 'laws.FnExactRemoveFromIndex': WHATEVER THE INPUT: true; the input reads as it did. -/
def fnExactRemoveFromIndexSpec : ChangeSpec := { name := "fnExactRemoveFromIndex", fn := fun _ => fun
  | [d1, d2] => { results := [.lit (.bool true)], args := [d1, d2] }
  | _ => none }
def fnExactRemoveFromIndexRow : OpenClaim := { program := "ytoceoakpnlohiaa", sum := "39a1646d7c8905073dee4732df6f5c7abd3e1442dea8270c1ae5bec27592ce6f", func := "loop.example/g00976/laws.FnExactRemoveFromIndex", spec := "fnExactRemoveFromIndex", unfollowed := true, recurses := true, apart := false }
def FnExactRemoveFromIndexSaid : Prop := fnExactRemoveFromIndexRow.holds Try.pinned (OpenSpec.ofChange fnExactRemoveFromIndexSpec)

/-- ITS FALSE NEIGHBOUR: 'it returns false'. Refute it at one input. -/
def fnExactRemoveFromIndexWrong : ChangeSpec := { name := "fnExactRemoveFromIndex", fn := fun _ => fun
  | [d1, d2] => { results := [.lit (.bool false)], args := [d1, d2] }
  | _ => none }
def FnExactRemoveFromIndexWrongFalsely : Prop := fnExactRemoveFromIndexRow.holds Try.pinned (OpenSpec.ofChange fnExactRemoveFromIndexWrong)

/-- 'laws.FnExactVisibleStore': WHATEVER THE INPUT: true; the input reads as it did. -/
def fnExactVisibleStoreSpec : ChangeSpec := { name := "fnExactVisibleStore", fn := fun _ => fun
  | [d1, d2] => { results := [.lit (.bool true)], args := [d1, d2] }
  | _ => none }
def fnExactVisibleStoreRow : OpenClaim := { program := "ytoceoakpnlohiaa", sum := "39a1646d7c8905073dee4732df6f5c7abd3e1442dea8270c1ae5bec27592ce6f", func := "loop.example/g00976/laws.FnExactVisibleStore", spec := "fnExactVisibleStore", unfollowed := true, recurses := true, apart := false }
def FnExactVisibleStoreSaid : Prop := fnExactVisibleStoreRow.holds Try.pinned (OpenSpec.ofChange fnExactVisibleStoreSpec)

/-- ITS FALSE NEIGHBOUR: 'it returns false'. Refute it at one input. -/
def fnExactVisibleStoreWrong : ChangeSpec := { name := "fnExactVisibleStore", fn := fun _ => fun
  | [d1, d2] => { results := [.lit (.bool false)], args := [d1, d2] }
  | _ => none }
def FnExactVisibleStoreWrongFalsely : Prop := fnExactVisibleStoreRow.holds Try.pinned (OpenSpec.ofChange fnExactVisibleStoreWrong)

/-- 'laws.FnExactCreateFile': WHATEVER THE INPUT: true; the input reads as it did. -/
def fnExactCreateFileSpec : ChangeSpec := { name := "fnExactCreateFile", fn := fun _ => fun
  | [d1, d2] => { results := [.lit (.bool true)], args := [d1, d2] }
  | _ => none }
def fnExactCreateFileRow : OpenClaim := { program := "ytoceoakpnlohiaa", sum := "39a1646d7c8905073dee4732df6f5c7abd3e1442dea8270c1ae5bec27592ce6f", func := "loop.example/g00976/laws.FnExactCreateFile", spec := "fnExactCreateFile", apart := false }
def FnExactCreateFileSaid : Prop := fnExactCreateFileRow.holds Try.pinned (OpenSpec.ofChange fnExactCreateFileSpec)

/-- ITS FALSE NEIGHBOUR: 'it returns false'. Refute it at one input. -/
def fnExactCreateFileWrong : ChangeSpec := { name := "fnExactCreateFile", fn := fun _ => fun
  | [d1, d2] => { results := [.lit (.bool false)], args := [d1, d2] }
  | _ => none }
def FnExactCreateFileWrongFalsely : Prop := fnExactCreateFileRow.holds Try.pinned (OpenSpec.ofChange fnExactCreateFileWrong)

/-- 'laws.FnExactAddToIndex': WHATEVER THE INPUT: true; the input reads as it did. -/
def fnExactAddToIndexSpec : ChangeSpec := { name := "fnExactAddToIndex", fn := fun _ => fun
  | [d1, d2] => { results := [.lit (.bool true)], args := [d1, d2] }
  | _ => none }
def fnExactAddToIndexRow : OpenClaim := { program := "ytoceoakpnlohiaa", sum := "39a1646d7c8905073dee4732df6f5c7abd3e1442dea8270c1ae5bec27592ce6f", func := "loop.example/g00976/laws.FnExactAddToIndex", spec := "fnExactAddToIndex", inPlace := ["slices.overlaps[loop.example/g00976/impl.Posting]", "slices.overlaps[int]"], unfollowed := true, recurses := true, apart := false }
def FnExactAddToIndexSaid : Prop := fnExactAddToIndexRow.holds Try.pinned (OpenSpec.ofChange fnExactAddToIndexSpec)

/-- ITS FALSE NEIGHBOUR: 'it returns false'. Refute it at one input. -/
def fnExactAddToIndexWrong : ChangeSpec := { name := "fnExactAddToIndex", fn := fun _ => fun
  | [d1, d2] => { results := [.lit (.bool false)], args := [d1, d2] }
  | _ => none }
def FnExactAddToIndexWrongFalsely : Prop := fnExactAddToIndexRow.holds Try.pinned (OpenSpec.ofChange fnExactAddToIndexWrong)

/-- 'laws.FnExactReplaceFile': WHATEVER THE INPUT: true; the input reads as it did. -/
def fnExactReplaceFileSpec : ChangeSpec := { name := "fnExactReplaceFile", fn := fun _ => fun
  | [d1, d2] => { results := [.lit (.bool true)], args := [d1, d2] }
  | _ => none }
def fnExactReplaceFileRow : OpenClaim := { program := "ytoceoakpnlohiaa", sum := "39a1646d7c8905073dee4732df6f5c7abd3e1442dea8270c1ae5bec27592ce6f", func := "loop.example/g00976/laws.FnExactReplaceFile", spec := "fnExactReplaceFile", unfollowed := true, recurses := true, apart := false }
def FnExactReplaceFileSaid : Prop := fnExactReplaceFileRow.holds Try.pinned (OpenSpec.ofChange fnExactReplaceFileSpec)

/-- ITS FALSE NEIGHBOUR: 'it returns false'. Refute it at one input. -/
def fnExactReplaceFileWrong : ChangeSpec := { name := "fnExactReplaceFile", fn := fun _ => fun
  | [d1, d2] => { results := [.lit (.bool false)], args := [d1, d2] }
  | _ => none }
def FnExactReplaceFileWrongFalsely : Prop := fnExactReplaceFileRow.holds Try.pinned (OpenSpec.ofChange fnExactReplaceFileWrong)

/-- 'laws.FnExactDeleteFile': WHATEVER THE INPUT: true; the input reads as it did. -/
def fnExactDeleteFileSpec : ChangeSpec := { name := "fnExactDeleteFile", fn := fun _ => fun
  | [d1, d2] => { results := [.lit (.bool true)], args := [d1, d2] }
  | _ => none }
def fnExactDeleteFileRow : OpenClaim := { program := "ytoceoakpnlohiaa", sum := "39a1646d7c8905073dee4732df6f5c7abd3e1442dea8270c1ae5bec27592ce6f", func := "loop.example/g00976/laws.FnExactDeleteFile", spec := "fnExactDeleteFile", unfollowed := true, recurses := true, apart := false }
def FnExactDeleteFileSaid : Prop := fnExactDeleteFileRow.holds Try.pinned (OpenSpec.ofChange fnExactDeleteFileSpec)

/-- ITS FALSE NEIGHBOUR: 'it returns false'. Refute it at one input. -/
def fnExactDeleteFileWrong : ChangeSpec := { name := "fnExactDeleteFile", fn := fun _ => fun
  | [d1, d2] => { results := [.lit (.bool false)], args := [d1, d2] }
  | _ => none }
def FnExactDeleteFileWrongFalsely : Prop := fnExactDeleteFileRow.holds Try.pinned (OpenSpec.ofChange fnExactDeleteFileWrong)

/- THE SECOND FORM. 'bulk': how many values and letters a reading holds, each counted each time it is reached (what is shared counts as often as it is met; a slice's spare places count too). A statement '..UptoSaid' is the law's where the arguments, and the package variables that the reading takes, are together of bulk at most 1048576: NARROWER than '..Said'. Prove '..Said' where nothing that the law and all that it calls make is longer than what came in: it says more and counts as full. Else prove '..UptoSaid'. A law counts once. -/
mutual
def uptoBulk {H : Type} : DataW H → Nat
  | .lit (.string bytes) => bytes.length + 1
  | .lit _ => 1
  | .nil => 1
  | .ptr d => uptoBulk d + 1
  | .slice elems spare => uptoBulkAll elems + uptoBulkAll spare + 1
  | .agg parts => uptoBulkAll parts + 1
  | .iface _ d => uptoBulk d + 1
  | .map entries => uptoBulkEntries entries + 1
  | .held _ => 1
def uptoBulkAll {H : Type} : List (DataW H) → Nat
  | [] => 0
  | d :: r => uptoBulk d + uptoBulkAll r
def uptoBulkEntries {H : Type} : List (Lit × DataW H) → Nat
  | [] => 0
  | x :: r => uptoBulkEntry x + uptoBulkEntries r
def uptoBulkEntry {H : Type} : Lit × DataW H → Nat
  | (.string bytes, d) => bytes.length + uptoBulk d + 1
  | (_, d) => uptoBulk d + 1
 end
def uptoSmall : (H : Type) → List (DataW H) → Bool := fun _ ds => decide (uptoBulkAll ds ≤ 1048576)
def OpenSpec.upto (s : _root_.Go.ChangeSpec) : _root_.Go.OpenSpec := { _root_.Go.OpenSpec.ofChange s with cond := some uptoSmall }

/-- 'laws.FnExactBuildIndex', WHERE WHAT IT READS IS OF BULK AT MOST 1048576: true; the input reads as it did. -/
def fnExactBuildIndexUptoRow : OpenClaim := { program := "ytoceoakpnlohiaa", sum := "39a1646d7c8905073dee4732df6f5c7abd3e1442dea8270c1ae5bec27592ce6f", func := "loop.example/g00976/laws.FnExactBuildIndex", spec := "fnExactBuildIndex", inPlace := ["slices.overlaps[loop.example/g00976/impl.Posting]", "slices.overlaps[int]"], unfollowed := true, recurses := true, apart := false, narrowed := true }
def FnExactBuildIndexUptoSaid : Prop := fnExactBuildIndexUptoRow.holds Try.pinned (OpenSpec.upto fnExactBuildIndexSpec)

/-- 'laws.FnExactAddField', WHERE WHAT IT READS IS OF BULK AT MOST 1048576: true; the input reads as it did. -/
def fnExactAddFieldUptoRow : OpenClaim := { program := "ytoceoakpnlohiaa", sum := "39a1646d7c8905073dee4732df6f5c7abd3e1442dea8270c1ae5bec27592ce6f", func := "loop.example/g00976/laws.FnExactAddField", spec := "fnExactAddField", inPlace := ["slices.overlaps[loop.example/g00976/impl.Field]"], unfollowed := true, recurses := true, apart := false, narrowed := true }
def FnExactAddFieldUptoSaid : Prop := fnExactAddFieldUptoRow.holds Try.pinned (OpenSpec.upto fnExactAddFieldSpec)

/-- 'laws.FnExactSetAttr', WHERE WHAT IT READS IS OF BULK AT MOST 1048576: true; the input reads as it did. -/
def fnExactSetAttrUptoRow : OpenClaim := { program := "ytoceoakpnlohiaa", sum := "39a1646d7c8905073dee4732df6f5c7abd3e1442dea8270c1ae5bec27592ce6f", func := "loop.example/g00976/laws.FnExactSetAttr", spec := "fnExactSetAttr", inPlace := ["slices.overlaps[loop.example/g00976/impl.Attr]"], unfollowed := true, recurses := true, apart := false, narrowed := true }
def FnExactSetAttrUptoSaid : Prop := fnExactSetAttrUptoRow.holds Try.pinned (OpenSpec.upto fnExactSetAttrSpec)

/-- 'laws.FnExactEqualForUser', WHERE WHAT IT READS IS OF BULK AT MOST 1048576: true; the input reads as it did. -/
def fnExactEqualForUserUptoRow : OpenClaim := { program := "ytoceoakpnlohiaa", sum := "39a1646d7c8905073dee4732df6f5c7abd3e1442dea8270c1ae5bec27592ce6f", func := "loop.example/g00976/laws.FnExactEqualForUser", spec := "fnExactEqualForUser", unfollowed := true, recurses := true, apart := false, narrowed := true }
def FnExactEqualForUserUptoSaid : Prop := fnExactEqualForUserUptoRow.holds Try.pinned (OpenSpec.upto fnExactEqualForUserSpec)

/-- 'laws.FnExactRemoveFromIndex', WHERE WHAT IT READS IS OF BULK AT MOST 1048576: true; the input reads as it did. -/
def fnExactRemoveFromIndexUptoRow : OpenClaim := { program := "ytoceoakpnlohiaa", sum := "39a1646d7c8905073dee4732df6f5c7abd3e1442dea8270c1ae5bec27592ce6f", func := "loop.example/g00976/laws.FnExactRemoveFromIndex", spec := "fnExactRemoveFromIndex", unfollowed := true, recurses := true, apart := false, narrowed := true }
def FnExactRemoveFromIndexUptoSaid : Prop := fnExactRemoveFromIndexUptoRow.holds Try.pinned (OpenSpec.upto fnExactRemoveFromIndexSpec)

/-- 'laws.FnExactVisibleStore', WHERE WHAT IT READS IS OF BULK AT MOST 1048576: true; the input reads as it did. -/
def fnExactVisibleStoreUptoRow : OpenClaim := { program := "ytoceoakpnlohiaa", sum := "39a1646d7c8905073dee4732df6f5c7abd3e1442dea8270c1ae5bec27592ce6f", func := "loop.example/g00976/laws.FnExactVisibleStore", spec := "fnExactVisibleStore", unfollowed := true, recurses := true, apart := false, narrowed := true }
def FnExactVisibleStoreUptoSaid : Prop := fnExactVisibleStoreUptoRow.holds Try.pinned (OpenSpec.upto fnExactVisibleStoreSpec)

/-- 'laws.FnExactCreateFile', WHERE WHAT IT READS IS OF BULK AT MOST 1048576: true; the input reads as it did. -/
def fnExactCreateFileUptoRow : OpenClaim := { program := "ytoceoakpnlohiaa", sum := "39a1646d7c8905073dee4732df6f5c7abd3e1442dea8270c1ae5bec27592ce6f", func := "loop.example/g00976/laws.FnExactCreateFile", spec := "fnExactCreateFile", apart := false, narrowed := true }
def FnExactCreateFileUptoSaid : Prop := fnExactCreateFileUptoRow.holds Try.pinned (OpenSpec.upto fnExactCreateFileSpec)

/-- 'laws.FnExactAddToIndex', WHERE WHAT IT READS IS OF BULK AT MOST 1048576: true; the input reads as it did. -/
def fnExactAddToIndexUptoRow : OpenClaim := { program := "ytoceoakpnlohiaa", sum := "39a1646d7c8905073dee4732df6f5c7abd3e1442dea8270c1ae5bec27592ce6f", func := "loop.example/g00976/laws.FnExactAddToIndex", spec := "fnExactAddToIndex", inPlace := ["slices.overlaps[loop.example/g00976/impl.Posting]", "slices.overlaps[int]"], unfollowed := true, recurses := true, apart := false, narrowed := true }
def FnExactAddToIndexUptoSaid : Prop := fnExactAddToIndexUptoRow.holds Try.pinned (OpenSpec.upto fnExactAddToIndexSpec)

/-- 'laws.FnExactReplaceFile', WHERE WHAT IT READS IS OF BULK AT MOST 1048576: true; the input reads as it did. -/
def fnExactReplaceFileUptoRow : OpenClaim := { program := "ytoceoakpnlohiaa", sum := "39a1646d7c8905073dee4732df6f5c7abd3e1442dea8270c1ae5bec27592ce6f", func := "loop.example/g00976/laws.FnExactReplaceFile", spec := "fnExactReplaceFile", unfollowed := true, recurses := true, apart := false, narrowed := true }
def FnExactReplaceFileUptoSaid : Prop := fnExactReplaceFileUptoRow.holds Try.pinned (OpenSpec.upto fnExactReplaceFileSpec)

/-- 'laws.FnExactDeleteFile', WHERE WHAT IT READS IS OF BULK AT MOST 1048576: true; the input reads as it did. -/
def fnExactDeleteFileUptoRow : OpenClaim := { program := "ytoceoakpnlohiaa", sum := "39a1646d7c8905073dee4732df6f5c7abd3e1442dea8270c1ae5bec27592ce6f", func := "loop.example/g00976/laws.FnExactDeleteFile", spec := "fnExactDeleteFile", unfollowed := true, recurses := true, apart := false, narrowed := true }
def FnExactDeleteFileUptoSaid : Prop := fnExactDeleteFileUptoRow.holds Try.pinned (OpenSpec.upto fnExactDeleteFileSpec)

end Rows
end Go.Proofs.Ytoceoakpnlohiaa
