/-
  No cell of these rows narrows 'for every input' (looked for: loops, veiled, ifaces, maps, wideKeys, modest, calm, conditions, laid).
  DERIVED. THE GIVEN ROWS OF THIS SEAT. 10 by the template 'for every input the law returns true; each argument reads behind the call as it read before'; 0 by the template 'total and deterministic' (their statements: YtlhdkklpanpikaaTotals.lean).
  GIVEN WITH THE SEED: the statements are not yours to turn. If you find one false, say at which input.
  Laid BY PROGRAM, IN A SANDBOX (cutbox-rows.mjs): the forced cells as the released guide's own fill.sh prints them over the translation 5fddd72f07eb2f1c… (all of the seat's roots in one cut). By AI agents, Wed Nov 11 2026. No macro, syntax, notation, axiom, sorry.
-/
import Derived.Test.YtlhdkklpanpikaaChecked
import GoSem.Claim
import GoSem.ClaimJoined
import GoSem.ClaimMapViews
import Derived.JoinedTies
import Derived.KernelRfl
namespace Go.Proofs.Ytlhdkklpanpikaa
/- THE CELL 'sum', in the pinned program and in every row, IS THE sha256 OF THE DUMP (.gsa) THAT YtlhdkklpanpikaaProg.lean LOADS. Nothing in Lean hashes anything: it is a label: what it is worth is what the hold of that sum in a sandbox is worth. -/
noncomputable def Try.pinned : Pinned := { name := "ytlhdkklpanpikaa", sum := "5fddd72f07eb2f1c5f101368f805b613a777d6862974e00c868d69fa948262ac", checked := Try.checked }
namespace Rows
def none {H : Type} : Left H := { results := [], args := [] }

/-- 'laws.FnExactEqualStores': WHATEVER THE INPUT: true; the input reads as it did. -/
def fnExactEqualStoresSpec : ChangeSpec := { name := "fnExactEqualStores", fn := fun _ => fun
  | [d1, d2] => { results := [.lit (.bool true)], args := [d1, d2] }
  | _ => none }
def fnExactEqualStoresRow : OpenClaim := { program := "ytlhdkklpanpikaa", sum := "5fddd72f07eb2f1c5f101368f805b613a777d6862974e00c868d69fa948262ac", func := "loop.example/g00976/laws.FnExactEqualStores", spec := "fnExactEqualStores", unfollowed := true, recurses := true, apart := false }
def FnExactEqualStoresSaid : Prop := fnExactEqualStoresRow.holds Try.pinned (OpenSpec.ofChange fnExactEqualStoresSpec)

/-- ITS FALSE NEIGHBOUR: 'it returns false'. Refute it at one input. -/
def fnExactEqualStoresWrong : ChangeSpec := { name := "fnExactEqualStores", fn := fun _ => fun
  | [d1, d2] => { results := [.lit (.bool false)], args := [d1, d2] }
  | _ => none }
def FnExactEqualStoresWrongFalsely : Prop := fnExactEqualStoresRow.holds Try.pinned (OpenSpec.ofChange fnExactEqualStoresWrong)

/-- 'laws.FnExactFileIDs': WHATEVER THE INPUT: true; the input reads as it did. -/
def fnExactFileIDsSpec : ChangeSpec := { name := "fnExactFileIDs", fn := fun _ => fun
  | [d] => { results := [.lit (.bool true)], args := [d] }
  | _ => none }
def fnExactFileIDsRow : OpenClaim := { program := "ytlhdkklpanpikaa", sum := "5fddd72f07eb2f1c5f101368f805b613a777d6862974e00c868d69fa948262ac", func := "loop.example/g00976/laws.FnExactFileIDs", spec := "fnExactFileIDs", apart := false }
def FnExactFileIDsSaid : Prop := fnExactFileIDsRow.holds Try.pinned (OpenSpec.ofChange fnExactFileIDsSpec)

/-- ITS FALSE NEIGHBOUR: 'it returns false'. Refute it at one input. -/
def fnExactFileIDsWrong : ChangeSpec := { name := "fnExactFileIDs", fn := fun _ => fun
  | [d] => { results := [.lit (.bool false)], args := [d] }
  | _ => none }
def FnExactFileIDsWrongFalsely : Prop := fnExactFileIDsRow.holds Try.pinned (OpenSpec.ofChange fnExactFileIDsWrong)

/-- 'laws.FnExactFilesOwnedBy': WHATEVER THE INPUT: true; the input reads as it did. -/
def fnExactFilesOwnedBySpec : ChangeSpec := { name := "fnExactFilesOwnedBy", fn := fun _ => fun
  | [d1, d2] => { results := [.lit (.bool true)], args := [d1, d2] }
  | _ => none }
def fnExactFilesOwnedByRow : OpenClaim := { program := "ytlhdkklpanpikaa", sum := "5fddd72f07eb2f1c5f101368f805b613a777d6862974e00c868d69fa948262ac", func := "loop.example/g00976/laws.FnExactFilesOwnedBy", spec := "fnExactFilesOwnedBy", apart := false }
def FnExactFilesOwnedBySaid : Prop := fnExactFilesOwnedByRow.holds Try.pinned (OpenSpec.ofChange fnExactFilesOwnedBySpec)

/-- ITS FALSE NEIGHBOUR: 'it returns false'. Refute it at one input. -/
def fnExactFilesOwnedByWrong : ChangeSpec := { name := "fnExactFilesOwnedBy", fn := fun _ => fun
  | [d1, d2] => { results := [.lit (.bool false)], args := [d1, d2] }
  | _ => none }
def FnExactFilesOwnedByWrongFalsely : Prop := fnExactFilesOwnedByRow.holds Try.pinned (OpenSpec.ofChange fnExactFilesOwnedByWrong)

/-- 'laws.FnExactSetAttr': WHATEVER THE INPUT: true; the input reads as it did. -/
def fnExactSetAttrSpec : ChangeSpec := { name := "fnExactSetAttr", fn := fun _ => fun
  | [d1, d2, d3] => { results := [.lit (.bool true)], args := [d1, d2, d3] }
  | _ => none }
def fnExactSetAttrRow : OpenClaim := { program := "ytlhdkklpanpikaa", sum := "5fddd72f07eb2f1c5f101368f805b613a777d6862974e00c868d69fa948262ac", func := "loop.example/g00976/laws.FnExactSetAttr", spec := "fnExactSetAttr", inPlace := ["slices.overlaps[loop.example/g00976/impl.Attr]"], unfollowed := true, recurses := true, apart := false }
def FnExactSetAttrSaid : Prop := fnExactSetAttrRow.holds Try.pinned (OpenSpec.ofChange fnExactSetAttrSpec)

/-- ITS FALSE NEIGHBOUR: 'it returns false'. Refute it at one input. -/
def fnExactSetAttrWrong : ChangeSpec := { name := "fnExactSetAttr", fn := fun _ => fun
  | [d1, d2, d3] => { results := [.lit (.bool false)], args := [d1, d2, d3] }
  | _ => none }
def FnExactSetAttrWrongFalsely : Prop := fnExactSetAttrRow.holds Try.pinned (OpenSpec.ofChange fnExactSetAttrWrong)

/-- 'laws.FnExactIsValidStore': WHATEVER THE INPUT: true; the input reads as it did. -/
def fnExactIsValidStoreSpec : ChangeSpec := { name := "fnExactIsValidStore", fn := fun _ => fun
  | [d] => { results := [.lit (.bool true)], args := [d] }
  | _ => none }
def fnExactIsValidStoreRow : OpenClaim := { program := "ytlhdkklpanpikaa", sum := "5fddd72f07eb2f1c5f101368f805b613a777d6862974e00c868d69fa948262ac", func := "loop.example/g00976/laws.FnExactIsValidStore", spec := "fnExactIsValidStore", apart := false }
def FnExactIsValidStoreSaid : Prop := fnExactIsValidStoreRow.holds Try.pinned (OpenSpec.ofChange fnExactIsValidStoreSpec)

/-- ITS FALSE NEIGHBOUR: 'it returns false'. Refute it at one input. -/
def fnExactIsValidStoreWrong : ChangeSpec := { name := "fnExactIsValidStore", fn := fun _ => fun
  | [d] => { results := [.lit (.bool false)], args := [d] }
  | _ => none }
def FnExactIsValidStoreWrongFalsely : Prop := fnExactIsValidStoreRow.holds Try.pinned (OpenSpec.ofChange fnExactIsValidStoreWrong)

/-- 'laws.FnExactFindFile': WHATEVER THE INPUT: true; the input reads as it did. -/
def fnExactFindFileSpec : ChangeSpec := { name := "fnExactFindFile", fn := fun _ => fun
  | [d1, d2] => { results := [.lit (.bool true)], args := [d1, d2] }
  | _ => none }
def fnExactFindFileRow : OpenClaim := { program := "ytlhdkklpanpikaa", sum := "5fddd72f07eb2f1c5f101368f805b613a777d6862974e00c868d69fa948262ac", func := "loop.example/g00976/laws.FnExactFindFile", spec := "fnExactFindFile", unfollowed := true, recurses := true, apart := false }
def FnExactFindFileSaid : Prop := fnExactFindFileRow.holds Try.pinned (OpenSpec.ofChange fnExactFindFileSpec)

/-- ITS FALSE NEIGHBOUR: 'it returns false'. Refute it at one input. -/
def fnExactFindFileWrong : ChangeSpec := { name := "fnExactFindFile", fn := fun _ => fun
  | [d1, d2] => { results := [.lit (.bool false)], args := [d1, d2] }
  | _ => none }
def FnExactFindFileWrongFalsely : Prop := fnExactFindFileRow.holds Try.pinned (OpenSpec.ofChange fnExactFindFileWrong)

/-- 'laws.FnExactEqualForUser': WHATEVER THE INPUT: true; the input reads as it did. -/
def fnExactEqualForUserSpec : ChangeSpec := { name := "fnExactEqualForUser", fn := fun _ => fun
  | [d1, d2, d3] => { results := [.lit (.bool true)], args := [d1, d2, d3] }
  | _ => none }
def fnExactEqualForUserRow : OpenClaim := { program := "ytlhdkklpanpikaa", sum := "5fddd72f07eb2f1c5f101368f805b613a777d6862974e00c868d69fa948262ac", func := "loop.example/g00976/laws.FnExactEqualForUser", spec := "fnExactEqualForUser", unfollowed := true, recurses := true, apart := false }
def FnExactEqualForUserSaid : Prop := fnExactEqualForUserRow.holds Try.pinned (OpenSpec.ofChange fnExactEqualForUserSpec)

/-- ITS FALSE NEIGHBOUR: 'it returns false'. Refute it at one input. -/
def fnExactEqualForUserWrong : ChangeSpec := { name := "fnExactEqualForUser", fn := fun _ => fun
  | [d1, d2, d3] => { results := [.lit (.bool false)], args := [d1, d2, d3] }
  | _ => none }
def FnExactEqualForUserWrongFalsely : Prop := fnExactEqualForUserRow.holds Try.pinned (OpenSpec.ofChange fnExactEqualForUserWrong)

/-- 'laws.FnExactRemoveFromIndex': WHATEVER THE INPUT: true; the input reads as it did. -/
def fnExactRemoveFromIndexSpec : ChangeSpec := { name := "fnExactRemoveFromIndex", fn := fun _ => fun
  | [d1, d2] => { results := [.lit (.bool true)], args := [d1, d2] }
  | _ => none }
def fnExactRemoveFromIndexRow : OpenClaim := { program := "ytlhdkklpanpikaa", sum := "5fddd72f07eb2f1c5f101368f805b613a777d6862974e00c868d69fa948262ac", func := "loop.example/g00976/laws.FnExactRemoveFromIndex", spec := "fnExactRemoveFromIndex", unfollowed := true, recurses := true, apart := false }
def FnExactRemoveFromIndexSaid : Prop := fnExactRemoveFromIndexRow.holds Try.pinned (OpenSpec.ofChange fnExactRemoveFromIndexSpec)

/-- ITS FALSE NEIGHBOUR: 'it returns false'. Refute it at one input. -/
def fnExactRemoveFromIndexWrong : ChangeSpec := { name := "fnExactRemoveFromIndex", fn := fun _ => fun
  | [d1, d2] => { results := [.lit (.bool false)], args := [d1, d2] }
  | _ => none }
def FnExactRemoveFromIndexWrongFalsely : Prop := fnExactRemoveFromIndexRow.holds Try.pinned (OpenSpec.ofChange fnExactRemoveFromIndexWrong)

/-- 'laws.FnExactVisibleStore': WHATEVER THE INPUT: true; the input reads as it did. -/
def fnExactVisibleStoreSpec : ChangeSpec := { name := "fnExactVisibleStore", fn := fun _ => fun
  | [d1, d2] => { results := [.lit (.bool true)], args := [d1, d2] }
  | _ => none }
def fnExactVisibleStoreRow : OpenClaim := { program := "ytlhdkklpanpikaa", sum := "5fddd72f07eb2f1c5f101368f805b613a777d6862974e00c868d69fa948262ac", func := "loop.example/g00976/laws.FnExactVisibleStore", spec := "fnExactVisibleStore", unfollowed := true, recurses := true, apart := false }
def FnExactVisibleStoreSaid : Prop := fnExactVisibleStoreRow.holds Try.pinned (OpenSpec.ofChange fnExactVisibleStoreSpec)

/-- ITS FALSE NEIGHBOUR: 'it returns false'. Refute it at one input. -/
def fnExactVisibleStoreWrong : ChangeSpec := { name := "fnExactVisibleStore", fn := fun _ => fun
  | [d1, d2] => { results := [.lit (.bool false)], args := [d1, d2] }
  | _ => none }
def FnExactVisibleStoreWrongFalsely : Prop := fnExactVisibleStoreRow.holds Try.pinned (OpenSpec.ofChange fnExactVisibleStoreWrong)

/-- 'laws.FnAttrSet': WHATEVER THE INPUT: true; the input reads as it did. -/
def fnAttrSetSpec : ChangeSpec := { name := "fnAttrSet", fn := fun _ => fun
  | [d] => { results := [.lit (.bool true)], args := [d] }
  | _ => none }
def fnAttrSetRow : OpenClaim := { program := "ytlhdkklpanpikaa", sum := "5fddd72f07eb2f1c5f101368f805b613a777d6862974e00c868d69fa948262ac", func := "loop.example/g00976/laws.FnAttrSet", spec := "fnAttrSet", inPlace := ["slices.overlaps[loop.example/g00976/impl.Attr]"], unfollowed := true, recurses := true, apart := false }
def FnAttrSetSaid : Prop := fnAttrSetRow.holds Try.pinned (OpenSpec.ofChange fnAttrSetSpec)

/-- ITS FALSE NEIGHBOUR: 'it returns false'. Refute it at one input. -/
def fnAttrSetWrong : ChangeSpec := { name := "fnAttrSet", fn := fun _ => fun
  | [d] => { results := [.lit (.bool false)], args := [d] }
  | _ => none }
def FnAttrSetWrongFalsely : Prop := fnAttrSetRow.holds Try.pinned (OpenSpec.ofChange fnAttrSetWrong)

/- THE SECOND FORM. 'bulk': how many values and letters a reading holds, each counted each time it is reached (what is shared counts as often as it is met; a slice's spare places count too). A statement '..UptoSaid' is the law's where the arguments, and the package variables that the reading takes, are together of bulk at most 1048576: NARROWER than '..Said'. Prove '..Said' where nothing that the law and all that it calls make is longer than what came in: it says more and counts as full. Else prove '..UptoSaid'. A law counts once. -/
mutual
def uptoBulk {H : Type} : DataW H → Nat
  | .lit (.string bytes) => bytes.length + 1
  | .lit _ => 1
  | .nil => 1
  | .ptr d => uptoBulk d + 1
  | .slice elems spare => uptoBulkAll elems + uptoBulkAll spare + 1
  | .agg parts => uptoBulkAll parts + 1
  | .iface _ d => uptoBulk d + 1
  | .map entries => uptoBulkEntries entries + 1
  | .held _ => 1
def uptoBulkAll {H : Type} : List (DataW H) → Nat
  | [] => 0
  | d :: r => uptoBulk d + uptoBulkAll r
def uptoBulkEntries {H : Type} : List (Lit × DataW H) → Nat
  | [] => 0
  | x :: r => uptoBulkEntry x + uptoBulkEntries r
def uptoBulkEntry {H : Type} : Lit × DataW H → Nat
  | (.string bytes, d) => bytes.length + uptoBulk d + 1
  | (_, d) => uptoBulk d + 1
 end
def uptoSmall : (H : Type) → List (DataW H) → Bool := fun _ ds => decide (uptoBulkAll ds ≤ 1048576)
def OpenSpec.upto (s : _root_.Go.ChangeSpec) : _root_.Go.OpenSpec := { _root_.Go.OpenSpec.ofChange s with cond := some uptoSmall }

/-- 'laws.FnExactEqualStores', WHERE WHAT IT READS IS OF BULK AT MOST 1048576: true; the input reads as it did. -/
def fnExactEqualStoresUptoRow : OpenClaim := { program := "ytlhdkklpanpikaa", sum := "5fddd72f07eb2f1c5f101368f805b613a777d6862974e00c868d69fa948262ac", func := "loop.example/g00976/laws.FnExactEqualStores", spec := "fnExactEqualStores", unfollowed := true, recurses := true, apart := false, narrowed := true }
def FnExactEqualStoresUptoSaid : Prop := fnExactEqualStoresUptoRow.holds Try.pinned (OpenSpec.upto fnExactEqualStoresSpec)

/-- 'laws.FnExactFileIDs', WHERE WHAT IT READS IS OF BULK AT MOST 1048576: true; the input reads as it did. -/
def fnExactFileIDsUptoRow : OpenClaim := { program := "ytlhdkklpanpikaa", sum := "5fddd72f07eb2f1c5f101368f805b613a777d6862974e00c868d69fa948262ac", func := "loop.example/g00976/laws.FnExactFileIDs", spec := "fnExactFileIDs", apart := false, narrowed := true }
def FnExactFileIDsUptoSaid : Prop := fnExactFileIDsUptoRow.holds Try.pinned (OpenSpec.upto fnExactFileIDsSpec)

/-- 'laws.FnExactFilesOwnedBy', WHERE WHAT IT READS IS OF BULK AT MOST 1048576: true; the input reads as it did. -/
def fnExactFilesOwnedByUptoRow : OpenClaim := { program := "ytlhdkklpanpikaa", sum := "5fddd72f07eb2f1c5f101368f805b613a777d6862974e00c868d69fa948262ac", func := "loop.example/g00976/laws.FnExactFilesOwnedBy", spec := "fnExactFilesOwnedBy", apart := false, narrowed := true }
def FnExactFilesOwnedByUptoSaid : Prop := fnExactFilesOwnedByUptoRow.holds Try.pinned (OpenSpec.upto fnExactFilesOwnedBySpec)

/-- 'laws.FnExactSetAttr', WHERE WHAT IT READS IS OF BULK AT MOST 1048576: true; the input reads as it did. -/
def fnExactSetAttrUptoRow : OpenClaim := { program := "ytlhdkklpanpikaa", sum := "5fddd72f07eb2f1c5f101368f805b613a777d6862974e00c868d69fa948262ac", func := "loop.example/g00976/laws.FnExactSetAttr", spec := "fnExactSetAttr", inPlace := ["slices.overlaps[loop.example/g00976/impl.Attr]"], unfollowed := true, recurses := true, apart := false, narrowed := true }
def FnExactSetAttrUptoSaid : Prop := fnExactSetAttrUptoRow.holds Try.pinned (OpenSpec.upto fnExactSetAttrSpec)

/-- 'laws.FnExactIsValidStore', WHERE WHAT IT READS IS OF BULK AT MOST 1048576: true; the input reads as it did. -/
def fnExactIsValidStoreUptoRow : OpenClaim := { program := "ytlhdkklpanpikaa", sum := "5fddd72f07eb2f1c5f101368f805b613a777d6862974e00c868d69fa948262ac", func := "loop.example/g00976/laws.FnExactIsValidStore", spec := "fnExactIsValidStore", apart := false, narrowed := true }
def FnExactIsValidStoreUptoSaid : Prop := fnExactIsValidStoreUptoRow.holds Try.pinned (OpenSpec.upto fnExactIsValidStoreSpec)

/-- 'laws.FnExactFindFile', WHERE WHAT IT READS IS OF BULK AT MOST 1048576: true; the input reads as it did. -/
def fnExactFindFileUptoRow : OpenClaim := { program := "ytlhdkklpanpikaa", sum := "5fddd72f07eb2f1c5f101368f805b613a777d6862974e00c868d69fa948262ac", func := "loop.example/g00976/laws.FnExactFindFile", spec := "fnExactFindFile", unfollowed := true, recurses := true, apart := false, narrowed := true }
def FnExactFindFileUptoSaid : Prop := fnExactFindFileUptoRow.holds Try.pinned (OpenSpec.upto fnExactFindFileSpec)

/-- 'laws.FnExactEqualForUser', WHERE WHAT IT READS IS OF BULK AT MOST 1048576: true; the input reads as it did. -/
def fnExactEqualForUserUptoRow : OpenClaim := { program := "ytlhdkklpanpikaa", sum := "5fddd72f07eb2f1c5f101368f805b613a777d6862974e00c868d69fa948262ac", func := "loop.example/g00976/laws.FnExactEqualForUser", spec := "fnExactEqualForUser", unfollowed := true, recurses := true, apart := false, narrowed := true }
def FnExactEqualForUserUptoSaid : Prop := fnExactEqualForUserUptoRow.holds Try.pinned (OpenSpec.upto fnExactEqualForUserSpec)

/-- 'laws.FnExactRemoveFromIndex', WHERE WHAT IT READS IS OF BULK AT MOST 1048576: true; the input reads as it did. -/
def fnExactRemoveFromIndexUptoRow : OpenClaim := { program := "ytlhdkklpanpikaa", sum := "5fddd72f07eb2f1c5f101368f805b613a777d6862974e00c868d69fa948262ac", func := "loop.example/g00976/laws.FnExactRemoveFromIndex", spec := "fnExactRemoveFromIndex", unfollowed := true, recurses := true, apart := false, narrowed := true }
def FnExactRemoveFromIndexUptoSaid : Prop := fnExactRemoveFromIndexUptoRow.holds Try.pinned (OpenSpec.upto fnExactRemoveFromIndexSpec)

/-- 'laws.FnExactVisibleStore', WHERE WHAT IT READS IS OF BULK AT MOST 1048576: true; the input reads as it did. -/
def fnExactVisibleStoreUptoRow : OpenClaim := { program := "ytlhdkklpanpikaa", sum := "5fddd72f07eb2f1c5f101368f805b613a777d6862974e00c868d69fa948262ac", func := "loop.example/g00976/laws.FnExactVisibleStore", spec := "fnExactVisibleStore", unfollowed := true, recurses := true, apart := false, narrowed := true }
def FnExactVisibleStoreUptoSaid : Prop := fnExactVisibleStoreUptoRow.holds Try.pinned (OpenSpec.upto fnExactVisibleStoreSpec)

/-- 'laws.FnAttrSet', WHERE WHAT IT READS IS OF BULK AT MOST 1048576: true; the input reads as it did. -/
def fnAttrSetUptoRow : OpenClaim := { program := "ytlhdkklpanpikaa", sum := "5fddd72f07eb2f1c5f101368f805b613a777d6862974e00c868d69fa948262ac", func := "loop.example/g00976/laws.FnAttrSet", spec := "fnAttrSet", inPlace := ["slices.overlaps[loop.example/g00976/impl.Attr]"], unfollowed := true, recurses := true, apart := false, narrowed := true }
def FnAttrSetUptoSaid : Prop := fnAttrSetUptoRow.holds Try.pinned (OpenSpec.upto fnAttrSetSpec)

end Rows
end Go.Proofs.Ytlhdkklpanpikaa
