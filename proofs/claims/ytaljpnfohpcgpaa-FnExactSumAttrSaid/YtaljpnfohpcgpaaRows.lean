/-
  No cell of these rows narrows 'for every input' (looked for: loops, veiled, ifaces, maps, wideKeys, modest, calm, conditions, laid).
  DERIVED. THE GIVEN ROWS OF THIS SEAT. 10 by the template 'for every input the law returns true; each argument reads behind the call as it read before'; 0 by the template 'total and deterministic' (their statements: YtaljpnfohpcgpaaTotals.lean).
  GIVEN WITH THE SEED: the statements are not yours to turn. If you find one false, say at which input.
  Laid BY PROGRAM, IN A SANDBOX (cutbox-rows.mjs): the forced cells as the released guide's own fill.sh prints them over the translation a2b9236bbd69edfb… (all of the seat's roots in one cut). By AI agents, Wed Nov 11 2026. No macro, syntax, notation, axiom, sorry.
-/
import Derived.Test.YtaljpnfohpcgpaaChecked
import GoSem.Claim
import GoSem.ClaimJoined
import GoSem.ClaimMapViews
import Derived.JoinedTies
import Derived.KernelRfl
namespace Go.Proofs.Ytaljpnfohpcgpaa
/- THE CELL 'sum', in the pinned program and in every row, IS THE sha256 OF THE DUMP (.gsa) THAT YtaljpnfohpcgpaaProg.lean LOADS. Nothing in Lean hashes anything: it is a label: what it is worth is what the hold of that sum in a sandbox is worth. -/
noncomputable def Try.pinned : Pinned := { name := "ytaljpnfohpcgpaa", sum := "a2b9236bbd69edfb801c674f783bb354a9cc8938ceeb7a6535a19c245aab3186", checked := Try.checked }
namespace Rows
def none {H : Type} : Left H := { results := [], args := [] }

/-- 'laws.FnSchemaChecks': WHATEVER THE INPUT: true; the input reads as it did. -/
def fnSchemaChecksSpec : ChangeSpec := { name := "fnSchemaChecks", fn := fun _ => fun
  | [d] => { results := [.lit (.bool true)], args := [d] }
  | _ => none }
def fnSchemaChecksRow : OpenClaim := { program := "ytaljpnfohpcgpaa", sum := "a2b9236bbd69edfb801c674f783bb354a9cc8938ceeb7a6535a19c245aab3186", func := "loop.example/g00976/laws.FnSchemaChecks", spec := "fnSchemaChecks", apart := false }
def FnSchemaChecksSaid : Prop := fnSchemaChecksRow.holds Try.pinned (OpenSpec.ofChange fnSchemaChecksSpec)

/-- ITS FALSE NEIGHBOUR: 'it returns false'. Refute it at one input. -/
def fnSchemaChecksWrong : ChangeSpec := { name := "fnSchemaChecks", fn := fun _ => fun
  | [d] => { results := [.lit (.bool false)], args := [d] }
  | _ => none }
def FnSchemaChecksWrongFalsely : Prop := fnSchemaChecksRow.holds Try.pinned (OpenSpec.ofChange fnSchemaChecksWrong)

/-- 'laws.FnExactRemoveField': WHATEVER THE INPUT: true; the input reads as it did. -/
def fnExactRemoveFieldSpec : ChangeSpec := { name := "fnExactRemoveField", fn := fun _ => fun
  | [d1, d2] => { results := [.lit (.bool true)], args := [d1, d2] }
  | _ => none }
def fnExactRemoveFieldRow : OpenClaim := { program := "ytaljpnfohpcgpaa", sum := "a2b9236bbd69edfb801c674f783bb354a9cc8938ceeb7a6535a19c245aab3186", func := "loop.example/g00976/laws.FnExactRemoveField", spec := "fnExactRemoveField", unfollowed := true, recurses := true, apart := false }
def FnExactRemoveFieldSaid : Prop := fnExactRemoveFieldRow.holds Try.pinned (OpenSpec.ofChange fnExactRemoveFieldSpec)

/-- ITS FALSE NEIGHBOUR: 'it returns false'. Refute it at one input. -/
def fnExactRemoveFieldWrong : ChangeSpec := { name := "fnExactRemoveField", fn := fun _ => fun
  | [d1, d2] => { results := [.lit (.bool false)], args := [d1, d2] }
  | _ => none }
def FnExactRemoveFieldWrongFalsely : Prop := fnExactRemoveFieldRow.holds Try.pinned (OpenSpec.ofChange fnExactRemoveFieldWrong)

/-- 'laws.FnExactAttrNames': WHATEVER THE INPUT: true; the input reads as it did. -/
def fnExactAttrNamesSpec : ChangeSpec := { name := "fnExactAttrNames", fn := fun _ => fun
  | [d] => { results := [.lit (.bool true)], args := [d] }
  | _ => none }
def fnExactAttrNamesRow : OpenClaim := { program := "ytaljpnfohpcgpaa", sum := "a2b9236bbd69edfb801c674f783bb354a9cc8938ceeb7a6535a19c245aab3186", func := "loop.example/g00976/laws.FnExactAttrNames", spec := "fnExactAttrNames", apart := false }
def FnExactAttrNamesSaid : Prop := fnExactAttrNamesRow.holds Try.pinned (OpenSpec.ofChange fnExactAttrNamesSpec)

/-- ITS FALSE NEIGHBOUR: 'it returns false'. Refute it at one input. -/
def fnExactAttrNamesWrong : ChangeSpec := { name := "fnExactAttrNames", fn := fun _ => fun
  | [d] => { results := [.lit (.bool false)], args := [d] }
  | _ => none }
def FnExactAttrNamesWrongFalsely : Prop := fnExactAttrNamesRow.holds Try.pinned (OpenSpec.ofChange fnExactAttrNamesWrong)

/-- 'laws.FnExactLookupIndex': WHATEVER THE INPUT: true; the input reads as it did. -/
def fnExactLookupIndexSpec : ChangeSpec := { name := "fnExactLookupIndex", fn := fun _ => fun
  | [d1, d2, d3] => { results := [.lit (.bool true)], args := [d1, d2, d3] }
  | _ => none }
def fnExactLookupIndexRow : OpenClaim := { program := "ytaljpnfohpcgpaa", sum := "a2b9236bbd69edfb801c674f783bb354a9cc8938ceeb7a6535a19c245aab3186", func := "loop.example/g00976/laws.FnExactLookupIndex", spec := "fnExactLookupIndex", unfollowed := true, recurses := true, apart := false }
def FnExactLookupIndexSaid : Prop := fnExactLookupIndexRow.holds Try.pinned (OpenSpec.ofChange fnExactLookupIndexSpec)

/-- ITS FALSE NEIGHBOUR: 'it returns false'. Refute it at one input. -/
def fnExactLookupIndexWrong : ChangeSpec := { name := "fnExactLookupIndex", fn := fun _ => fun
  | [d1, d2, d3] => { results := [.lit (.bool false)], args := [d1, d2, d3] }
  | _ => none }
def FnExactLookupIndexWrongFalsely : Prop := fnExactLookupIndexRow.holds Try.pinned (OpenSpec.ofChange fnExactLookupIndexWrong)

/-- 'laws.FnSetAttrTwice': WHATEVER THE INPUT: true; the input reads as it did. -/
def fnSetAttrTwiceSpec : ChangeSpec := { name := "fnSetAttrTwice", fn := fun _ => fun
  | [d] => { results := [.lit (.bool true)], args := [d] }
  | _ => none }
def fnSetAttrTwiceRow : OpenClaim := { program := "ytaljpnfohpcgpaa", sum := "a2b9236bbd69edfb801c674f783bb354a9cc8938ceeb7a6535a19c245aab3186", func := "loop.example/g00976/laws.FnSetAttrTwice", spec := "fnSetAttrTwice", inPlace := ["slices.overlaps[loop.example/g00976/impl.Attr]"], unfollowed := true, recurses := true, apart := false }
def FnSetAttrTwiceSaid : Prop := fnSetAttrTwiceRow.holds Try.pinned (OpenSpec.ofChange fnSetAttrTwiceSpec)

/-- ITS FALSE NEIGHBOUR: 'it returns false'. Refute it at one input. -/
def fnSetAttrTwiceWrong : ChangeSpec := { name := "fnSetAttrTwice", fn := fun _ => fun
  | [d] => { results := [.lit (.bool false)], args := [d] }
  | _ => none }
def FnSetAttrTwiceWrongFalsely : Prop := fnSetAttrTwiceRow.holds Try.pinned (OpenSpec.ofChange fnSetAttrTwiceWrong)

/-- 'laws.FnExactNewStore': WHATEVER THE INPUT: true; the input reads as it did. -/
def fnExactNewStoreSpec : ChangeSpec := { name := "fnExactNewStore", fn := fun _ => fun
  | [d] => { results := [.lit (.bool true)], args := [d] }
  | _ => none }
def fnExactNewStoreRow : OpenClaim := { program := "ytaljpnfohpcgpaa", sum := "a2b9236bbd69edfb801c674f783bb354a9cc8938ceeb7a6535a19c245aab3186", func := "loop.example/g00976/laws.FnExactNewStore", spec := "fnExactNewStore", apart := false }
def FnExactNewStoreSaid : Prop := fnExactNewStoreRow.holds Try.pinned (OpenSpec.ofChange fnExactNewStoreSpec)

/-- ITS FALSE NEIGHBOUR: 'it returns false'. Refute it at one input. -/
def fnExactNewStoreWrong : ChangeSpec := { name := "fnExactNewStore", fn := fun _ => fun
  | [d] => { results := [.lit (.bool false)], args := [d] }
  | _ => none }
def FnExactNewStoreWrongFalsely : Prop := fnExactNewStoreRow.holds Try.pinned (OpenSpec.ofChange fnExactNewStoreWrong)

/-- 'laws.FnExactIsValidFile': WHATEVER THE INPUT: true; the input reads as it did. -/
def fnExactIsValidFileSpec : ChangeSpec := { name := "fnExactIsValidFile", fn := fun _ => fun
  | [d1, d2] => { results := [.lit (.bool true)], args := [d1, d2] }
  | _ => none }
def fnExactIsValidFileRow : OpenClaim := { program := "ytaljpnfohpcgpaa", sum := "a2b9236bbd69edfb801c674f783bb354a9cc8938ceeb7a6535a19c245aab3186", func := "loop.example/g00976/laws.FnExactIsValidFile", spec := "fnExactIsValidFile", apart := false }
def FnExactIsValidFileSaid : Prop := fnExactIsValidFileRow.holds Try.pinned (OpenSpec.ofChange fnExactIsValidFileSpec)

/-- ITS FALSE NEIGHBOUR: 'it returns false'. Refute it at one input. -/
def fnExactIsValidFileWrong : ChangeSpec := { name := "fnExactIsValidFile", fn := fun _ => fun
  | [d1, d2] => { results := [.lit (.bool false)], args := [d1, d2] }
  | _ => none }
def FnExactIsValidFileWrongFalsely : Prop := fnExactIsValidFileRow.holds Try.pinned (OpenSpec.ofChange fnExactIsValidFileWrong)

/-- 'laws.FnExactAddField': WHATEVER THE INPUT: true; the input reads as it did. -/
def fnExactAddFieldSpec : ChangeSpec := { name := "fnExactAddField", fn := fun _ => fun
  | [d1, d2] => { results := [.lit (.bool true)], args := [d1, d2] }
  | _ => none }
def fnExactAddFieldRow : OpenClaim := { program := "ytaljpnfohpcgpaa", sum := "a2b9236bbd69edfb801c674f783bb354a9cc8938ceeb7a6535a19c245aab3186", func := "loop.example/g00976/laws.FnExactAddField", spec := "fnExactAddField", inPlace := ["slices.overlaps[loop.example/g00976/impl.Field]"], unfollowed := true, recurses := true, apart := false }
def FnExactAddFieldSaid : Prop := fnExactAddFieldRow.holds Try.pinned (OpenSpec.ofChange fnExactAddFieldSpec)

/-- ITS FALSE NEIGHBOUR: 'it returns false'. Refute it at one input. -/
def fnExactAddFieldWrong : ChangeSpec := { name := "fnExactAddField", fn := fun _ => fun
  | [d1, d2] => { results := [.lit (.bool false)], args := [d1, d2] }
  | _ => none }
def FnExactAddFieldWrongFalsely : Prop := fnExactAddFieldRow.holds Try.pinned (OpenSpec.ofChange fnExactAddFieldWrong)

/-- 'laws.FnExactSumAttr': WHATEVER THE INPUT: true; the input reads as it did. -/
def fnExactSumAttrSpec : ChangeSpec := { name := "fnExactSumAttr", fn := fun _ => fun
  | [d1, d2] => { results := [.lit (.bool true)], args := [d1, d2] }
  | _ => none }
def fnExactSumAttrRow : OpenClaim := { program := "ytaljpnfohpcgpaa", sum := "a2b9236bbd69edfb801c674f783bb354a9cc8938ceeb7a6535a19c245aab3186", func := "loop.example/g00976/laws.FnExactSumAttr", spec := "fnExactSumAttr", apart := false }
def FnExactSumAttrSaid : Prop := fnExactSumAttrRow.holds Try.pinned (OpenSpec.ofChange fnExactSumAttrSpec)

/-- ITS FALSE NEIGHBOUR: 'it returns false'. Refute it at one input. -/
def fnExactSumAttrWrong : ChangeSpec := { name := "fnExactSumAttr", fn := fun _ => fun
  | [d1, d2] => { results := [.lit (.bool false)], args := [d1, d2] }
  | _ => none }
def FnExactSumAttrWrongFalsely : Prop := fnExactSumAttrRow.holds Try.pinned (OpenSpec.ofChange fnExactSumAttrWrong)

/-- 'laws.FnOwners': WHATEVER THE INPUT: true; the input reads as it did. -/
def fnOwnersSpec : ChangeSpec := { name := "fnOwners", fn := fun _ => fun
  | [d] => { results := [.lit (.bool true)], args := [d] }
  | _ => none }
def fnOwnersRow : OpenClaim := { program := "ytaljpnfohpcgpaa", sum := "a2b9236bbd69edfb801c674f783bb354a9cc8938ceeb7a6535a19c245aab3186", func := "loop.example/g00976/laws.FnOwners", spec := "fnOwners", apart := false }
def FnOwnersSaid : Prop := fnOwnersRow.holds Try.pinned (OpenSpec.ofChange fnOwnersSpec)

/-- ITS FALSE NEIGHBOUR: 'it returns false'. Refute it at one input. -/
def fnOwnersWrong : ChangeSpec := { name := "fnOwners", fn := fun _ => fun
  | [d] => { results := [.lit (.bool false)], args := [d] }
  | _ => none }
def FnOwnersWrongFalsely : Prop := fnOwnersRow.holds Try.pinned (OpenSpec.ofChange fnOwnersWrong)

/- THE SECOND FORM. 'bulk': how many values and letters a reading holds, each counted each time it is reached (what is shared counts as often as it is met; a slice's spare places count too). A statement '..UptoSaid' is the law's where the arguments, and the package variables that the reading takes, are together of bulk at most 1048576: NARROWER than '..Said'. Prove '..Said' where nothing that the law and all that it calls make is longer than what came in: it says more and counts as full. Else prove '..UptoSaid'. A law counts once. -/
mutual
def uptoBulk {H : Type} : DataW H → Nat
  | .lit (.string bytes) => bytes.length + 1
  | .lit _ => 1
  | .nil => 1
  | .ptr d => uptoBulk d + 1
  | .slice elems spare => uptoBulkAll elems + uptoBulkAll spare + 1
  | .agg parts => uptoBulkAll parts + 1
  | .iface _ d => uptoBulk d + 1
  | .map entries => uptoBulkEntries entries + 1
  | .held _ => 1
def uptoBulkAll {H : Type} : List (DataW H) → Nat
  | [] => 0
  | d :: r => uptoBulk d + uptoBulkAll r
def uptoBulkEntries {H : Type} : List (Lit × DataW H) → Nat
  | [] => 0
  | x :: r => uptoBulkEntry x + uptoBulkEntries r
def uptoBulkEntry {H : Type} : Lit × DataW H → Nat
  | (.string bytes, d) => bytes.length + uptoBulk d + 1
  | (_, d) => uptoBulk d + 1
 end
def uptoSmall : (H : Type) → List (DataW H) → Bool := fun _ ds => decide (uptoBulkAll ds ≤ 1048576)
def OpenSpec.upto (s : _root_.Go.ChangeSpec) : _root_.Go.OpenSpec := { _root_.Go.OpenSpec.ofChange s with cond := some uptoSmall }

/-- 'laws.FnSchemaChecks', WHERE WHAT IT READS IS OF BULK AT MOST 1048576: true; the input reads as it did. -/
def fnSchemaChecksUptoRow : OpenClaim := { program := "ytaljpnfohpcgpaa", sum := "a2b9236bbd69edfb801c674f783bb354a9cc8938ceeb7a6535a19c245aab3186", func := "loop.example/g00976/laws.FnSchemaChecks", spec := "fnSchemaChecks", apart := false, narrowed := true }
def FnSchemaChecksUptoSaid : Prop := fnSchemaChecksUptoRow.holds Try.pinned (OpenSpec.upto fnSchemaChecksSpec)

/-- 'laws.FnExactRemoveField', WHERE WHAT IT READS IS OF BULK AT MOST 1048576: true; the input reads as it did. -/
def fnExactRemoveFieldUptoRow : OpenClaim := { program := "ytaljpnfohpcgpaa", sum := "a2b9236bbd69edfb801c674f783bb354a9cc8938ceeb7a6535a19c245aab3186", func := "loop.example/g00976/laws.FnExactRemoveField", spec := "fnExactRemoveField", unfollowed := true, recurses := true, apart := false, narrowed := true }
def FnExactRemoveFieldUptoSaid : Prop := fnExactRemoveFieldUptoRow.holds Try.pinned (OpenSpec.upto fnExactRemoveFieldSpec)

/-- 'laws.FnExactAttrNames', WHERE WHAT IT READS IS OF BULK AT MOST 1048576: true; the input reads as it did. -/
def fnExactAttrNamesUptoRow : OpenClaim := { program := "ytaljpnfohpcgpaa", sum := "a2b9236bbd69edfb801c674f783bb354a9cc8938ceeb7a6535a19c245aab3186", func := "loop.example/g00976/laws.FnExactAttrNames", spec := "fnExactAttrNames", apart := false, narrowed := true }
def FnExactAttrNamesUptoSaid : Prop := fnExactAttrNamesUptoRow.holds Try.pinned (OpenSpec.upto fnExactAttrNamesSpec)

/-- 'laws.FnExactLookupIndex', WHERE WHAT IT READS IS OF BULK AT MOST 1048576: true; the input reads as it did. -/
def fnExactLookupIndexUptoRow : OpenClaim := { program := "ytaljpnfohpcgpaa", sum := "a2b9236bbd69edfb801c674f783bb354a9cc8938ceeb7a6535a19c245aab3186", func := "loop.example/g00976/laws.FnExactLookupIndex", spec := "fnExactLookupIndex", unfollowed := true, recurses := true, apart := false, narrowed := true }
def FnExactLookupIndexUptoSaid : Prop := fnExactLookupIndexUptoRow.holds Try.pinned (OpenSpec.upto fnExactLookupIndexSpec)

/-- 'laws.FnSetAttrTwice', WHERE WHAT IT READS IS OF BULK AT MOST 1048576: true; the input reads as it did. -/
def fnSetAttrTwiceUptoRow : OpenClaim := { program := "ytaljpnfohpcgpaa", sum := "a2b9236bbd69edfb801c674f783bb354a9cc8938ceeb7a6535a19c245aab3186", func := "loop.example/g00976/laws.FnSetAttrTwice", spec := "fnSetAttrTwice", inPlace := ["slices.overlaps[loop.example/g00976/impl.Attr]"], unfollowed := true, recurses := true, apart := false, narrowed := true }
def FnSetAttrTwiceUptoSaid : Prop := fnSetAttrTwiceUptoRow.holds Try.pinned (OpenSpec.upto fnSetAttrTwiceSpec)

/-- 'laws.FnExactNewStore', WHERE WHAT IT READS IS OF BULK AT MOST 1048576: true; the input reads as it did. -/
def fnExactNewStoreUptoRow : OpenClaim := { program := "ytaljpnfohpcgpaa", sum := "a2b9236bbd69edfb801c674f783bb354a9cc8938ceeb7a6535a19c245aab3186", func := "loop.example/g00976/laws.FnExactNewStore", spec := "fnExactNewStore", apart := false, narrowed := true }
def FnExactNewStoreUptoSaid : Prop := fnExactNewStoreUptoRow.holds Try.pinned (OpenSpec.upto fnExactNewStoreSpec)

/-- 'laws.FnExactIsValidFile', WHERE WHAT IT READS IS OF BULK AT MOST 1048576: true; the input reads as it did. -/
def fnExactIsValidFileUptoRow : OpenClaim := { program := "ytaljpnfohpcgpaa", sum := "a2b9236bbd69edfb801c674f783bb354a9cc8938ceeb7a6535a19c245aab3186", func := "loop.example/g00976/laws.FnExactIsValidFile", spec := "fnExactIsValidFile", apart := false, narrowed := true }
def FnExactIsValidFileUptoSaid : Prop := fnExactIsValidFileUptoRow.holds Try.pinned (OpenSpec.upto fnExactIsValidFileSpec)

/-- 'laws.FnExactAddField', WHERE WHAT IT READS IS OF BULK AT MOST 1048576: true; the input reads as it did. -/
def fnExactAddFieldUptoRow : OpenClaim := { program := "ytaljpnfohpcgpaa", sum := "a2b9236bbd69edfb801c674f783bb354a9cc8938ceeb7a6535a19c245aab3186", func := "loop.example/g00976/laws.FnExactAddField", spec := "fnExactAddField", inPlace := ["slices.overlaps[loop.example/g00976/impl.Field]"], unfollowed := true, recurses := true, apart := false, narrowed := true }
def FnExactAddFieldUptoSaid : Prop := fnExactAddFieldUptoRow.holds Try.pinned (OpenSpec.upto fnExactAddFieldSpec)

/-- 'laws.FnExactSumAttr', WHERE WHAT IT READS IS OF BULK AT MOST 1048576: true; the input reads as it did. -/
def fnExactSumAttrUptoRow : OpenClaim := { program := "ytaljpnfohpcgpaa", sum := "a2b9236bbd69edfb801c674f783bb354a9cc8938ceeb7a6535a19c245aab3186", func := "loop.example/g00976/laws.FnExactSumAttr", spec := "fnExactSumAttr", apart := false, narrowed := true }
def FnExactSumAttrUptoSaid : Prop := fnExactSumAttrUptoRow.holds Try.pinned (OpenSpec.upto fnExactSumAttrSpec)

/-- 'laws.FnOwners', WHERE WHAT IT READS IS OF BULK AT MOST 1048576: true; the input reads as it did. -/
def fnOwnersUptoRow : OpenClaim := { program := "ytaljpnfohpcgpaa", sum := "a2b9236bbd69edfb801c674f783bb354a9cc8938ceeb7a6535a19c245aab3186", func := "loop.example/g00976/laws.FnOwners", spec := "fnOwners", apart := false, narrowed := true }
def FnOwnersUptoSaid : Prop := fnOwnersUptoRow.holds Try.pinned (OpenSpec.upto fnOwnersSpec)

end Rows
end Go.Proofs.Ytaljpnfohpcgpaa
