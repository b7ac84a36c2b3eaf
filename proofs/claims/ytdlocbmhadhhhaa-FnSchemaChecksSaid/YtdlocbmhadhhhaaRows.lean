/-
  No cell of these rows narrows 'for every input' (looked for: loops, veiled, ifaces, maps, wideKeys, modest, calm, conditions, laid).
  DERIVED. THE GIVEN ROWS OF THIS SEAT. 12 by the template 'for every input the law returns true; each argument reads behind the call as it read before'; 0 by the template 'total and deterministic' (their statements: YtdlocbmhadhhhaaTotals.lean).
  GIVEN WITH THE SEED: the statements are not yours to turn. If you find one false, say at which input.
  Laid BY PROGRAM, IN A SANDBOX (cutbox-rows.mjs): the forced cells as the released guide's own fill.sh prints them over the translation 0352ef8725267cc5… (all of the seat's roots in one cut). By AI agents, Wed Nov 11 2026. No macro, syntax, notation, axiom, sorry.
-/
import Derived.Test.YtdlocbmhadhhhaaChecked
import GoSem.Claim
import GoSem.ClaimJoined
import GoSem.ClaimMapViews
import Derived.JoinedTies
import Derived.KernelRfl
namespace Go.Proofs.Ytdlocbmhadhhhaa
/- THE CELL 'sum', in the pinned program and in every row, IS THE sha256 OF THE DUMP (.gsa) THAT YtdlocbmhadhhhaaProg.lean LOADS. Nothing in Lean hashes anything: it is a label: what it is worth is what the hold of that sum in a sandbox is worth. -/
noncomputable def Try.pinned : Pinned := { name := "ytdlocbmhadhhhaa", sum := "0352ef8725267cc52e599f4ef2e264e1b369642f91d9b12cdf652ecb0977ff06", checked := Try.checked }
namespace Rows
def none {H : Type} : Left H := { results := [], args := [] }

/-- 'laws.FnValueOrder': WHATEVER THE INPUT: true; the input reads as it did. -/
def fnValueOrderSpec : ChangeSpec := { name := "fnValueOrder", fn := fun _ => fun
  | [d] => { results := [.lit (.bool true)], args := [d] }
  | _ => none }
def fnValueOrderRow : OpenClaim := { program := "ytdlocbmhadhhhaa", sum := "0352ef8725267cc52e599f4ef2e264e1b369642f91d9b12cdf652ecb0977ff06", func := "loop.example/g00976/laws.FnValueOrder", spec := "fnValueOrder", apart := false }
def FnValueOrderSaid : Prop := fnValueOrderRow.holds Try.pinned (OpenSpec.ofChange fnValueOrderSpec)

/-- ITS FALSE NEIGHBOUR: 'it returns false'. Refute it at one input. -/
def fnValueOrderWrong : ChangeSpec := { name := "fnValueOrder", fn := fun _ => fun
  | [d] => { results := [.lit (.bool false)], args := [d] }
  | _ => none }
def FnValueOrderWrongFalsely : Prop := fnValueOrderRow.holds Try.pinned (OpenSpec.ofChange fnValueOrderWrong)

/-- 'laws.FnSchemaChecks': WHATEVER THE INPUT: true; the input reads as it did. -/
def fnSchemaChecksSpec : ChangeSpec := { name := "fnSchemaChecks", fn := fun _ => fun
  | [d] => { results := [.lit (.bool true)], args := [d] }
  | _ => none }
def fnSchemaChecksRow : OpenClaim := { program := "ytdlocbmhadhhhaa", sum := "0352ef8725267cc52e599f4ef2e264e1b369642f91d9b12cdf652ecb0977ff06", func := "loop.example/g00976/laws.FnSchemaChecks", spec := "fnSchemaChecks", apart := false }
def FnSchemaChecksSaid : Prop := fnSchemaChecksRow.holds Try.pinned (OpenSpec.ofChange fnSchemaChecksSpec)

/-- ITS FALSE NEIGHBOUR: 'it returns false'. Refute it at one input. -/
def fnSchemaChecksWrong : ChangeSpec := { name := "fnSchemaChecks", fn := fun _ => fun
  | [d] => { results := [.lit (.bool false)], args := [d] }
  | _ => none }
def FnSchemaChecksWrongFalsely : Prop := fnSchemaChecksRow.holds Try.pinned (OpenSpec.ofChange fnSchemaChecksWrong)

/-- 'laws.FnSetAttrTwice': WHATEVER THE INPUT: true; the input reads as it did. -/
def fnSetAttrTwiceSpec : ChangeSpec := { name := "fnSetAttrTwice", fn := fun _ => fun
  | [d] => { results := [.lit (.bool true)], args := [d] }
  | _ => none }
def fnSetAttrTwiceRow : OpenClaim := { program := "ytdlocbmhadhhhaa", sum := "0352ef8725267cc52e599f4ef2e264e1b369642f91d9b12cdf652ecb0977ff06", func := "loop.example/g00976/laws.FnSetAttrTwice", spec := "fnSetAttrTwice", inPlace := ["slices.overlaps[loop.example/g00976/impl.Attr]"], unfollowed := true, recurses := true, apart := false }
def FnSetAttrTwiceSaid : Prop := fnSetAttrTwiceRow.holds Try.pinned (OpenSpec.ofChange fnSetAttrTwiceSpec)

/-- ITS FALSE NEIGHBOUR: 'it returns false'. Refute it at one input. -/
def fnSetAttrTwiceWrong : ChangeSpec := { name := "fnSetAttrTwice", fn := fun _ => fun
  | [d] => { results := [.lit (.bool false)], args := [d] }
  | _ => none }
def FnSetAttrTwiceWrongFalsely : Prop := fnSetAttrTwiceRow.holds Try.pinned (OpenSpec.ofChange fnSetAttrTwiceWrong)

/-- 'laws.FnOwners': WHATEVER THE INPUT: true; the input reads as it did. -/
def fnOwnersSpec : ChangeSpec := { name := "fnOwners", fn := fun _ => fun
  | [d] => { results := [.lit (.bool true)], args := [d] }
  | _ => none }
def fnOwnersRow : OpenClaim := { program := "ytdlocbmhadhhhaa", sum := "0352ef8725267cc52e599f4ef2e264e1b369642f91d9b12cdf652ecb0977ff06", func := "loop.example/g00976/laws.FnOwners", spec := "fnOwners", apart := false }
def FnOwnersSaid : Prop := fnOwnersRow.holds Try.pinned (OpenSpec.ofChange fnOwnersSpec)

/-- ITS FALSE NEIGHBOUR: 'it returns false'. Refute it at one input. -/
def fnOwnersWrong : ChangeSpec := { name := "fnOwners", fn := fun _ => fun
  | [d] => { results := [.lit (.bool false)], args := [d] }
  | _ => none }
def FnOwnersWrongFalsely : Prop := fnOwnersRow.holds Try.pinned (OpenSpec.ofChange fnOwnersWrong)

/-- 'laws.FnAttrSet': WHATEVER THE INPUT: true; the input reads as it did. -/
def fnAttrSetSpec : ChangeSpec := { name := "fnAttrSet", fn := fun _ => fun
  | [d] => { results := [.lit (.bool true)], args := [d] }
  | _ => none }
def fnAttrSetRow : OpenClaim := { program := "ytdlocbmhadhhhaa", sum := "0352ef8725267cc52e599f4ef2e264e1b369642f91d9b12cdf652ecb0977ff06", func := "loop.example/g00976/laws.FnAttrSet", spec := "fnAttrSet", inPlace := ["slices.overlaps[loop.example/g00976/impl.Attr]"], unfollowed := true, recurses := true, apart := false }
def FnAttrSetSaid : Prop := fnAttrSetRow.holds Try.pinned (OpenSpec.ofChange fnAttrSetSpec)

/-- ITS FALSE NEIGHBOUR: 'it returns false'. Refute it at one input. -/
def fnAttrSetWrong : ChangeSpec := { name := "fnAttrSet", fn := fun _ => fun
  | [d] => { results := [.lit (.bool false)], args := [d] }
  | _ => none }
def FnAttrSetWrongFalsely : Prop := fnAttrSetRow.holds Try.pinned (OpenSpec.ofChange fnAttrSetWrong)

/-- 'laws.FnExactMinByAttr': WHATEVER THE INPUT: true; the input reads as it did. -/
def fnExactMinByAttrSpec : ChangeSpec := { name := "fnExactMinByAttr", fn := fun _ => fun
  | [d1, d2] => { results := [.lit (.bool true)], args := [d1, d2] }
  | _ => none }
def fnExactMinByAttrRow : OpenClaim := { program := "ytdlocbmhadhhhaa", sum := "0352ef8725267cc52e599f4ef2e264e1b369642f91d9b12cdf652ecb0977ff06", func := "loop.example/g00976/laws.FnExactMinByAttr", spec := "fnExactMinByAttr", unfollowed := true, recurses := true, apart := false }
def FnExactMinByAttrSaid : Prop := fnExactMinByAttrRow.holds Try.pinned (OpenSpec.ofChange fnExactMinByAttrSpec)

/-- ITS FALSE NEIGHBOUR: 'it returns false'. Refute it at one input. -/
def fnExactMinByAttrWrong : ChangeSpec := { name := "fnExactMinByAttr", fn := fun _ => fun
  | [d1, d2] => { results := [.lit (.bool false)], args := [d1, d2] }
  | _ => none }
def FnExactMinByAttrWrongFalsely : Prop := fnExactMinByAttrRow.holds Try.pinned (OpenSpec.ofChange fnExactMinByAttrWrong)

/-- 'laws.FnSortedByAttr': WHATEVER THE INPUT: true; the input reads as it did. -/
def fnSortedByAttrSpec : ChangeSpec := { name := "fnSortedByAttr", fn := fun _ => fun
  | [d] => { results := [.lit (.bool true)], args := [d] }
  | _ => none }
def fnSortedByAttrRow : OpenClaim := { program := "ytdlocbmhadhhhaa", sum := "0352ef8725267cc52e599f4ef2e264e1b369642f91d9b12cdf652ecb0977ff06", func := "loop.example/g00976/laws.FnSortedByAttr", spec := "fnSortedByAttr", unfollowed := true, recurses := true, apart := false }
def FnSortedByAttrSaid : Prop := fnSortedByAttrRow.holds Try.pinned (OpenSpec.ofChange fnSortedByAttrSpec)

/-- ITS FALSE NEIGHBOUR: 'it returns false'. Refute it at one input. -/
def fnSortedByAttrWrong : ChangeSpec := { name := "fnSortedByAttr", fn := fun _ => fun
  | [d] => { results := [.lit (.bool false)], args := [d] }
  | _ => none }
def FnSortedByAttrWrongFalsely : Prop := fnSortedByAttrRow.holds Try.pinned (OpenSpec.ofChange fnSortedByAttrWrong)

/-- 'laws.FnExactSortedByAttr': WHATEVER THE INPUT: true; the input reads as it did. -/
def fnExactSortedByAttrSpec : ChangeSpec := { name := "fnExactSortedByAttr", fn := fun _ => fun
  | [d1, d2] => { results := [.lit (.bool true)], args := [d1, d2] }
  | _ => none }
def fnExactSortedByAttrRow : OpenClaim := { program := "ytdlocbmhadhhhaa", sum := "0352ef8725267cc52e599f4ef2e264e1b369642f91d9b12cdf652ecb0977ff06", func := "loop.example/g00976/laws.FnExactSortedByAttr", spec := "fnExactSortedByAttr", unfollowed := true, recurses := true, apart := false }
def FnExactSortedByAttrSaid : Prop := fnExactSortedByAttrRow.holds Try.pinned (OpenSpec.ofChange fnExactSortedByAttrSpec)

/-- ITS FALSE NEIGHBOUR: 'it returns false'. Refute it at one input. -/
def fnExactSortedByAttrWrong : ChangeSpec := { name := "fnExactSortedByAttr", fn := fun _ => fun
  | [d1, d2] => { results := [.lit (.bool false)], args := [d1, d2] }
  | _ => none }
def FnExactSortedByAttrWrongFalsely : Prop := fnExactSortedByAttrRow.holds Try.pinned (OpenSpec.ofChange fnExactSortedByAttrWrong)

/-- 'laws.FnExactRangeByAttr': WHATEVER THE INPUT: true; the input reads as it did. -/
def fnExactRangeByAttrSpec : ChangeSpec := { name := "fnExactRangeByAttr", fn := fun _ => fun
  | [d1, d2, d3, d4] => { results := [.lit (.bool true)], args := [d1, d2, d3, d4] }
  | _ => none }
def fnExactRangeByAttrRow : OpenClaim := { program := "ytdlocbmhadhhhaa", sum := "0352ef8725267cc52e599f4ef2e264e1b369642f91d9b12cdf652ecb0977ff06", func := "loop.example/g00976/laws.FnExactRangeByAttr", spec := "fnExactRangeByAttr", unfollowed := true, recurses := true, apart := false }
def FnExactRangeByAttrSaid : Prop := fnExactRangeByAttrRow.holds Try.pinned (OpenSpec.ofChange fnExactRangeByAttrSpec)

/-- ITS FALSE NEIGHBOUR: 'it returns false'. Refute it at one input. -/
def fnExactRangeByAttrWrong : ChangeSpec := { name := "fnExactRangeByAttr", fn := fun _ => fun
  | [d1, d2, d3, d4] => { results := [.lit (.bool false)], args := [d1, d2, d3, d4] }
  | _ => none }
def FnExactRangeByAttrWrongFalsely : Prop := fnExactRangeByAttrRow.holds Try.pinned (OpenSpec.ofChange fnExactRangeByAttrWrong)

/-- 'laws.FnAttrChanges': WHATEVER THE INPUT: true; the input reads as it did. -/
def fnAttrChangesSpec : ChangeSpec := { name := "fnAttrChanges", fn := fun _ => fun
  | [d] => { results := [.lit (.bool true)], args := [d] }
  | _ => none }
def fnAttrChangesRow : OpenClaim := { program := "ytdlocbmhadhhhaa", sum := "0352ef8725267cc52e599f4ef2e264e1b369642f91d9b12cdf652ecb0977ff06", func := "loop.example/g00976/laws.FnAttrChanges", spec := "fnAttrChanges", recurses := true, apart := false }
def FnAttrChangesSaid : Prop := fnAttrChangesRow.holds Try.pinned (OpenSpec.ofChange fnAttrChangesSpec)

/-- ITS FALSE NEIGHBOUR: 'it returns false'. Refute it at one input. -/
def fnAttrChangesWrong : ChangeSpec := { name := "fnAttrChanges", fn := fun _ => fun
  | [d] => { results := [.lit (.bool false)], args := [d] }
  | _ => none }
def FnAttrChangesWrongFalsely : Prop := fnAttrChangesRow.holds Try.pinned (OpenSpec.ofChange fnAttrChangesWrong)

/-- 'laws.FnIndexIncremental': WHATEVER THE INPUT: true; the input reads as it did. -/
def fnIndexIncrementalSpec : ChangeSpec := { name := "fnIndexIncremental", fn := fun _ => fun
  | [d] => { results := [.lit (.bool true)], args := [d] }
  | _ => none }
def fnIndexIncrementalRow : OpenClaim := { program := "ytdlocbmhadhhhaa", sum := "0352ef8725267cc52e599f4ef2e264e1b369642f91d9b12cdf652ecb0977ff06", func := "loop.example/g00976/laws.FnIndexIncremental", spec := "fnIndexIncremental", inPlace := ["slices.overlaps[loop.example/g00976/impl.Posting]", "slices.overlaps[int]"], unfollowed := true, recurses := true, apart := false }
def FnIndexIncrementalSaid : Prop := fnIndexIncrementalRow.holds Try.pinned (OpenSpec.ofChange fnIndexIncrementalSpec)

/-- ITS FALSE NEIGHBOUR: 'it returns false'. Refute it at one input. -/
def fnIndexIncrementalWrong : ChangeSpec := { name := "fnIndexIncremental", fn := fun _ => fun
  | [d] => { results := [.lit (.bool false)], args := [d] }
  | _ => none }
def FnIndexIncrementalWrongFalsely : Prop := fnIndexIncrementalRow.holds Try.pinned (OpenSpec.ofChange fnIndexIncrementalWrong)

/-- 'laws.FnExactChangedAttrs': WHATEVER THE INPUT: true; the input reads as it did. -/
def fnExactChangedAttrsSpec : ChangeSpec := { name := "fnExactChangedAttrs", fn := fun _ => fun
  | [d1, d2] => { results := [.lit (.bool true)], args := [d1, d2] }
  | _ => none }
def fnExactChangedAttrsRow : OpenClaim := { program := "ytdlocbmhadhhhaa", sum := "0352ef8725267cc52e599f4ef2e264e1b369642f91d9b12cdf652ecb0977ff06", func := "loop.example/g00976/laws.FnExactChangedAttrs", spec := "fnExactChangedAttrs", recurses := true, apart := false }
def FnExactChangedAttrsSaid : Prop := fnExactChangedAttrsRow.holds Try.pinned (OpenSpec.ofChange fnExactChangedAttrsSpec)

/-- ITS FALSE NEIGHBOUR: 'it returns false'. Refute it at one input. -/
def fnExactChangedAttrsWrong : ChangeSpec := { name := "fnExactChangedAttrs", fn := fun _ => fun
  | [d1, d2] => { results := [.lit (.bool false)], args := [d1, d2] }
  | _ => none }
def FnExactChangedAttrsWrongFalsely : Prop := fnExactChangedAttrsRow.holds Try.pinned (OpenSpec.ofChange fnExactChangedAttrsWrong)

/- THE SECOND FORM. 'bulk': how many values and letters a reading holds, each counted each time it is reached (what is shared counts as often as it is met; a slice's spare places count too). A statement '..UptoSaid' is the law's where the arguments, and the package variables that the reading takes, are together of bulk at most 1048576: NARROWER than '..Said'. Prove '..Said' where nothing that the law and all that it calls make is longer than what came in: it says more and counts as full. Else prove '..UptoSaid'. A law counts once. -/
mutual
def uptoBulk {H : Type} : DataW H → Nat
  | .lit (.string bytes) => bytes.length + 1
  | .lit _ => 1
  | .nil => 1
  | .ptr d => uptoBulk d + 1
  | .slice elems spare => uptoBulkAll elems + uptoBulkAll spare + 1
  | .agg parts => uptoBulkAll parts + 1
  | .iface _ d => uptoBulk d + 1
  | .map entries => uptoBulkEntries entries + 1
  | .held _ => 1
def uptoBulkAll {H : Type} : List (DataW H) → Nat
  | [] => 0
  | d :: r => uptoBulk d + uptoBulkAll r
def uptoBulkEntries {H : Type} : List (Lit × DataW H) → Nat
  | [] => 0
  | x :: r => uptoBulkEntry x + uptoBulkEntries r
def uptoBulkEntry {H : Type} : Lit × DataW H → Nat
  | (.string bytes, d) => bytes.length + uptoBulk d + 1
  | (_, d) => uptoBulk d + 1
 end
def uptoSmall : (H : Type) → List (DataW H) → Bool := fun _ ds => decide (uptoBulkAll ds ≤ 1048576)
def OpenSpec.upto (s : _root_.Go.ChangeSpec) : _root_.Go.OpenSpec := { _root_.Go.OpenSpec.ofChange s with cond := some uptoSmall }

/-- 'laws.FnValueOrder', WHERE WHAT IT READS IS OF BULK AT MOST 1048576: true; the input reads as it did. -/
def fnValueOrderUptoRow : OpenClaim := { program := "ytdlocbmhadhhhaa", sum := "0352ef8725267cc52e599f4ef2e264e1b369642f91d9b12cdf652ecb0977ff06", func := "loop.example/g00976/laws.FnValueOrder", spec := "fnValueOrder", apart := false, narrowed := true }
def FnValueOrderUptoSaid : Prop := fnValueOrderUptoRow.holds Try.pinned (OpenSpec.upto fnValueOrderSpec)

/-- 'laws.FnSchemaChecks', WHERE WHAT IT READS IS OF BULK AT MOST 1048576: true; the input reads as it did. -/
def fnSchemaChecksUptoRow : OpenClaim := { program := "ytdlocbmhadhhhaa", sum := "0352ef8725267cc52e599f4ef2e264e1b369642f91d9b12cdf652ecb0977ff06", func := "loop.example/g00976/laws.FnSchemaChecks", spec := "fnSchemaChecks", apart := false, narrowed := true }
def FnSchemaChecksUptoSaid : Prop := fnSchemaChecksUptoRow.holds Try.pinned (OpenSpec.upto fnSchemaChecksSpec)

/-- 'laws.FnSetAttrTwice', WHERE WHAT IT READS IS OF BULK AT MOST 1048576: true; the input reads as it did. -/
def fnSetAttrTwiceUptoRow : OpenClaim := { program := "ytdlocbmhadhhhaa", sum := "0352ef8725267cc52e599f4ef2e264e1b369642f91d9b12cdf652ecb0977ff06", func := "loop.example/g00976/laws.FnSetAttrTwice", spec := "fnSetAttrTwice", inPlace := ["slices.overlaps[loop.example/g00976/impl.Attr]"], unfollowed := true, recurses := true, apart := false, narrowed := true }
def FnSetAttrTwiceUptoSaid : Prop := fnSetAttrTwiceUptoRow.holds Try.pinned (OpenSpec.upto fnSetAttrTwiceSpec)

/-- 'laws.FnOwners', WHERE WHAT IT READS IS OF BULK AT MOST 1048576: true; the input reads as it did. -/
def fnOwnersUptoRow : OpenClaim := { program := "ytdlocbmhadhhhaa", sum := "0352ef8725267cc52e599f4ef2e264e1b369642f91d9b12cdf652ecb0977ff06", func := "loop.example/g00976/laws.FnOwners", spec := "fnOwners", apart := false, narrowed := true }
def FnOwnersUptoSaid : Prop := fnOwnersUptoRow.holds Try.pinned (OpenSpec.upto fnOwnersSpec)

/-- 'laws.FnAttrSet', WHERE WHAT IT READS IS OF BULK AT MOST 1048576: true; the input reads as it did. -/
def fnAttrSetUptoRow : OpenClaim := { program := "ytdlocbmhadhhhaa", sum := "0352ef8725267cc52e599f4ef2e264e1b369642f91d9b12cdf652ecb0977ff06", func := "loop.example/g00976/laws.FnAttrSet", spec := "fnAttrSet", inPlace := ["slices.overlaps[loop.example/g00976/impl.Attr]"], unfollowed := true, recurses := true, apart := false, narrowed := true }
def FnAttrSetUptoSaid : Prop := fnAttrSetUptoRow.holds Try.pinned (OpenSpec.upto fnAttrSetSpec)

/-- 'laws.FnExactMinByAttr', WHERE WHAT IT READS IS OF BULK AT MOST 1048576: true; the input reads as it did. -/
def fnExactMinByAttrUptoRow : OpenClaim := { program := "ytdlocbmhadhhhaa", sum := "0352ef8725267cc52e599f4ef2e264e1b369642f91d9b12cdf652ecb0977ff06", func := "loop.example/g00976/laws.FnExactMinByAttr", spec := "fnExactMinByAttr", unfollowed := true, recurses := true, apart := false, narrowed := true }
def FnExactMinByAttrUptoSaid : Prop := fnExactMinByAttrUptoRow.holds Try.pinned (OpenSpec.upto fnExactMinByAttrSpec)

/-- 'laws.FnSortedByAttr', WHERE WHAT IT READS IS OF BULK AT MOST 1048576: true; the input reads as it did. -/
def fnSortedByAttrUptoRow : OpenClaim := { program := "ytdlocbmhadhhhaa", sum := "0352ef8725267cc52e599f4ef2e264e1b369642f91d9b12cdf652ecb0977ff06", func := "loop.example/g00976/laws.FnSortedByAttr", spec := "fnSortedByAttr", unfollowed := true, recurses := true, apart := false, narrowed := true }
def FnSortedByAttrUptoSaid : Prop := fnSortedByAttrUptoRow.holds Try.pinned (OpenSpec.upto fnSortedByAttrSpec)

/-- 'laws.FnExactSortedByAttr', WHERE WHAT IT READS IS OF BULK AT MOST 1048576: true; the input reads as it did. -/
def fnExactSortedByAttrUptoRow : OpenClaim := { program := "ytdlocbmhadhhhaa", sum := "0352ef8725267cc52e599f4ef2e264e1b369642f91d9b12cdf652ecb0977ff06", func := "loop.example/g00976/laws.FnExactSortedByAttr", spec := "fnExactSortedByAttr", unfollowed := true, recurses := true, apart := false, narrowed := true }
def FnExactSortedByAttrUptoSaid : Prop := fnExactSortedByAttrUptoRow.holds Try.pinned (OpenSpec.upto fnExactSortedByAttrSpec)

/-- 'laws.FnExactRangeByAttr', WHERE WHAT IT READS IS OF BULK AT MOST 1048576: true; the input reads as it did. -/
def fnExactRangeByAttrUptoRow : OpenClaim := { program := "ytdlocbmhadhhhaa", sum := "0352ef8725267cc52e599f4ef2e264e1b369642f91d9b12cdf652ecb0977ff06", func := "loop.example/g00976/laws.FnExactRangeByAttr", spec := "fnExactRangeByAttr", unfollowed := true, recurses := true, apart := false, narrowed := true }
def FnExactRangeByAttrUptoSaid : Prop := fnExactRangeByAttrUptoRow.holds Try.pinned (OpenSpec.upto fnExactRangeByAttrSpec)

/-- 'laws.FnAttrChanges', WHERE WHAT IT READS IS OF BULK AT MOST 1048576: true; the input reads as it did. -/
def fnAttrChangesUptoRow : OpenClaim := { program := "ytdlocbmhadhhhaa", sum := "0352ef8725267cc52e599f4ef2e264e1b369642f91d9b12cdf652ecb0977ff06", func := "loop.example/g00976/laws.FnAttrChanges", spec := "fnAttrChanges", recurses := true, apart := false, narrowed := true }
def FnAttrChangesUptoSaid : Prop := fnAttrChangesUptoRow.holds Try.pinned (OpenSpec.upto fnAttrChangesSpec)

/-- 'laws.FnIndexIncremental', WHERE WHAT IT READS IS OF BULK AT MOST 1048576: true; the input reads as it did. -/
def fnIndexIncrementalUptoRow : OpenClaim := { program := "ytdlocbmhadhhhaa", sum := "0352ef8725267cc52e599f4ef2e264e1b369642f91d9b12cdf652ecb0977ff06", func := "loop.example/g00976/laws.FnIndexIncremental", spec := "fnIndexIncremental", inPlace := ["slices.overlaps[loop.example/g00976/impl.Posting]", "slices.overlaps[int]"], unfollowed := true, recurses := true, apart := false, narrowed := true }
def FnIndexIncrementalUptoSaid : Prop := fnIndexIncrementalUptoRow.holds Try.pinned (OpenSpec.upto fnIndexIncrementalSpec)

/-- 'laws.FnExactChangedAttrs', WHERE WHAT IT READS IS OF BULK AT MOST 1048576: true; the input reads as it did. -/
def fnExactChangedAttrsUptoRow : OpenClaim := { program := "ytdlocbmhadhhhaa", sum := "0352ef8725267cc52e599f4ef2e264e1b369642f91d9b12cdf652ecb0977ff06", func := "loop.example/g00976/laws.FnExactChangedAttrs", spec := "fnExactChangedAttrs", recurses := true, apart := false, narrowed := true }
def FnExactChangedAttrsUptoSaid : Prop := fnExactChangedAttrsUptoRow.holds Try.pinned (OpenSpec.upto fnExactChangedAttrsSpec)

end Rows
end Go.Proofs.Ytdlocbmhadhhhaa
