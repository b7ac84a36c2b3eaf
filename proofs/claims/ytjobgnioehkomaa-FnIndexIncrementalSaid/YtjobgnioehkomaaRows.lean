/-
  No cell of these rows narrows 'for every input' (looked for: loops, veiled, ifaces, maps, wideKeys, modest, calm, conditions, laid).
  DERIVED. THE GIVEN ROWS OF THIS SEAT. 6 by the template 'for every input the law returns true; each argument reads behind the call as it read before'; 0 by the template 'total and deterministic' (their statements: YtjobgnioehkomaaTotals.lean).
  GIVEN WITH THE SEED: the statements are not yours to turn. If you find one false, say at which input.
  Laid BY PROGRAM, IN A SANDBOX (cutbox-rows.mjs): the forced cells as the released guide's own fill.sh prints them over the translation 0015d903983191a2… (all of the seat's roots in one cut). By AI agents, Wed Nov 11 2026. No macro, syntax, notation, axiom, sorry.
-/
import Derived.Test.YtjobgnioehkomaaChecked
import GoSem.Claim
import GoSem.ClaimJoined
import GoSem.ClaimMapViews
import Derived.JoinedTies
import Derived.KernelRfl
namespace Go.Proofs.Ytjobgnioehkomaa
/- THE CELL 'sum', in the pinned program and in every row, IS THE sha256 OF THE DUMP (.gsa) THAT YtjobgnioehkomaaProg.lean LOADS. Nothing in Lean hashes anything: it is a label: what it is worth is what the hold of that sum in a sandbox is worth. -/
noncomputable def Try.pinned : Pinned := { name := "ytjobgnioehkomaa", sum := "0015d903983191a28c6de257bd32d69952a2a3f7fd22eb9fe3bbf13eef69504b", checked := Try.checked }
namespace Rows
def none {H : Type} : Left H := { results := [], args := [] }

/-- 'laws.FnSetAttrTwice': WHATEVER THE INPUT: true; the input reads as it did. -/
def fnSetAttrTwiceSpec : ChangeSpec := { name := "fnSetAttrTwice", fn := fun _ => fun
  | [d] => { results := [.lit (.bool true)], args := [d] }
  | _ => none }
def fnSetAttrTwiceRow : OpenClaim := { program := "ytjobgnioehkomaa", sum := "0015d903983191a28c6de257bd32d69952a2a3f7fd22eb9fe3bbf13eef69504b", func := "loop.example/g00976/laws.FnSetAttrTwice", spec := "fnSetAttrTwice", inPlace := ["slices.overlaps[loop.example/g00976/impl.Attr]"], unfollowed := true, recurses := true, apart := false }
def FnSetAttrTwiceSaid : Prop := fnSetAttrTwiceRow.holds Try.pinned (OpenSpec.ofChange fnSetAttrTwiceSpec)

/-- ITS FALSE NEIGHBOUR: 'it returns false'. Refute it at one input. -/
def fnSetAttrTwiceWrong : ChangeSpec := { name := "fnSetAttrTwice", fn := fun _ => fun
  | [d] => { results := [.lit (.bool false)], args := [d] }
  | _ => none }
def FnSetAttrTwiceWrongFalsely : Prop := fnSetAttrTwiceRow.holds Try.pinned (OpenSpec.ofChange fnSetAttrTwiceWrong)

/-- 'laws.FnOwners': WHATEVER THE INPUT: true; the input reads as it did. -/
def fnOwnersSpec : ChangeSpec := { name := "fnOwners", fn := fun _ => fun
  | [d] => { results := [.lit (.bool true)], args := [d] }
  | _ => none }
def fnOwnersRow : OpenClaim := { program := "ytjobgnioehkomaa", sum := "0015d903983191a28c6de257bd32d69952a2a3f7fd22eb9fe3bbf13eef69504b", func := "loop.example/g00976/laws.FnOwners", spec := "fnOwners", apart := false }
def FnOwnersSaid : Prop := fnOwnersRow.holds Try.pinned (OpenSpec.ofChange fnOwnersSpec)

/-- ITS FALSE NEIGHBOUR: 'it returns false'. Refute it at one input. -/
def fnOwnersWrong : ChangeSpec := { name := "fnOwners", fn := fun _ => fun
  | [d] => { results := [.lit (.bool false)], args := [d] }
  | _ => none }
def FnOwnersWrongFalsely : Prop := fnOwnersRow.holds Try.pinned (OpenSpec.ofChange fnOwnersWrong)

/-- 'laws.FnAttrSet': WHATEVER THE INPUT: true; the input reads as it did. -/
def fnAttrSetSpec : ChangeSpec := { name := "fnAttrSet", fn := fun _ => fun
  | [d] => { results := [.lit (.bool true)], args := [d] }
  | _ => none }
def fnAttrSetRow : OpenClaim := { program := "ytjobgnioehkomaa", sum := "0015d903983191a28c6de257bd32d69952a2a3f7fd22eb9fe3bbf13eef69504b", func := "loop.example/g00976/laws.FnAttrSet", spec := "fnAttrSet", inPlace := ["slices.overlaps[loop.example/g00976/impl.Attr]"], unfollowed := true, recurses := true, apart := false }
def FnAttrSetSaid : Prop := fnAttrSetRow.holds Try.pinned (OpenSpec.ofChange fnAttrSetSpec)

/-- ITS FALSE NEIGHBOUR: 'it returns false'. Refute it at one input. -/
def fnAttrSetWrong : ChangeSpec := { name := "fnAttrSet", fn := fun _ => fun
  | [d] => { results := [.lit (.bool false)], args := [d] }
  | _ => none }
def FnAttrSetWrongFalsely : Prop := fnAttrSetRow.holds Try.pinned (OpenSpec.ofChange fnAttrSetWrong)

/-- 'laws.FnAttrChanges': WHATEVER THE INPUT: true; the input reads as it did. -/
def fnAttrChangesSpec : ChangeSpec := { name := "fnAttrChanges", fn := fun _ => fun
  | [d] => { results := [.lit (.bool true)], args := [d] }
  | _ => none }
def fnAttrChangesRow : OpenClaim := { program := "ytjobgnioehkomaa", sum := "0015d903983191a28c6de257bd32d69952a2a3f7fd22eb9fe3bbf13eef69504b", func := "loop.example/g00976/laws.FnAttrChanges", spec := "fnAttrChanges", recurses := true, apart := false }
def FnAttrChangesSaid : Prop := fnAttrChangesRow.holds Try.pinned (OpenSpec.ofChange fnAttrChangesSpec)

/-- ITS FALSE NEIGHBOUR: 'it returns false'. Refute it at one input. -/
def fnAttrChangesWrong : ChangeSpec := { name := "fnAttrChanges", fn := fun _ => fun
  | [d] => { results := [.lit (.bool false)], args := [d] }
  | _ => none }
def FnAttrChangesWrongFalsely : Prop := fnAttrChangesRow.holds Try.pinned (OpenSpec.ofChange fnAttrChangesWrong)

/-- 'laws.FnIndexIncremental': WHATEVER THE INPUT: true; the input reads as it did. -/
def fnIndexIncrementalSpec : ChangeSpec := { name := "fnIndexIncremental", fn := fun _ => fun
  | [d] => { results := [.lit (.bool true)], args := [d] }
  | _ => none }
def fnIndexIncrementalRow : OpenClaim := { program := "ytjobgnioehkomaa", sum := "0015d903983191a28c6de257bd32d69952a2a3f7fd22eb9fe3bbf13eef69504b", func := "loop.example/g00976/laws.FnIndexIncremental", spec := "fnIndexIncremental", inPlace := ["slices.overlaps[loop.example/g00976/impl.Posting]", "slices.overlaps[int]"], unfollowed := true, recurses := true, apart := false }
def FnIndexIncrementalSaid : Prop := fnIndexIncrementalRow.holds Try.pinned (OpenSpec.ofChange fnIndexIncrementalSpec)

/-- ITS FALSE NEIGHBOUR: 'it returns false'. Refute it at one input. -/
def fnIndexIncrementalWrong : ChangeSpec := { name := "fnIndexIncremental", fn := fun _ => fun
  | [d] => { results := [.lit (.bool false)], args := [d] }
  | _ => none }
def FnIndexIncrementalWrongFalsely : Prop := fnIndexIncrementalRow.holds Try.pinned (OpenSpec.ofChange fnIndexIncrementalWrong)

/-- 'laws.FnSortedByAttr': WHATEVER THE INPUT: true; the input reads as it did. -/
def fnSortedByAttrSpec : ChangeSpec := { name := "fnSortedByAttr", fn := fun _ => fun
  | [d] => { results := [.lit (.bool true)], args := [d] }
  | _ => none }
def fnSortedByAttrRow : OpenClaim := { program := "ytjobgnioehkomaa", sum := "0015d903983191a28c6de257bd32d69952a2a3f7fd22eb9fe3bbf13eef69504b", func := "loop.example/g00976/laws.FnSortedByAttr", spec := "fnSortedByAttr", unfollowed := true, recurses := true, apart := false }
def FnSortedByAttrSaid : Prop := fnSortedByAttrRow.holds Try.pinned (OpenSpec.ofChange fnSortedByAttrSpec)

/-- ITS FALSE NEIGHBOUR: 'it returns false'. Refute it at one input. -/
def fnSortedByAttrWrong : ChangeSpec := { name := "fnSortedByAttr", fn := fun _ => fun
  | [d] => { results := [.lit (.bool false)], args := [d] }
  | _ => none }
def FnSortedByAttrWrongFalsely : Prop := fnSortedByAttrRow.holds Try.pinned (OpenSpec.ofChange fnSortedByAttrWrong)

/- THE SECOND FORM. 'bulk': how many values and letters a reading holds, each counted each time it is reached (what is shared counts as often as it is met; a slice's spare places count too). A statement '..UptoSaid' is the law's where the arguments, and the package variables that the reading takes, are together of bulk at most 1048576: NARROWER than '..Said'. Prove '..Said' where nothing that the law and all that it calls make is longer than what came in: it says more and counts as full. Else prove '..UptoSaid'. A law counts once. -/
mutual
def uptoBulk {H : Type} : DataW H → Nat
  | .lit (.string bytes) => bytes.length + 1
  | .lit _ => 1
  | .nil => 1
  | .ptr d => uptoBulk d + 1
  | .slice elems spare => uptoBulkAll elems + uptoBulkAll spare + 1
  | .agg parts => uptoBulkAll parts + 1
  | .iface _ d => uptoBulk d + 1
  | .map entries => uptoBulkEntries entries + 1
  | .held _ => 1
def uptoBulkAll {H : Type} : List (DataW H) → Nat
  | [] => 0
  | d :: r => uptoBulk d + uptoBulkAll r
def uptoBulkEntries {H : Type} : List (Lit × DataW H) → Nat
  | [] => 0
  | x :: r => uptoBulkEntry x + uptoBulkEntries r
def uptoBulkEntry {H : Type} : Lit × DataW H → Nat
  | (.string bytes, d) => bytes.length + uptoBulk d + 1
  | (_, d) => uptoBulk d + 1
 end
def uptoSmall : (H : Type) → List (DataW H) → Bool := fun _ ds => decide (uptoBulkAll ds ≤ 1048576)
def OpenSpec.upto (s : _root_.Go.ChangeSpec) : _root_.Go.OpenSpec := { _root_.Go.OpenSpec.ofChange s with cond := some uptoSmall }

/-- 'laws.FnSetAttrTwice', WHERE WHAT IT READS IS OF BULK AT MOST 1048576: true; the input reads as it did. -/
def fnSetAttrTwiceUptoRow : OpenClaim := { program := "ytjobgnioehkomaa", sum := "0015d903983191a28c6de257bd32d69952a2a3f7fd22eb9fe3bbf13eef69504b", func := "loop.example/g00976/laws.FnSetAttrTwice", spec := "fnSetAttrTwice", inPlace := ["slices.overlaps[loop.example/g00976/impl.Attr]"], unfollowed := true, recurses := true, apart := false, narrowed := true }
def FnSetAttrTwiceUptoSaid : Prop := fnSetAttrTwiceUptoRow.holds Try.pinned (OpenSpec.upto fnSetAttrTwiceSpec)

/-- 'laws.FnOwners', WHERE WHAT IT READS IS OF BULK AT MOST 1048576: true; the input reads as it did. -/
def fnOwnersUptoRow : OpenClaim := { program := "ytjobgnioehkomaa", sum := "0015d903983191a28c6de257bd32d69952a2a3f7fd22eb9fe3bbf13eef69504b", func := "loop.example/g00976/laws.FnOwners", spec := "fnOwners", apart := false, narrowed := true }
def FnOwnersUptoSaid : Prop := fnOwnersUptoRow.holds Try.pinned (OpenSpec.upto fnOwnersSpec)

/-- 'laws.FnAttrSet', WHERE WHAT IT READS IS OF BULK AT MOST 1048576: true; the input reads as it did. -/
def fnAttrSetUptoRow : OpenClaim := { program := "ytjobgnioehkomaa", sum := "0015d903983191a28c6de257bd32d69952a2a3f7fd22eb9fe3bbf13eef69504b", func := "loop.example/g00976/laws.FnAttrSet", spec := "fnAttrSet", inPlace := ["slices.overlaps[loop.example/g00976/impl.Attr]"], unfollowed := true, recurses := true, apart := false, narrowed := true }
def FnAttrSetUptoSaid : Prop := fnAttrSetUptoRow.holds Try.pinned (OpenSpec.upto fnAttrSetSpec)

/-- 'laws.FnAttrChanges', WHERE WHAT IT READS IS OF BULK AT MOST 1048576: true; the input reads as it did. -/
def fnAttrChangesUptoRow : OpenClaim := { program := "ytjobgnioehkomaa", sum := "0015d903983191a28c6de257bd32d69952a2a3f7fd22eb9fe3bbf13eef69504b", func := "loop.example/g00976/laws.FnAttrChanges", spec := "fnAttrChanges", recurses := true, apart := false, narrowed := true }
def FnAttrChangesUptoSaid : Prop := fnAttrChangesUptoRow.holds Try.pinned (OpenSpec.upto fnAttrChangesSpec)

/-- 'laws.FnIndexIncremental', WHERE WHAT IT READS IS OF BULK AT MOST 1048576: true; the input reads as it did. -/
def fnIndexIncrementalUptoRow : OpenClaim := { program := "ytjobgnioehkomaa", sum := "0015d903983191a28c6de257bd32d69952a2a3f7fd22eb9fe3bbf13eef69504b", func := "loop.example/g00976/laws.FnIndexIncremental", spec := "fnIndexIncremental", inPlace := ["slices.overlaps[loop.example/g00976/impl.Posting]", "slices.overlaps[int]"], unfollowed := true, recurses := true, apart := false, narrowed := true }
def FnIndexIncrementalUptoSaid : Prop := fnIndexIncrementalUptoRow.holds Try.pinned (OpenSpec.upto fnIndexIncrementalSpec)

/-- 'laws.FnSortedByAttr', WHERE WHAT IT READS IS OF BULK AT MOST 1048576: true; the input reads as it did. -/
def fnSortedByAttrUptoRow : OpenClaim := { program := "ytjobgnioehkomaa", sum := "0015d903983191a28c6de257bd32d69952a2a3f7fd22eb9fe3bbf13eef69504b", func := "loop.example/g00976/laws.FnSortedByAttr", spec := "fnSortedByAttr", unfollowed := true, recurses := true, apart := false, narrowed := true }
def FnSortedByAttrUptoSaid : Prop := fnSortedByAttrUptoRow.holds Try.pinned (OpenSpec.upto fnSortedByAttrSpec)

end Rows
end Go.Proofs.Ytjobgnioehkomaa
