/-
  No cell of these rows narrows 'for every input' (looked for: loops, veiled, ifaces, maps, wideKeys, modest, calm, conditions, laid).
  DERIVED. THE GIVEN ROWS OF THIS SEAT. 8 by the template 'for every input the law returns true; each argument reads behind the call as it read before'; 0 by the template 'total and deterministic' (their statements: YtkjhfblipmagoaaTotals.lean).
  GIVEN WITH THE SEED: the statements are not yours to turn. If you find one false, say at which input.
  Laid BY PROGRAM, IN A SANDBOX (cutbox-rows.mjs): the forced cells as the released guide's own fill.sh prints them over the translation 9b25bfa7e6280e29… (all of the seat's roots in one cut). By AI agents, Wed Nov 11 2026. No macro, syntax, notation, axiom, sorry.
-/
import Derived.Test.YtkjhfblipmagoaaChecked
import GoSem.Claim
import GoSem.ClaimJoined
import GoSem.ClaimMapViews
import Derived.JoinedTies
import Derived.KernelRfl
namespace Go.Proofs.Ytkjhfblipmagoaa
/- THE CELL 'sum', in the pinned program and in every row, IS THE sha256 OF THE DUMP (.gsa) THAT YtkjhfblipmagoaaProg.lean LOADS. Nothing in Lean hashes anything: it is a label: what it is worth is what the hold of that sum in a sandbox is worth. -/
noncomputable def Try.pinned : Pinned := { name := "ytkjhfblipmagoaa", sum := "9b25bfa7e6280e2925d6572ba1ce2c1be00796c84445dd0f3502be707d22f79e", checked := Try.checked }
namespace Rows
def none {H : Type} : Left H := { results := [], args := [] }

/-- 'laws.FnExactEqualForUser': WHATEVER THE INPUT: true; the input reads as it did. -/
def fnExactEqualForUserSpec : ChangeSpec := { name := "fnExactEqualForUser", fn := fun _ => fun
  | [d1, d2, d3] => { results := [.lit (.bool true)], args := [d1, d2, d3] }
  | _ => none }
def fnExactEqualForUserRow : OpenClaim := { program := "ytkjhfblipmagoaa", sum := "9b25bfa7e6280e2925d6572ba1ce2c1be00796c84445dd0f3502be707d22f79e", func := "loop.example/g00976/laws.FnExactEqualForUser", spec := "fnExactEqualForUser", unfollowed := true, recurses := true, apart := false }
def FnExactEqualForUserSaid : Prop := fnExactEqualForUserRow.holds Try.pinned (OpenSpec.ofChange fnExactEqualForUserSpec)

/-- ITS FALSE NEIGHBOUR: 'it returns false'. Refute it at one input. -/
def fnExactEqualForUserWrong : ChangeSpec := { name := "fnExactEqualForUser", fn := fun _ => fun
  | [d1, d2, d3] => { results := [.lit (.bool false)], args := [d1, d2, d3] }
  | _ => none }
def FnExactEqualForUserWrongFalsely : Prop := fnExactEqualForUserRow.holds Try.pinned (OpenSpec.ofChange fnExactEqualForUserWrong)

/-- 'laws.FnExactRemoveFromIndex': WHATEVER THE INPUT: true; the input reads as it did. -/
def fnExactRemoveFromIndexSpec : ChangeSpec := { name := "fnExactRemoveFromIndex", fn := fun _ => fun
  | [d1, d2] => { results := [.lit (.bool true)], args := [d1, d2] }
  | _ => none }
def fnExactRemoveFromIndexRow : OpenClaim := { program := "ytkjhfblipmagoaa", sum := "9b25bfa7e6280e2925d6572ba1ce2c1be00796c84445dd0f3502be707d22f79e", func := "loop.example/g00976/laws.FnExactRemoveFromIndex", spec := "fnExactRemoveFromIndex", unfollowed := true, recurses := true, apart := false }
def FnExactRemoveFromIndexSaid : Prop := fnExactRemoveFromIndexRow.holds Try.pinned (OpenSpec.ofChange fnExactRemoveFromIndexSpec)

/-- ITS FALSE NEIGHBOUR: 'it returns false'. Refute it at one input. -/
def fnExactRemoveFromIndexWrong : ChangeSpec := { name := "fnExactRemoveFromIndex", fn := fun _ => fun
  | [d1, d2] => { results := [.lit (.bool false)], args := [d1, d2] }
  | _ => none }
def FnExactRemoveFromIndexWrongFalsely : Prop := fnExactRemoveFromIndexRow.holds Try.pinned (OpenSpec.ofChange fnExactRemoveFromIndexWrong)

/-- 'laws.FnExactAddToIndex': WHATEVER THE INPUT: true; the input reads as it did. -/
def fnExactAddToIndexSpec : ChangeSpec := { name := "fnExactAddToIndex", fn := fun _ => fun
  | [d1, d2] => { results := [.lit (.bool true)], args := [d1, d2] }
  | _ => none }
def fnExactAddToIndexRow : OpenClaim := { program := "ytkjhfblipmagoaa", sum := "9b25bfa7e6280e2925d6572ba1ce2c1be00796c84445dd0f3502be707d22f79e", func := "loop.example/g00976/laws.FnExactAddToIndex", spec := "fnExactAddToIndex", inPlace := ["slices.overlaps[loop.example/g00976/impl.Posting]", "slices.overlaps[int]"], unfollowed := true, recurses := true, apart := false }
def FnExactAddToIndexSaid : Prop := fnExactAddToIndexRow.holds Try.pinned (OpenSpec.ofChange fnExactAddToIndexSpec)

/-- ITS FALSE NEIGHBOUR: 'it returns false'. Refute it at one input. -/
def fnExactAddToIndexWrong : ChangeSpec := { name := "fnExactAddToIndex", fn := fun _ => fun
  | [d1, d2] => { results := [.lit (.bool false)], args := [d1, d2] }
  | _ => none }
def FnExactAddToIndexWrongFalsely : Prop := fnExactAddToIndexRow.holds Try.pinned (OpenSpec.ofChange fnExactAddToIndexWrong)

/-- 'laws.FnExactBuildIndex': WHATEVER THE INPUT: true; the input reads as it did. -/
def fnExactBuildIndexSpec : ChangeSpec := { name := "fnExactBuildIndex", fn := fun _ => fun
  | [d] => { results := [.lit (.bool true)], args := [d] }
  | _ => none }
def fnExactBuildIndexRow : OpenClaim := { program := "ytkjhfblipmagoaa", sum := "9b25bfa7e6280e2925d6572ba1ce2c1be00796c84445dd0f3502be707d22f79e", func := "loop.example/g00976/laws.FnExactBuildIndex", spec := "fnExactBuildIndex", inPlace := ["slices.overlaps[loop.example/g00976/impl.Posting]", "slices.overlaps[int]"], unfollowed := true, recurses := true, apart := false }
def FnExactBuildIndexSaid : Prop := fnExactBuildIndexRow.holds Try.pinned (OpenSpec.ofChange fnExactBuildIndexSpec)

/-- ITS FALSE NEIGHBOUR: 'it returns false'. Refute it at one input. -/
def fnExactBuildIndexWrong : ChangeSpec := { name := "fnExactBuildIndex", fn := fun _ => fun
  | [d] => { results := [.lit (.bool false)], args := [d] }
  | _ => none }
def FnExactBuildIndexWrongFalsely : Prop := fnExactBuildIndexRow.holds Try.pinned (OpenSpec.ofChange fnExactBuildIndexWrong)

/-- 'laws.FnExactChangedAttrs': WHATEVER THE INPUT: true; the input reads as it did. -/
def fnExactChangedAttrsSpec : ChangeSpec := { name := "fnExactChangedAttrs", fn := fun _ => fun
  | [d1, d2] => { results := [.lit (.bool true)], args := [d1, d2] }
  | _ => none }
def fnExactChangedAttrsRow : OpenClaim := { program := "ytkjhfblipmagoaa", sum := "9b25bfa7e6280e2925d6572ba1ce2c1be00796c84445dd0f3502be707d22f79e", func := "loop.example/g00976/laws.FnExactChangedAttrs", spec := "fnExactChangedAttrs", recurses := true, apart := false }
def FnExactChangedAttrsSaid : Prop := fnExactChangedAttrsRow.holds Try.pinned (OpenSpec.ofChange fnExactChangedAttrsSpec)

/-- ITS FALSE NEIGHBOUR: 'it returns false'. Refute it at one input. -/
def fnExactChangedAttrsWrong : ChangeSpec := { name := "fnExactChangedAttrs", fn := fun _ => fun
  | [d1, d2] => { results := [.lit (.bool false)], args := [d1, d2] }
  | _ => none }
def FnExactChangedAttrsWrongFalsely : Prop := fnExactChangedAttrsRow.holds Try.pinned (OpenSpec.ofChange fnExactChangedAttrsWrong)

/-- 'laws.FnExactSortedByAttr': WHATEVER THE INPUT: true; the input reads as it did. -/
def fnExactSortedByAttrSpec : ChangeSpec := { name := "fnExactSortedByAttr", fn := fun _ => fun
  | [d1, d2] => { results := [.lit (.bool true)], args := [d1, d2] }
  | _ => none }
def fnExactSortedByAttrRow : OpenClaim := { program := "ytkjhfblipmagoaa", sum := "9b25bfa7e6280e2925d6572ba1ce2c1be00796c84445dd0f3502be707d22f79e", func := "loop.example/g00976/laws.FnExactSortedByAttr", spec := "fnExactSortedByAttr", unfollowed := true, recurses := true, apart := false }
def FnExactSortedByAttrSaid : Prop := fnExactSortedByAttrRow.holds Try.pinned (OpenSpec.ofChange fnExactSortedByAttrSpec)

/-- ITS FALSE NEIGHBOUR: 'it returns false'. Refute it at one input. -/
def fnExactSortedByAttrWrong : ChangeSpec := { name := "fnExactSortedByAttr", fn := fun _ => fun
  | [d1, d2] => { results := [.lit (.bool false)], args := [d1, d2] }
  | _ => none }
def FnExactSortedByAttrWrongFalsely : Prop := fnExactSortedByAttrRow.holds Try.pinned (OpenSpec.ofChange fnExactSortedByAttrWrong)

/-- 'laws.FnExactMinByAttr': WHATEVER THE INPUT: true; the input reads as it did. -/
def fnExactMinByAttrSpec : ChangeSpec := { name := "fnExactMinByAttr", fn := fun _ => fun
  | [d1, d2] => { results := [.lit (.bool true)], args := [d1, d2] }
  | _ => none }
def fnExactMinByAttrRow : OpenClaim := { program := "ytkjhfblipmagoaa", sum := "9b25bfa7e6280e2925d6572ba1ce2c1be00796c84445dd0f3502be707d22f79e", func := "loop.example/g00976/laws.FnExactMinByAttr", spec := "fnExactMinByAttr", unfollowed := true, recurses := true, apart := false }
def FnExactMinByAttrSaid : Prop := fnExactMinByAttrRow.holds Try.pinned (OpenSpec.ofChange fnExactMinByAttrSpec)

/-- ITS FALSE NEIGHBOUR: 'it returns false'. Refute it at one input. -/
def fnExactMinByAttrWrong : ChangeSpec := { name := "fnExactMinByAttr", fn := fun _ => fun
  | [d1, d2] => { results := [.lit (.bool false)], args := [d1, d2] }
  | _ => none }
def FnExactMinByAttrWrongFalsely : Prop := fnExactMinByAttrRow.holds Try.pinned (OpenSpec.ofChange fnExactMinByAttrWrong)

/-- 'laws.FnExactRangeByAttr': WHATEVER THE INPUT: true; the input reads as it did. -/
def fnExactRangeByAttrSpec : ChangeSpec := { name := "fnExactRangeByAttr", fn := fun _ => fun
  | [d1, d2, d3, d4] => { results := [.lit (.bool true)], args := [d1, d2, d3, d4] }
  | _ => none }
def fnExactRangeByAttrRow : OpenClaim := { program := "ytkjhfblipmagoaa", sum := "9b25bfa7e6280e2925d6572ba1ce2c1be00796c84445dd0f3502be707d22f79e", func := "loop.example/g00976/laws.FnExactRangeByAttr", spec := "fnExactRangeByAttr", unfollowed := true, recurses := true, apart := false }
def FnExactRangeByAttrSaid : Prop := fnExactRangeByAttrRow.holds Try.pinned (OpenSpec.ofChange fnExactRangeByAttrSpec)

/-- ITS FALSE NEIGHBOUR: 'it returns false'. Refute it at one input. -/
def fnExactRangeByAttrWrong : ChangeSpec := { name := "fnExactRangeByAttr", fn := fun _ => fun
  | [d1, d2, d3, d4] => { results := [.lit (.bool false)], args := [d1, d2, d3, d4] }
  | _ => none }
def FnExactRangeByAttrWrongFalsely : Prop := fnExactRangeByAttrRow.holds Try.pinned (OpenSpec.ofChange fnExactRangeByAttrWrong)

/- THE SECOND FORM. 'bulk': how many values and letters a reading holds, each counted each time it is reached (what is shared counts as often as it is met; a slice's spare places count too). A statement '..UptoSaid' is the law's where the arguments, and the package variables that the reading takes, are together of bulk at most 1048576: NARROWER than '..Said'. Prove '..Said' where nothing that the law and all that it calls make is longer than what came in: it says more and counts as full. Else prove '..UptoSaid'. A law counts once. -/
mutual
def uptoBulk {H : Type} : DataW H → Nat
  | .lit (.string bytes) => bytes.length + 1
  | .lit _ => 1
  | .nil => 1
  | .ptr d => uptoBulk d + 1
  | .slice elems spare => uptoBulkAll elems + uptoBulkAll spare + 1
  | .agg parts => uptoBulkAll parts + 1
  | .iface _ d => uptoBulk d + 1
  | .map entries => uptoBulkEntries entries + 1
  | .held _ => 1
def uptoBulkAll {H : Type} : List (DataW H) → Nat
  | [] => 0
  | d :: r => uptoBulk d + uptoBulkAll r
def uptoBulkEntries {H : Type} : List (Lit × DataW H) → Nat
  | [] => 0
  | x :: r => uptoBulkEntry x + uptoBulkEntries r
def uptoBulkEntry {H : Type} : Lit × DataW H → Nat
  | (.string bytes, d) => bytes.length + uptoBulk d + 1
  | (_, d) => uptoBulk d + 1
 end
def uptoSmall : (H : Type) → List (DataW H) → Bool := fun _ ds => decide (uptoBulkAll ds ≤ 1048576)
def OpenSpec.upto (s : _root_.Go.ChangeSpec) : _root_.Go.OpenSpec := { _root_.Go.OpenSpec.ofChange s with cond := some uptoSmall }

/-- 'laws.FnExactEqualForUser', WHERE WHAT IT READS IS OF BULK AT MOST 1048576: true; the input reads as it did. -/
def fnExactEqualForUserUptoRow : OpenClaim := { program := "ytkjhfblipmagoaa", sum := "9b25bfa7e6280e2925d6572ba1ce2c1be00796c84445dd0f3502be707d22f79e", func := "loop.example/g00976/laws.FnExactEqualForUser", spec := "fnExactEqualForUser", unfollowed := true, recurses := true, apart := false, narrowed := true }
def FnExactEqualForUserUptoSaid : Prop := fnExactEqualForUserUptoRow.holds Try.pinned (OpenSpec.upto fnExactEqualForUserSpec)

/-- 'laws.FnExactRemoveFromIndex', WHERE WHAT IT READS IS OF BULK AT MOST 1048576: true; the input reads as it did. -/
def fnExactRemoveFromIndexUptoRow : OpenClaim := { program := "ytkjhfblipmagoaa", sum := "9b25bfa7e6280e2925d6572ba1ce2c1be00796c84445dd0f3502be707d22f79e", func := "loop.example/g00976/laws.FnExactRemoveFromIndex", spec := "fnExactRemoveFromIndex", unfollowed := true, recurses := true, apart := false, narrowed := true }
def FnExactRemoveFromIndexUptoSaid : Prop := fnExactRemoveFromIndexUptoRow.holds Try.pinned (OpenSpec.upto fnExactRemoveFromIndexSpec)

/-- 'laws.FnExactAddToIndex', WHERE WHAT IT READS IS OF BULK AT MOST 1048576: true; the input reads as it did. -/
def fnExactAddToIndexUptoRow : OpenClaim := { program := "ytkjhfblipmagoaa", sum := "9b25bfa7e6280e2925d6572ba1ce2c1be00796c84445dd0f3502be707d22f79e", func := "loop.example/g00976/laws.FnExactAddToIndex", spec := "fnExactAddToIndex", inPlace := ["slices.overlaps[loop.example/g00976/impl.Posting]", "slices.overlaps[int]"], unfollowed := true, recurses := true, apart := false, narrowed := true }
def FnExactAddToIndexUptoSaid : Prop := fnExactAddToIndexUptoRow.holds Try.pinned (OpenSpec.upto fnExactAddToIndexSpec)

/-- 'laws.FnExactBuildIndex', WHERE WHAT IT READS IS OF BULK AT MOST 1048576: true; the input reads as it did. -/
def fnExactBuildIndexUptoRow : OpenClaim := { program := "ytkjhfblipmagoaa", sum := "9b25bfa7e6280e2925d6572ba1ce2c1be00796c84445dd0f3502be707d22f79e", func := "loop.example/g00976/laws.FnExactBuildIndex", spec := "fnExactBuildIndex", inPlace := ["slices.overlaps[loop.example/g00976/impl.Posting]", "slices.overlaps[int]"], unfollowed := true, recurses := true, apart := false, narrowed := true }
def FnExactBuildIndexUptoSaid : Prop := fnExactBuildIndexUptoRow.holds Try.pinned (OpenSpec.upto fnExactBuildIndexSpec)

/-- 'laws.FnExactChangedAttrs', WHERE WHAT IT READS IS OF BULK AT MOST 1048576: true; the input reads as it did. -/
def fnExactChangedAttrsUptoRow : OpenClaim := { program := "ytkjhfblipmagoaa", sum := "9b25bfa7e6280e2925d6572ba1ce2c1be00796c84445dd0f3502be707d22f79e", func := "loop.example/g00976/laws.FnExactChangedAttrs", spec := "fnExactChangedAttrs", recurses := true, apart := false, narrowed := true }
def FnExactChangedAttrsUptoSaid : Prop := fnExactChangedAttrsUptoRow.holds Try.pinned (OpenSpec.upto fnExactChangedAttrsSpec)

/-- 'laws.FnExactSortedByAttr', WHERE WHAT IT READS IS OF BULK AT MOST 1048576: true; the input reads as it did. -/
def fnExactSortedByAttrUptoRow : OpenClaim := { program := "ytkjhfblipmagoaa", sum := "9b25bfa7e6280e2925d6572ba1ce2c1be00796c84445dd0f3502be707d22f79e", func := "loop.example/g00976/laws.FnExactSortedByAttr", spec := "fnExactSortedByAttr", unfollowed := true, recurses := true, apart := false, narrowed := true }
def FnExactSortedByAttrUptoSaid : Prop := fnExactSortedByAttrUptoRow.holds Try.pinned (OpenSpec.upto fnExactSortedByAttrSpec)

/-- 'laws.FnExactMinByAttr', WHERE WHAT IT READS IS OF BULK AT MOST 1048576: true; the input reads as it did. -/
def fnExactMinByAttrUptoRow : OpenClaim := { program := "ytkjhfblipmagoaa", sum := "9b25bfa7e6280e2925d6572ba1ce2c1be00796c84445dd0f3502be707d22f79e", func := "loop.example/g00976/laws.FnExactMinByAttr", spec := "fnExactMinByAttr", unfollowed := true, recurses := true, apart := false, narrowed := true }
def FnExactMinByAttrUptoSaid : Prop := fnExactMinByAttrUptoRow.holds Try.pinned (OpenSpec.upto fnExactMinByAttrSpec)

/-- 'laws.FnExactRangeByAttr', WHERE WHAT IT READS IS OF BULK AT MOST 1048576: true; the input reads as it did. -/
def fnExactRangeByAttrUptoRow : OpenClaim := { program := "ytkjhfblipmagoaa", sum := "9b25bfa7e6280e2925d6572ba1ce2c1be00796c84445dd0f3502be707d22f79e", func := "loop.example/g00976/laws.FnExactRangeByAttr", spec := "fnExactRangeByAttr", unfollowed := true, recurses := true, apart := false, narrowed := true }
def FnExactRangeByAttrUptoSaid : Prop := fnExactRangeByAttrUptoRow.holds Try.pinned (OpenSpec.upto fnExactRangeByAttrSpec)

end Rows
end Go.Proofs.Ytkjhfblipmagoaa
