/-
  CONTRACTS: the statements' own conversions (toX), sizes (szX) and comparisons (eqX): the nodes of queries.
-/
import Derived.WalkKit
import Derived.WalkSpells
import Derived.WalkLawsBesides
import Derived.Lib.Hide
import Derived.Handy
import Derived.StillTailTactics
import Derived.Deep.Light
import Derived.Deep.QuietTactic
import Derived.BigQuiet
import Derived.Test.YtjobgnioehkomaaLib
import Derived.Test.YtjobgnioehkomaaOwn
import Derived.Test.YtjobgnioehkomaaC1
import Derived.Test.YtjobgnioehkomaaC2
import Derived.Test.YtjobgnioehkomaaT1
import Derived.Test.YtjobgnioehkomaaT2
import Derived.Test.YtjobgnioehkomaaRows
namespace Go.Proofs.Ytjobgnioehkomaa
open Go.RowKit
set_option linter.unusedVariables false
set_option maxRecDepth 100000
def Nod.sz (p : Nod) : Int := p.name.size + p.val.str.size
theorem Nod.sz_nn (p : Nod) : 0 ≤ p.sz := by unfold Nod.sz; omega
def Nod.eqb (a b : Nod) : Bool := (a.op == b.op && a.left == b.left && a.right == b.right && eqS a.name b.name) && a.val.eqb b.val
theorem Nod.eqb_iff {a b : Nod} : a.eqb b = true ↔ a = b := by
  cases a; cases b; simp [Nod.eqb, eqS_iff, Vl.eqb_iff, and_assoc]
abbrev Nod.v (x : Nod) : Value := .agg #[.int .i64 x.op, .int .i64 x.left, .int .i64 x.right, .string x.name, .int .i64 x.val.kind, .int .i64 x.val.int, .string x.val.str]
end Go.Proofs.Ytjobgnioehkomaa
