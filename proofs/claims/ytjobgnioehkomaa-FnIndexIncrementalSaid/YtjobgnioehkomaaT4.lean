/-
  CONTRACTS: the statements' own conversions (toX), sizes (szX) and comparisons (eqX): numbers and postings.
-/
import Derived.WalkKit
import Derived.WalkSpells
import Derived.WalkLawsBesides
import Derived.Lib.Hide
import Derived.Handy
import Derived.StillTailTactics
import Derived.Deep.Light
import Derived.Deep.QuietTactic
import Derived.BigQuiet
import Derived.Test.YtjobgnioehkomaaLib
import Derived.Test.YtjobgnioehkomaaOwn
import Derived.Test.YtjobgnioehkomaaC1
import Derived.Test.YtjobgnioehkomaaC2
import Derived.Test.YtjobgnioehkomaaT1
import Derived.Test.YtjobgnioehkomaaT2
import Derived.Test.YtjobgnioehkomaaRows
namespace Go.Proofs.Ytjobgnioehkomaa
open Go.RowKit
set_option linter.unusedVariables false
set_option maxRecDepth 100000
theorem info_int : (Try.prog.info? 3).map (fun i => (i.zero, i.size, i.bytes)) = some (some (.int .i64 0), 1, 8) := by kernel_rfl
def eqI (a b : Int) : Bool := a == b
def Pst.sz (p : Pst) : Int := p.name.size + p.val.str.size + p.ids.length
theorem Pst.sz_nn (p : Pst) : 0 ≤ p.sz := by unfold Pst.sz; omega
def Pst.eqb (a b : Pst) : Bool := (eqS a.name b.name && a.val.eqb b.val) && eqL (fun a b => a == b) a.ids b.ids
theorem Pst.eqb_iff {a b : Pst} : a.eqb b = true ↔ a = b := by
  cases a; cases b; simp [Pst.eqb, eqS_iff, Vl.eqb_iff, eqL_iff (fun (a b : Int) => beq_iff_eq), and_assoc]
abbrev Pst.v (p : Pst) (A : Option Addr) (n c : Nat) : Value := .agg #[.string p.name, .int .i64 p.val.kind, .int .i64 p.val.int, .string p.val.str, .slice A n c]
theorem info_Posting : (Try.prog.info? 107).map (fun i => (i.zero, i.size, i.bytes)) = some (some (.agg #[.string ByteArray.empty, .int .i64 0, .int .i64 0, .string ByteArray.empty, .slice none 0 0]), 5, 72) := by kernel_rfl
end Go.Proofs.Ytjobgnioehkomaa
