/-
  CONTRACTS: draws of the laws over values.
-/
import Derived.WalkKit
import Derived.WalkSpells
import Derived.WalkLawsBesides
import Derived.Lib.Hide
import Derived.Handy
import Derived.StillTailTactics
import Derived.Deep.Light
import Derived.Deep.QuietTactic
import Derived.BigQuiet
import Derived.Deep.RegionHeld3
import Derived.Deep.DeepCutAuto
import Derived.Test.YtjobgnioehkomaaLib
import Derived.Test.YtjobgnioehkomaaOwn
import Derived.Test.YtjobgnioehkomaaRow
import Derived.Test.YtjobgnioehkomaaN0
import Derived.Test.YtjobgnioehkomaaHld
import Derived.Test.YtjobgnioehkomaaSz
import Derived.Test.YtjobgnioehkomaaC1
import Derived.Test.YtjobgnioehkomaaC2
import Derived.Test.YtjobgnioehkomaaC4
import Derived.Test.YtjobgnioehkomaaD1
import Derived.Test.YtjobgnioehkomaaY1
import Derived.Test.YtjobgnioehkomaaY2
import Derived.Test.YtjobgnioehkomaaRows
namespace Go.Proofs.Ytjobgnioehkomaa
open Go.RowKit
set_option linter.unusedVariables false
set_option maxRecDepth 100000
theorem laws_big_f (A : Option Addr) (n c : Nat) (w : World) (h : n ≤ 1048576) : Calls Try.prog 9 #[.slice A n c] w fun e w' => e = .returned (.bool false) ∧ w = w' := by
  have i1 : ¬ ((1048576 : Int) < (n : Int)) := by omega
  have i2 : decide ((1048576 : Int) < (n : Int)) = false := by simp; omega
  go_enter Try.func9, Try.ntmps9
  go_wp2_with fail
  go_ret
  exact ⟨rfl, rfl⟩
theorem laws_big_t (A : Option Addr) (n c : Nat) (w : World) (h : 1048576 < n) : Calls Try.prog 9 #[.slice A n c] w fun e w' => e = .returned (.bool true) ∧ w = w' := by
  have i1 : (1048576 : Int) < (n : Int) := by omega
  have i2 : decide ((1048576 : Int) < (n : Int)) = true := by simp; omega
  go_enter Try.func9, Try.ntmps9
  go_wp2_with fail
  go_ret
  exact ⟨rfl, rfl⟩
end Go.Proofs.Ytjobgnioehkomaa
