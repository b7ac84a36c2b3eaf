/-
  CONTRACTS: a file's attributes set, one and two.
-/
import Derived.WalkKit
import Derived.WalkSpells
import Derived.WalkLawsBesides
import Derived.Lib.Hide
import Derived.Handy
import Derived.Test.YtjobgnioehkomaaLib
import Derived.Test.YtjobgnioehkomaaOwn
import Derived.Test.YtjobgnioehkomaaRow
import Derived.Test.YtjobgnioehkomaaN0
import Derived.Test.YtjobgnioehkomaaHld
import Derived.Test.YtjobgnioehkomaaC1
import Derived.Test.YtjobgnioehkomaaC2
import Derived.Test.YtjobgnioehkomaaC4
import Derived.Test.YtjobgnioehkomaaT2
import Derived.Test.YtjobgnioehkomaaD1
import Derived.Test.YtjobgnioehkomaaD7
import Derived.Test.YtjobgnioehkomaaE4
import Derived.Test.YtjobgnioehkomaaD8
import Derived.Test.YtjobgnioehkomaaY9
import Derived.Test.YtjobgnioehkomaaS1
import Derived.Test.YtjobgnioehkomaaRows
namespace Go.Proofs.Ytjobgnioehkomaa
open Go.RowKit
set_option linter.unusedVariables false
theorem set_one (nm : ByteArray) (x : Int) (w : World) : Calls Try.prog 12 #[.agg #[.int .i64 1, .int .i64 0, .bool false, .int .i64 0, .slice none 0 0], .string nm, .agg #[.int .i64 (intV x).kind, .int .i64 (intV x).int, .string (intV x).str]] w fun e w' =>
    ∃ A c, e = .returned (.agg #[.int .i64 1, .int .i64 0, .bool false, .int .i64 0, .slice A 1 c]) ∧ FRow 84 4 eAtr w' w.heap.size A 1 c [⟨nm, intV x⟩] ∧ Below w.heap.size w w' := by
  have h := impl_SetAttr sF none 0 0 nm (intV x) w Sl.nil (by decide)
  rw [tw_one] at h
  exact h
theorem set_two (n1 n2 : ByteArray) (x y : Int) (l : List Atr) (n : Nat) (A : Option Addr) (c : Nat) (w : World) (h2 : setA (setA sF n1 (intV x)) n2 (intV y) = ⟨1, 0, false, 0, l⟩) (hn : l.length = n) (hS : Sl 4 RAtr w A 1 [⟨n1, intV x⟩]) :
    Calls Try.prog 12 #[.agg #[.int .i64 1, .int .i64 0, .bool false, .int .i64 0, .slice A 1 c], .string n2, .agg #[.int .i64 (intV y).kind, .int .i64 (intV y).int, .string (intV y).str]] w fun e w' =>
    ∃ A c, e = .returned (.agg #[.int .i64 1, .int .i64 0, .bool false, .int .i64 0, .slice A n c]) ∧ FRow 84 4 eAtr w' w.heap.size A n c l ∧ Below w.heap.size w w' := by
  subst hn
  rw [tw_one] at h2
  have h := impl_SetAttr ⟨1, 0, false, 0, [⟨n1, intV x⟩]⟩ A 1 c n2 (intV y) w hS (by decide)
  rw [h2] at h
  exact h
theorem set_zero (x y : Int) (A : Option Addr) (c : Nat) (w : World) (hS : Sl 4 RAtr w A 2 [⟨nA, intV x⟩, ⟨nB, intV y⟩]) :
    Calls Try.prog 12 #[.agg #[.int .i64 1, .int .i64 0, .bool false, .int .i64 0, .slice A 2 c], .string nA, .agg #[.int .i64 0, .int .i64 0, .string ByteArray.empty]] w fun e w' =>
    ∃ A c, e = .returned (.agg #[.int .i64 1, .int .i64 0, .bool false, .int .i64 0, .slice A 1 c]) ∧ FRow 84 4 eAtr w' w.heap.size A 1 c [⟨nB, intV y⟩] ∧ Below w.heap.size w w' := by
  have h := impl_SetAttr ⟨1, 0, false, 0, [⟨nA, intV x⟩, ⟨nB, intV y⟩]⟩ A 2 c nA Vl.zero w hS (by decide)
  rw [tw_0] at h
  exact h
theorem names_one (a : Atr) (A : Option Addr) (c : Nat) (w : World) (hS : Sl 4 RAtr w A 1 [a]) :
    Calls Try.prog 14 #[.agg #[.int .i64 1, .int .i64 0, .bool false, .int .i64 0, .slice A 1 c]] w fun e w' => ∃ A c, e = .returned (.slice A 1 c) ∧ Below w.heap.size w w' := by
  have h := impl_AttrNames ⟨1, 0, false, 0, [a]⟩ A 1 c w hS (by decide)
  exact h.mono (fun e w' ⟨A', c', h1, _, h3⟩ => ⟨A', c', h1, h3⟩)
theorem get_one (y : Int) (A : Option Addr) (c : Nat) (w : World) (hS : Sl 4 RAtr w A 1 [⟨nA, intV y⟩]) :
    Calls Try.prog 13 #[.agg #[.int .i64 1, .int .i64 0, .bool false, .int .i64 0, .slice A 1 c], .string nA] w fun e w' => e = .returned (.agg #[.int .i64 (intV y).kind, .int .i64 (intV y).int, .string (intV y).str]) ∧ Below w.heap.size w w' := by
  have h := impl_GetAttr ⟨1, 0, false, 0, [⟨nA, intV y⟩]⟩ A 1 c nA w hS (by decide)
  rw [tw_g] at h
  exact h
theorem same_two (l : List Atr) (n : Nat) (A B : Option Addr) (c d : Nat) (w : World) (hn : n ≤ 1073741824) (hS : Sl 4 RAtr w A n l) (hT : Sl 4 RAtr w B n l) :
    Calls Try.prog 15 #[.agg #[.int .i64 1, .int .i64 0, .bool false, .int .i64 0, .slice A n c], .agg #[.int .i64 1, .int .i64 0, .bool false, .int .i64 0, .slice B n d]] w fun e w' => e = .returned (.bool true) ∧ Below w.heap.size w w' := by
  have h := laws_sameFile ⟨1, 0, false, 0, l⟩ ⟨1, 0, false, 0, l⟩ A n c B n d w hS hT hn hn
  rw [Fil.eqb_iff.2 rfl] at h
  exact h
end Go.Proofs.Ytjobgnioehkomaa
