/-
  CONTRACTS: a file is valid; sums.
-/
import Derived.WalkKit
import Derived.WalkSpells
import Derived.WalkLawsBesides
import Derived.Lib.Hide
import Derived.Handy
import Derived.StillTailTactics
import Derived.Deep.Light
import Derived.Deep.QuietTactic
import Derived.BigQuiet
import Derived.Deep.RegionHeld3
import Derived.Test.YtkjhfblipmagoaaLib
import Derived.Test.YtkjhfblipmagoaaHld
import Derived.Test.YtkjhfblipmagoaaOwn
import Derived.Test.YtkjhfblipmagoaaC1
import Derived.Test.YtkjhfblipmagoaaC2
import Derived.Test.YtkjhfblipmagoaaT1
import Derived.Test.YtkjhfblipmagoaaT2
import Derived.Test.YtkjhfblipmagoaaT3
import Derived.Test.YtkjhfblipmagoaaC3
import Derived.Test.YtkjhfblipmagoaaC4
import Derived.Test.YtkjhfblipmagoaaC5
import Derived.Test.YtkjhfblipmagoaaSz
import Derived.Test.YtkjhfblipmagoaaRows
namespace Go.Proofs.Ytkjhfblipmagoaa
open Go.RowKit
set_option linter.unusedVariables false
set_option maxRecDepth 100000
noncomputable def attrBad (s : List Fld) (l : List Atr) (k : Nat) : Bool :=
  if h : k < l.length then (decide (0 < k) && !Op.bytesLess (l[k - 1]'(by omega)).name.toList l[k].name.toList) || !matchF s l[k].name l[k].val else false
def goodA (s : List Fld) (l : List Atr) (k : Nat) : Prop := ∀ i, i < k → attrBad s l i = false
open Classical in
noncomputable def validA (s : List Fld) (l : List Atr) : Bool := decide (goodA s l l.length)
theorem goodA_zero (s : List Fld) (l : List Atr) : goodA s l 0 := fun i h => by omega
theorem goodA_succ {s : List Fld} {l : List Atr} {k : Nat} (h : goodA s l k) (hk : attrBad s l k = false) : goodA s l (k + 1) := fun i hi => by
  by_cases e : i = k
  · rw [e]; exact hk
  · exact h i (by omega)
theorem validA_bad {s : List Fld} {l : List Atr} {k : Nat} (hk : k < l.length) (h : attrBad s l k = true) : validA s l = false := by
  classical
  simp only [validA, decide_eq_false_iff_not]
  intro hg
  rw [hg k hk] at h
  cases h
theorem validA_all {s : List Fld} {l : List Atr} (h : goodA s l l.length) : validA s l = true := by
  classical
  simpa only [validA, decide_eq_true_eq] using h
noncomputable def validF (s : List Fld) (f : Fil) : Bool := validA s f.attrs && (inB f.id 1 60 && inB f.owner 0 2 && inB f.link 0 60 && okSchema s)
end Go.Proofs.Ytkjhfblipmagoaa
