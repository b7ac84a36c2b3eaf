/-
  CONTRACTS: RemoveField, NewStore, LookupIndex.
-/
import Derived.WalkKit
import Derived.WalkSpells
import Derived.WalkLawsBesides
import Derived.Lib.Hide
import Derived.Handy
import Derived.StillTailTactics
import Derived.Deep.Light
import Derived.Deep.QuietTactic
import Derived.BigQuiet
import Derived.Deep.RegionHeld3
import Derived.Test.YtjobgnioehkomaaLib
import Derived.Test.YtjobgnioehkomaaOwn
import Derived.Test.YtjobgnioehkomaaRow
import Derived.Test.YtjobgnioehkomaaHld
import Derived.Test.YtjobgnioehkomaaM0
import Derived.Test.YtjobgnioehkomaaC1
import Derived.Test.YtjobgnioehkomaaC2
import Derived.Test.YtjobgnioehkomaaT1
import Derived.Test.YtjobgnioehkomaaT2
import Derived.Test.YtjobgnioehkomaaT3
import Derived.Test.YtjobgnioehkomaaT4
import Derived.Test.YtjobgnioehkomaaC3
import Derived.Test.YtjobgnioehkomaaC4
import Derived.Test.YtjobgnioehkomaaC5
import Derived.Test.YtjobgnioehkomaaD1
import Derived.Test.YtjobgnioehkomaaD3
import Derived.Test.YtjobgnioehkomaaRows
namespace Go.Proofs.Ytjobgnioehkomaa
open Go.RowKit
set_option linter.unusedVariables false
set_option maxRecDepth 100000
noncomputable def remOk (l : List Fld) (nm : ByteArray) : Bool := okSchema l && l.any fun x => eqS x.name nm
noncomputable def remF (l : List Fld) (nm : ByteArray) : List Fld := if remOk l nm then l.filter fun x => !eqS x.name nm else l
theorem remF_len (l : List Fld) (nm : ByteArray) : (remF l nm).length ≤ l.length := by
  unfold remF; split
  · exact List.length_filter_le _ _
  · exact Nat.le_refl _
theorem okSchema_kind {l : List Fld} (h : okSchema l = true) : ∀ x ∈ l, x.kind ≠ 0 := by
  intro x hx h0
  obtain ⟨i, hi, rfl⟩ := List.getElem_of_mem hx
  unfold okSchema at h
  split at h
  · rename_i hall
    have hb := hall i hi
    rcases Nat.eq_zero_or_pos i with rfl | hp
    · rw [badAt_zero hi, h0] at hb; simp at hb
    · rw [badAt_pos hp hi, h0] at hb; simp at hb
  · cases h
theorem fldKind_any {l : List Fld} (h : okSchema l = true) (nm : ByteArray) : (fldKind l nm == 0) = !(l.any fun x => eqS x.name nm) := by
  unfold fldKind
  cases hf : l.find? fun f => eqS f.name nm with
  | none =>
    have h1 : (l.any fun x => eqS x.name nm) = false := by
      rw [List.any_eq_false]
      exact fun x hx => by have := List.find?_eq_none.1 hf x hx; simpa using this
    rw [h1]; rfl
  | some f =>
    have h1 := List.find?_some hf
    have hm := List.mem_of_find?_eq_some hf
    have h2 : (l.any fun x => eqS x.name nm) = true := List.any_eq_true.2 ⟨f, hm, h1⟩
    have h3 := okSchema_kind h f hm
    rw [h2]
    simpa using h3
end Go.Proofs.Ytjobgnioehkomaa
