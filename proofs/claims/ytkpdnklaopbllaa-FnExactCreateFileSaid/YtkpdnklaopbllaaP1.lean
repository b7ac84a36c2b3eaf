/-
  PLAIN: bounds on the stores that the operations hand back.
-/
import Derived.WalkKit
import Derived.Lib.Hide
import Derived.Test.YtkpdnklaopbllaaLib
import Derived.Test.YtkpdnklaopbllaaE3
import Derived.Test.YtkpdnklaopbllaaE4
import Derived.Test.YtkpdnklaopbllaaE6
import Derived.Test.YtkpdnklaopbllaaE7
namespace Go.Proofs.Ytkpdnklaopbllaa
open Go.RowKit
set_option linter.unusedVariables false
theorem sum_set_le : ∀ (l : List Nat) (i x : Nat), (l.set i x).sum ≤ l.sum + x
  | [], i, x => by simp
  | a :: l, 0, x => by simp only [List.set_cons_zero, List.sum_cons]; omega
  | a :: l, i + 1, x => by
    have := sum_set_le l i x
    simp only [List.set_cons_succ, List.sum_cons]; omega
theorem repS_ok {s : Sto} {f : Fil} {M : Nat} (h : s.ok M) (hf : f.ok M) : (repS s f).ok M := by
  unfold repS
  split
  · refine ⟨h.1, h.2.1, by rw [List.length_set]; exact h.2.2.1, fun g hg => ?_⟩
    rcases List.mem_or_eq_of_mem_set hg with hg | rfl
    · exact h.2.2.2 g hg
    · exact hf
  · exact h
theorem repS_cnt (s : Sto) (f : Fil) : ((repS s f).files.map (·.attrs.length)).sum ≤ (s.files.map (·.attrs.length)).sum + f.attrs.length := by
  unfold repS
  split
  · rw [List.map_set]; exact sum_set_le _ _ _
  · omega
theorem repS_len (s : Sto) (f : Fil) : (repS s f).schema.length = s.schema.length ∧ (repS s f).files.length = s.files.length := by
  unfold repS
  split
  · exact ⟨rfl, by simp⟩
  · exact ⟨rfl, rfl⟩
theorem creS_ok {s : Sto} {f : Fil} {M : Nat} (h : s.ok M) (hl : s.files.length + 1 ≤ M) (hf : f.ok M) : (creS s f).ok M := by
  unfold creS
  split
  · refine ⟨h.1, h.2.1, by simp; omega, fun g hg => ?_⟩
    rcases List.mem_append.1 hg with hg | hg
    · exact h.2.2.2 g hg
    · obtain rfl : g = creF s f := by simpa using hg
      exact hf
  · exact h
theorem creS_cnt (s : Sto) (f : Fil) : ((creS s f).files.map (·.attrs.length)).sum ≤ (s.files.map (·.attrs.length)).sum + f.attrs.length := by
  unfold creS
  split
  · simp [creF]
  · omega
theorem creS_len (s : Sto) (f : Fil) : (creS s f).schema.length = s.schema.length ∧ (creS s f).files.length ≤ s.files.length + 1 := by
  unfold creS
  split
  · exact ⟨rfl, by simp⟩
  · exact ⟨rfl, by omega⟩
end Go.Proofs.Ytkpdnklaopbllaa
