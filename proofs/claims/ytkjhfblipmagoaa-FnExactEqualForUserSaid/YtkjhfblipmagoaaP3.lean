/-
  PLAIN: bounds on the store that a user sees.
-/
import Derived.WalkKit
import Derived.Lib.Hide
import Derived.Test.YtkjhfblipmagoaaLib
import Derived.Test.YtkjhfblipmagoaaT3
import Derived.Test.YtkjhfblipmagoaaC4
import Derived.Test.YtkjhfblipmagoaaE4
import Derived.Test.YtkjhfblipmagoaaV1
namespace Go.Proofs.Ytkjhfblipmagoaa
open Go.RowKit
set_option linter.unusedVariables false
theorem fixF_attrs (fs : List Fil) (f : Fil) : (fixF fs f).attrs = f.attrs := by unfold fixF; split <;> rfl
theorem visS_ok {s : Sto} {u : Int} {M : Nat} (h : s.ok M) : (visS s u).ok M := by
  refine ⟨h.1, h.2.1, ?_, fun g hg => ?_⟩
  · show ((visF s u).map _).length ≤ M
    rw [List.length_map]
    exact Nat.le_trans (List.length_filter_le _ _) h.2.2.1
  · obtain ⟨f, hf, rfl⟩ := List.mem_map.1 hg
    have hf2 : f ∈ s.files := (List.mem_filter.1 hf).1
    have := h.2.2.2 f hf2
    unfold Fil.ok at this ⊢
    rw [fixF_attrs]; exact this
theorem sum_sub' : ∀ {a b : List Nat}, a.Sublist b → a.sum ≤ b.sum
  | _, _, .slnil => Nat.le_refl _
  | _, _, .cons x h => by have := sum_sub' h; simp only [List.sum_cons]; omega
  | _, _, .cons_cons x h => by have := sum_sub' h; simp only [List.sum_cons]; omega
theorem visS_cnt (s : Sto) (u : Int) : ((visS s u).files.map (·.attrs.length)).sum ≤ (s.files.map (·.attrs.length)).sum := by
  have e : (visS s u).files.map (·.attrs.length) = (visF s u).map (·.attrs.length) := by
    show ((visF s u).map _).map _ = _
    rw [List.map_map]
    apply List.map_congr_left
    intro f _
    simp only [Function.comp, fixF_attrs]
  rw [e]
  exact sum_sub' ((List.filter_sublist (l := s.files)).map _)
theorem visS_len (s : Sto) (u : Int) : (visS s u).schema.length = s.schema.length ∧ (visS s u).files.length ≤ s.files.length := by
  refine ⟨rfl, ?_⟩
  show ((visF s u).map _).length ≤ _
  rw [List.length_map]
  exact List.length_filter_le _ _
end Go.Proofs.Ytkjhfblipmagoaa
