/-
  PLAIN: bounds on the store that is left.
-/
import Derived.WalkKit
import Derived.Lib.Hide
import Derived.Test.YtoceoakpnlohiaaLib
import Derived.Test.YtoceoakpnlohiaaE3
import Derived.Test.YtoceoakpnlohiaaE4
import Derived.Test.YtoceoakpnlohiaaE6
import Derived.Test.YtoceoakpnlohiaaE9
namespace Go.Proofs.Ytoceoakpnlohiaa
open Go.RowKit
set_option linter.unusedVariables false
theorem delS_sub (s : Sto) (id : Int) : (delS s id).files.Sublist s.files ∧ (delS s id).schema = s.schema := by
  unfold delS
  split
  · exact ⟨del_sub _ _, rfl⟩
  · exact ⟨List.Sublist.refl _, rfl⟩
theorem delS_ok {s : Sto} {id : Int} {M : Nat} (h : s.ok M) : (delS s id).ok M := by
  obtain ⟨h1, h2⟩ := delS_sub s id
  exact ⟨by rw [h2]; exact h.1, by rw [h2]; exact h.2.1, Nat.le_trans h1.length_le h.2.2.1, fun g hg => h.2.2.2 g (h1.subset hg)⟩
theorem sum_sub : ∀ {a b : List Nat}, a.Sublist b → a.sum ≤ b.sum
  | _, _, .slnil => Nat.le_refl _
  | _, _, .cons x h => by have := sum_sub h; simp only [List.sum_cons]; omega
  | _, _, .cons_cons x h => by have := sum_sub h; simp only [List.sum_cons]; omega
theorem delS_cnt (s : Sto) (id : Int) : ((delS s id).files.map (·.attrs.length)).sum ≤ (s.files.map (·.attrs.length)).sum := sum_sub ((delS_sub s id).1.map _)
theorem delS_len (s : Sto) (id : Int) : (delS s id).schema.length = s.schema.length ∧ (delS s id).files.length ≤ s.files.length := by
  obtain ⟨h1, h2⟩ := delS_sub s id
  exact ⟨by rw [h2], h1.length_le⟩
end Go.Proofs.Ytoceoakpnlohiaa
