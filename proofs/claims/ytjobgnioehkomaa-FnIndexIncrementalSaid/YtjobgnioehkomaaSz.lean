/-
  WHAT A SIZE THAT FITS SAYS OF THE PARTS: plain lemmas.
-/
import Derived.WalkKit
import Derived.Lib.Hide
import Derived.Test.YtjobgnioehkomaaLib
import Derived.Test.YtjobgnioehkomaaOwn
import Derived.Test.YtjobgnioehkomaaC1
import Derived.Test.YtjobgnioehkomaaC2
import Derived.Test.YtjobgnioehkomaaT1
import Derived.Test.YtjobgnioehkomaaT2
import Derived.Test.YtjobgnioehkomaaT3
import Derived.Test.YtjobgnioehkomaaT4
import Derived.Test.YtjobgnioehkomaaT5
import Derived.Test.YtjobgnioehkomaaRows
namespace Go.Proofs.Ytjobgnioehkomaa
open Go.RowKit
set_option linter.unusedVariables false
/-- marks the condition that a region's rounds carry -/
def Tok (_ : World) : Prop := True
theorem szS_len_le {α : Type} {f : α → Int} {l : List α} (h0 : ∀ x, 0 ≤ f x) : (l.length : Int) ≤ szS f l := by
  have h1 := sumTo_mono (l := l) h0 l.length 0 (by omega)
  rw [sumTo_zero, Nat.zero_add] at h1
  unfold szS; omega
theorem szS_mem {α : Type} {f : α → Int} {l : List α} (h0 : ∀ x, 0 ≤ f x) {y : α} (hy : y ∈ l) : f y ≤ szS f l := by
  obtain ⟨i, hi, rfl⟩ := List.getElem_of_mem hy
  have h1 := sumTo_succ f hi
  have h2 := sumTo_mono (l := l) h0 i 0 (by omega)
  have h3 := sumTo_mono (l := l) h0 (l.length - (i + 1)) (i + 1) (by omega)
  rw [sumTo_zero, Nat.zero_add] at h2
  rw [show i + 1 + (l.length - (i + 1)) = l.length from by omega] at h3
  unfold szS; omega
theorem Vl.okB {v : Vl} (h : v.sz ≤ 1048576) : v.str.size ≤ 1073741824 := by unfold Vl.sz at h; omega
theorem Fld.okB {f : Fld} (h : f.sz ≤ 1048576) : f.ok 1073741824 := by unfold Fld.sz at h; unfold Fld.ok; omega
theorem flds_okB {l : List Fld} (h : szS Fld.sz l ≤ 1048576) : l.length ≤ 1048576 ∧ ∀ y ∈ l, y.ok 1073741824 :=
  ⟨by have := szS_len_le (l := l) Fld.sz_nn; omega, fun y hy => Fld.okB (by have := szS_mem Fld.sz_nn hy; omega)⟩
end Go.Proofs.Ytjobgnioehkomaa
