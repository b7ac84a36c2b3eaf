/-
  PLAIN: one attribute set twice; two attributes set.
-/
import Derived.WalkKit
import Derived.Lib.Hide
import Derived.Test.YtjobgnioehkomaaLib
import Derived.Test.YtjobgnioehkomaaC1
import Derived.Test.YtjobgnioehkomaaC2
import Derived.Test.YtjobgnioehkomaaC4
import Derived.Test.YtjobgnioehkomaaT2
import Derived.Test.YtjobgnioehkomaaD7
import Derived.Test.YtjobgnioehkomaaD8
namespace Go.Proofs.Ytjobgnioehkomaa
open Go.RowKit
set_option linter.unusedVariables false
def sF : Fil := ⟨1, 0, false, 0, []⟩
def nA : ByteArray := ⟨#[97]⟩
def nB : ByteArray := ⟨#[98]⟩
theorem n_aa : eqS nA nA = true := eqS_self _
theorem n_bb : eqS nB nB = true := eqS_self _
theorem n_ab : eqS nA nB = false := by decide +kernel
theorem n_ba : eqS nB nA = false := by decide +kernel
theorem n_lt : Op.bytesLess nA.toList nB.toList = true := by decide +kernel
theorem n_gt : Op.bytesLess nB.toList nA.toList = false := by decide +kernel
theorem intV_k (x : Int) : ((intV x).kind == 0) = false := rfl
theorem tw_one (nm : ByteArray) (x : Int) : setA sF nm (intV x) = ⟨1, 0, false, 0, [⟨nm, intV x⟩]⟩ := by
  unfold setA setL dropA insL sF; simp [intV_k]
theorem tw_x (x y : Int) : (setA (setA sF nA (intV x)) nA (intV y)) = ⟨1, 0, false, 0, [⟨nA, intV y⟩]⟩ := by
  rw [tw_one]; unfold setA setL dropA insL; simp [intV_k, n_aa]
theorem tw_y (x y : Int) : (setA (setA sF nA (intV x)) nB (intV y)) = ⟨1, 0, false, 0, [⟨nA, intV x⟩, ⟨nB, intV y⟩]⟩ := by
  rw [tw_one]; unfold setA setL dropA insL; simp [intV_k, n_ab, List.findIdx_cons, gtA, n_gt]
theorem tw_z (x y : Int) : (setA (setA sF nB (intV y)) nA (intV x)) = ⟨1, 0, false, 0, [⟨nA, intV x⟩, ⟨nB, intV y⟩]⟩ := by
  rw [tw_one]; unfold setA setL dropA insL; simp [intV_k, n_ba, List.findIdx_cons, gtA, n_lt]
theorem tw_0 (x y : Int) : (setA ⟨1, 0, false, 0, [⟨nA, intV x⟩, ⟨nB, intV y⟩]⟩ nA Vl.zero) = ⟨1, 0, false, 0, [⟨nB, intV y⟩]⟩ := by
  unfold setA setL dropA Vl.zero; simp [n_aa, n_ba]
theorem tw_g (y : Int) : getA [⟨nA, intV y⟩] nA = intV y := by
  unfold getA; simp [n_aa]
end Go.Proofs.Ytjobgnioehkomaa
