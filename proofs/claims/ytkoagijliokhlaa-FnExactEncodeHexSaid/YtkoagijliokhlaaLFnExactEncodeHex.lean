/-
  FnExactEncodeHex RETURNS true AND LEAVES ITS ARGUMENTS AS THEY WERE, FOR EVERY INPUT THAT THE STATEMENT SPEAKS OF. No condition.
-/
import Derived.WalkKit
import Derived.ProofKit
import Derived.OpenShut
import Derived.Handy
import Derived.Lib.Hide
import Derived.Deep.QuietTactic
import Derived.BigQuiet
import Derived.Deep.RegionHeld3
import Derived.Deep.DeepCutAuto
import Derived.Test.YtkoagijliokhlaaLib
import Derived.Test.YtkoagijliokhlaaOp
import Derived.Test.YtkoagijliokhlaaC1
import Derived.Test.YtkoagijliokhlaaC2
import Derived.Test.YtkoagijliokhlaaOwn
import Derived.Test.YtkoagijliokhlaaRow
import Derived.Test.YtkoagijliokhlaaHld
import Derived.Test.YtkoagijliokhlaaD1
import Derived.Test.YtkoagijliokhlaaSz
import Derived.Test.YtkoagijliokhlaaX0
import Derived.Test.YtkoagijliokhlaaX1
import Derived.Test.YtkoagijliokhlaaX2
import Derived.Test.YtkoagijliokhlaaX3
import Derived.Test.YtkoagijliokhlaaRows
namespace Go.Proofs.Ytkoagijliokhlaa
open Go.RowKit Go.ChangeShapes Go.WideShapes Go.ChangeAt Go.ChangeMaps
set_option linter.unusedVariables false
set_option maxRecDepth 100000

theorem walk_FnExactEncodeHex (s0 : ByteArray) (hs0 : s0.size ≤ maxLen) (W : World) : Calls Try.prog 3 #[.string s0] W fun e w' => e = .returned (.bool true) ∧ Below W.heap.size W w' := by
  by_cases hc : s0.size ≤ 1048576
  · have i1 : ¬ ((1048576 : Int) < (s0.size : Int)) := by omega
    have hS := Lib.hid fun w' => spec_EncodeHex s0 hc w'
    have hI := Lib.hid fun w' => impl_EncodeHex s0 hc w'
    generalize ehS s0 = r at *
    generalize ehB s0 = b at *
    have q1 : (r.toList != r.toList) = false := by simp
    have q2 : (b != b) = false := by simp
    go_enter Try.func3, Try.ntmps3
    go_wp2_with fail
    refine (hS.out _).mono ?_; rintro e w1 ⟨rfl, hb1⟩
    go_wp2_with fail
    refine (hI.out _).mono ?_; rintro e w2 ⟨rfl, hb2⟩
    go_wp2_with fail
    go_returns
    exact ⟨rfl, ex_trans hb1 hb2⟩
  · have i1 : (1048576 : Int) < (s0.size : Int) := by omega
    go_enter Try.func3, Try.ntmps3
    go_wp2_with fail
    go_returns
    exact ⟨rfl, Below.refl _ _⟩
theorem core_FnExactEncodeHex {H : Type} (enc : TypeId × Value → H) (W : World) (base : Nat) (args : Array Value) (ds : List (DataW H)) (p : List MemPlace)
    (hA : DataW.TrodAll enc Try.prog W 0 (fun _ => true) true Try.f3.params.toList args.toList ds p)
    (hval : ∀ (j : Nat) t v, Try.f3.params[j]? = some t → args[j]? = some v → Value.okWide Try.prog W .any base t v) :
    Calls Try.prog 3 args W fun e W' => e = .returned (.bool true) ∧ Below W.heap.size W W' := by
  rw [Try.params3] at hA hval
  obtain ⟨u0, vs0, d0, ds0, p0, q0, hargs, rfl, rfl, h0, r0⟩ := trodAll_cons hA
  obtain ⟨rfl, rfl, rfl⟩ := trodAll_nil r0
  obtain rfl : args = #[u0] := by cases args; simp_all
  obtain ⟨s0, rfl, _, _, hs0⟩ := open_string Try.underlying9 (hval 0 9 u0 rfl rfl) h0
  exact walk_FnExactEncodeHex s0 hs0 W
set_option maxRecDepth 100000 in
theorem lifted_FnExactEncodeHex (os : Os) (started : os.Started) (H : Type) (enc : TypeId × Value → H) :
    ReturnsInHanded {} Try.checked os 3 .any (Rows.fnExactEncodeHexSpec.pre6 enc Try.prog Try.f3 Rows.fnExactEncodeHexRow.domain false) (Rows.fnExactEncodeHexSpec.post enc Try.prog Try.f3 false true false false) :=
  law_lifted (C := Try.checked) (tb := 4) (n := 1) own started (by kernel_rfl) Try.func3 rfl (by kernel_rfl) Try.underlying4 (by kernel_rfl)
    (fun ds h => by match ds, h with | [_], _ => rfl) laidOut' (by kernel_rfl)
    (ChangeSpec.witness6 (enc := enc) (C := Try.checked) false ⟨#[], #[.string ByteArray.empty], []⟩ 8 (by kernel_rfl) (by kernel_rfl) (by kernel_rfl) (by kernel_rfl))
    (fun W base args ds p hA hval => core_FnExactEncodeHex enc W base args ds p hA hval)
theorem holds_FnExactEncodeHex : Rows.FnExactEncodeHexSaid :=
  OpenClaim.holds_of_wide 3 Try.f3 rfl rfl rfl rfl rfl rfl rfl ⟨rfl, rfl, rfl, rfl, rfl⟩ rfl rfl rfl rfl rfl (by kernel_rfl) Try.func3 (by kernel_rfl)
    (of_decide_eq_true (by kernel_rfl)) (by unfold Func.isWrapper; first | (rw [if_pos (by decide +kernel)]; kernel_rfl) | (rw [if_neg (by decide +kernel)]; exact ⟨rfl, rfl⟩))
    (fun os started H enc _ => lifted_FnExactEncodeHex os started H enc)
end Go.Proofs.Ytkoagijliokhlaa
