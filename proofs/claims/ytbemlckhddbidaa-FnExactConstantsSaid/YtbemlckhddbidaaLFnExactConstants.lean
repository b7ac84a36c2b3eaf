/-
  FnExactConstants RETURNS true AND LEAVES ITS ARGUMENTS AS THEY WERE, FOR EVERY INPUT THAT THE STATEMENT SPEAKS OF. No condition.
-/
import Derived.WalkKit
import Derived.ProofKit
import Derived.OpenShut
import Derived.Handy
import Derived.Lib.Hide
import Derived.Deep.QuietTactic
import Derived.BigQuiet
import Derived.Test.YtbemlckhddbidaaLib
import Derived.Test.YtbemlckhddbidaaOp
import Derived.Test.YtbemlckhddbidaaC1
import Derived.Test.YtbemlckhddbidaaRows
namespace Go.Proofs.Ytbemlckhddbidaa
open Go.RowKit Go.ChangeShapes Go.WideShapes Go.ChangeAt Go.ChangeMaps
set_option linter.unusedVariables false

theorem walk_FnExactConstants  (W : World) : Calls Try.prog 3 #[] W fun e w' => e = .returned (.bool true) ∧ Below W.heap.size W w' := by
  go_enter Try.func3, Try.ntmps3
  go_wp2
  go_returns
  exact ⟨rfl, by go_grown⟩
theorem core_FnExactConstants {H : Type} (enc : TypeId × Value → H) (W : World) (base : Nat) (args : Array Value) (ds : List (DataW H)) (p : List MemPlace)
    (hA : DataW.TrodAll enc Try.prog W 0 (fun _ => true) true Try.f3.params.toList args.toList ds p)
    (hval : ∀ (j : Nat) t v, Try.f3.params[j]? = some t → args[j]? = some v → Value.okWide Try.prog W .any base t v) :
    Calls Try.prog 3 args W fun e W' => e = .returned (.bool true) ∧ Below W.heap.size W W' := by
  rw [Try.params3] at hA hval
  obtain ⟨rfl, rfl, rfl⟩ := trodAll_none hA
  exact walk_FnExactConstants  W
set_option maxRecDepth 100000 in
theorem lifted_FnExactConstants (os : Os) (started : os.Started) (H : Type) (enc : TypeId × Value → H) :
    ReturnsInHanded {} Try.checked os 3 .any (Rows.fnExactConstantsSpec.pre6 enc Try.prog Try.f3 Rows.fnExactConstantsRow.domain false) (Rows.fnExactConstantsSpec.post enc Try.prog Try.f3 false true false false) :=
  law_lifted (C := Try.checked) (tb := 4) (n := 0) own started (by kernel_rfl) Try.func3 rfl (by kernel_rfl) Try.underlying4 (by kernel_rfl)
    (fun ds h => by match ds, h with | [], _ => rfl) laidOut' (by kernel_rfl)
    (ChangeSpec.witness6 (enc := enc) (C := Try.checked) false ⟨#[], #[], []⟩ 8 (by kernel_rfl) (by kernel_rfl) (by kernel_rfl) (by kernel_rfl))
    (fun W base args ds p hA hval => core_FnExactConstants enc W base args ds p hA hval)
theorem holds_FnExactConstants : Rows.FnExactConstantsSaid :=
  OpenClaim.holds_of_wide 3 Try.f3 rfl rfl rfl rfl rfl rfl rfl ⟨rfl, rfl, rfl, rfl, rfl⟩ rfl rfl rfl rfl rfl (by kernel_rfl) Try.func3 (by kernel_rfl)
    (of_decide_eq_true (by kernel_rfl)) (by unfold Func.isWrapper; first | (rw [if_pos (by decide +kernel)]; kernel_rfl) | (rw [if_neg (by decide +kernel)]; exact ⟨rfl, rfl⟩))
    (fun os started H enc _ => lifted_FnExactConstants os started H enc)
end Go.Proofs.Ytbemlckhddbidaa
