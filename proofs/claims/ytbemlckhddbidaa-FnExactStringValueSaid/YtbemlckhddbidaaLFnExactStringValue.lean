/-
  FnExactStringValue RETURNS true AND LEAVES ITS ARGUMENTS AS THEY WERE, FOR EVERY INPUT THAT THE STATEMENT SPEAKS OF. No condition.
-/
import Derived.WalkKit
import Derived.ProofKit
import Derived.OpenShut
import Derived.Handy
import Derived.Lib.Hide
import Derived.Deep.QuietTactic
import Derived.BigQuiet
import Derived.Deep.RegionHeld3
import Derived.Test.YtbemlckhddbidaaLib
import Derived.Test.YtbemlckhddbidaaOp
import Derived.Test.YtbemlckhddbidaaC1
import Derived.Test.YtbemlckhddbidaaC2
import Derived.Test.YtbemlckhddbidaaRows
namespace Go.Proofs.Ytbemlckhddbidaa
open Go.RowKit Go.ChangeShapes Go.WideShapes Go.ChangeAt Go.ChangeMaps
set_option linter.unusedVariables false

theorem walk_FnExactStringValue (s0 : ByteArray) (hs0 : s0.size ≤ maxLen) (W : World) : Calls Try.prog 7 #[.string s0] W fun e w' => e = .returned (.bool true) ∧ Below W.heap.size W w' := by
  unfold maxLen at hs0
  by_cases h : s0.size ≤ 1048576
  · have h' : (s0.size : Int) ≤ 1048576 := by omega
    go_enter Try.func7, Try.ntmps7
    go_wp2_with fail
    refine (spec_StringValue _ _).mono ?_; rintro e w1 ⟨rfl, hb1⟩
    go_wp2_with fail
    refine (impl_StringValue _ _).mono ?_; rintro e w2 ⟨rfl, hb2⟩
    obtain ⟨hc2, hf2⟩ := bcell hb2
    have hz2 : w1.heap.size < w2.heap.size := by have := hb2.size; simp at this; omega
    go_wp2_with fail
    have C := laws_eqValue (strV s0) (strV s0)
    rw [Vl.eqb_iff.2 rfl] at C
    refine (C _).mono ?_; rintro e w3 ⟨rfl, hb3⟩
    clear C
    go_wp2_with fail
    go_returns
    exact ⟨rfl, ex_trans (ex_trans (ex_trans hb1 (ex_trans (by go_grown) hb2)) (by go_grown)) hb3⟩
  · have h' : (1048576 : Int) < (s0.size : Int) := by omega
    go_enter Try.func7, Try.ntmps7
    go_wp2_with fail
    go_returns
    exact ⟨rfl, by go_grown⟩
theorem core_FnExactStringValue {H : Type} (enc : TypeId × Value → H) (W : World) (base : Nat) (args : Array Value) (ds : List (DataW H)) (p : List MemPlace)
    (hA : DataW.TrodAll enc Try.prog W 0 (fun _ => true) true Try.f7.params.toList args.toList ds p)
    (hval : ∀ (j : Nat) t v, Try.f7.params[j]? = some t → args[j]? = some v → Value.okWide Try.prog W .any base t v) :
    Calls Try.prog 7 args W fun e W' => e = .returned (.bool true) ∧ Below W.heap.size W W' := by
  rw [Try.params7] at hA hval
  obtain ⟨u0, vs0, d0, ds0, p0, q0, hargs, rfl, rfl, h0, r0⟩ := trodAll_cons hA
  obtain ⟨rfl, rfl, rfl⟩ := trodAll_nil r0
  obtain rfl : args = #[u0] := by cases args; simp_all
  obtain ⟨s0, rfl, _, _, hs0⟩ := open_string Try.underlying9 (hval 0 9 u0 rfl rfl) h0
  exact walk_FnExactStringValue s0 hs0 W
set_option maxRecDepth 100000 in
theorem lifted_FnExactStringValue (os : Os) (started : os.Started) (H : Type) (enc : TypeId × Value → H) :
    ReturnsInHanded {} Try.checked os 7 .any (Rows.fnExactStringValueSpec.pre6 enc Try.prog Try.f7 Rows.fnExactStringValueRow.domain false) (Rows.fnExactStringValueSpec.post enc Try.prog Try.f7 false true false false) :=
  law_lifted (C := Try.checked) (tb := 4) (n := 1) own started (by kernel_rfl) Try.func7 rfl (by kernel_rfl) Try.underlying4 (by kernel_rfl)
    (fun ds h => by match ds, h with | [_], _ => rfl) laidOut' (by kernel_rfl)
    (ChangeSpec.witness6 (enc := enc) (C := Try.checked) false ⟨#[], #[.string ByteArray.empty], []⟩ 8 (by kernel_rfl) (by kernel_rfl) (by kernel_rfl) (by kernel_rfl))
    (fun W base args ds p hA hval => core_FnExactStringValue enc W base args ds p hA hval)
theorem holds_FnExactStringValue : Rows.FnExactStringValueSaid :=
  OpenClaim.holds_of_wide 7 Try.f7 rfl rfl rfl rfl rfl rfl rfl ⟨rfl, rfl, rfl, rfl, rfl⟩ rfl rfl rfl rfl rfl (by kernel_rfl) Try.func7 (by kernel_rfl)
    (of_decide_eq_true (by kernel_rfl)) (by unfold Func.isWrapper; first | (rw [if_pos (by decide +kernel)]; kernel_rfl) | (rw [if_neg (by decide +kernel)]; exact ⟨rfl, rfl⟩))
    (fun os started H enc _ => lifted_FnExactStringValue os started H enc)
end Go.Proofs.Ytbemlckhddbidaa
