/-
  FnExactIsValidValue RETURNS true AND LEAVES ITS ARGUMENTS AS THEY WERE, FOR EVERY INPUT THAT THE STATEMENT SPEAKS OF. No condition.
-/
import Derived.WalkKit
import Derived.ProofKit
import Derived.OpenShut
import Derived.Handy
import Derived.Lib.Hide
import Derived.Deep.QuietTactic
import Derived.BigQuiet
import Derived.Deep.RegionHeld3
import Derived.Test.YtbemlckhddbidaaLib
import Derived.Test.YtbemlckhddbidaaOp
import Derived.Test.YtbemlckhddbidaaC1
import Derived.Test.YtbemlckhddbidaaC2
import Derived.Test.YtbemlckhddbidaaRows
namespace Go.Proofs.Ytbemlckhddbidaa
open Go.RowKit Go.ChangeShapes Go.WideShapes Go.ChangeAt Go.ChangeMaps
set_option linter.unusedVariables false

theorem walk_FnExactIsValidValue (v0 : Vl) (hv0 : v0.ok maxLen) (W : World) : Calls Try.prog 10 #[.agg #[.int .i64 v0.kind, .int .i64 v0.int, .string v0.str]] W fun e w' => e = .returned (.bool true) ∧ Below W.heap.size W w' := by
  have C := laws_szValue v0 1048576
  have hsz : v0.sz = v0.str.size := rfl
  by_cases h : v0.sz ≤ 1048576
  · have hs : v0.str.size ≤ 1073741824 := by omega
    have h0 : 0 ≤ 1048576 - v0.sz := by omega
    rw [lefts_ge h] at C
    have HC := Lib.hid C
    clear C hsz h
    go_enter Try.func10, Try.ntmps10
    go_wp2_with fail
    refine (HC.out _ hv0 (by omega) (by omega)).mono ?_; rintro e w1 ⟨rfl, hb1⟩
    obtain ⟨hc1, hf1⟩ := bcell hb1
    have hz1 : W.heap.size < w1.heap.size := by have := hb1.size; simp at this; omega
    go_wp2_with fail
    refine (laws_toValue v0 _).mono ?_; rintro e w2 ⟨rfl, hb2⟩
    obtain ⟨hc2, hf2⟩ := bcell hb2
    have hz2 := hb2.size
    go_wp2_with fail
    refine (spec_IsValidValue v0 _ hs).mono ?_; rintro e w3 ⟨rfl, hb3⟩
    obtain ⟨hc3, hf3⟩ := bcell hb3
    have hz3 := hb3.size
    have hz3' : W.heap.size < w2.heap.size := by omega
    have hz3'' : W.heap.size < w3.heap.size := by omega
    go_wp2_with fail
    refine (laws_toValue v0 _).mono ?_; rintro e w4 ⟨rfl, hb4⟩
    go_wp2_with fail
    refine (impl_IsValidValue v0 _ hs).mono ?_; rintro e w5 ⟨rfl, hb5⟩
    go_wp2_with fail
    go_returns
    exact ⟨rfl, ex_trans (ex_trans (ex_trans (ex_trans (ex_trans (by go_grown) hb1) hb2) hb3) hb4) hb5⟩
  · have h0 : (-1 : Int) < 0 := by omega
    rw [lefts_lt h] at C
    go_enter Try.func10, Try.ntmps10
    go_wp2_with fail
    refine (C _ hv0 (by omega) (by omega)).mono ?_; rintro e w1 ⟨rfl, hb1⟩
    clear C
    go_wp2_with fail
    go_returns
    exact ⟨rfl, ex_trans (by go_grown) hb1⟩
theorem core_FnExactIsValidValue {H : Type} (enc : TypeId × Value → H) (W : World) (base : Nat) (args : Array Value) (ds : List (DataW H)) (p : List MemPlace)
    (hA : DataW.TrodAll enc Try.prog W 0 (fun _ => true) true Try.f10.params.toList args.toList ds p)
    (hval : ∀ (j : Nat) t v, Try.f10.params[j]? = some t → args[j]? = some v → Value.okWide Try.prog W .any base t v) :
    Calls Try.prog 10 args W fun e W' => e = .returned (.bool true) ∧ Below W.heap.size W W' := by
  rw [Try.params10] at hA hval
  obtain ⟨u0, vs0, d0, ds0, p0, q0, hargs, rfl, rfl, h0, r0⟩ := trodAll_cons hA
  obtain ⟨rfl, rfl, rfl⟩ := trodAll_nil r0
  obtain rfl : args = #[u0] := by cases args; simp_all
  obtain ⟨fu0, g0⟩ := h0
  obtain ⟨x0, e0, ok0⟩ := Op_Value.2 _ _ _ g0
  have z0 := agg_of Try.underlying34 (hval 0 34 u0 rfl rfl)
  have y0 : u0 = .agg ⟨_⟩ := z0.trans (congrArg (fun l => Value.agg ⟨l⟩) e0)
  subst y0
  exact walk_FnExactIsValidValue x0 ok0 W
set_option maxRecDepth 100000 in
theorem lifted_FnExactIsValidValue (os : Os) (started : os.Started) (H : Type) (enc : TypeId × Value → H) :
    ReturnsInHanded {} Try.checked os 10 .any (Rows.fnExactIsValidValueSpec.pre6 enc Try.prog Try.f10 Rows.fnExactIsValidValueRow.domain false) (Rows.fnExactIsValidValueSpec.post enc Try.prog Try.f10 false true false false) :=
  law_lifted (C := Try.checked) (tb := 4) (n := 1) own started (by kernel_rfl) Try.func10 rfl (by kernel_rfl) Try.underlying4 (by kernel_rfl)
    (fun ds h => by match ds, h with | [_], _ => rfl) laidOut' (by kernel_rfl)
    (ChangeSpec.witness6 (enc := enc) (C := Try.checked) false ⟨#[], #[.agg #[.int .i64 0, .int .i64 0, .string ByteArray.empty]], []⟩ 8 (by kernel_rfl) (by kernel_rfl) (by kernel_rfl) (by kernel_rfl))
    (fun W base args ds p hA hval => core_FnExactIsValidValue enc W base args ds p hA hval)
theorem holds_FnExactIsValidValue : Rows.FnExactIsValidValueSaid :=
  OpenClaim.holds_of_wide 10 Try.f10 rfl rfl rfl rfl rfl rfl rfl ⟨rfl, rfl, rfl, rfl, rfl⟩ rfl rfl rfl rfl rfl (by kernel_rfl) Try.func10 (by kernel_rfl)
    (of_decide_eq_true (by kernel_rfl)) (by unfold Func.isWrapper; first | (rw [if_pos (by decide +kernel)]; kernel_rfl) | (rw [if_neg (by decide +kernel)]; exact ⟨rfl, rfl⟩))
    (fun os started H enc _ => lifted_FnExactIsValidValue os started H enc)
end Go.Proofs.Ytbemlckhddbidaa
