/-
  FnExactIsValidSchema RETURNS true AND LEAVES ITS ARGUMENTS AS THEY WERE, FOR EVERY INPUT THAT THE STATEMENT SPEAKS OF. No condition.
-/
import Derived.WalkKit
import Derived.ProofKit
import Derived.OpenShut
import Derived.Handy
import Derived.Lib.Hide
import Derived.Deep.QuietTactic
import Derived.BigQuiet
import Derived.Deep.RegionHeld3
import Derived.Test.YtjnjjifijelgpaaLib
import Derived.Test.YtjnjjifijelgpaaOp
import Derived.Test.YtjnjjifijelgpaaC1
import Derived.Test.YtjnjjifijelgpaaC2
import Derived.Test.YtjnjjifijelgpaaOwn
import Derived.Test.YtjnjjifijelgpaaT1
import Derived.Test.YtjnjjifijelgpaaSz
import Derived.Test.YtjnjjifijelgpaaC3
import Derived.Test.YtjnjjifijelgpaaRows
namespace Go.Proofs.Ytjnjjifijelgpaa
open Go.RowKit Go.ChangeShapes Go.WideShapes Go.ChangeAt Go.ChangeMaps
set_option linter.unusedVariables false
set_option maxRecDepth 100000

theorem walk_FnExactIsValidSchema (W : World) (A0 : Option Addr) (n0 c0 : Nat) (l0 : List Fld) (hS0 : Sl 2 RFld W A0 n0 l0) (hn0 : n0 ≤ maxLen) (hl0 : ∀ y ∈ l0, Fld.ok maxLen y) : Calls Try.prog 3 #[.slice A0 n0 c0] W fun e w' => e = .returned (.bool true) ∧ Below W.heap.size W w' := by
  obtain rfl : l0.length = n0 := hS0.len
  have nn0 := szS_nn Fld.sz_nn l0
  by_cases hc0 : szS Fld.sz l0 ≤ 1048576
  · obtain ⟨hm0, hk0⟩ := flds_okB (show szS Fld.sz l0 ≤ 1048576 by omega)
    have g0 : 0 ≤ 1048576 - szS Fld.sz l0 := by omega
    go_enter Try.func3, Try.ntmps3
    go_wp2_with fail
    refine (laws_szFieldS_ok A0 l0.length c0 l0 1048576 _ (hS0.mono mFld (by go_grown)) hn0 hl0 (by omega) (by omega) (by omega)).mono ?_; rintro e w1 ⟨rfl, hb1⟩
    have hx1 : Below W.heap.size W w1 := ex_trans (by go_grown) hb1
    replace hS0 := hS0.mono mFld hx1
    have hB : Below W.heap.size W w1 := hx1
    go_wp2_with fail
    refine (laws_toFieldS A0 l0.length c0 l0 _ (hS0.mono mFld (by go_grown)) (by omega)).mono ?_; rintro e w2 hN2
    obtain ⟨A'2, c'2, bs2, rfl, hcc2, hW2, hF2, hb2⟩ := hN2.out
    have hO2 : Sl 2 RFld w2 A'2 l0.length l0 := hW2.sl (fun h => h.1)
    have hx2 : Below w1.heap.size w1 w2 := ex_trans (by go_grown) hb2
    replace hS0 := hS0.mono mFld hx2
    replace hB := ex_trans hB hx2
    go_wp2_with fail
    refine (spec_IsValidSchema A'2 l0.length c'2 l0 _ (hO2.mono mFld (by go_grown)) (by omega) hk0).mono ?_; rintro e w3 ⟨rfl, hb3⟩
    have hx3 : Below w2.heap.size w2 w3 := ex_trans (by go_grown) hb3
    replace hS0 := hS0.mono mFld hx3
    replace hO2 := hO2.mono mFld hx3
    replace hB := ex_trans hB hx3
    go_wp2_with fail
    refine (laws_toFieldS A0 l0.length c0 l0 _ (hS0.mono mFld (by go_grown)) (by omega)).mono ?_; rintro e w4 hN4
    obtain ⟨A'4, c'4, bs4, rfl, hcc4, hW4, hF4, hb4⟩ := hN4.out
    have hO4 : Sl 2 RFld w4 A'4 l0.length l0 := hW4.sl (fun h => h.1)
    have hx4 : Below w3.heap.size w3 w4 := ex_trans (by go_grown) hb4
    replace hS0 := hS0.mono mFld hx4
    replace hO2 := hO2.mono mFld hx4
    replace hB := ex_trans hB hx4
    go_wp2_with fail
    refine (impl_IsValidSchema A'4 l0.length c'4 l0 _ (hO4.mono mFld (by go_grown)) (by omega) hk0).mono ?_; rintro e w5 ⟨rfl, hb5⟩
    have hx5 : Below w4.heap.size w4 w5 := ex_trans (by go_grown) hb5
    replace hS0 := hS0.mono mFld hx5
    replace hO2 := hO2.mono mFld hx5
    replace hO4 := hO4.mono mFld hx5
    replace hB := ex_trans hB hx5
    go_wp2_with fail
    refine (laws_toFieldS A0 l0.length c0 l0 _ (hS0.mono mFld (by go_grown)) (by omega)).mono ?_; rintro e w6 hN6
    obtain ⟨A'6, c'6, bs6, rfl, hcc6, hW6, hF6, hb6⟩ := hN6.out
    have hO6 : Sl 2 RFld w6 A'6 l0.length l0 := hW6.sl (fun h => h.1)
    have hx6 : Below w5.heap.size w5 w6 := ex_trans (by go_grown) hb6
    replace hS0 := hS0.mono mFld hx6
    replace hO2 := hO2.mono mFld hx6
    replace hO4 := hO4.mono mFld hx6
    replace hB := ex_trans hB hx6
    go_wp2_with fail
    refine (laws_eqFieldS_same A'4 A'6 l0.length c'4 l0.length c'6 l0 _ (hO4.mono mFld (by go_grown)) (hO6.mono mFld (by go_grown)) (by omega) (by omega)).mono ?_; rintro e w7 ⟨rfl, hb7⟩
    have hx7 : Below w6.heap.size w6 w7 := ex_trans (by go_grown) hb7
    replace hS0 := hS0.mono mFld hx7
    replace hO2 := hO2.mono mFld hx7
    replace hO4 := hO4.mono mFld hx7
    replace hO6 := hO6.mono mFld hx7
    replace hB := ex_trans hB hx7
    go_wp2_with fail
    go_returns
    exact ⟨rfl, hB⟩
  · have g0 : (-1 : Int) < 0 := by omega
    go_enter Try.func3, Try.ntmps3
    go_wp2_with fail
    refine (laws_szFieldS_no A0 l0.length c0 l0 1048576 _ (hS0.mono mFld (by go_grown)) hn0 hl0 (by omega) (by omega) (by omega)).mono ?_; rintro e w1 ⟨rfl, hb1⟩
    have hx1 : Below W.heap.size W w1 := ex_trans (by go_grown) hb1
    replace hS0 := hS0.mono mFld hx1
    have hB : Below W.heap.size W w1 := hx1
    go_wp2_with fail
    go_returns
    exact ⟨rfl, hB⟩
theorem core_FnExactIsValidSchema {H : Type} (enc : TypeId × Value → H) (W : World) (base : Nat) (args : Array Value) (ds : List (DataW H)) (p : List MemPlace)
    (hA : DataW.TrodAll enc Try.prog W 0 (fun _ => true) true Try.f3.params.toList args.toList ds p)
    (hval : ∀ (j : Nat) t v, Try.f3.params[j]? = some t → args[j]? = some v → Value.okWide Try.prog W .any base t v) :
    Calls Try.prog 3 args W fun e W' => e = .returned (.bool true) ∧ Below W.heap.size W W' := by
  rw [Try.params3] at hA hval
  obtain ⟨u0, vs0, d0, ds0, p0, q0, hargs, rfl, rfl, h0, r0⟩ := trodAll_cons hA
  obtain ⟨rfl, rfl, rfl⟩ := trodAll_nil r0
  obtain rfl : args = #[u0] := by cases args; simp_all
  obtain ⟨ad0, ln0, cp0, rfl⟩ := okWide_slice Try.underlying22 (hval 0 22 u0 rfl rfl)
  obtain ⟨fu0, g0⟩ := h0
  obtain ⟨A0, n0, c0, l0, e0, hn0, _, hS0, hl0⟩ := opens_slice Try.underlying22 (by omega) Op_Field g0
  simp only [Value.cells, List.cons.injEq, Value.slice.injEq, and_true] at e0
  obtain ⟨rfl, rfl, rfl⟩ := e0
  exact walk_FnExactIsValidSchema W ad0 ln0 cp0 l0 hS0 hn0 hl0
set_option maxRecDepth 100000 in
theorem lifted_FnExactIsValidSchema (os : Os) (started : os.Started) (H : Type) (enc : TypeId × Value → H) :
    ReturnsInHanded {} Try.checked os 3 .any (Rows.fnExactIsValidSchemaSpec.pre6 enc Try.prog Try.f3 Rows.fnExactIsValidSchemaRow.domain false) (Rows.fnExactIsValidSchemaSpec.post enc Try.prog Try.f3 false true false false) :=
  law_lifted (C := Try.checked) (tb := 4) (n := 1) own started (by kernel_rfl) Try.func3 rfl (by kernel_rfl) Try.underlying4 (by kernel_rfl)
    (fun ds h => by match ds, h with | [_], _ => rfl) laidOut' (by kernel_rfl)
    (ChangeSpec.witness6 (enc := enc) (C := Try.checked) false ⟨#[], #[.slice none 0 0], []⟩ 8 (by kernel_rfl) (by kernel_rfl) (by kernel_rfl) (by kernel_rfl))
    (fun W base args ds p hA hval => core_FnExactIsValidSchema enc W base args ds p hA hval)
theorem holds_FnExactIsValidSchema : Rows.FnExactIsValidSchemaSaid :=
  OpenClaim.holds_of_wide 3 Try.f3 rfl rfl rfl rfl rfl rfl rfl ⟨rfl, rfl, rfl, rfl, rfl⟩ rfl rfl rfl rfl rfl (by kernel_rfl) Try.func3 (by kernel_rfl)
    (of_decide_eq_true (by kernel_rfl)) (by unfold Func.isWrapper; first | (rw [if_pos (by decide +kernel)]; kernel_rfl) | (rw [if_neg (by decide +kernel)]; exact ⟨rfl, rfl⟩))
    (fun os started H enc _ => lifted_FnExactIsValidSchema os started H enc)
end Go.Proofs.Ytjnjjifijelgpaa
