/-
  FnExactSplitFields RETURNS true AND LEAVES ITS ARGUMENTS AS THEY WERE, FOR EVERY INPUT THAT THE STATEMENT SPEAKS OF. No condition.
-/
import Derived.WalkKit
import Derived.ProofKit
import Derived.OpenShut
import Derived.Handy
import Derived.Lib.Hide
import Derived.Deep.QuietTactic
import Derived.BigQuiet
import Derived.Deep.RegionHeld3
import Derived.Deep.DeepCutAuto
import Derived.Test.YtkoagijliokhlaaDoorLib
import Derived.Test.YtkoagijliokhlaaDoorOp
import Derived.Test.YtkoagijliokhlaaDoorC1
import Derived.Test.YtkoagijliokhlaaDoorC2
import Derived.Test.YtkoagijliokhlaaDoorOwn
import Derived.Test.YtkoagijliokhlaaDoorRow
import Derived.Test.YtkoagijliokhlaaDoorHld
import Derived.Test.YtkoagijliokhlaaDoorT1
import Derived.Test.YtkoagijliokhlaaDoorT6
import Derived.Test.YtkoagijliokhlaaDoorSz
import Derived.Test.YtkoagijliokhlaaDoorM0
import Derived.Test.YtkoagijliokhlaaDoorM1
import Derived.Test.YtkoagijliokhlaaDoorD1
import Derived.Test.YtkoagijliokhlaaDoorX0
import Derived.Test.YtkoagijliokhlaaDoorX1
import Derived.Test.YtkoagijliokhlaaDoorX2
import Derived.Test.YtkoagijliokhlaaDoorX3
import Derived.Test.YtkoagijliokhlaaDoorX5
import Derived.Test.YtkoagijliokhlaaDoorRows
import Derived.Test.YtkoagijliokhlaaDoorLibD
import Derived.Test.YtkoagijliokhlaaDoorCards
import Derived.Test.YtkoagijliokhlaaDoorTie
namespace Go.Proofs.YtkoagijliokhlaaDoor
open Go.RowKit Go.ChangeShapes Go.WideShapes Go.ChangeAt Go.ChangeMaps
set_option linter.unusedVariables false
set_option maxRecDepth 100000
set_option maxHeartbeats 16000000 in
theorem walk_FnExactSplitFields (s0 : ByteArray) (hs0 : s0.size ≤ maxLen) (W : World) (hSp : SpT W) : Calls Tryd.prog 7 #[.string s0] W fun e w' => e = .returned (.bool true) ∧ Below W.heap.size W w' := by
  unfold maxLen at hs0
  by_cases hc0 : s0.size ≤ 1048576
  · have hd0 : (s0.size : Int) ≤ 1048576 := by omega
    obtain ⟨r0, er0⟩ : ∃ r, r = sfL s0 := ⟨_, rfl⟩
    have hln0 : r0.length ≤ 1073741824 := by rw [er0]; have := sfL_len s0; omega
    have HE0 := Lib.hid er0
    clear er0
    obtain ⟨q0, eq0⟩ : ∃ q, q = sfB s0 := ⟨_, rfl⟩
    have HE1 := Lib.hid eq0
    clear eq0
    have hK0 := Below.refl W.heap.size W
    go_enter Tryd.func7, Tryd.ntmps7
    go_wp2_with fail
    refine (spec_SplitFieldsx s0 hc0 _).mono ?_; rintro e w1 hN1
    rw [← HE0.out, ← HE1.out] at hN1
    obtain ⟨A101, c101, rfl, hR1, hb1⟩ := hN1.r encStr (R := RStr) (fun _ => rfl)
    have hx1 : Below W.heap.size W w1 := ex_trans (by go_grown) hb1
    replace hK0 := ex_trans hK0 hx1
    have hK1 := Below.refl w1.heap.size w1
    go_wp2_with fail
    refine (impl_SplitFieldsx s0 hc0 _ (hSp.mono () (ex_trans hK0 (by go_grown)))).mono ?_; rintro e w2 hN2
    rw [← HE0.out, ← HE1.out] at hN2
    obtain ⟨A102, c102, bs2, rfl, hW2, hF2, hb2⟩ := hN2.v (O := OStr) encStr (fun _ => ⟨rfl, rfl⟩)
    have hL2 := Lib.hid (hW2.lt lStr)
    have hR2 := hW2.sl (R := RStr) (fun h => h.1)
    have hG2_0 : Hid (∀ b ∈ bs2, W.heap.size ≤ b) := Lib.hid (fun b hb => by have h1 := hF2.2 b hb; have h2 := hK0.size; (try simp at h1); omega)
    have hG2_1 : Hid (∀ b ∈ bs2, w1.heap.size ≤ b) := Lib.hid (fun b hb => by have h1 := hF2.2 b hb; have h2 := hK1.size; (try simp at h1); omega)
    have hx2 : Below w1.heap.size w1 w2 := ex_trans (by go_grown) hb2
    replace hK0 := ex_trans hK0 hx2
    replace hK1 := ex_trans hK1 hx2
    have hK2 := Below.refl w2.heap.size w2
    go_wp2_with fail
    refine (laws_eqStringS_same A102 A101 r0.length c102 r0.length c101 r0 _ (hR2.mono mStr (ex_trans hK2 (by go_grown))) (hR1.mono mStr (ex_trans hK1 (by go_grown))) (by omega) (by omega)).mono ?_; rintro e w3 ⟨rfl, hb3⟩
    have hx3 : Below w2.heap.size w2 w3 := ex_trans (by go_grown) hb3
    replace hK0 := ex_trans hK0 hx3
    replace hK1 := ex_trans hK1 hx3
    replace hK2 := ex_trans hK2 hx3
    go_wp2_with fail
    refine (laws_markStringS A102 r0.length c102 r0 _ 1 _ (hW2.below lStr (ex_trans hK2 (by go_grown))) hF2.1 (by omega) (by omega) (by omega)).mono ?_; rintro e w4 ⟨rfl, hW2', hc4⟩
    replace hW2 := hW2'
    replace hK0 := Below.mark hK0 hc4 hK0.size hG2_0.out
    replace hK1 := Below.mark hK1 hc4 hK1.size hG2_1.out
    have hK4 := Below.refl w4.heap.size w4
    -- marked
    have hMR4_hW2 := hW2.sl (R := RStr) (fun h => h.1)
    go_wp2_with fail
    refine (laws_heldStringS A102 r0.length c102 1 _ (hMR4_hW2.mono mStr (ex_trans hK4 (by go_grown))) (by omega) (by omega) (by omega)).mono ?_; rintro e w5 ⟨rfl, hb5⟩
    have hx5 : Below w4.heap.size w4 w5 := ex_trans (by go_grown) hb5
    replace hK0 := ex_trans hK0 hx5
    replace hK1 := ex_trans hK1 hx5
    replace hK4 := ex_trans hK4 hx5
    go_wp2_with fail
    refine (impl_SplitFieldsx s0 hc0 _ (hSp.mono () (ex_trans hK0 (by go_grown)))).mono ?_; rintro e w6 hN6
    rw [← HE0.out, ← HE1.out] at hN6
    obtain ⟨A106, c106, bs6, rfl, hW6, hF6, hb6⟩ := hN6.v (O := OStr) encStr (fun _ => ⟨rfl, rfl⟩)
    have hL6 := Lib.hid (hW6.lt lStr)
    have hR6 := hW6.sl (R := RStr) (fun h => h.1)
    have hx6 : Below w5.heap.size w5 w6 := ex_trans (by go_grown) hb6
    replace hK0 := ex_trans hK0 hx6
    replace hK1 := ex_trans hK1 hx6
    replace hK4 := ex_trans hK4 hx6
    have hK6 := Below.refl w6.heap.size w6
    go_wp2_with fail
    refine (laws_eqStringS_same A106 A101 r0.length c106 r0.length c101 r0 _ (hR6.mono mStr (ex_trans hK6 (by go_grown))) (hR1.mono mStr (ex_trans hK1 (by go_grown))) (by omega) (by omega)).mono ?_; rintro e w7 ⟨rfl, hb7⟩
    have hx7 : Below w6.heap.size w6 w7 := ex_trans (by go_grown) hb7
    replace hK0 := ex_trans hK0 hx7
    replace hK1 := ex_trans hK1 hx7
    replace hK4 := ex_trans hK4 hx7
    replace hK6 := ex_trans hK6 hx7
    go_wp2_with fail
    refine (laws_heldStringS A102 r0.length c102 1 _ (hMR4_hW2.mono mStr (ex_trans hK4 (by go_grown))) (by omega) (by omega) (by omega)).mono ?_; rintro e w8 ⟨rfl, hb8⟩
    have hx8 : Below w7.heap.size w7 w8 := ex_trans (by go_grown) hb8
    replace hK0 := ex_trans hK0 hx8
    replace hK1 := ex_trans hK1 hx8
    replace hK4 := ex_trans hK4 hx8
    replace hK6 := ex_trans hK6 hx8
    go_wp2_with fail
    go_returns
    exact ⟨rfl, hK0⟩
  · have hd0 : (1048576 : Int) < (s0.size : Int) := by omega
    go_enter Tryd.func7, Tryd.ntmps7
    go_wp2_with fail
    go_returns
    exact ⟨rfl, by go_grown⟩
theorem core_FnExactSplitFields {H : Type} (enc : TypeId × Value → H) (W : World) (base : Nat) (args : Array Value) (ds : List (DataW H)) (p : List MemPlace)
    (hL : laidMetH Tryd.prog Rows.fnExactSplitFieldsRow.laid W) (hA : DataW.TrodAll enc Tryd.prog W 0 (fun _ => true) true Tryd.f7.params.toList args.toList ds p)
    (hval : ∀ (j : Nat) t v, Tryd.f7.params[j]? = some t → args[j]? = some v → Value.okWide Tryd.prog W .any base t v) :
    Calls Tryd.prog 7 args W fun e W' => e = .returned (.bool true) ∧ Below W.heap.size W W' := by
  rw [Tryd.params7] at hA hval
  obtain ⟨u0, vs0, d0, ds0, p0, q0, hargs, rfl, rfl, h0, r0⟩ := trodAll_cons hA
  obtain ⟨rfl, rfl, rfl⟩ := trodAll_nil r0
  obtain rfl : args = #[u0] := by cases args; simp_all
  obtain ⟨s0, rfl, _, _, hs0⟩ := open_string Tryd.underlying9 (hval 0 9 u0 rfl rfl) h0
  have hL' : laidMet Tryd.prog Rows.fnExactSplitFieldsRow.laid W := by rw [MakeChecks.laidMetH_plain _ _ _ (by kernel_rfl)] at hL; exact hL
  have hSp : SpT W := Lib.tabBelow_of_tabIs (laid_tab (rest := Rows.fnExactSplitFieldsRow.laid.drop 2) (name := "strings.asciiSpace") (k := .u8) (zs := Lib.asciiSpaceTab) (g := 0) 1 hL' (by kernel_rfl) (by kernel_rfl) (by kernel_rfl) Tryd.underlying78 Tryd.underlying5 (by kernel_rfl) (by kernel_rfl))
  exact walk_FnExactSplitFields s0 hs0 W hSp
theorem door_FnExactSplitFields (os : Os) : laidMetH Tryd.prog Rows.fnExactSplitFieldsRow.laid ((World.doorLaid Tryd.prog 105 os).forCall (fun _ _ => 0) ⟨#[], #[.string ByteArray.empty], []⟩).memory :=
  laidMetH_of_parts3 (fuel := 8) (laidMet_of_run' 8 (by kernel_rfl) (by kernel_rfl)) (by kernel_rfl) (by kernel_rfl)
theorem some_FnExactSplitFields (os : Os) {H : Type} (enc : TypeId × Value → H) : (DataW.whole enc Tryd.prog ((World.doorLaid Tryd.prog 105 os).forCall (fun _ _ => 0) ⟨#[], #[.string ByteArray.empty], []⟩).memory Tryd.f7.params.toList Rows.fnExactSplitFieldsSpec.vars false #[.string ByteArray.empty].toList 8).isSome = true := by kernel_rfl
set_option maxRecDepth 100000 in
theorem lifted_FnExactSplitFields (os : Os) (started : os.Started) (H : Type) (enc : TypeId × Value → H) (F : Stop.Interp) :
    ReturnsInHanded {} Tryd.checked os 7 .any ((OpenSpec.ofChange Rows.fnExactSplitFieldsSpec).preRow enc Tryd.prog Tryd.f7 Rows.fnExactSplitFieldsRow.domain false Rows.fnExactSplitFieldsRow.laid) (((OpenSpec.ofChange Rows.fnExactSplitFieldsSpec).at F).post enc Tryd.prog Tryd.f7 false true false false) :=
  law_laid (C := Tryd.checked) (tb := 4) (n := 1) F own started (by kernel_rfl) Tryd.func7 rfl (by kernel_rfl) Tryd.underlying4 (by kernel_rfl)
    (fun ds h => by match ds, h with | [_], _ => rfl) laidOut' (by kernel_rfl)
    (witness_row_atRef (enc := enc) (C := Tryd.checked) false (World.doorLaid Tryd.prog 105 os) #[.string ByteArray.empty] rfl (by kernel_rfl) (by kernel_rfl) (by kernel_rfl)
      (OpenSpec.preRow_of_cond 8 (Option.some_get (some_FnExactSplitFields os enc)).symm (by kernel_rfl) (fun k hk => by cases hk) (by kernel_rfl) (door_FnExactSplitFields os)))
    (fun W base args ds p hL hA hval => core_FnExactSplitFields enc W base args ds p hL hA hval)
theorem said_FnExactSplitFields : Rows.FnExactSplitFieldsSaid :=
  OpenClaim.holds_of_cond 7 Tryd.f7 rfl rfl rfl rfl rfl rfl rfl ⟨rfl, rfl, rfl, rfl, rfl⟩ rfl rfl rfl rfl rfl (by kernel_rfl) Tryd.func7 (by kernel_rfl)
    (of_decide_eq_true (by kernel_rfl)) (by unfold Func.isWrapper; first | (rw [if_pos (by decide +kernel)]; kernel_rfl) | (rw [if_neg (by decide +kernel)]; exact ⟨rfl, rfl⟩))
    (fun os started H enc _ F => by rw [OpenClaim.pre_eq_preRow]; exact lifted_FnExactSplitFields os started H enc F)
theorem plain_FnExactSplitFields (f : FuncId) (fn : Func) (hf : Tryd.pinned.checked.prog.funcNamed "loop.example/g00976/laws.FnExactSplitFields" = some f) (hfn : Tryd.pinned.checked.prog.funcs[f]? = some fn) :
    true = Tryd.pinned.checked.prog.looks [] ∧ ∀ (j : Nat) t, fn.params[j]? = some t → Tryd.pinned.checked.prog.wantsStandIn t = false := by
  obtain rfl : f = 7 := Option.some.inj ((show Tryd.prog.funcNamed "loop.example/g00976/laws.FnExactSplitFields" = some 7 by kernel_rfl).symm.trans hf) |>.symm
  obtain rfl : fn = Tryd.f7 := (Option.some.inj (Tryd.func7.symm.trans hfn)).symm
  refine ⟨by kernel_rfl, fun j t ht => ?_⟩
  have hall : (Tryd.f7.params.toList.all fun u => !Tryd.prog.wantsStandIn u) = true := by kernel_rfl
  have hm : t ∈ Tryd.f7.params.toList := by simpa using Array.mem_of_getElem? ht
  exact (show Tryd.prog.wantsStandIn t = false by simpa using List.all_eq_true.1 hall t hm)
theorem holds_FnExactSplitFields : Rows.FnExactSplitFieldsCardSaid :=
  Claim7.holds_tied_plain_at .later [] _ _ _ _ said_FnExactSplitFields (fun _ h => by cases h) (by kernel_rfl) (fun _ h => by cases h) fnExactSplitFields_row_tie rfl ⟨rfl, rfl⟩ (by kernel_rfl) rfl plain_FnExactSplitFields (by kernel_rfl)
end Go.Proofs.YtkoagijliokhlaaDoor
