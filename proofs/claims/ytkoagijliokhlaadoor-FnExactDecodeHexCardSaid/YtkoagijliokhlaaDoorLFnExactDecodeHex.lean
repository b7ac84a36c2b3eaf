/-
  FnExactDecodeHex RETURNS true AND LEAVES ITS ARGUMENTS AS THEY WERE, FOR EVERY INPUT THAT THE STATEMENT SPEAKS OF. No condition.
-/
import Derived.WalkKit
import Derived.ProofKit
import Derived.OpenShut
import Derived.Handy
import Derived.Lib.Hide
import Derived.Deep.QuietTactic
import Derived.BigQuiet
import Derived.Deep.RegionHeld3
import Derived.Deep.DeepCutAuto
import Derived.Test.YtkoagijliokhlaaDoorLib
import Derived.Test.YtkoagijliokhlaaDoorOp
import Derived.Test.YtkoagijliokhlaaDoorC1
import Derived.Test.YtkoagijliokhlaaDoorC2
import Derived.Test.YtkoagijliokhlaaDoorOwn
import Derived.Test.YtkoagijliokhlaaDoorRow
import Derived.Test.YtkoagijliokhlaaDoorHld
import Derived.Test.YtkoagijliokhlaaDoorD1
import Derived.Test.YtkoagijliokhlaaDoorSz
import Derived.Test.YtkoagijliokhlaaDoorX0
import Derived.Test.YtkoagijliokhlaaDoorX1
import Derived.Test.YtkoagijliokhlaaDoorX2
import Derived.Test.YtkoagijliokhlaaDoorX3
import Derived.Test.YtkoagijliokhlaaDoorX4
import Derived.Test.YtkoagijliokhlaaDoorRows
import Derived.Test.YtkoagijliokhlaaDoorLibD
import Derived.Test.YtkoagijliokhlaaDoorCards
import Derived.Test.YtkoagijliokhlaaDoorTie
namespace Go.Proofs.YtkoagijliokhlaaDoor
open Go.RowKit Go.ChangeShapes Go.WideShapes Go.ChangeAt Go.ChangeMaps
set_option linter.unusedVariables false
set_option maxRecDepth 100000

theorem walk_FnExactDecodeHex (s0 : ByteArray) (hs0 : s0.size ≤ maxLen) (W : World) (hX : HexE W) : Calls Tryd.prog 4 #[.string s0] W fun e w' => e = .returned (.bool true) ∧ Below W.heap.size W w' := by
  by_cases hc : s0.size ≤ 1048576
  · have i1 : ¬ ((1048576 : Int) < (s0.size : Int)) := by omega
    have hS := Lib.hid fun w' => spec_DecodeHex s0 hc w'
    have hI := Lib.hid fun w' (h : HexE w') => impl_DecodeHex s0 hc w' h
    have HX := Lib.hid hX
    clear hX
    generalize dhS s0 = r at *
    generalize dhB s0 = b at *
    have q1 : (r.toList != r.toList) = false := by simp
    have q2 : (b != b) = false := by simp
    go_enter Tryd.func4, Tryd.ntmps4
    go_wp2_with fail
    refine (hS.out _).mono ?_; rintro e w1 ⟨rfl, hb1⟩
    go_wp2_with fail
    refine (hI.out _ (HX.out.on hb1)).mono ?_; rintro e w2 ⟨rfl, hb2⟩
    go_wp2_with fail
    go_returns
    exact ⟨rfl, ex_trans hb1 hb2⟩
  · have i1 : (1048576 : Int) < (s0.size : Int) := by omega
    go_enter Tryd.func4, Tryd.ntmps4
    go_wp2_with fail
    go_returns
    exact ⟨rfl, Below.refl _ _⟩
theorem core_FnExactDecodeHex {H : Type} (enc : TypeId × Value → H) (W : World) (base : Nat) (args : Array Value) (ds : List (DataW H)) (p : List MemPlace)
    (hL : laidMetH Tryd.prog Rows.fnExactDecodeHexRow.laid W) (hA : DataW.TrodAll enc Tryd.prog W 0 (fun _ => true) true Tryd.f4.params.toList args.toList ds p)
    (hval : ∀ (j : Nat) t v, Tryd.f4.params[j]? = some t → args[j]? = some v → Value.okWide Tryd.prog W .any base t v) :
    Calls Tryd.prog 4 args W fun e W' => e = .returned (.bool true) ∧ Below W.heap.size W W' := by
  rw [Tryd.params4] at hA hval
  obtain ⟨u0, vs0, d0, ds0, p0, q0, hargs, rfl, rfl, h0, r0⟩ := trodAll_cons hA
  obtain ⟨rfl, rfl, rfl⟩ := trodAll_nil r0
  obtain rfl : args = #[u0] := by cases args; simp_all
  obtain ⟨s0, rfl, _, _, hs0⟩ := open_string Tryd.underlying9 (hval 0 9 u0 rfl rfl) h0
  have hL' : laidMet Tryd.prog Rows.fnExactDecodeHexRow.laid W := by rw [MakeChecks.laidMetH_plain _ _ _ (by kernel_rfl)] at hL; exact hL
  obtain ⟨a93, k93⟩ := laid_err (g := 1) 0 hL' rfl (by kernel_rfl) (by kernel_rfl)
  have hX : HexE W := ⟨_, _, k93⟩
  exact walk_FnExactDecodeHex s0 hs0 W hX
theorem door_FnExactDecodeHex (os : Os) : laidMetH Tryd.prog Rows.fnExactDecodeHexRow.laid ((World.doorLaid Tryd.prog 105 os).forCall (fun _ _ => 0) ⟨#[], #[.string ByteArray.empty], []⟩).memory :=
  laidMetH_of_parts3 (fuel := 8) (laidMet_of_run' 8 (by kernel_rfl) (by kernel_rfl)) (by kernel_rfl) (by kernel_rfl)
theorem some_FnExactDecodeHex (os : Os) {H : Type} (enc : TypeId × Value → H) : (DataW.whole enc Tryd.prog ((World.doorLaid Tryd.prog 105 os).forCall (fun _ _ => 0) ⟨#[], #[.string ByteArray.empty], []⟩).memory Tryd.f4.params.toList Rows.fnExactDecodeHexSpec.vars false #[.string ByteArray.empty].toList 8).isSome = true := by kernel_rfl
set_option maxRecDepth 100000 in
theorem lifted_FnExactDecodeHex (os : Os) (started : os.Started) (H : Type) (enc : TypeId × Value → H) (F : Stop.Interp) :
    ReturnsInHanded {} Tryd.checked os 4 .any ((OpenSpec.ofChange Rows.fnExactDecodeHexSpec).preRow enc Tryd.prog Tryd.f4 Rows.fnExactDecodeHexRow.domain false Rows.fnExactDecodeHexRow.laid) (((OpenSpec.ofChange Rows.fnExactDecodeHexSpec).at F).post enc Tryd.prog Tryd.f4 false true false false) :=
  law_laid (C := Tryd.checked) (tb := 4) (n := 1) F own started (by kernel_rfl) Tryd.func4 rfl (by kernel_rfl) Tryd.underlying4 (by kernel_rfl)
    (fun ds h => by match ds, h with | [_], _ => rfl) laidOut' (by kernel_rfl)
    (witness_row_atRef (enc := enc) (C := Tryd.checked) false (World.doorLaid Tryd.prog 105 os) #[.string ByteArray.empty] rfl (by kernel_rfl) (by kernel_rfl) (by kernel_rfl)
      (OpenSpec.preRow_of_cond 8 (Option.some_get (some_FnExactDecodeHex os enc)).symm (by kernel_rfl) (fun k hk => by cases hk) (by kernel_rfl) (door_FnExactDecodeHex os)))
    (fun W base args ds p hL hA hval => core_FnExactDecodeHex enc W base args ds p hL hA hval)
theorem said_FnExactDecodeHex : Rows.FnExactDecodeHexSaid :=
  OpenClaim.holds_of_cond 4 Tryd.f4 rfl rfl rfl rfl rfl rfl rfl ⟨rfl, rfl, rfl, rfl, rfl⟩ rfl rfl rfl rfl rfl (by kernel_rfl) Tryd.func4 (by kernel_rfl)
    (of_decide_eq_true (by kernel_rfl)) (by unfold Func.isWrapper; first | (rw [if_pos (by decide +kernel)]; kernel_rfl) | (rw [if_neg (by decide +kernel)]; exact ⟨rfl, rfl⟩))
    (fun os started H enc _ F => by rw [OpenClaim.pre_eq_preRow]; exact lifted_FnExactDecodeHex os started H enc F)
theorem plain_FnExactDecodeHex (f : FuncId) (fn : Func) (hf : Tryd.pinned.checked.prog.funcNamed "loop.example/g00976/laws.FnExactDecodeHex" = some f) (hfn : Tryd.pinned.checked.prog.funcs[f]? = some fn) :
    true = Tryd.pinned.checked.prog.looks [] ∧ ∀ (j : Nat) t, fn.params[j]? = some t → Tryd.pinned.checked.prog.wantsStandIn t = false := by
  obtain rfl : f = 4 := Option.some.inj ((show Tryd.prog.funcNamed "loop.example/g00976/laws.FnExactDecodeHex" = some 4 by kernel_rfl).symm.trans hf) |>.symm
  obtain rfl : fn = Tryd.f4 := (Option.some.inj (Tryd.func4.symm.trans hfn)).symm
  refine ⟨by kernel_rfl, fun j t ht => ?_⟩
  have hall : (Tryd.f4.params.toList.all fun u => !Tryd.prog.wantsStandIn u) = true := by kernel_rfl
  have hm : t ∈ Tryd.f4.params.toList := by simpa using Array.mem_of_getElem? ht
  exact (show Tryd.prog.wantsStandIn t = false by simpa using List.all_eq_true.1 hall t hm)
theorem holds_FnExactDecodeHex : Rows.FnExactDecodeHexCardSaid :=
  Claim7.holds_tied_plain_at .later [] _ _ _ _ said_FnExactDecodeHex (fun _ h => by cases h) (by kernel_rfl) (fun _ h => by cases h) fnExactDecodeHex_row_tie rfl ⟨rfl, rfl⟩ (by kernel_rfl) rfl plain_FnExactDecodeHex (by kernel_rfl)
end Go.Proofs.YtkoagijliokhlaaDoor
