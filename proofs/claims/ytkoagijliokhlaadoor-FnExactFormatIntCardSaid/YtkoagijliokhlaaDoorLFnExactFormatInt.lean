/-
  FnExactFormatInt RETURNS true AND LEAVES ITS ARGUMENTS AS THEY WERE, FOR EVERY INPUT THAT THE STATEMENT SPEAKS OF. No condition.
-/
import Derived.WalkKit
import Derived.ProofKit
import Derived.OpenShut
import Derived.Handy
import Derived.Lib.Hide
import Derived.Deep.QuietTactic
import Derived.BigQuiet
import Derived.Deep.RegionHeld3
import Derived.Deep.DeepCutAuto
import Derived.Test.YtkoagijliokhlaaDoorLib
import Derived.Test.YtkoagijliokhlaaDoorOp
import Derived.Test.YtkoagijliokhlaaDoorC1
import Derived.Test.YtkoagijliokhlaaDoorC2
import Derived.Test.YtkoagijliokhlaaDoorOwn
import Derived.Test.YtkoagijliokhlaaDoorRow
import Derived.Test.YtkoagijliokhlaaDoorHld
import Derived.Test.YtkoagijliokhlaaDoorD1
import Derived.Test.YtkoagijliokhlaaDoorSz
import Derived.Test.YtkoagijliokhlaaDoorX0
import Derived.Test.YtkoagijliokhlaaDoorX1
import Derived.Test.YtkoagijliokhlaaDoorX2
import Derived.Test.YtkoagijliokhlaaDoorX3
import Derived.Test.YtkoagijliokhlaaDoorRows
import Derived.Test.YtkoagijliokhlaaDoorLibD
import Derived.Test.YtkoagijliokhlaaDoorCards
import Derived.Test.YtkoagijliokhlaaDoorTie
namespace Go.Proofs.YtkoagijliokhlaaDoor
open Go.RowKit Go.ChangeShapes Go.WideShapes Go.ChangeAt Go.ChangeMaps
set_option linter.unusedVariables false
set_option maxRecDepth 100000

theorem walk_FnExactFormatInt (a0 : Int) (w0 : (Lit.int .i64 a0).wf = true) (W : World) (hT : PowT W) : Calls Tryd.prog 6 #[.int .i64 a0] W fun e w' => e = .returned (.bool true) ∧ Below W.heap.size W w' := by
  have hw := bounds_i64 w0
  have hS := Lib.hid fun w' => spec_FormatInt a0 hw.1 hw.2 w'
  have hI := Lib.hid fun w' (h : PowT w') => impl_FormatInt a0 hw.1 hw.2 w' h
  have HT := Lib.hid hT
  generalize (⟨(Lib.itoa a0).toArray⟩ : ByteArray) = r at *
  have q1 : (r.toList != r.toList) = false := by simp
  clear hT hw
  go_enter Tryd.func6, Tryd.ntmps6
  go_wp2_with fail
  refine (hS.out _).mono ?_; rintro e w1 ⟨rfl, hb1⟩
  go_wp2_with fail
  refine (hI.out _ (tab_on HT.out hb1)).mono ?_; rintro e w2 ⟨rfl, hb2⟩
  go_wp2_with fail
  go_returns
  exact ⟨rfl, ex_trans hb1 hb2⟩
theorem core_FnExactFormatInt {H : Type} (enc : TypeId × Value → H) (W : World) (base : Nat) (args : Array Value) (ds : List (DataW H)) (p : List MemPlace)
    (hL : laidMetH Tryd.prog Rows.fnExactFormatIntRow.laid W) (hA : DataW.TrodAll enc Tryd.prog W 0 (fun _ => true) true Tryd.f6.params.toList args.toList ds p)
    (hval : ∀ (j : Nat) t v, Tryd.f6.params[j]? = some t → args[j]? = some v → Value.okWide Tryd.prog W .any base t v) :
    Calls Tryd.prog 6 args W fun e W' => e = .returned (.bool true) ∧ Below W.heap.size W W' := by
  rw [Tryd.params6] at hA hval
  obtain ⟨u0, vs0, d0, ds0, p0, q0, hargs, rfl, rfl, h0, r0⟩ := trodAll_cons hA
  obtain ⟨rfl, rfl, rfl⟩ := trodAll_nil r0
  obtain rfl : args = #[u0] := by cases args; simp_all
  obtain ⟨a0, rfl, _, _, w0⟩ := open_int Tryd.underlying3 (hval 0 3 u0 rfl rfl) h0
  have hL' : laidMet Tryd.prog Rows.fnExactFormatIntRow.laid W := by rw [MakeChecks.laidMetH_plain _ _ _ (by kernel_rfl)] at hL; exact hL
  have hT : PowT W := Lib.tabBelow_of_tabIs (laid_tab (rest := Rows.fnExactFormatIntRow.laid.drop 3) (name := "internal/strconv.uint64pow10") (k := .u64) (zs := Lib.pow10Tab) (g := 5) 2 hL' (by kernel_rfl) (by kernel_rfl) (by kernel_rfl) Tryd.underlying122 Tryd.underlying99 (by kernel_rfl) (by kernel_rfl))
  exact walk_FnExactFormatInt a0 w0 W hT
theorem door_FnExactFormatInt (os : Os) : laidMetH Tryd.prog Rows.fnExactFormatIntRow.laid ((World.doorLaid Tryd.prog 105 os).forCall (fun _ _ => 0) ⟨#[], #[.int .i64 0], []⟩).memory :=
  laidMetH_of_parts3 (fuel := 8) (laidMet_of_run' 8 (by kernel_rfl) (by kernel_rfl)) (by kernel_rfl) (by kernel_rfl)
theorem some_FnExactFormatInt (os : Os) {H : Type} (enc : TypeId × Value → H) : (DataW.whole enc Tryd.prog ((World.doorLaid Tryd.prog 105 os).forCall (fun _ _ => 0) ⟨#[], #[.int .i64 0], []⟩).memory Tryd.f6.params.toList Rows.fnExactFormatIntSpec.vars false #[.int .i64 0].toList 8).isSome = true := by kernel_rfl
set_option maxRecDepth 100000 in
theorem lifted_FnExactFormatInt (os : Os) (started : os.Started) (H : Type) (enc : TypeId × Value → H) (F : Stop.Interp) :
    ReturnsInHanded {} Tryd.checked os 6 .any ((OpenSpec.ofChange Rows.fnExactFormatIntSpec).preRow enc Tryd.prog Tryd.f6 Rows.fnExactFormatIntRow.domain false Rows.fnExactFormatIntRow.laid) (((OpenSpec.ofChange Rows.fnExactFormatIntSpec).at F).post enc Tryd.prog Tryd.f6 false true false false) :=
  law_laid (C := Tryd.checked) (tb := 4) (n := 1) F own started (by kernel_rfl) Tryd.func6 rfl (by kernel_rfl) Tryd.underlying4 (by kernel_rfl)
    (fun ds h => by match ds, h with | [_], _ => rfl) laidOut' (by kernel_rfl)
    (witness_row_atRef (enc := enc) (C := Tryd.checked) false (World.doorLaid Tryd.prog 105 os) #[.int .i64 0] rfl (by kernel_rfl) (by kernel_rfl) (by kernel_rfl)
      (OpenSpec.preRow_of_cond 8 (Option.some_get (some_FnExactFormatInt os enc)).symm (by kernel_rfl) (fun k hk => by cases hk) (by kernel_rfl) (door_FnExactFormatInt os)))
    (fun W base args ds p hL hA hval => core_FnExactFormatInt enc W base args ds p hL hA hval)
theorem said_FnExactFormatInt : Rows.FnExactFormatIntSaid :=
  OpenClaim.holds_of_cond 6 Tryd.f6 rfl rfl rfl rfl rfl rfl rfl ⟨rfl, rfl, rfl, rfl, rfl⟩ rfl rfl rfl rfl rfl (by kernel_rfl) Tryd.func6 (by kernel_rfl)
    (of_decide_eq_true (by kernel_rfl)) (by unfold Func.isWrapper; first | (rw [if_pos (by decide +kernel)]; kernel_rfl) | (rw [if_neg (by decide +kernel)]; exact ⟨rfl, rfl⟩))
    (fun os started H enc _ F => by rw [OpenClaim.pre_eq_preRow]; exact lifted_FnExactFormatInt os started H enc F)
theorem plain_FnExactFormatInt (f : FuncId) (fn : Func) (hf : Tryd.pinned.checked.prog.funcNamed "loop.example/g00976/laws.FnExactFormatInt" = some f) (hfn : Tryd.pinned.checked.prog.funcs[f]? = some fn) :
    true = Tryd.pinned.checked.prog.looks [] ∧ ∀ (j : Nat) t, fn.params[j]? = some t → Tryd.pinned.checked.prog.wantsStandIn t = false := by
  obtain rfl : f = 6 := Option.some.inj ((show Tryd.prog.funcNamed "loop.example/g00976/laws.FnExactFormatInt" = some 6 by kernel_rfl).symm.trans hf) |>.symm
  obtain rfl : fn = Tryd.f6 := (Option.some.inj (Tryd.func6.symm.trans hfn)).symm
  refine ⟨by kernel_rfl, fun j t ht => ?_⟩
  have hall : (Tryd.f6.params.toList.all fun u => !Tryd.prog.wantsStandIn u) = true := by kernel_rfl
  have hm : t ∈ Tryd.f6.params.toList := by simpa using Array.mem_of_getElem? ht
  exact (show Tryd.prog.wantsStandIn t = false by simpa using List.all_eq_true.1 hall t hm)
theorem holds_FnExactFormatInt : Rows.FnExactFormatIntCardSaid :=
  Claim7.holds_tied_plain_at .later [] _ _ _ _ said_FnExactFormatInt (fun _ h => by cases h) (by kernel_rfl) (fun _ h => by cases h) fnExactFormatInt_row_tie rfl ⟨rfl, rfl⟩ (by kernel_rfl) rfl plain_FnExactFormatInt (by kernel_rfl)
end Go.Proofs.YtkoagijliokhlaaDoor
