/-
  FnExactParseValue RETURNS true AND LEAVES ITS ARGUMENTS AS THEY WERE, FOR EVERY INPUT THAT THE STATEMENT SPEAKS OF. No condition.
-/
import Derived.WalkKit
import Derived.ProofKit
import Derived.OpenShut
import Derived.Handy
import Derived.Lib.Hide
import Derived.Deep.QuietTactic
import Derived.BigQuiet
import Derived.Deep.RegionHeld3
import Derived.Deep.DeepCutAuto
import Derived.Test.YtkoagijliokhlaaDoorLib
import Derived.Test.YtkoagijliokhlaaDoorOp
import Derived.Test.YtkoagijliokhlaaDoorC1
import Derived.Test.YtkoagijliokhlaaDoorC2
import Derived.Test.YtkoagijliokhlaaDoorOwn
import Derived.Test.YtkoagijliokhlaaDoorRow
import Derived.Test.YtkoagijliokhlaaDoorN0
import Derived.Test.YtkoagijliokhlaaDoorHld
import Derived.Test.YtkoagijliokhlaaDoorD1
import Derived.Test.YtkoagijliokhlaaDoorSz
import Derived.Test.YtkoagijliokhlaaDoorX0
import Derived.Test.YtkoagijliokhlaaDoorX1
import Derived.Test.YtkoagijliokhlaaDoorX2
import Derived.Test.YtkoagijliokhlaaDoorX3
import Derived.Test.YtkoagijliokhlaaDoorX4
import Derived.Test.YtkoagijliokhlaaDoorRows
import Derived.Test.YtkoagijliokhlaaDoorLibD
import Derived.Test.YtkoagijliokhlaaDoorCards
import Derived.Test.YtkoagijliokhlaaDoorTie
namespace Go.Proofs.YtkoagijliokhlaaDoor
open Go.RowKit Go.ChangeShapes Go.WideShapes Go.ChangeAt Go.ChangeMaps
set_option linter.unusedVariables false
set_option maxRecDepth 100000

theorem walk_FnExactParseValue (s0 : ByteArray) (hs0 : s0.size ≤ maxLen) (W : World) (hT : PowT W) (hE : ErrV W) : Calls Tryd.prog 3 #[.string s0] W fun e w' => e = .returned (.bool true) ∧ Below W.heap.size W w' := by
  by_cases hc : s0.size ≤ 1048576
  · have i1 : ¬ ((1048576 : Int) < (s0.size : Int)) := by omega
    have hS := Lib.hid fun w' => spec_ParseValue s0 hc w'
    have hI := Lib.hid fun w' (h : PowT w') (h2 : ErrV w') => impl_ParseValue s0 hc w' h h2
    have HT := Lib.hid hT
    have HE := Lib.hid hE
    clear hT hE
    generalize pvV s0 = r at *
    generalize pvB s0 = b at *
    have q0 : r.eqb r = true := Vl.eqb_iff.2 rfl
    have q2 : (b != b) = false := by simp
    go_enter Tryd.func3, Tryd.ntmps3
    go_wp2_with fail
    refine (hS.out _).mono ?_; rintro e w1 ⟨rfl, hb1⟩
    have HB1 := Lib.hid hb1
    clear hb1
    go_wp2_with fail
    refine (hI.out _ (tab_on HT.out (ex_alloc HB1.out _)) (HE.out.on (ex_alloc HB1.out _))).mono ?_; rintro e w2 ⟨rfl, hb2⟩
    have hk := below_keep hb2 (hp_new rfl)
    have y0 := blk_cell? hk 0
    have y1 := blk_cell? hk 1
    have y2 := blk_cell? hk 2
    have hz := blk_lt hk
    simp only [List.getElem?_toArray, List.getElem?_cons_zero, List.getElem?_cons_succ] at y0 y1 y2
    have HB2 := Lib.hid (ex_trans (ex_alloc HB1.out _) hb2)
    clear hb2 hk
    go_wp2_with fail
    refine (laws_eqValue r r _).mono ?_; rintro e w3 ⟨rfl, hb3⟩
    rw [q0]
    have HB3 := Lib.hid (ex_trans (ex_alloc HB2.out _) hb3)
    go_wp2_with fail
    go_returns
    exact ⟨rfl, HB3.out⟩
  · have i1 : (1048576 : Int) < (s0.size : Int) := by omega
    go_enter Tryd.func3, Tryd.ntmps3
    go_wp2_with fail
    go_returns
    exact ⟨rfl, Below.refl _ _⟩
theorem core_FnExactParseValue {H : Type} (enc : TypeId × Value → H) (W : World) (base : Nat) (args : Array Value) (ds : List (DataW H)) (p : List MemPlace)
    (hL : laidMetH Tryd.prog Rows.fnExactParseValueRow.laid W) (hA : DataW.TrodAll enc Tryd.prog W 0 (fun _ => true) true Tryd.f3.params.toList args.toList ds p)
    (hval : ∀ (j : Nat) t v, Tryd.f3.params[j]? = some t → args[j]? = some v → Value.okWide Tryd.prog W .any base t v) :
    Calls Tryd.prog 3 args W fun e W' => e = .returned (.bool true) ∧ Below W.heap.size W W' := by
  rw [Tryd.params3] at hA hval
  obtain ⟨u0, vs0, d0, ds0, p0, q0, hargs, rfl, rfl, h0, r0⟩ := trodAll_cons hA
  obtain ⟨rfl, rfl, rfl⟩ := trodAll_nil r0
  obtain rfl : args = #[u0] := by cases args; simp_all
  obtain ⟨s0, rfl, _, _, hs0⟩ := open_string Tryd.underlying9 (hval 0 9 u0 rfl rfl) h0
  have hL' : laidMet Tryd.prog Rows.fnExactParseValueRow.laid W := by rw [MakeChecks.laidMetH_plain _ _ _ (by kernel_rfl)] at hL; exact hL
  have hT : PowT W := Lib.tabBelow_of_tabIs (laid_tab (rest := Rows.fnExactParseValueRow.laid.drop 3) (name := "internal/strconv.uint64pow10") (k := .u64) (zs := Lib.pow10Tab) (g := 5) 2 hL' (by kernel_rfl) (by kernel_rfl) (by kernel_rfl) Tryd.underlying122 Tryd.underlying99 (by kernel_rfl) (by kernel_rfl))
  obtain ⟨a91, k91⟩ := laid_err (g := 3) 4 hL' rfl (by kernel_rfl) (by kernel_rfl)
  obtain ⟨a92, k92⟩ := laid_err (g := 4) 3 hL' rfl (by kernel_rfl) (by kernel_rfl)
  have hE : ErrV W := ⟨⟨_, k91, .inr ⟨_, _, rfl⟩⟩, _, k92, .inr ⟨_, _, rfl⟩⟩
  exact walk_FnExactParseValue s0 hs0 W hT hE
theorem door_FnExactParseValue (os : Os) : laidMetH Tryd.prog Rows.fnExactParseValueRow.laid ((World.doorLaid Tryd.prog 105 os).forCall (fun _ _ => 0) ⟨#[], #[.string ByteArray.empty], []⟩).memory :=
  laidMetH_of_parts3 (fuel := 8) (laidMet_of_run' 8 (by kernel_rfl) (by kernel_rfl)) (by kernel_rfl) (by kernel_rfl)
theorem some_FnExactParseValue (os : Os) {H : Type} (enc : TypeId × Value → H) : (DataW.whole enc Tryd.prog ((World.doorLaid Tryd.prog 105 os).forCall (fun _ _ => 0) ⟨#[], #[.string ByteArray.empty], []⟩).memory Tryd.f3.params.toList Rows.fnExactParseValueSpec.vars false #[.string ByteArray.empty].toList 8).isSome = true := by kernel_rfl
set_option maxRecDepth 100000 in
theorem lifted_FnExactParseValue (os : Os) (started : os.Started) (H : Type) (enc : TypeId × Value → H) (F : Stop.Interp) :
    ReturnsInHanded {} Tryd.checked os 3 .any ((OpenSpec.ofChange Rows.fnExactParseValueSpec).preRow enc Tryd.prog Tryd.f3 Rows.fnExactParseValueRow.domain false Rows.fnExactParseValueRow.laid) (((OpenSpec.ofChange Rows.fnExactParseValueSpec).at F).post enc Tryd.prog Tryd.f3 false true false false) :=
  law_laid (C := Tryd.checked) (tb := 4) (n := 1) F own started (by kernel_rfl) Tryd.func3 rfl (by kernel_rfl) Tryd.underlying4 (by kernel_rfl)
    (fun ds h => by match ds, h with | [_], _ => rfl) laidOut' (by kernel_rfl)
    (witness_row_atRef (enc := enc) (C := Tryd.checked) false (World.doorLaid Tryd.prog 105 os) #[.string ByteArray.empty] rfl (by kernel_rfl) (by kernel_rfl) (by kernel_rfl)
      (OpenSpec.preRow_of_cond 8 (Option.some_get (some_FnExactParseValue os enc)).symm (by kernel_rfl) (fun k hk => by cases hk) (by kernel_rfl) (door_FnExactParseValue os)))
    (fun W base args ds p hL hA hval => core_FnExactParseValue enc W base args ds p hL hA hval)
theorem said_FnExactParseValue : Rows.FnExactParseValueSaid :=
  OpenClaim.holds_of_cond 3 Tryd.f3 rfl rfl rfl rfl rfl rfl rfl ⟨rfl, rfl, rfl, rfl, rfl⟩ rfl rfl rfl rfl rfl (by kernel_rfl) Tryd.func3 (by kernel_rfl)
    (of_decide_eq_true (by kernel_rfl)) (by unfold Func.isWrapper; first | (rw [if_pos (by decide +kernel)]; kernel_rfl) | (rw [if_neg (by decide +kernel)]; exact ⟨rfl, rfl⟩))
    (fun os started H enc _ F => by rw [OpenClaim.pre_eq_preRow]; exact lifted_FnExactParseValue os started H enc F)
theorem plain_FnExactParseValue (f : FuncId) (fn : Func) (hf : Tryd.pinned.checked.prog.funcNamed "loop.example/g00976/laws.FnExactParseValue" = some f) (hfn : Tryd.pinned.checked.prog.funcs[f]? = some fn) :
    true = Tryd.pinned.checked.prog.looks [] ∧ ∀ (j : Nat) t, fn.params[j]? = some t → Tryd.pinned.checked.prog.wantsStandIn t = false := by
  obtain rfl : f = 3 := Option.some.inj ((show Tryd.prog.funcNamed "loop.example/g00976/laws.FnExactParseValue" = some 3 by kernel_rfl).symm.trans hf) |>.symm
  obtain rfl : fn = Tryd.f3 := (Option.some.inj (Tryd.func3.symm.trans hfn)).symm
  refine ⟨by kernel_rfl, fun j t ht => ?_⟩
  have hall : (Tryd.f3.params.toList.all fun u => !Tryd.prog.wantsStandIn u) = true := by kernel_rfl
  have hm : t ∈ Tryd.f3.params.toList := by simpa using Array.mem_of_getElem? ht
  exact (show Tryd.prog.wantsStandIn t = false by simpa using List.all_eq_true.1 hall t hm)
theorem holds_FnExactParseValue : Rows.FnExactParseValueCardSaid :=
  Claim7.holds_tied_plain_at .later [] _ _ _ _ said_FnExactParseValue (fun _ h => by cases h) (by kernel_rfl) (fun _ h => by cases h) fnExactParseValue_row_tie rfl ⟨rfl, rfl⟩ (by kernel_rfl) rfl plain_FnExactParseValue (by kernel_rfl)
end Go.Proofs.YtkoagijliokhlaaDoor
