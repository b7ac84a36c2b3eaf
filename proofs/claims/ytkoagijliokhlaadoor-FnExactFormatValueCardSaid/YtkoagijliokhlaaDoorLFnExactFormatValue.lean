/-
  FnExactFormatValue RETURNS true AND LEAVES ITS ARGUMENTS AS THEY WERE, FOR EVERY INPUT THAT THE STATEMENT SPEAKS OF. No condition.
-/
import Derived.WalkKit
import Derived.ProofKit
import Derived.OpenShut
import Derived.Handy
import Derived.Lib.Hide
import Derived.Deep.QuietTactic
import Derived.BigQuiet
import Derived.Deep.RegionHeld3
import Derived.Deep.DeepCutAuto
import Derived.Test.YtkoagijliokhlaaDoorLib
import Derived.Test.YtkoagijliokhlaaDoorOp
import Derived.Test.YtkoagijliokhlaaDoorC1
import Derived.Test.YtkoagijliokhlaaDoorC2
import Derived.Test.YtkoagijliokhlaaDoorOwn
import Derived.Test.YtkoagijliokhlaaDoorRow
import Derived.Test.YtkoagijliokhlaaDoorHld
import Derived.Test.YtkoagijliokhlaaDoorD1
import Derived.Test.YtkoagijliokhlaaDoorSz
import Derived.Test.YtkoagijliokhlaaDoorX0
import Derived.Test.YtkoagijliokhlaaDoorX1
import Derived.Test.YtkoagijliokhlaaDoorX2
import Derived.Test.YtkoagijliokhlaaDoorX3
import Derived.Test.YtkoagijliokhlaaDoorX4
import Derived.Test.YtkoagijliokhlaaDoorRows
import Derived.Test.YtkoagijliokhlaaDoorLibD
import Derived.Test.YtkoagijliokhlaaDoorCards
import Derived.Test.YtkoagijliokhlaaDoorTie
namespace Go.Proofs.YtkoagijliokhlaaDoor
open Go.RowKit Go.ChangeShapes Go.WideShapes Go.ChangeAt Go.ChangeMaps
set_option linter.unusedVariables false
set_option maxRecDepth 100000

theorem walk_FnExactFormatValue (v0 : Vl) (hv0 : v0.ok maxLen) (W : World) (hT : PowT W) : Calls Tryd.prog 9 #[.agg #[.int .i64 v0.kind, .int .i64 v0.int, .string v0.str]] W fun e w' => e = .returned (.bool true) ∧ Below W.heap.size W w' := by
  have C := laws_szValue v0 1048576
  have hsz : v0.sz = v0.str.size := rfl
  have HT := Lib.hid hT
  clear hT
  by_cases h : v0.sz ≤ 1048576
  · have hs : v0.str.size ≤ 1073741824 := by omega
    have h0 : 0 ≤ 1048576 - v0.sz := by omega
    rw [lefts_ge h] at C
    have HC := Lib.hid C
    have hS := Lib.hid fun w' => spec_FormatValue v0 w' hs
    have hI := Lib.hid fun w' (h : PowT w') => impl_FormatValue v0 w' hs h
    generalize fmtV v0 = r at *
    have q1 : (r.toList != r.toList) = false := by simp
    clear C hsz h
    go_enter Tryd.func9, Tryd.ntmps9
    go_wp2_with fail
    refine (HC.out _ hv0 (by omega) (by omega)).mono ?_; rintro e w1 ⟨rfl, hb1⟩
    obtain ⟨hc1, hf1⟩ := bcell hb1
    have hz1 : W.heap.size < w1.heap.size := by have := hb1.size; simp at this; omega
    have HB1 := Lib.hid (ex_trans (w := W) (by go_grown) hb1)
    go_wp2_with fail
    refine (laws_toValue v0 _).mono ?_; rintro e w2 ⟨rfl, hb2⟩
    obtain ⟨hc2, hf2⟩ := bcell hb2
    have hz2 := hb2.size
    have HB2 := Lib.hid (ex_trans HB1.out hb2)
    go_wp2_with fail
    refine (hS.out _).mono ?_; rintro e w3 ⟨rfl, hb3⟩
    obtain ⟨hc3, hf3⟩ := bcell hb3
    have hz3 := hb3.size
    have hz3' : W.heap.size < w2.heap.size := by omega
    have hz3'' : W.heap.size < w3.heap.size := by omega
    have HB3 := Lib.hid (ex_trans HB2.out hb3)
    go_wp2_with fail
    refine (laws_toValue v0 _).mono ?_; rintro e w4 ⟨rfl, hb4⟩
    have HB4 := Lib.hid (ex_trans HB3.out hb4)
    go_wp2_with fail
    refine (hI.out _ (tab_on HT.out HB4.out)).mono ?_; rintro e w5 ⟨rfl, hb5⟩
    have HB5 := Lib.hid (ex_trans HB4.out hb5)
    go_wp2_with fail
    go_returns
    exact ⟨rfl, HB5.out⟩
  · have h0 : (-1 : Int) < 0 := by omega
    rw [lefts_lt h] at C
    go_enter Tryd.func9, Tryd.ntmps9
    go_wp2_with fail
    refine (C _ hv0 (by omega) (by omega)).mono ?_; rintro e w1 ⟨rfl, hb1⟩
    clear C
    go_wp2_with fail
    go_returns
    exact ⟨rfl, ex_trans (by go_grown) hb1⟩
theorem core_FnExactFormatValue {H : Type} (enc : TypeId × Value → H) (W : World) (base : Nat) (args : Array Value) (ds : List (DataW H)) (p : List MemPlace)
    (hL : laidMetH Tryd.prog Rows.fnExactFormatValueRow.laid W) (hA : DataW.TrodAll enc Tryd.prog W 0 (fun _ => true) true Tryd.f9.params.toList args.toList ds p)
    (hval : ∀ (j : Nat) t v, Tryd.f9.params[j]? = some t → args[j]? = some v → Value.okWide Tryd.prog W .any base t v) :
    Calls Tryd.prog 9 args W fun e W' => e = .returned (.bool true) ∧ Below W.heap.size W W' := by
  rw [Tryd.params9] at hA hval
  obtain ⟨u0, vs0, d0, ds0, p0, q0, hargs, rfl, rfl, h0, r0⟩ := trodAll_cons hA
  obtain ⟨rfl, rfl, rfl⟩ := trodAll_nil r0
  obtain rfl : args = #[u0] := by cases args; simp_all
  obtain ⟨fu0, g0⟩ := h0
  obtain ⟨x0, e0, ok0⟩ := Op_Value.2 _ _ _ g0
  have z0 := agg_of Tryd.underlying43 (hval 0 43 u0 rfl rfl)
  have y0 : u0 = .agg ⟨_⟩ := z0.trans (congrArg (fun l => Value.agg ⟨l⟩) e0)
  subst y0
  have hL' : laidMet Tryd.prog Rows.fnExactFormatValueRow.laid W := by rw [MakeChecks.laidMetH_plain _ _ _ (by kernel_rfl)] at hL; exact hL
  have hT : PowT W := Lib.tabBelow_of_tabIs (laid_tab (rest := Rows.fnExactFormatValueRow.laid.drop 3) (name := "internal/strconv.uint64pow10") (k := .u64) (zs := Lib.pow10Tab) (g := 5) 2 hL' (by kernel_rfl) (by kernel_rfl) (by kernel_rfl) Tryd.underlying122 Tryd.underlying99 (by kernel_rfl) (by kernel_rfl))
  exact walk_FnExactFormatValue x0 ok0 W hT
theorem door_FnExactFormatValue (os : Os) : laidMetH Tryd.prog Rows.fnExactFormatValueRow.laid ((World.doorLaid Tryd.prog 105 os).forCall (fun _ _ => 0) ⟨#[], #[.agg #[.int .i64 0, .int .i64 0, .string ByteArray.empty]], []⟩).memory :=
  laidMetH_of_parts3 (fuel := 8) (laidMet_of_run' 8 (by kernel_rfl) (by kernel_rfl)) (by kernel_rfl) (by kernel_rfl)
theorem some_FnExactFormatValue (os : Os) {H : Type} (enc : TypeId × Value → H) : (DataW.whole enc Tryd.prog ((World.doorLaid Tryd.prog 105 os).forCall (fun _ _ => 0) ⟨#[], #[.agg #[.int .i64 0, .int .i64 0, .string ByteArray.empty]], []⟩).memory Tryd.f9.params.toList Rows.fnExactFormatValueSpec.vars false #[.agg #[.int .i64 0, .int .i64 0, .string ByteArray.empty]].toList 8).isSome = true := by kernel_rfl
set_option maxRecDepth 100000 in
theorem lifted_FnExactFormatValue (os : Os) (started : os.Started) (H : Type) (enc : TypeId × Value → H) (F : Stop.Interp) :
    ReturnsInHanded {} Tryd.checked os 9 .any ((OpenSpec.ofChange Rows.fnExactFormatValueSpec).preRow enc Tryd.prog Tryd.f9 Rows.fnExactFormatValueRow.domain false Rows.fnExactFormatValueRow.laid) (((OpenSpec.ofChange Rows.fnExactFormatValueSpec).at F).post enc Tryd.prog Tryd.f9 false true false false) :=
  law_laid (C := Tryd.checked) (tb := 4) (n := 1) F own started (by kernel_rfl) Tryd.func9 rfl (by kernel_rfl) Tryd.underlying4 (by kernel_rfl)
    (fun ds h => by match ds, h with | [_], _ => rfl) laidOut' (by kernel_rfl)
    (witness_row_atRef (enc := enc) (C := Tryd.checked) false (World.doorLaid Tryd.prog 105 os) #[.agg #[.int .i64 0, .int .i64 0, .string ByteArray.empty]] rfl (by kernel_rfl) (by kernel_rfl) (by kernel_rfl)
      (OpenSpec.preRow_of_cond 8 (Option.some_get (some_FnExactFormatValue os enc)).symm (by kernel_rfl) (fun k hk => by cases hk) (by kernel_rfl) (door_FnExactFormatValue os)))
    (fun W base args ds p hL hA hval => core_FnExactFormatValue enc W base args ds p hL hA hval)
theorem said_FnExactFormatValue : Rows.FnExactFormatValueSaid :=
  OpenClaim.holds_of_cond 9 Tryd.f9 rfl rfl rfl rfl rfl rfl rfl ⟨rfl, rfl, rfl, rfl, rfl⟩ rfl rfl rfl rfl rfl (by kernel_rfl) Tryd.func9 (by kernel_rfl)
    (of_decide_eq_true (by kernel_rfl)) (by unfold Func.isWrapper; first | (rw [if_pos (by decide +kernel)]; kernel_rfl) | (rw [if_neg (by decide +kernel)]; exact ⟨rfl, rfl⟩))
    (fun os started H enc _ F => by rw [OpenClaim.pre_eq_preRow]; exact lifted_FnExactFormatValue os started H enc F)
theorem plain_FnExactFormatValue (f : FuncId) (fn : Func) (hf : Tryd.pinned.checked.prog.funcNamed "loop.example/g00976/laws.FnExactFormatValue" = some f) (hfn : Tryd.pinned.checked.prog.funcs[f]? = some fn) :
    true = Tryd.pinned.checked.prog.looks [] ∧ ∀ (j : Nat) t, fn.params[j]? = some t → Tryd.pinned.checked.prog.wantsStandIn t = false := by
  obtain rfl : f = 9 := Option.some.inj ((show Tryd.prog.funcNamed "loop.example/g00976/laws.FnExactFormatValue" = some 9 by kernel_rfl).symm.trans hf) |>.symm
  obtain rfl : fn = Tryd.f9 := (Option.some.inj (Tryd.func9.symm.trans hfn)).symm
  refine ⟨by kernel_rfl, fun j t ht => ?_⟩
  have hall : (Tryd.f9.params.toList.all fun u => !Tryd.prog.wantsStandIn u) = true := by kernel_rfl
  have hm : t ∈ Tryd.f9.params.toList := by simpa using Array.mem_of_getElem? ht
  exact (show Tryd.prog.wantsStandIn t = false by simpa using List.all_eq_true.1 hall t hm)
theorem holds_FnExactFormatValue : Rows.FnExactFormatValueCardSaid :=
  Claim7.holds_tied_plain_at .later [] _ _ _ _ said_FnExactFormatValue (fun _ h => by cases h) (by kernel_rfl) (fun _ h => by cases h) fnExactFormatValue_row_tie rfl ⟨rfl, rfl⟩ (by kernel_rfl) rfl plain_FnExactFormatValue (by kernel_rfl)
end Go.Proofs.YtkoagijliokhlaaDoor
