/-
  FnFieldsJoin RETURNS true AND LEAVES ITS ARGUMENTS AS THEY WERE, FOR EVERY INPUT THAT THE STATEMENT SPEAKS OF. No condition.
-/
import Derived.WalkKit
import Derived.ProofKit
import Derived.OpenShut
import Derived.Handy
import Derived.Lib.Hide
import Derived.Deep.QuietTactic
import Derived.BigQuiet
import Derived.Deep.RegionHeld3
import Derived.Deep.DeepCutAuto
import Derived.Test.YtkoagijliokhlaaDoorLib
import Derived.Test.YtkoagijliokhlaaDoorOp
import Derived.Test.YtkoagijliokhlaaDoorC1
import Derived.Test.YtkoagijliokhlaaDoorC2
import Derived.Test.YtkoagijliokhlaaDoorC4
import Derived.Test.YtkoagijliokhlaaDoorOwn
import Derived.Test.YtkoagijliokhlaaDoorRow
import Derived.Test.YtkoagijliokhlaaDoorN0
import Derived.Test.YtkoagijliokhlaaDoorHld
import Derived.Test.YtkoagijliokhlaaDoorD1
import Derived.Test.YtkoagijliokhlaaDoorSz
import Derived.Test.YtkoagijliokhlaaDoorX0
import Derived.Test.YtkoagijliokhlaaDoorX1
import Derived.Test.YtkoagijliokhlaaDoorX2
import Derived.Test.YtkoagijliokhlaaDoorX3
import Derived.Test.YtkoagijliokhlaaDoorY1
import Derived.Test.YtkoagijliokhlaaDoorY2
import Derived.Test.YtkoagijliokhlaaDoorY3
import Derived.Test.YtkoagijliokhlaaDoorX6
import Derived.Test.YtkoagijliokhlaaDoorY7
import Derived.Test.YtkoagijliokhlaaDoorY8
import Derived.Test.YtkoagijliokhlaaDoorRows
import Derived.Test.YtkoagijliokhlaaDoorLibD
import Derived.Test.YtkoagijliokhlaaDoorCards
import Derived.Test.YtkoagijliokhlaaDoorTie
namespace Go.Proofs.YtkoagijliokhlaaDoor
open Go.RowKit Go.ChangeShapes Go.WideShapes Go.ChangeAt Go.ChangeMaps
set_option linter.unusedVariables false
set_option maxRecDepth 100000
set_option maxHeartbeats 4000000 in
theorem walk_FnFieldsJoin (W : World) (A0 : Option Addr) (n0 c0 : Nat) (l0 : List Int) (hS0 : Sl 1 RByt W A0 n0 l0) (hn0 : n0 ≤ maxLen) (hl0 : ∀ y ∈ l0, 0 ≤ y ∧ y ≤ 255) (hSp : SpT W) : Calls Tryd.prog 8 #[.slice A0 n0 c0] W fun e w' => e = .returned (.bool true) ∧ Below W.heap.size W w' := by
  by_cases hc : n0 ≤ 1048576
  · have HD := Lib.hid (spec_DrawSplitFields A0 n0 c0 l0 W hS0 hc hl0)
    have HSP := Lib.hid hSp
    clear hS0 hl0 hSp
    go_enter Tryd.func8, Tryd.ntmps8
    go_wp2_with fail
    refine (laws_big_f A0 n0 c0 _ hc).mono ?_; rintro e w0 ⟨rfl, rfl⟩
    go_wp2_with fail
    refine HD.out.mono ?_; rintro e w1 ⟨s, rfl, hs, hb1⟩
    have HB1 := Lib.hid hb1
    clear hb1 HD
    go_wp2_with fail
    have hn2 := sfL_le s
    have HJ := Lib.hid (join_split s)
    have HW := Lib.hid (sfL_word s)
    have HN := Lib.hid (sfN (s := s))
    obtain ⟨ok, hok⟩ : ∃ b, sfB s = b := ⟨_, rfl⟩
    have HS2 := Lib.hid fun w => spec_SplitFields s (by omega) w
    have HI2 := Lib.hid fun w (h : SpT w) => impl_SplitFields s (by omega) w h
    unfold SfV at HS2 HI2
    simp only [hok] at HJ HN HS2 HI2
    generalize sfL s = fs at *
    clear hok
    refine (HI2.out _ (tab_on HSP.out HB1.out)).mono ?_; rintro e w2 ⟨A2, c2, rfl, hR2, hb2⟩
    have HB2 := Lib.hid (ex_trans HB1.out hb2)
    have HL2 := Lib.hid (hR2.sl encStr (fun x => rfl) : Sl 1 RStr w2 A2 fs.length fs)
    clear hb2 hR2 HI2
    go_wp2_with fail
    refine (HS2.out _).mono ?_; rintro e w3 ⟨A3, c3, rfl, hR3, hb3⟩
    have HB3 := Lib.hid (ex_trans HB2.out hb3)
    have HL3 := Lib.hid (hR3.sl encStr (fun x => rfl) : Sl 1 RStr w3 A3 fs.length fs)
    have HL23 := Lib.hid (HL2.out.mono mStr hb3)
    clear hb3 hR3
    have hoo : (ok != ok) = false := by cases ok <;> rfl
    go_wp2_with fail
    refine (laws_sameTexts_same _ _ _ _ _ _ fs _ HL23.out HL3.out (by omega) (by omega)).mono ?_; rintro e w4 ⟨rfl, hb4⟩
    have HB4 := Lib.hid (ex_trans HB3.out hb4)
    have HL4 := Lib.hid (HL23.out.mono mStr hb4)
    clear hb4
    go_wp2_with fail
    go_loopw [8, 9] (fun t i wr => ∃ k : Nat, k ≤ fs.length ∧ i = .int .i64 (k : Int) ∧ t = .string (joinS (fs.take k)) ∧ Below w4.heap.size w4 wr) (fun _ i _ => fs.length - (intOf i).toNat)
    case atStart => exact ⟨0, Nat.zero_le _, rfl, by rw [List.take_zero, joinS_nil]; rfl, Below.refl _ _⟩
    case round =>
      obtain ⟨k, hk, rfl, rfl, hbr⟩ := hrel
      have HBR := Lib.hid hbr
      have hjz : (joinS (fs.take k)).size ≤ 15000 := by
        have h1 := joinS_size (fs.take k) 600 (fun f hf => HW.out f (List.mem_of_mem_take hf))
        rw [List.length_take] at h1
        have h2 : min k fs.length * (600 + 1) ≤ 24 * (600 + 1) := Nat.mul_le_mul_right _ (by omega)
        omega
      by_cases hlt : k < fs.length
      · have i0 : (0 : Int) ≤ (k : Int) := by omega
        have i2 : (k : Int) < (fs.length : Int) := by omega
        obtain ⟨b, off, rfl, bw, bc⟩ := HL4.out.str (by omega)
        have q0 := bc k hlt
        rw [← hbr.cell (p := ⟨b, _, none⟩) bw] at q0
        have hfz := HW.out _ (List.getElem_mem hlt)
        have HT := Lib.hid (joinS_take fs k hlt)
        clear bc hbr
        generalize fs[k] = f at *
        generalize joinS (fs.take k) = u at *
        have hvz : (u ++ (⟨#[32]⟩ : ByteArray)).size ≤ 15001 := by
          rw [ByteArray.size_append]
          have : (⟨#[32]⟩ : ByteArray).size = 1 := rfl
          omega
        go_wp2_with fail
        go_roundw
        case rel => exact ⟨k + 1, by omega, by go_num, by rw [HT.out], HBR.out⟩
        case measure => simp [intOf]; omega
      · obtain rfl : fs.length = k := by omega
        rw [List.take_length] at hjz ⊢
        obtain ⟨t, ht⟩ : ∃ t, joinS fs = t := ⟨_, rfl⟩
        obtain ⟨ag, hag⟩ : ∃ b, sfB t = b := ⟨_, rfl⟩
        have HS3 := Lib.hid fun w => spec_SplitFields t (by rw [← ht]; omega) w
        have HI3 := Lib.hid fun w (h : SpT w) => impl_SplitFields t (by rw [← ht]; omega) w h
        have HJ2 := HJ.out
        have hls := sfL_le t
        rw [ht] at HJ2 hjz ⊢
        unfold SfV at HS3 HI3
        simp only [hag] at HJ2 HS3 HI3
        have HJ3 := Lib.hid HJ2
        generalize sfL t = ls at *
        clear hag ht HJ2 hbr
        have HB5 := Lib.hid (ex_trans HB4.out HBR.out)
        have HL5 := Lib.hid (HL4.out.mono mStr HBR.out)
        clear HL4 HL23 HL3 HL2 HB4 HB3 HB2
        go_wp2_with fail
        refine (HI3.out _ (tab_on HSP.out HB5.out)).mono ?_; rintro e w6 ⟨A6, c6, rfl, hR6, hb6⟩
        have HB6 := Lib.hid (ex_trans HB5.out hb6)
        have HL6 := Lib.hid (hR6.sl encStr (fun x => rfl) : Sl 1 RStr w6 A6 ls.length ls)
        have HL56 := Lib.hid (HL5.out.mono mStr hb6)
        clear hb6 hR6 HI3 HL5
        go_wp2_with fail
        refine (HS3.out _).mono ?_; rintro e w7 ⟨A7, c7, rfl, hR7, hb7⟩
        have HB7 := Lib.hid (ex_trans HB6.out hb7)
        have HL7 := Lib.hid (hR7.sl encStr (fun x => rfl) : Sl 1 RStr w7 A7 ls.length ls)
        have HL67 := Lib.hid (HL6.out.mono mStr hb7)
        have HL57 := Lib.hid (HL56.out.mono mStr hb7)
        clear hb7 hR7 HS3 HL56 HL6
        have haa : (ag == ag) = true := by cases ag <;> rfl
        go_wp2_with fail
        refine (laws_sameTexts_same _ _ _ _ _ _ ls _ HL67.out HL7.out (by omega) (by omega)).mono ?_; rintro e w8 ⟨rfl, hb8⟩
        have HB8 := Lib.hid (ex_trans HB7.out hb8)
        have HL8 := Lib.hid (HL67.out.mono mStr hb8)
        have HL58 := Lib.hid (HL57.out.mono mStr hb8)
        clear hb8 HL67 HL57 HL7
        cases ok with
        | false =>
          go_wp2_with fail
          go_returns
          exact ⟨rfl, HB8.out⟩
        | true =>
          by_cases hz : 600 < t.size
          · have hzi : (600 : Int) < (t.size : Int) := by omega
            go_wp2_with fail
            go_returns
            exact ⟨rfl, HB8.out⟩
          · have hzi : ¬ (600 : Int) < (t.size : Int) := by omega
            obtain ⟨h1, h2⟩ := HJ3.out rfl (by omega)
            subst h1 h2
            clear HJ3 HJ
            go_wp2_with fail
            refine (laws_sameTexts_same _ _ _ _ _ _ _ _ HL8.out HL58.out (by omega) (by omega)).mono ?_; rintro e w9 ⟨rfl, hb9⟩
            have HB9 := Lib.hid (ex_trans HB8.out hb9)
            clear hb9
            go_wp2_with fail
            go_returns
            exact ⟨rfl, HB9.out⟩
  · go_enter Tryd.func8, Tryd.ntmps8
    go_wp2_with fail
    refine (laws_big_t A0 n0 c0 _ (by omega)).mono ?_; rintro e w0 ⟨rfl, rfl⟩
    go_wp2_with fail
    go_returns
    exact ⟨rfl, Below.refl _ _⟩
theorem core_FnFieldsJoin {H : Type} (enc : TypeId × Value → H) (W : World) (base : Nat) (args : Array Value) (ds : List (DataW H)) (p : List MemPlace)
    (hL : laidMetH Tryd.prog Rows.fnFieldsJoinRow.laid W) (hA : DataW.TrodAll enc Tryd.prog W 0 (fun _ => true) true Tryd.f8.params.toList args.toList ds p)
    (hval : ∀ (j : Nat) t v, Tryd.f8.params[j]? = some t → args[j]? = some v → Value.okWide Tryd.prog W .any base t v) :
    Calls Tryd.prog 8 args W fun e W' => e = .returned (.bool true) ∧ Below W.heap.size W W' := by
  rw [Tryd.params8] at hA hval
  obtain ⟨u0, vs0, d0, ds0, p0, q0, hargs, rfl, rfl, h0, r0⟩ := trodAll_cons hA
  obtain ⟨rfl, rfl, rfl⟩ := trodAll_nil r0
  obtain rfl : args = #[u0] := by cases args; simp_all
  obtain ⟨ad0, ln0, cp0, rfl⟩ := okWide_slice Tryd.underlying30 (hval 0 30 u0 rfl rfl)
  obtain ⟨fu0, g0⟩ := h0
  obtain ⟨A0, n0, c0, l0, e0, hn0, _, hS0, hl0⟩ := opens_slice Tryd.underlying30 (by omega) Op_byt g0
  simp only [Value.cells, List.cons.injEq, Value.slice.injEq, and_true] at e0
  obtain ⟨rfl, rfl, rfl⟩ := e0
  have hL' : laidMet Tryd.prog Rows.fnFieldsJoinRow.laid W := by rw [MakeChecks.laidMetH_plain _ _ _ (by kernel_rfl)] at hL; exact hL
  have hSp : SpT W := Lib.tabBelow_of_tabIs (laid_tab (rest := Rows.fnFieldsJoinRow.laid.drop 2) (name := "strings.asciiSpace") (k := .u8) (zs := Lib.asciiSpaceTab) (g := 0) 1 hL' (by kernel_rfl) (by kernel_rfl) (by kernel_rfl) Tryd.underlying78 Tryd.underlying5 (by kernel_rfl) (by kernel_rfl))
  exact walk_FnFieldsJoin W ad0 ln0 cp0 l0 hS0 hn0 hl0 hSp
theorem door_FnFieldsJoin (os : Os) : laidMetH Tryd.prog Rows.fnFieldsJoinRow.laid ((World.doorLaid Tryd.prog 105 os).forCall (fun _ _ => 0) ⟨#[], #[.slice none 0 0], []⟩).memory :=
  laidMetH_of_parts3 (fuel := 8) (laidMet_of_run' 8 (by kernel_rfl) (by kernel_rfl)) (by kernel_rfl) (by kernel_rfl)
theorem some_FnFieldsJoin (os : Os) {H : Type} (enc : TypeId × Value → H) : (DataW.whole enc Tryd.prog ((World.doorLaid Tryd.prog 105 os).forCall (fun _ _ => 0) ⟨#[], #[.slice none 0 0], []⟩).memory Tryd.f8.params.toList Rows.fnFieldsJoinSpec.vars false #[.slice none 0 0].toList 8).isSome = true := by kernel_rfl
set_option maxRecDepth 100000 in
theorem lifted_FnFieldsJoin (os : Os) (started : os.Started) (H : Type) (enc : TypeId × Value → H) (F : Stop.Interp) :
    ReturnsInHanded {} Tryd.checked os 8 .any ((OpenSpec.ofChange Rows.fnFieldsJoinSpec).preRow enc Tryd.prog Tryd.f8 Rows.fnFieldsJoinRow.domain false Rows.fnFieldsJoinRow.laid) (((OpenSpec.ofChange Rows.fnFieldsJoinSpec).at F).post enc Tryd.prog Tryd.f8 false true false false) :=
  law_laid (C := Tryd.checked) (tb := 4) (n := 1) F own started (by kernel_rfl) Tryd.func8 rfl (by kernel_rfl) Tryd.underlying4 (by kernel_rfl)
    (fun ds h => by match ds, h with | [_], _ => rfl) laidOut' (by kernel_rfl)
    (witness_row_atRef (enc := enc) (C := Tryd.checked) false (World.doorLaid Tryd.prog 105 os) #[.slice none 0 0] rfl (by kernel_rfl) (by kernel_rfl) (by kernel_rfl)
      (OpenSpec.preRow_of_cond 8 (Option.some_get (some_FnFieldsJoin os enc)).symm (by kernel_rfl) (fun k hk => by cases hk) (by kernel_rfl) (door_FnFieldsJoin os)))
    (fun W base args ds p hL hA hval => core_FnFieldsJoin enc W base args ds p hL hA hval)
theorem said_FnFieldsJoin : Rows.FnFieldsJoinSaid :=
  OpenClaim.holds_of_cond 8 Tryd.f8 rfl rfl rfl rfl rfl rfl rfl ⟨rfl, rfl, rfl, rfl, rfl⟩ rfl rfl rfl rfl rfl (by kernel_rfl) Tryd.func8 (by kernel_rfl)
    (of_decide_eq_true (by kernel_rfl)) (by unfold Func.isWrapper; first | (rw [if_pos (by decide +kernel)]; kernel_rfl) | (rw [if_neg (by decide +kernel)]; exact ⟨rfl, rfl⟩))
    (fun os started H enc _ F => by rw [OpenClaim.pre_eq_preRow]; exact lifted_FnFieldsJoin os started H enc F)
theorem plain_FnFieldsJoin (f : FuncId) (fn : Func) (hf : Tryd.pinned.checked.prog.funcNamed "loop.example/g00976/laws.FnFieldsJoin" = some f) (hfn : Tryd.pinned.checked.prog.funcs[f]? = some fn) :
    true = Tryd.pinned.checked.prog.looks [] ∧ ∀ (j : Nat) t, fn.params[j]? = some t → Tryd.pinned.checked.prog.wantsStandIn t = false := by
  obtain rfl : f = 8 := Option.some.inj ((show Tryd.prog.funcNamed "loop.example/g00976/laws.FnFieldsJoin" = some 8 by kernel_rfl).symm.trans hf) |>.symm
  obtain rfl : fn = Tryd.f8 := (Option.some.inj (Tryd.func8.symm.trans hfn)).symm
  refine ⟨by kernel_rfl, fun j t ht => ?_⟩
  have hall : (Tryd.f8.params.toList.all fun u => !Tryd.prog.wantsStandIn u) = true := by kernel_rfl
  have hm : t ∈ Tryd.f8.params.toList := by simpa using Array.mem_of_getElem? ht
  exact (show Tryd.prog.wantsStandIn t = false by simpa using List.all_eq_true.1 hall t hm)
theorem holds_FnFieldsJoin : Rows.FnFieldsJoinCardSaid :=
  Claim7.holds_tied_plain_at .later [] _ _ _ _ said_FnFieldsJoin (fun _ h => by cases h) (by kernel_rfl) (fun _ h => by cases h) fnFieldsJoin_row_tie rfl ⟨rfl, rfl⟩ (by kernel_rfl) rfl plain_FnFieldsJoin (by kernel_rfl)
end Go.Proofs.YtkoagijliokhlaaDoor
