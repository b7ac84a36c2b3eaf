/-
  CONTRACTS: the reference's text functions.
-/
import Derived.WalkKit
import Derived.WalkSpells
import Derived.WalkLawsBesides
import Derived.Lib.Hide
import Derived.Handy
import Derived.Laws.IdiomStrings
import Derived.Laws.BytesArg
import Derived.StillTailTactics
import Derived.Deep.Light
import Derived.Deep.QuietTactic
import Derived.BigQuiet
import Derived.Test.YtkoagijliokhlaaLib
import Derived.Test.YtkoagijliokhlaaOwn
import Derived.Test.YtkoagijliokhlaaRow
import Derived.Test.YtkoagijliokhlaaC1
import Derived.Test.YtkoagijliokhlaaC2
import Derived.Test.YtkoagijliokhlaaX0
import Derived.Test.YtkoagijliokhlaaRows
namespace Go.Proofs.Ytkoagijliokhlaa
open Go.RowKit
set_option linter.unusedVariables false
set_option maxRecDepth 100000
def eByt (c : UInt8) : List Value := [.int .u8 (c.toNat : Int)]
theorem encByt : Enc 1 eByt := ⟨by omega, fun _ => rfl, fun x u hu => by simp [eByt] at hu; subst hu; rfl⟩
theorem info_uint8 : (Try.prog.info? 5).map (fun i => (i.zero, i.size, i.bytes)) = some (some (.int .u8 0), 1, 1) := by kernel_rfl
theorem spec_l01Figure (x : Int) (hx0 : 0 ≤ x) (hx1 : x < 16) (w : World) : Calls Try.prog 6 #[.int .i64 x] w fun e w' => e = .returned (.int .u8 ((Lib.Hx.digit x.toNat).toNat : Int)) ∧ w = w' := by
  obtain ⟨d, rfl⟩ : ∃ d : Nat, x = d := ⟨x.toNat, by omega⟩
  have hf := fig_hex ⟨d, by omega⟩
  simp only at hf
  rw [show ((d : Int)).toNat = d from by simp]
  by_cases h : d < 10
  · rw [if_pos h] at hf
    have h1 : (d : Int) < 10 := by omega
    have HF := Lib.hid hf
    clear hf
    go_enter Try.func6, Try.ntmps6
    go_wp2_with fail
    go_ret
    exact ⟨ret_int (by have := HF.out; omega), rfl⟩
  · rw [if_neg h] at hf
    have h1 : ¬ ((d : Int) < 10) := by omega
    have h0 : (10 : Int) ≤ d := by omega
    have HF := Lib.hid hf
    clear hf
    go_enter Try.func6, Try.ntmps6
    go_wp2_with fail
    go_ret
    exact ⟨ret_int (by have := HF.out; omega), rfl⟩
end Go.Proofs.Ytkoagijliokhlaa
