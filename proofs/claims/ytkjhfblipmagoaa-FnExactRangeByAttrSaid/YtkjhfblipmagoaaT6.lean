/-
  CONTRACTS: equal lists of texts.
-/
import Derived.WalkKit
import Derived.WalkSpells
import Derived.WalkLawsBesides
import Derived.Lib.Hide
import Derived.Handy
import Derived.Deep.QuietTactic
import Derived.BigQuiet
import Derived.Test.YtkjhfblipmagoaaLib
import Derived.Test.YtkjhfblipmagoaaOwn
import Derived.Test.YtkjhfblipmagoaaC1
import Derived.Test.YtkjhfblipmagoaaT1
import Derived.Test.YtkjhfblipmagoaaRows
namespace Go.Proofs.Ytkjhfblipmagoaa
open Go.RowKit
set_option linter.unusedVariables false
set_option maxRecDepth 100000
set_option maxHeartbeats 800000 in
theorem laws_eqStringS_same (A B : Option Addr) (n c m d : Nat) (l : List ByteArray) (w : World) (hS : Sl 1 RStr w A n l) (hT : Sl 1 RStr w B m l) (hn : n ≤ 1073741824) (hm : m ≤ 1073741824) :
    Calls Try.prog 34 #[.slice A n c, .slice B m d] w fun e w' => e = .returned (.bool true) ∧ Below w.heap.size w w' := by
  obtain rfl : l.length = n := hS.len
  obtain rfl : l.length = m := hT.len
  go_enter Try.func34, Try.ntmps34
  go_wp2_with fail
  go_loopw [5] (fun i wr => ∃ (k : Nat), k ≤ l.length ∧ i = .int .i64 k ∧ Below w.heap.size w wr) (fun i _ => l.length - (intOf i).toNat)
  case atStart => exact ⟨0, Nat.zero_le _, rfl, Below.refl _ _⟩
  case round =>
    obtain ⟨k, hk, rfl, hb⟩ := hrel
    by_cases hlt : k < l.length
    · have i0 : (0 : Int) ≤ (k : Int) := by omega
      have i2 : (k : Int) < (l.length : Int) := by omega
      obtain ⟨b, off, rfl, bw, bc⟩ := hS.str (by omega)
      obtain ⟨b1, off1, rfl, b1w, b1c⟩ := hT.str (by omega)
      have q0 := bc k (by omega)
      have r0 := b1c k (by omega)
      rw [← hb.cell (p := ⟨b, _, none⟩) bw] at q0
      rw [← hb.cell (p := ⟨b1, _, none⟩) b1w] at r0
      clear bc b1c
      go_wp2_with fail
      go_quiet (fail)
      go_wp2_with fail
      go_roundw
      case rel => exact ⟨k + 1, by omega, by go_num, ex_drewN hb _⟩
      case measure => simp [intOf]; omega
    · go_wp2_with fail
      go_returns
      exact ⟨rfl, hb⟩
end Go.Proofs.Ytkjhfblipmagoaa
