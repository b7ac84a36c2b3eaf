/-
  CONTRACTS: equality of files and of indexes.
-/
import Derived.WalkKit
import Derived.WalkSpells
import Derived.WalkLawsBesides
import Derived.Lib.Hide
import Derived.Handy
import Derived.StillTailTactics
import Derived.Deep.Light
import Derived.Deep.QuietTactic
import Derived.BigQuiet
import Derived.Deep.RegionHeld3
import Derived.Test.YtjobgnioehkomaaLib
import Derived.Test.YtjobgnioehkomaaHld
import Derived.Test.YtjobgnioehkomaaOwn
import Derived.Test.YtjobgnioehkomaaC1
import Derived.Test.YtjobgnioehkomaaC2
import Derived.Test.YtjobgnioehkomaaT1
import Derived.Test.YtjobgnioehkomaaT2
import Derived.Test.YtjobgnioehkomaaT3
import Derived.Test.YtjobgnioehkomaaT4
import Derived.Test.YtjobgnioehkomaaT5
import Derived.Test.YtjobgnioehkomaaC3
import Derived.Test.YtjobgnioehkomaaC4
import Derived.Test.YtjobgnioehkomaaC5
import Derived.Test.YtjobgnioehkomaaSz
import Derived.Test.YtjobgnioehkomaaRows
namespace Go.Proofs.Ytjobgnioehkomaa
open Go.RowKit
set_option linter.unusedVariables false
set_option maxRecDepth 100000
theorem impl_EqualFiles (a b : Fil) (A : Option Addr) (n c : Nat) (B : Option Addr) (m d : Nat) (w : World) (hS : Sl 4 RAtr w A n a.attrs) (hT : Sl 4 RAtr w B m b.attrs) (ha : a.ok 1073741824) (hb : b.ok 1073741824) :
    Calls Try.prog 33 #[a.v A n c, b.v B m d] w fun e w' => e = .returned (.bool (a.eqb b)) ∧ Below w.heap.size w w' := by
  have hn : n ≤ 1073741824 := by rw [← hS.len]; exact ha.1
  have hm : m ≤ 1073741824 := by rw [← hT.len]; exact hb.1
  have HC := Lib.hid fun w' (hb : Below w.heap.size w w') => slices_Equal_Attr A n c a.attrs B m d b.attrs w' (hS.mono mAtr hb) (hT.mono mAtr hb) hn hm
  clear ha hb
  go_enter Try.func33, Try.ntmps33
  go_wp2_with (go_at_call 89; refine (HC.out _ (by go_grown)).mono ?_; rintro e w1 ⟨rfl, hb1⟩; have hB1 := ex_trans (w := w) (by go_grown) hb1)
  all_goals go_returns
  all_goals refine ⟨ret_bool ?_, by go_grown⟩
  all_goals go_light
  all_goals clear HC
  all_goals simp_all [Fil.eqb]
set_option maxHeartbeats 800000 in
theorem slices_Equal_int (A : Option Addr) (n c : Nat) (l : List Int) (B : Option Addr) (m d : Nat) (l' : List Int) (w : World) (hS : Sl 1 RInt w A n l) (hT : Sl 1 RInt w B m l') (hn : n ≤ 1073741824) (hm : m ≤ 1073741824) :
    Calls Try.prog 114 #[.slice A n c, .slice B m d] w fun e w' => e = .returned (.bool (eqL (fun a b => a == b) l l')) ∧ Below w.heap.size w w' := by
  obtain rfl : l.length = n := hS.len
  obtain rfl : l'.length = m := hT.len
  by_cases hlen : l.length = l'.length
  · have g0 : ((l.length : Int) != (l'.length : Int)) = false := by simp; omega
    have HL := Lib.hid hlen
    clear hlen
    go_enter Try.func114, Try.ntmps114
    go_wp2_with fail
    go_loopw [13] (fun i wr => ∃ (k : Nat), k ≤ l.length ∧ i = .int .i64 k ∧ eqTo (fun a b => a == b) l l' k ∧ Below w.heap.size w wr) (fun i _ => l.length - (intOf i).toNat)
    case atStart => exact ⟨0, Nat.zero_le _, rfl, eqTo_zero _ _ _, Below.refl _ _⟩
    case round =>
      obtain ⟨k, hk, rfl, hE, hb⟩ := hrel
      by_cases hlt : k < l.length
      · have hlt' : k < l'.length := by have := HL.out; omega
        have i1 : (k : Int) < (l'.length : Int) := by omega
        have i2 : (k : Int) < (l.length : Int) := by omega
        obtain ⟨b, off, rfl, bw, bc⟩ := hS.int (by omega)
        obtain ⟨b1, off1, rfl, b1w, b1c⟩ := hT.int (by omega)
        have q0 := bc k (by omega)
        have r0 := b1c k (by omega)
        rw [← hb.cell (p := ⟨b, _, none⟩) bw] at q0
        rw [← hb.cell (p := ⟨b1, _, none⟩) b1w] at r0
        clear bc b1c
        cases h0 : (l[k] == l'[k]) with
        | false =>
          have h0' : (l[k] != l'[k]) = true := by simp [bne, h0]
          have HZ := Lib.hid (eqL_false (f := fun (a b : Int) => a == b) hlt hlt' h0)
          clear hE h0
          go_wp2_with fail
          go_quiet (fail)
          go_wp2_with fail
          go_returns
          exact ⟨ret_bool HZ.out.symm, ex_drewN hb _⟩
        | true =>
          have h0' : (l[k] != l'[k]) = false := by simp [bne, h0]
          have HE := Lib.hid (eqTo_succ hE (fun _ _ => h0))
          clear hE h0
          go_wp2_with fail
          go_quiet (fail)
          go_wp2_with fail
          go_roundw
          case rel => exact ⟨k + 1, by omega, by go_num, HE.out, ex_drewN hb _⟩
          case measure => simp [intOf]; omega
      · have HZ := Lib.hid (eqL_true HL.out (fun i h1 h2 => hE i h1 h2 (by omega)))
        clear hE
        go_wp2_with fail
        go_returns
        exact ⟨ret_bool HZ.out.symm, hb⟩
  · have g0 : ((l.length : Int) != (l'.length : Int)) = true := by simp; omega
    have HZ := Lib.hid (eqL_len (f := fun (a b : Int) => a == b) hlen)
    clear hlen
    go_enter Try.func114, Try.ntmps114
    go_wp2_with fail
    go_returns
    exact ⟨ret_bool HZ.out.symm, by go_grown⟩
end Go.Proofs.Ytjobgnioehkomaa
