/-
  CONTRACTS: the statements' own conversions (toX), sizes (szX) and comparisons (eqX): numbers and postings.
-/
import Derived.WalkKit
import Derived.WalkSpells
import Derived.WalkLawsBesides
import Derived.Lib.Hide
import Derived.Handy
import Derived.StillTailTactics
import Derived.Deep.Light
import Derived.Deep.QuietTactic
import Derived.BigQuiet
import Derived.Test.YtdlocbmhadhhhaaLib
import Derived.Test.YtdlocbmhadhhhaaOwn
import Derived.Test.YtdlocbmhadhhhaaC1
import Derived.Test.YtdlocbmhadhhhaaC2
import Derived.Test.YtdlocbmhadhhhaaT1
import Derived.Test.YtdlocbmhadhhhaaT2
import Derived.Test.YtdlocbmhadhhhaaRows
namespace Go.Proofs.Ytdlocbmhadhhhaa
open Go.RowKit
set_option linter.unusedVariables false
set_option maxRecDepth 100000
theorem info_int : (Try.prog.info? 3).map (fun i => (i.zero, i.size, i.bytes)) = some (some (.int .i64 0), 1, 8) := by kernel_rfl
def eqI (a b : Int) : Bool := a == b
set_option maxHeartbeats 800000 in
theorem laws_eqIntS (A B : Option Addr) (n c m d : Nat) (l l' : List Int) (w : World) (hS : Sl 1 RInt w A n l) (hT : Sl 1 RInt w B m l') (hn : n ≤ 1073741824) (hm : m ≤ 1073741824) :
    Calls Try.prog 66 #[.slice A n c, .slice B m d] w fun e w' => e = .returned (.bool (eqL (fun a b => a == b) l l')) ∧ Below w.heap.size w w' := by
  obtain rfl : l.length = n := hS.len
  obtain rfl : l'.length = m := hT.len
  by_cases hlen : l.length = l'.length
  · have g0 : ((l.length : Int) != (l'.length : Int)) = false := by simp; omega
    have HL := Lib.hid hlen
    clear hlen
    go_enter Try.func66, Try.ntmps66
    go_wp2_with fail
    go_loopw [5] (fun i wr => ∃ (k : Nat), k ≤ l.length ∧ i = .int .i64 k ∧ eqTo (fun a b => a == b) l l' k ∧ Below w.heap.size w wr) (fun i _ => l.length - (intOf i).toNat)
    case atStart => exact ⟨0, Nat.zero_le _, rfl, eqTo_zero _ _ _, Below.refl _ _⟩
    case round =>
      obtain ⟨k, hk, rfl, hE, hb⟩ := hrel
      by_cases hlt : k < l.length
      · have hlt' : k < l'.length := by have := HL.out; omega
        have i1 : (k : Int) < (l'.length : Int) := by omega
        have i2 : (k : Int) < (l.length : Int) := by omega
        obtain ⟨b, off, rfl, bw, bc⟩ := hS.int (by omega)
        obtain ⟨b1, off1, rfl, b1w, b1c⟩ := hT.int (by omega)
        have q0 := bc k (by omega)
        have r0 := b1c k (by omega)
        rw [← hb.cell (p := ⟨b, _, none⟩) bw] at q0
        rw [← hb.cell (p := ⟨b1, _, none⟩) b1w] at r0
        clear bc b1c
        by_cases hf : l[k] = l'[k]
        · have hE' := eqTo_succ hE (fun _ _ => by simpa using hf)
          have HE := Lib.hid hE'
          have g1 : (l[k] != l'[k]) = false := by simpa using hf
          clear hf hE hE'
          go_wp2_with fail
          go_quiet (fail)
          go_wp2_with fail
          go_roundw
          case rel => exact ⟨k + 1, by omega, by go_num, HE.out, ex_drewN hb _⟩
          case measure => simp [intOf]; omega
        · have HZ := Lib.hid (eqL_false (f := fun a b : Int => a == b) hlt hlt' (by simpa using hf))
          have g1 : (l[k] != l'[k]) = true := by simpa using hf
          clear hf hE
          go_wp2_with fail
          go_quiet (fail)
          go_wp2_with fail
          go_returns
          exact ⟨ret_bool HZ.out.symm, ex_drewN hb _⟩
      · have HZ := Lib.hid (eqL_true HL.out (fun i h1 h2 => hE i h1 h2 (by omega)))
        clear hE
        go_wp2_with fail
        go_returns
        exact ⟨ret_bool HZ.out.symm, hb⟩
  · have g0 : ((l.length : Int) != (l'.length : Int)) = true := by simp; omega
    have HZ := Lib.hid (eqL_len (f := fun a b : Int => a == b) hlen)
    clear hlen
    go_enter Try.func66, Try.ntmps66
    go_wp2_with fail
    go_returns
    exact ⟨ret_bool HZ.out.symm, by go_grown⟩
theorem laws_eqIntS_same (A B : Option Addr) (n c m d : Nat) (l : List Int) (w : World) (hS : Sl 1 RInt w A n l) (hT : Sl 1 RInt w B m l) (hn : n ≤ 1073741824) (hm : m ≤ 1073741824) :
    Calls Try.prog 66 #[.slice A n c, .slice B m d] w fun e w' => e = .returned (.bool true) ∧ Below w.heap.size w w' := by
  have h := laws_eqIntS A B n c m d l l w hS hT hn hm
  rw [(eqL_iff (fun a b => beq_iff_eq)).2 rfl] at h
  exact h
def Pst.sz (p : Pst) : Int := p.name.size + p.val.str.size + p.ids.length
theorem Pst.sz_nn (p : Pst) : 0 ≤ p.sz := by unfold Pst.sz; omega
def Pst.eqb (a b : Pst) : Bool := (eqS a.name b.name && a.val.eqb b.val) && eqL (fun a b => a == b) a.ids b.ids
theorem Pst.eqb_iff {a b : Pst} : a.eqb b = true ↔ a = b := by
  cases a; cases b; simp [Pst.eqb, eqS_iff, Vl.eqb_iff, eqL_iff (fun (a b : Int) => beq_iff_eq), and_assoc]
abbrev Pst.v (p : Pst) (A : Option Addr) (n c : Nat) : Value := .agg #[.string p.name, .int .i64 p.val.kind, .int .i64 p.val.int, .string p.val.str, .slice A n c]
theorem info_Posting : (Try.prog.info? 154).map (fun i => (i.zero, i.size, i.bytes)) = some (some (.agg #[.string ByteArray.empty, .int .i64 0, .int .i64 0, .string ByteArray.empty, .slice none 0 0]), 5, 72) := by kernel_rfl
end Go.Proofs.Ytdlocbmhadhhhaa
