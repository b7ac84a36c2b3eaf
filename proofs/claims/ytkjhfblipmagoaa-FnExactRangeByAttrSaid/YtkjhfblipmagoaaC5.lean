/-
  CONTRACTS: equality of slices, queries and files; values against a schema.
-/
import Derived.WalkKit
import Derived.WalkSpells
import Derived.WalkLawsBesides
import Derived.Lib.Hide
import Derived.Handy
import Derived.StillTailTactics
import Derived.Deep.Light
import Derived.Deep.QuietTactic
import Derived.BigQuiet
import Derived.Deep.RegionHeld3
import Derived.Test.YtkjhfblipmagoaaLib
import Derived.Test.YtkjhfblipmagoaaHld
import Derived.Test.YtkjhfblipmagoaaOwn
import Derived.Test.YtkjhfblipmagoaaC1
import Derived.Test.YtkjhfblipmagoaaC2
import Derived.Test.YtkjhfblipmagoaaT1
import Derived.Test.YtkjhfblipmagoaaT2
import Derived.Test.YtkjhfblipmagoaaT3
import Derived.Test.YtkjhfblipmagoaaT5
import Derived.Test.YtkjhfblipmagoaaC3
import Derived.Test.YtkjhfblipmagoaaC4
import Derived.Test.YtkjhfblipmagoaaSz
import Derived.Test.YtkjhfblipmagoaaRows
namespace Go.Proofs.Ytkjhfblipmagoaa
open Go.RowKit
set_option linter.unusedVariables false
set_option maxRecDepth 100000
set_option maxHeartbeats 2000000 in
theorem slices_Equal_Attr (A : Option Addr) (n c : Nat) (l : List Atr) (B : Option Addr) (m d : Nat) (l' : List Atr) (w : World) (hS : Sl 4 RAtr w A n l) (hT : Sl 4 RAtr w B m l') (hn : n ≤ 1073741824) (hm : m ≤ 1073741824) :
    Calls Try.prog 110 #[.slice A n c, .slice B m d] w fun e w' => e = .returned (.bool (eqL Atr.eqb l l')) ∧ Below w.heap.size w w' := by
  obtain rfl : l.length = n := hS.len
  obtain rfl : l'.length = m := hT.len
  by_cases hlen : l.length = l'.length
  · have g0 : ((l.length : Int) != (l'.length : Int)) = false := by simp; omega
    have HL := Lib.hid hlen
    clear hlen
    go_enter Try.func110, Try.ntmps110
    go_wp2_with fail
    go_loopw [13] (fun i wr => ∃ (k : Nat), k ≤ l.length ∧ i = .int .i64 k ∧ eqTo Atr.eqb l l' k ∧ Below w.heap.size w wr) (fun i _ => l.length - (intOf i).toNat)
    case atStart => exact ⟨0, Nat.zero_le _, rfl, eqTo_zero _ _ _, Below.refl _ _⟩
    case round =>
      obtain ⟨k, hk, rfl, hE, hb⟩ := hrel
      by_cases hlt : k < l.length
      · have hlt' : k < l'.length := by have := HL.out; omega
        have i1 : (k : Int) < (l'.length : Int) := by omega
        have i2 : (k : Int) < (l.length : Int) := by omega
        obtain ⟨b, off, rfl, bw, bc⟩ := hS.atr (by omega)
        obtain ⟨b1, off1, rfl, b1w, b1c⟩ := hT.atr (by omega)
        obtain ⟨q0, q1, q2, q3⟩ := bc k (by omega)
        obtain ⟨r0, r1, r2, r3⟩ := b1c k (by omega)
        rw [← hb.cell (p := ⟨b, _, none⟩) bw] at q0 q1 q2 q3
        rw [← hb.cell (p := ⟨b1, _, none⟩) b1w] at r0 r1 r2 r3
        clear bc b1c
        cases h0 : (l[k].name.toList == l'[k].name.toList) with
        | false =>
          have hf : Atr.eqb l[k] l'[k] = false := by simp [Atr.eqb, Vl.eqb, eqS, h0]
          have HZ := Lib.hid (eqL_false (f := Atr.eqb) hlt hlt' hf)
          clear hf hE
          go_wp2_with fail
          go_quiet (fail)
          go_wp2_with fail
          go_returns
          exact ⟨ret_bool HZ.out.symm, ex_drewN hb _⟩
        | true =>
          cases h1 : (l[k].val.kind == l'[k].val.kind) with
          | false =>
            have hf : Atr.eqb l[k] l'[k] = false := by simp [Atr.eqb, Vl.eqb, eqS, h1]
            have HZ := Lib.hid (eqL_false (f := Atr.eqb) hlt hlt' hf)
            clear hf hE
            go_wp2_with fail
            go_quiet (fail)
            go_wp2_with fail
            go_returns
            exact ⟨ret_bool HZ.out.symm, ex_drewN hb _⟩
          | true =>
            cases h2 : (l[k].val.int == l'[k].val.int) with
            | false =>
              have hf : Atr.eqb l[k] l'[k] = false := by simp [Atr.eqb, Vl.eqb, eqS, h2]
              have HZ := Lib.hid (eqL_false (f := Atr.eqb) hlt hlt' hf)
              clear hf hE
              go_wp2_with fail
              go_quiet (fail)
              go_wp2_with fail
              go_returns
              exact ⟨ret_bool HZ.out.symm, ex_drewN hb _⟩
            | true =>
              cases h3 : (l[k].val.str.toList == l'[k].val.str.toList) with
              | false =>
                have hf : Atr.eqb l[k] l'[k] = false := by simp [Atr.eqb, Vl.eqb, eqS, h3]
                have HZ := Lib.hid (eqL_false (f := Atr.eqb) hlt hlt' hf)
                clear hf hE
                go_wp2_with fail
                go_quiet (fail)
                go_wp2_with fail
                go_returns
                exact ⟨ret_bool HZ.out.symm, ex_drewN hb _⟩
              | true =>
                have hf : Atr.eqb l[k] l'[k] = true := by simp [Atr.eqb, Vl.eqb, eqS, h0, h1, h2, h3]
                have HE := Lib.hid (eqTo_succ hE (fun _ _ => hf))
                clear hf hE
                go_wp2_with fail
                go_quiet (fail)
                go_wp2_with fail
                go_roundw
                case rel => exact ⟨k + 1, by omega, by go_num, HE.out, ex_drewN hb _⟩
                case measure => simp [intOf]; omega
      · have HZ := Lib.hid (eqL_true HL.out (fun i h1 h2 => hE i h1 h2 (by omega)))
        clear hE
        go_wp2_with fail
        go_returns
        exact ⟨ret_bool HZ.out.symm, hb⟩
  · have g0 : ((l.length : Int) != (l'.length : Int)) = true := by simp; omega
    have HZ := Lib.hid (eqL_len (f := Atr.eqb) hlen)
    clear hlen
    go_enter Try.func110, Try.ntmps110
    go_wp2_with fail
    go_returns
    exact ⟨ret_bool HZ.out.symm, by go_grown⟩
set_option maxHeartbeats 2000000 in
theorem slices_Equal_Field (A : Option Addr) (n c : Nat) (l : List Fld) (B : Option Addr) (m d : Nat) (l' : List Fld) (w : World) (hS : Sl 2 RFld w A n l) (hT : Sl 2 RFld w B m l') (hn : n ≤ 1073741824) (hm : m ≤ 1073741824) :
    Calls Try.prog 53 #[.slice A n c, .slice B m d] w fun e w' => e = .returned (.bool (eqL Fld.eqb l l')) ∧ Below w.heap.size w w' := by
  obtain rfl : l.length = n := hS.len
  obtain rfl : l'.length = m := hT.len
  by_cases hlen : l.length = l'.length
  · have g0 : ((l.length : Int) != (l'.length : Int)) = false := by simp; omega
    have HL := Lib.hid hlen
    clear hlen
    go_enter Try.func53, Try.ntmps53
    go_wp2_with fail
    go_loopw [13] (fun i wr => ∃ (k : Nat), k ≤ l.length ∧ i = .int .i64 k ∧ eqTo Fld.eqb l l' k ∧ Below w.heap.size w wr) (fun i _ => l.length - (intOf i).toNat)
    case atStart => exact ⟨0, Nat.zero_le _, rfl, eqTo_zero _ _ _, Below.refl _ _⟩
    case round =>
      obtain ⟨k, hk, rfl, hE, hb⟩ := hrel
      by_cases hlt : k < l.length
      · have hlt' : k < l'.length := by have := HL.out; omega
        have i1 : (k : Int) < (l'.length : Int) := by omega
        have i2 : (k : Int) < (l.length : Int) := by omega
        obtain ⟨b, off, rfl, bw, bc⟩ := hS.fld (by omega)
        obtain ⟨b1, off1, rfl, b1w, b1c⟩ := hT.fld (by omega)
        obtain ⟨q0, q1⟩ := bc k (by omega)
        obtain ⟨r0, r1⟩ := b1c k (by omega)
        rw [← hb.cell (p := ⟨b, _, none⟩) bw] at q0 q1
        rw [← hb.cell (p := ⟨b1, _, none⟩) b1w] at r0 r1
        clear bc b1c
        cases h0 : (l[k].name.toList == l'[k].name.toList) with
        | false =>
          have hf : Fld.eqb l[k] l'[k] = false := by simp [Fld.eqb, eqS, h0]
          have HZ := Lib.hid (eqL_false (f := Fld.eqb) hlt hlt' hf)
          clear hf hE
          go_wp2_with fail
          go_quiet (fail)
          go_wp2_with fail
          go_returns
          exact ⟨ret_bool HZ.out.symm, ex_drewN hb _⟩
        | true =>
          cases h1 : (l[k].kind == l'[k].kind) with
          | false =>
            have hf : Fld.eqb l[k] l'[k] = false := by simp [Fld.eqb, eqS, h1]
            have HZ := Lib.hid (eqL_false (f := Fld.eqb) hlt hlt' hf)
            clear hf hE
            go_wp2_with fail
            go_quiet (fail)
            go_wp2_with fail
            go_returns
            exact ⟨ret_bool HZ.out.symm, ex_drewN hb _⟩
          | true =>
            have hf : Fld.eqb l[k] l'[k] = true := by simp [Fld.eqb, eqS, h0, h1]
            have HE := Lib.hid (eqTo_succ hE (fun _ _ => hf))
            clear hf hE
            go_wp2_with fail
            go_quiet (fail)
            go_wp2_with fail
            go_roundw
            case rel => exact ⟨k + 1, by omega, by go_num, HE.out, ex_drewN hb _⟩
            case measure => simp [intOf]; omega
      · have HZ := Lib.hid (eqL_true HL.out (fun i h1 h2 => hE i h1 h2 (by omega)))
        clear hE
        go_wp2_with fail
        go_returns
        exact ⟨ret_bool HZ.out.symm, hb⟩
  · have g0 : ((l.length : Int) != (l'.length : Int)) = true := by simp; omega
    have HZ := Lib.hid (eqL_len (f := Fld.eqb) hlen)
    clear hlen
    go_enter Try.func53, Try.ntmps53
    go_wp2_with fail
    go_returns
    exact ⟨ret_bool HZ.out.symm, by go_grown⟩
noncomputable def matchF (l : List Fld) (nm : ByteArray) (v : Vl) : Bool := (okVl v && v.kind != 0) && v.kind == fldKind l nm
end Go.Proofs.Ytkjhfblipmagoaa
