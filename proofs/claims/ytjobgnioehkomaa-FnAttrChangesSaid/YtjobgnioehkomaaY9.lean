/-
  CONTRACTS: the claims' own comparisons.
-/
import Derived.WalkKit
import Derived.WalkSpells
import Derived.WalkLawsBesides
import Derived.Lib.Hide
import Derived.Handy
import Derived.StillTailTactics
import Derived.Deep.Light
import Derived.Deep.QuietTactic
import Derived.BigQuiet
import Derived.Deep.RegionHeld3
import Derived.Test.YtjobgnioehkomaaLib
import Derived.Test.YtjobgnioehkomaaHld
import Derived.Test.YtjobgnioehkomaaOwn
import Derived.Test.YtjobgnioehkomaaC1
import Derived.Test.YtjobgnioehkomaaC2
import Derived.Test.YtjobgnioehkomaaD1
import Derived.Test.YtjobgnioehkomaaT1
import Derived.Test.YtjobgnioehkomaaT2
import Derived.Test.YtjobgnioehkomaaT3
import Derived.Test.YtjobgnioehkomaaT4
import Derived.Test.YtjobgnioehkomaaT5
import Derived.Test.YtjobgnioehkomaaC3
import Derived.Test.YtjobgnioehkomaaC4
import Derived.Test.YtjobgnioehkomaaC5
import Derived.Test.YtjobgnioehkomaaSz
import Derived.Test.YtjobgnioehkomaaRows
namespace Go.Proofs.Ytjobgnioehkomaa
open Go.RowKit
set_option linter.unusedVariables false
set_option maxRecDepth 100000
set_option maxHeartbeats 2000000 in
theorem laws_sameAttrs (A : Option Addr) (n c : Nat) (l : List Atr) (B : Option Addr) (m d : Nat) (l' : List Atr) (w : World) (hS : Sl 4 RAtr w A n l) (hT : Sl 4 RAtr w B m l') (hn : n ≤ 1073741824) (hm : m ≤ 1073741824) :
    Calls Try.prog 69 #[.slice A n c, .slice B m d] w fun e w' => e = .returned (.bool (eqL Atr.eqb l l')) ∧ Below w.heap.size w w' := by
  obtain rfl : l.length = n := hS.len
  obtain rfl : l'.length = m := hT.len
  by_cases hlen : l.length = l'.length
  · have g0 : ((l.length : Int) != (l'.length : Int)) = false := by simp; omega
    have HL := Lib.hid hlen
    clear hlen
    go_enter Try.func69, Try.ntmps69
    go_wp2_with fail
    go_loopw [5] (fun i wr => ∃ (k : Nat), k ≤ l.length ∧ i = .int .i64 k ∧ eqTo Atr.eqb l l' k ∧ Below w.heap.size w wr) (fun i _ => l.length - (intOf i).toNat)
    case atStart => exact ⟨0, Nat.zero_le _, rfl, eqTo_zero _ _ _, Below.refl _ _⟩
    case round =>
      obtain ⟨k, hk, rfl, hE, hb⟩ := hrel
      by_cases hlt : k < l.length
      · have hlt' : k < l'.length := by have := HL.out; omega
        have i1 : (k : Int) < (l'.length : Int) := by omega
        have i2 : (k : Int) < (l.length : Int) := by omega
        obtain ⟨b, off, rfl, bw, bc⟩ := hS.atr (by omega)
        obtain ⟨b1, off1, rfl, b1w, b1c⟩ := hT.atr (by omega)
        obtain ⟨q0, q1, q2, q3⟩ := bc k (by omega)
        obtain ⟨r0, r1, r2, r3⟩ := b1c k (by omega)
        rw [← hb.cell (p := ⟨b, _, none⟩) bw] at q0 q1 q2 q3
        rw [← hb.cell (p := ⟨b1, _, none⟩) b1w] at r0 r1 r2 r3
        clear bc b1c
        cases h0 : (l[k].name.toList == l'[k].name.toList) with
        | false =>
          have hf : Atr.eqb l[k] l'[k] = false := by simp [Atr.eqb, Vl.eqb, eqS, h0]
          have HZ := Lib.hid (eqL_false (f := Atr.eqb) hlt hlt' hf)
          clear hf hE
          go_wp2_with fail
          go_quiet (fail)
          go_wp2_with fail
          go_returns
          exact ⟨ret_bool HZ.out.symm, ex_drewN hb _⟩
        | true =>
          cases h1 : (l[k].val.kind == l'[k].val.kind) with
          | false =>
            have hf : Atr.eqb l[k] l'[k] = false := by simp [Atr.eqb, Vl.eqb, eqS, h1]
            have HZ := Lib.hid (eqL_false (f := Atr.eqb) hlt hlt' hf)
            clear hf hE
            go_wp2_with fail
            go_quiet (fail)
            go_wp2_with fail
            go_returns
            exact ⟨ret_bool HZ.out.symm, ex_drewN hb _⟩
          | true =>
            cases h2 : (l[k].val.int == l'[k].val.int) with
            | false =>
              have hf : Atr.eqb l[k] l'[k] = false := by simp [Atr.eqb, Vl.eqb, eqS, h2]
              have HZ := Lib.hid (eqL_false (f := Atr.eqb) hlt hlt' hf)
              clear hf hE
              go_wp2_with fail
              go_quiet (fail)
              go_wp2_with fail
              go_returns
              exact ⟨ret_bool HZ.out.symm, ex_drewN hb _⟩
            | true =>
              cases h3 : (l[k].val.str.toList == l'[k].val.str.toList) with
              | false =>
                have hf : Atr.eqb l[k] l'[k] = false := by simp [Atr.eqb, Vl.eqb, eqS, h3]
                have HZ := Lib.hid (eqL_false (f := Atr.eqb) hlt hlt' hf)
                clear hf hE
                go_wp2_with fail
                go_quiet (fail)
                go_wp2_with fail
                go_returns
                exact ⟨ret_bool HZ.out.symm, ex_drewN hb _⟩
              | true =>
                have hf : Atr.eqb l[k] l'[k] = true := by simp [Atr.eqb, Vl.eqb, eqS, h0, h1, h2, h3]
                have HE := Lib.hid (eqTo_succ hE (fun _ _ => hf))
                clear hf hE
                go_wp2_with fail
                go_quiet (fail)
                go_wp2_with fail
                go_roundw
                case rel => exact ⟨k + 1, by omega, by go_num, HE.out, ex_drewN hb _⟩
                case measure => simp [intOf]; omega
      · have HZ := Lib.hid (eqL_true HL.out (fun i h1 h2 => hE i h1 h2 (by omega)))
        clear hE
        go_wp2_with fail
        go_returns
        exact ⟨ret_bool HZ.out.symm, hb⟩
  · have g0 : ((l.length : Int) != (l'.length : Int)) = true := by simp; omega
    have HZ := Lib.hid (eqL_len (f := Atr.eqb) hlen)
    clear hlen
    go_enter Try.func69, Try.ntmps69
    go_wp2_with fail
    go_returns
    exact ⟨ret_bool HZ.out.symm, by go_grown⟩
set_option maxHeartbeats 2000000 in
theorem laws_sameTexts (A : Option Addr) (n c : Nat) (l : List ByteArray) (B : Option Addr) (m d : Nat) (l' : List ByteArray) (w : World) (hS : Sl 1 RStr w A n l) (hT : Sl 1 RStr w B m l') (hn : n ≤ 1073741824) (hm : m ≤ 1073741824) :
    Calls Try.prog 31 #[.slice A n c, .slice B m d] w fun e w' => e = .returned (.bool (eqL eqS l l')) ∧ Below w.heap.size w w' := by
  obtain rfl : l.length = n := hS.len
  obtain rfl : l'.length = m := hT.len
  by_cases hlen : l.length = l'.length
  · have g0 : ((l.length : Int) != (l'.length : Int)) = false := by simp; omega
    have HL := Lib.hid hlen
    clear hlen
    go_enter Try.func31, Try.ntmps31
    go_wp2_with fail
    go_loopw [5] (fun i wr => ∃ (k : Nat), k ≤ l.length ∧ i = .int .i64 k ∧ eqTo eqS l l' k ∧ Below w.heap.size w wr) (fun i _ => l.length - (intOf i).toNat)
    case atStart => exact ⟨0, Nat.zero_le _, rfl, eqTo_zero _ _ _, Below.refl _ _⟩
    case round =>
      obtain ⟨k, hk, rfl, hE, hb⟩ := hrel
      by_cases hlt : k < l.length
      · have hlt' : k < l'.length := by have := HL.out; omega
        have i1 : (k : Int) < (l'.length : Int) := by omega
        have i2 : (k : Int) < (l.length : Int) := by omega
        obtain ⟨b, off, rfl, bw, bc⟩ := hS.str (by omega)
        obtain ⟨b1, off1, rfl, b1w, b1c⟩ := hT.str (by omega)
        have q0 := bc k (by omega)
        have r0 := b1c k (by omega)
        rw [← hb.cell (p := ⟨b, _, none⟩) bw] at q0
        rw [← hb.cell (p := ⟨b1, _, none⟩) b1w] at r0
        clear bc b1c
        cases h0 : (l[k].toList == l'[k].toList) with
        | false =>
          have hf : eqS l[k] l'[k] = false := by simp [eqS, h0]
          have HZ := Lib.hid (eqL_false (f := eqS) hlt hlt' hf)
          clear hf hE
          go_wp2_with fail
          go_quiet (fail)
          go_wp2_with fail
          go_returns
          exact ⟨ret_bool HZ.out.symm, ex_drewN hb _⟩
        | true =>
          have hf : eqS l[k] l'[k] = true := by simp [eqS, h0]
          have HE := Lib.hid (eqTo_succ hE (fun _ _ => hf))
          clear hf hE
          go_wp2_with fail
          go_quiet (fail)
          go_wp2_with fail
          go_roundw
          case rel => exact ⟨k + 1, by omega, by go_num, HE.out, ex_drewN hb _⟩
          case measure => simp [intOf]; omega
      · have HZ := Lib.hid (eqL_true HL.out (fun i h1 h2 => hE i h1 h2 (by omega)))
        clear hE
        go_wp2_with fail
        go_returns
        exact ⟨ret_bool HZ.out.symm, hb⟩
  · have g0 : ((l.length : Int) != (l'.length : Int)) = true := by simp; omega
    have HZ := Lib.hid (eqL_len (f := eqS) hlen)
    clear hlen
    go_enter Try.func31, Try.ntmps31
    go_wp2_with fail
    go_returns
    exact ⟨ret_bool HZ.out.symm, by go_grown⟩
set_option maxHeartbeats 2000000 in
theorem laws_sameInts (A : Option Addr) (n c : Nat) (l : List Int) (B : Option Addr) (m d : Nat) (l' : List Int) (w : World) (hS : Sl 1 RInt w A n l) (hT : Sl 1 RInt w B m l') (hn : n ≤ 1073741824) (hm : m ≤ 1073741824) :
    Calls Try.prog 55 #[.slice A n c, .slice B m d] w fun e w' => e = .returned (.bool (eqL eqI l l')) ∧ Below w.heap.size w w' := by
  obtain rfl : l.length = n := hS.len
  obtain rfl : l'.length = m := hT.len
  by_cases hlen : l.length = l'.length
  · have g0 : ((l.length : Int) != (l'.length : Int)) = false := by simp; omega
    have HL := Lib.hid hlen
    clear hlen
    go_enter Try.func55, Try.ntmps55
    go_wp2_with fail
    go_loopw [5] (fun i wr => ∃ (k : Nat), k ≤ l.length ∧ i = .int .i64 k ∧ eqTo eqI l l' k ∧ Below w.heap.size w wr) (fun i _ => l.length - (intOf i).toNat)
    case atStart => exact ⟨0, Nat.zero_le _, rfl, eqTo_zero _ _ _, Below.refl _ _⟩
    case round =>
      obtain ⟨k, hk, rfl, hE, hb⟩ := hrel
      by_cases hlt : k < l.length
      · have hlt' : k < l'.length := by have := HL.out; omega
        have i1 : (k : Int) < (l'.length : Int) := by omega
        have i2 : (k : Int) < (l.length : Int) := by omega
        obtain ⟨b, off, rfl, bw, bc⟩ := hS.int (by omega)
        obtain ⟨b1, off1, rfl, b1w, b1c⟩ := hT.int (by omega)
        have q0 := bc k (by omega)
        have r0 := b1c k (by omega)
        rw [← hb.cell (p := ⟨b, _, none⟩) bw] at q0
        rw [← hb.cell (p := ⟨b1, _, none⟩) b1w] at r0
        clear bc b1c
        cases h0 : (l[k] == l'[k]) with
        | false =>
          have hf : eqI l[k] l'[k] = false := by simpa [eqI] using h0
          have HZ := Lib.hid (eqL_false (f := eqI) hlt hlt' hf)
          clear hf hE
          go_wp2_with fail
          go_quiet (fail)
          go_wp2_with fail
          go_returns
          exact ⟨ret_bool HZ.out.symm, ex_drewN hb _⟩
        | true =>
          have hf : eqI l[k] l'[k] = true := by simpa [eqI] using h0
          have HE := Lib.hid (eqTo_succ hE (fun _ _ => hf))
          clear hf hE
          go_wp2_with fail
          go_quiet (fail)
          go_wp2_with fail
          go_roundw
          case rel => exact ⟨k + 1, by omega, by go_num, HE.out, ex_drewN hb _⟩
          case measure => simp [intOf]; omega
      · have HZ := Lib.hid (eqL_true HL.out (fun i h1 h2 => hE i h1 h2 (by omega)))
        clear hE
        go_wp2_with fail
        go_returns
        exact ⟨ret_bool HZ.out.symm, hb⟩
  · have g0 : ((l.length : Int) != (l'.length : Int)) = true := by simp; omega
    have HZ := Lib.hid (eqL_len (f := eqI) hlen)
    clear hlen
    go_enter Try.func55, Try.ntmps55
    go_wp2_with fail
    go_returns
    exact ⟨ret_bool HZ.out.symm, by go_grown⟩
set_option maxHeartbeats 1600000 in
theorem laws_sameFile (a b : Fil) (A : Option Addr) (n c : Nat) (B : Option Addr) (m d : Nat) (w : World) (hS : Sl 4 RAtr w A n a.attrs) (hT : Sl 4 RAtr w B m b.attrs) (hn : n ≤ 1073741824) (hm : m ≤ 1073741824) :
    Calls Try.prog 15 #[a.v A n c, b.v B m d] w fun e w' => e = .returned (.bool (a.eqb b)) ∧ Below w.heap.size w w' := by
  have HC := Lib.hid fun w' (hb : Below w.heap.size w w') => laws_sameAttrs A n c a.attrs B m d b.attrs w' (hS.mono mAtr hb) (hT.mono mAtr hb) hn hm
  clear hS hT
  go_enter Try.func15, Try.ntmps15
  go_wp2_with (go_at_call 69; refine (HC.out _ (by go_grown)).mono ?_; rintro e w1 ⟨rfl, hb1⟩; have hB1 := ex_trans (w := w) (by go_grown) hb1)
  all_goals go_returns
  all_goals refine ⟨ret_bool ?_, by go_grown⟩
  all_goals go_light
  all_goals clear HC
  all_goals simp_all [Fil.eqb]
end Go.Proofs.Ytjobgnioehkomaa
