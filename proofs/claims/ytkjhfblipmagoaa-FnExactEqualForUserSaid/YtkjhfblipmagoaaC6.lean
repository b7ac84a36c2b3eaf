/-
  CONTRACTS: equality of files and of indexes.
-/
import Derived.WalkKit
import Derived.WalkSpells
import Derived.WalkLawsBesides
import Derived.Lib.Hide
import Derived.Handy
import Derived.StillTailTactics
import Derived.Deep.Light
import Derived.Deep.QuietTactic
import Derived.BigQuiet
import Derived.Deep.RegionHeld3
import Derived.Test.YtkjhfblipmagoaaLib
import Derived.Test.YtkjhfblipmagoaaHld
import Derived.Test.YtkjhfblipmagoaaOwn
import Derived.Test.YtkjhfblipmagoaaC1
import Derived.Test.YtkjhfblipmagoaaC2
import Derived.Test.YtkjhfblipmagoaaT1
import Derived.Test.YtkjhfblipmagoaaT2
import Derived.Test.YtkjhfblipmagoaaT3
import Derived.Test.YtkjhfblipmagoaaT4
import Derived.Test.YtkjhfblipmagoaaT5
import Derived.Test.YtkjhfblipmagoaaC3
import Derived.Test.YtkjhfblipmagoaaC4
import Derived.Test.YtkjhfblipmagoaaC5
import Derived.Test.YtkjhfblipmagoaaSz
import Derived.Test.YtkjhfblipmagoaaRows
namespace Go.Proofs.Ytkjhfblipmagoaa
open Go.RowKit
set_option linter.unusedVariables false
set_option maxRecDepth 100000
theorem impl_EqualFiles (a b : Fil) (A : Option Addr) (n c : Nat) (B : Option Addr) (m d : Nat) (w : World) (hS : Sl 4 RAtr w A n a.attrs) (hT : Sl 4 RAtr w B m b.attrs) (ha : a.ok 1073741824) (hb : b.ok 1073741824) :
    Calls Try.prog 55 #[a.v A n c, b.v B m d] w fun e w' => e = .returned (.bool (a.eqb b)) ∧ Below w.heap.size w w' := by
  have hn : n ≤ 1073741824 := by rw [← hS.len]; exact ha.1
  have hm : m ≤ 1073741824 := by rw [← hT.len]; exact hb.1
  have HC := Lib.hid fun w' (hb : Below w.heap.size w w') => slices_Equal_Attr A n c a.attrs B m d b.attrs w' (hS.mono mAtr hb) (hT.mono mAtr hb) hn hm
  clear ha hb
  go_enter Try.func55, Try.ntmps55
  go_wp2_with (go_at_call 110; refine (HC.out _ (by go_grown)).mono ?_; rintro e w1 ⟨rfl, hb1⟩; have hB1 := ex_trans (w := w) (by go_grown) hb1)
  all_goals go_returns
  all_goals refine ⟨ret_bool ?_, by go_grown⟩
  all_goals go_light
  all_goals clear HC
  all_goals simp_all [Fil.eqb]
set_option maxHeartbeats 2000000 in
theorem spec_EqualFiles (a b : Fil) (A : Option Addr) (n c : Nat) (B : Option Addr) (m d : Nat) (w : World) (hS : Sl 4 RAtr w A n a.attrs) (hT : Sl 4 RAtr w B m b.attrs) (ha : a.ok 1073741824) (hb : b.ok 1073741824) :
    Calls Try.prog 104 #[a.v A n c, b.v B m d] w fun e w' => e = .returned (.bool (a.eqb b)) ∧ Below w.heap.size w w' := by
  obtain rfl : a.attrs.length = n := hS.len
  obtain rfl : b.attrs.length = m := hT.len
  have hn : a.attrs.length ≤ 1073741824 := ha.1
  have hm : b.attrs.length ≤ 1073741824 := hb.1
  clear ha hb
  cases h0 : (a.id != b.id) with
  | true =>
    have HZ := Lib.hid (show false = a.eqb b by simp [Fil.eqb, (show (a.id == b.id) = false by simpa using h0)])
    go_enter Try.func104, Try.ntmps104
    go_wp2_with fail
    go_returns
    exact ⟨ret_bool HZ.out, by go_grown⟩
  | false =>
    cases h1 : (a.owner != b.owner) with
    | true =>
      have HZ := Lib.hid (show false = a.eqb b by simp [Fil.eqb, (show (a.owner == b.owner) = false by simpa using h1)])
      go_enter Try.func104, Try.ntmps104
      go_wp2_with fail
      go_returns
      exact ⟨ret_bool HZ.out, by go_grown⟩
    | false =>
      cases h2 : (a.shared != b.shared) with
      | true =>
        have HZ := Lib.hid (show false = a.eqb b by simp [Fil.eqb, (show (a.shared == b.shared) = false by simpa using h2)])
        have h2x : ¬ (a.shared = b.shared) := by simpa using h2
        clear h2
        go_enter Try.func104, Try.ntmps104
        go_wp2_with fail
        go_returns
        exact ⟨ret_bool HZ.out, by go_grown⟩
      | false =>
        have h2x : a.shared = b.shared := by simpa using h2
        cases h3 : (a.link != b.link) with
        | true =>
          have HZ := Lib.hid (show false = a.eqb b by simp [Fil.eqb, (show (a.link == b.link) = false by simpa using h3)])
          go_enter Try.func104, Try.ntmps104
          go_wp2_with fail
          go_returns
          exact ⟨ret_bool HZ.out, by go_grown⟩
        | false =>
          have HF := Lib.hid (show (a.id == b.id && a.owner == b.owner && a.shared == b.shared && a.link == b.link) = true by simp at h0 h1 h2 h3; simp [h0, h1, h2, h3])
          by_cases hlen : a.attrs.length = b.attrs.length
          · have g0 : ((a.attrs.length : Int) != (b.attrs.length : Int)) = false := by simp; omega
            have HL := Lib.hid hlen
            clear hlen
            go_enter Try.func104, Try.ntmps104
            go_wp2_with fail
            go_loopw [5] (fun i wr => ∃ (k : Nat), k ≤ a.attrs.length ∧ i = .int .i64 k ∧ eqTo Atr.eqb a.attrs b.attrs k ∧ wr.cell? ⟨w.heap.size, 4, none⟩ = some (.slice A a.attrs.length c) ∧ wr.cell? ⟨w.heap.size + 1, 4, none⟩ = some (.slice B b.attrs.length d) ∧ Below w.heap.size w wr) (fun i _ => a.attrs.length - (intOf i).toNat)
            case atStart => exact ⟨0, Nat.zero_le _, rfl, eqTo_zero _ _ _, by go_simp, by go_simp, by go_grown⟩
            case round =>
              obtain ⟨k, hk, rfl, hE, x4, y4, hb⟩ := hrel
              by_cases hlt : k < a.attrs.length
              · have hlt' : k < b.attrs.length := by have := HL.out; omega
                have i1 : (k : Int) < (b.attrs.length : Int) := by omega
                have i2 : (k : Int) < (a.attrs.length : Int) := by omega
                obtain ⟨b0, off, rfl, bw, bc⟩ := hS.atr (by omega)
                obtain ⟨b1, off1, rfl, b1w, b1c⟩ := hT.atr (by omega)
                obtain ⟨q0, q1, q2, q3⟩ := bc k (by omega)
                obtain ⟨r0, r1, r2, r3⟩ := b1c k (by omega)
                rw [← hb.cell (p := ⟨b0, _, none⟩) bw] at q0 q1 q2 q3
                rw [← hb.cell (p := ⟨b1, _, none⟩) b1w] at r0 r1 r2 r3
                clear bc b1c
                cases h4 : (a.attrs[k].name.toList == b.attrs[k].name.toList) with
                | false =>
                  have hf : Atr.eqb a.attrs[k] b.attrs[k] = false := by simp [Atr.eqb, Vl.eqb, eqS, h4]
                  have HZ := Lib.hid (show false = a.eqb b by rw [Fil.eqb, eqL_false (f := Atr.eqb) hlt hlt' hf]; simp)
                  clear hf hE
                  go_wp2_with fail
                  go_quiet (fail)
                  go_wp2_with fail
                  go_returns
                  exact ⟨ret_bool HZ.out, ex_drewN hb _⟩
                | true =>
                  cases h5 : (a.attrs[k].val.kind == b.attrs[k].val.kind) with
                  | false =>
                    have hf : Atr.eqb a.attrs[k] b.attrs[k] = false := by simp [Atr.eqb, Vl.eqb, eqS, h5]
                    have HZ := Lib.hid (show false = a.eqb b by rw [Fil.eqb, eqL_false (f := Atr.eqb) hlt hlt' hf]; simp)
                    clear hf hE
                    go_wp2_with fail
                    go_quiet (fail)
                    go_wp2_with fail
                    go_returns
                    exact ⟨ret_bool HZ.out, ex_drewN hb _⟩
                  | true =>
                    cases h6 : (a.attrs[k].val.int == b.attrs[k].val.int) with
                    | false =>
                      have hf : Atr.eqb a.attrs[k] b.attrs[k] = false := by simp [Atr.eqb, Vl.eqb, eqS, h6]
                      have HZ := Lib.hid (show false = a.eqb b by rw [Fil.eqb, eqL_false (f := Atr.eqb) hlt hlt' hf]; simp)
                      clear hf hE
                      go_wp2_with fail
                      go_quiet (fail)
                      go_wp2_with fail
                      go_returns
                      exact ⟨ret_bool HZ.out, ex_drewN hb _⟩
                    | true =>
                      cases h7 : (a.attrs[k].val.str.toList == b.attrs[k].val.str.toList) with
                      | false =>
                        have hf : Atr.eqb a.attrs[k] b.attrs[k] = false := by simp [Atr.eqb, Vl.eqb, eqS, h7]
                        have HZ := Lib.hid (show false = a.eqb b by rw [Fil.eqb, eqL_false (f := Atr.eqb) hlt hlt' hf]; simp)
                        clear hf hE
                        go_wp2_with fail
                        go_quiet (fail)
                        go_wp2_with fail
                        go_returns
                        exact ⟨ret_bool HZ.out, ex_drewN hb _⟩
                      | true =>
                        have hf : Atr.eqb a.attrs[k] b.attrs[k] = true := by simp [Atr.eqb, Vl.eqb, eqS, h4, h5, h6, h7]
                        have HE := Lib.hid (eqTo_succ hE (fun _ _ => hf))
                        clear hf hE
                        go_wp2_with fail
                        go_quiet (fail)
                        go_wp2_with fail
                        go_roundw
                        case rel => exact ⟨k + 1, by omega, by go_num, HE.out, by go_simp, by go_simp, ex_drewN hb _⟩
                        case measure => simp [intOf]; omega
              · have HZ := Lib.hid (show true = a.eqb b by rw [Fil.eqb, HF.out, eqL_true HL.out (fun i h1 h2 => hE i h1 h2 (by omega))]; rfl)
                clear hE
                go_wp2_with fail
                go_returns
                exact ⟨ret_bool HZ.out, hb⟩
          · have g0 : ((a.attrs.length : Int) != (b.attrs.length : Int)) = true := by simp; omega
            have HZ := Lib.hid (show false = a.eqb b by rw [Fil.eqb, eqL_len (f := Atr.eqb) hlen]; simp)
            clear hlen
            go_enter Try.func104, Try.ntmps104
            go_wp2_with fail
            go_returns
            exact ⟨ret_bool HZ.out, by go_grown⟩
end Go.Proofs.Ytkjhfblipmagoaa
