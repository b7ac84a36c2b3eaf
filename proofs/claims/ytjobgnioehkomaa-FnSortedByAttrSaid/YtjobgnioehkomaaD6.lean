/-
  CONTRACTS: SumAttr.
-/
import Derived.WalkKit
import Derived.WalkSpells
import Derived.WalkLawsBesides
import Derived.Lib.Hide
import Derived.Handy
import Derived.StillTailTactics
import Derived.Deep.Light
import Derived.Deep.QuietTactic
import Derived.BigQuiet
import Derived.Deep.RegionHeld3
import Derived.Test.YtjobgnioehkomaaLib
import Derived.Test.YtjobgnioehkomaaOwn
import Derived.Test.YtjobgnioehkomaaRow
import Derived.Test.YtjobgnioehkomaaHld
import Derived.Test.YtjobgnioehkomaaC1
import Derived.Test.YtjobgnioehkomaaC2
import Derived.Test.YtjobgnioehkomaaT1
import Derived.Test.YtjobgnioehkomaaT2
import Derived.Test.YtjobgnioehkomaaT3
import Derived.Test.YtjobgnioehkomaaC3
import Derived.Test.YtjobgnioehkomaaC4
import Derived.Test.YtjobgnioehkomaaD1
import Derived.Test.YtjobgnioehkomaaRows
namespace Go.Proofs.Ytjobgnioehkomaa
open Go.RowKit
set_option linter.unusedVariables false
set_option maxRecDepth 100000
def sumI (nm : ByteArray) (l : List Fil) : Int := l.foldl (fun s f => wrap64 (s + intA f.attrs nm)) 0
theorem sumI_succ (nm : ByteArray) (l : List Fil) {k : Nat} (h : k < l.length) : sumI nm (l.take (k + 1)) = wrap64 (sumI nm (l.take k) + intA l[k].attrs nm) := by
  unfold sumI; rw [List.take_succ_eq_append_getElem h, List.foldl_append]; rfl
set_option maxHeartbeats 1600000 in
theorem impl_SumAttr (s : Sto) (A : Option Addr) (n c : Nat) (B : Option Addr) (m d : Nat) (nm : ByteArray) (w : World) (hS : Sl 2 RFld w A n s.schema) (hT : Sl 5 RFil w B m s.files) (hm : m ≤ 1073741824) (hok : s.ok 1073741824) :
    Calls Try.prog 59 #[s.v A n c B m d, .string nm] w fun e w' => e = .returned (.int .i64 (sumI nm s.files)) ∧ Below w.heap.size w w' := by
  obtain rfl : s.files.length = m := hT.len
  have hof := hok.2.2.2
  clear hok hS
  go_enter Try.func59, Try.ntmps59
  go_wp2_with fail
  go_loopw [5, 13] (fun v i wr => ∃ (k : Nat) (q : Int), k ≤ s.files.length ∧ i = .int .i64 k ∧ v = .int .i64 q ∧ Hid (q = sumI nm (s.files.take k)) ∧ Below w.heap.size w wr) (fun _ i _ => s.files.length - (intOf i).toNat)
  case atStart => exact ⟨0, 0, Nat.zero_le _, rfl, rfl, Lib.hid rfl, by go_grown⟩
  case round =>
    obtain ⟨k, q, hk, rfl, rfl, hq, hb⟩ := hrel
    by_cases hlt : k < s.files.length
    · obtain ⟨b, off, rfl, bw, bc⟩ := hT.fil (by omega)
      obtain ⟨qA, qn, qc', q0, q1, q2, q3, q4, qS⟩ := bc k (by omega)
      have qT := qS.mono mAtr hb
      have hqn : qn ≤ 1073741824 := by rw [← qT.len]; exact (hof _ (List.getElem_mem hlt)).1
      rw [← hb.cell (p := ⟨b, _, none⟩) bw] at q0 q1 q2 q3 q4
      have i0 : (0 : Int) ≤ (k : Int) := by omega
      have i1 : (k : Int) < (s.files.length : Int) := by omega
      have HC := Lib.hid fun w' (hb' : Below wr.heap.size wr w') => impl_IntAttr s.files[k] qA qn qc' nm w' (qT.mono mAtr hb') hqn
      have HQ := Lib.hid (show wrap64 (q + intA s.files[k].attrs nm) = sumI nm (s.files.take (k + 1)) by rw [sumI_succ nm s.files hlt, ← hq.out])
      clear bc qS hof
      go_wp2_with fail
      refine (HC.out _ (by go_grown)).mono ?_; rintro e w1 ⟨rfl, hb1⟩
      have hB1 := ex_trans (w := wr) (by go_grown) hb1
      go_wp2_with fail
      go_roundw
      case rel => exact ⟨k + 1, _, by omega, by go_num, rfl, HQ, ex_trans hb hB1⟩
      case measure => simp [intOf]; omega
    · have HZ := Lib.hid (show q = sumI nm s.files by rw [hq.out, List.take_of_length_le (by omega)])
      clear hq
      go_wp2_with fail
      go_returns
      exact ⟨ret_int HZ.out, hb⟩
set_option maxHeartbeats 1600000 in
theorem spec_SumAttr (s : Sto) (A : Option Addr) (n c : Nat) (B : Option Addr) (m d : Nat) (nm : ByteArray) (w : World) (hS : Sl 2 RFld w A n s.schema) (hT : Sl 5 RFil w B m s.files) (hm : m ≤ 1073741824) (hok : s.ok 1073741824) :
    Calls Try.prog 60 #[s.v A n c B m d, .string nm] w fun e w' => e = .returned (.int .i64 (sumI nm s.files)) ∧ Below w.heap.size w w' := by
  obtain rfl : s.files.length = m := hT.len
  have hof := hok.2.2.2
  clear hok hS
  go_enter Try.func60, Try.ntmps60
  go_wp2_with fail
  go_loopw [5, 6] (fun v i wr => ∃ (k : Nat) (q : Int), k ≤ s.files.length ∧ i = .int .i64 k ∧ v = .int .i64 q ∧ Hid (q = sumI nm (s.files.take k)) ∧ wr.cell? ⟨w.heap.size, 1, none⟩ = some (.slice B s.files.length d) ∧ w.heap.size < wr.heap.size ∧ Below w.heap.size w wr) (fun _ i _ => s.files.length - (intOf i).toNat)
  case atStart => exact ⟨0, 0, Nat.zero_le _, rfl, rfl, Lib.hid rfl, by go_simp, by simp <;> omega, by go_grown⟩
  case round =>
    obtain ⟨k, q, hk, rfl, rfl, hq, x1, hz, hb⟩ := hrel
    by_cases hlt : k < s.files.length
    · obtain ⟨b, off, rfl, bw, bc⟩ := hT.fil (by omega)
      obtain ⟨qA, qn, qc', q0, q1, q2, q3, q4, qS⟩ := bc k (by omega)
      have qT := qS.mono mAtr hb
      have hqn : qn ≤ 1073741824 := by rw [← qT.len]; exact (hof _ (List.getElem_mem hlt)).1
      rw [← hb.cell (p := ⟨b, _, none⟩) bw] at q0 q1 q2 q3 q4
      have i0 : (0 : Int) ≤ (k : Int) := by omega
      have i1 : (k : Int) < (s.files.length : Int) := by omega
      have HC := Lib.hid fun w' (hb' : Below wr.heap.size wr w') => spec_IntAttr s.files[k] qA qn qc' nm w' (qT.mono mAtr hb') hqn
      have HQ := Lib.hid (show wrap64 (q + intA s.files[k].attrs nm) = sumI nm (s.files.take (k + 1)) by rw [sumI_succ nm s.files hlt, ← hq.out])
      clear bc qS hof
      go_wp2_with fail
      refine (HC.out _ (by go_grown)).mono ?_; rintro e w1 ⟨rfl, hb1⟩
      have hB1 := ex_trans (w := wr) (by go_grown) hb1
      have x1' := keep_cell hB1 x1
      have hz' := keep_lt hB1 hz
      go_wp2_with fail
      go_roundw
      case rel => exact ⟨k + 1, _, by omega, by go_num, rfl, HQ, x1', hz', ex_trans hb hB1⟩
      case measure => simp [intOf]; omega
    · have HZ := Lib.hid (show q = sumI nm s.files by rw [hq.out, List.take_of_length_le (by omega)])
      clear hq
      go_wp2_with fail
      go_returns
      exact ⟨ret_int HZ.out, hb⟩
end Go.Proofs.Ytjobgnioehkomaa
