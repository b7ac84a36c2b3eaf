/-
  MARKS: the statements' own functions that write into a result and look whether it still stands.
-/
import Derived.WalkKit
import Derived.WalkSpells
import Derived.WalkLawsBesides
import Derived.Lib.Hide
import Derived.Handy
import Derived.StillTailTactics
import Derived.Deep.Light
import Derived.Deep.RegionHeld3
import Derived.Test.YtkoagijliokhlaaDoorLib
import Derived.Test.YtkoagijliokhlaaDoorOwn
import Derived.Test.YtkoagijliokhlaaDoorRow
import Derived.Test.YtkoagijliokhlaaDoorHld
import Derived.Test.YtkoagijliokhlaaDoorC1
import Derived.Test.YtkoagijliokhlaaDoorM0
import Derived.Test.YtkoagijliokhlaaDoorT2
import Derived.Test.YtkoagijliokhlaaDoorT4
import Derived.Test.YtkoagijliokhlaaDoorRows
namespace Go.Proofs.YtkoagijliokhlaaDoor
open Go.RowKit
set_option linter.unusedVariables false
set_option maxRecDepth 100000
set_option maxHeartbeats 1600000 in
theorem laws_markStringS {e : Nat} (A : Option Addr) (n c : Nat) (l : List ByteArray) (bs : List Nat) (k : Nat) (w : World) (hO : OSl e 1 OStr w A n l bs) (hnd : bs.Nodup) (hn : n ≤ 1073741824) (h0 : 0 < k) (h1 : k ≤ 1152921504606846976) :
    Calls Tryd.prog 28 #[.slice A n c, .int .i64 k] w fun e' w' => e' = .returned (.int .i64 ((k + 1 * n : Nat) : Int)) ∧ OSl e 1 OStr w' A n (mkString n k) bs ∧ Chg bs w w' := by
  obtain rfl : l.length = n := hO.len
  have hml : (mkString l.length k).length = l.length := by simp [mkString]
  have HM := Lib.hid hml
  go_enter Tryd.func28, Tryd.ntmps28
  go_wp2_with fail
  go_loopw [1, 5] (fun kk i wr => ∃ j m : Nat, j ≤ l.length ∧ m = k + 1 * j ∧ i = .int .i64 j ∧ kk = .int .i64 m ∧ OSl e 1 OStr wr A l.length (mix (mkString l.length k) l j) bs ∧ Chg bs w wr) (fun _ i _ => l.length - (intOf i).toNat)
  case atStart => exact ⟨0, k, Nat.zero_le _, rfl, rfl, rfl, by rw [mix_zero]; exact hO, Chg.refl _ _⟩
  case round =>
    obtain ⟨j, m, hj, hm, rfl, rfl, hOr, hc⟩ := hrel
    have hm0 : 0 < (m : Int) := by omega
    have hm1 : (m : Int) ≤ 4611686018427387000 := by omega
    by_cases hlt : j < l.length
    · obtain ⟨g, bss, rfl, hgw, hgb, hbi, -, cur, hcur, hsz, ⟨cs, hcl, hcc, hcO⟩, hup⟩ := hOr.upd lStr hnd hlt
      have HZ := Lib.hid (hcO (by rw [mix_len hml hj]; exact hlt)).2
      have HL := Lib.hid (hOr.lt lStr)
      have i0 : (0 : Int) ≤ (j : Int) := by omega
      have i1 : (j : Int) < (l.length : Int) := by omega
      obtain ⟨s0, hs0, C0⟩ := laws_mText ((m : Int)) (by omega) (by omega)
      have HC0 := Lib.hid C0
      have HS0 := Lib.hid hs0
      clear C0 hs0
      have HU := Lib.hid hup
      have HC := Lib.hid hcur
      have HMm := Lib.hid hm
      have hb0 := Below.refl wr.heap.size wr
      clear hup hcur hcO hcc hml hOr hm hcl hO
      have hc0 := HC.out
      have hf := blk_free hc0
      have p0 := blk_cell hc0 (j := j) (by omega)
      have HCC := Lib.hid hc0
      clear hc0
      go_wp2_with fail
      refine (HC0.out _).mono ?_; rintro e' w1 ⟨rfl, hb1⟩
      have hc1 := (hb1.block g (by (try rw [size_set]); (try rw [size_set]); (try rw [size_set]); exact hgw)).trans HCC.out
      clear hf p0
      have hg1 := keep_lt hb1 hgw
      have hf := blk_free hc1
      have p0 := blk_cell hc1 (j := j) (by omega)
      have HC1 := Lib.hid hc1
      clear hc1
      go_wp2_with fail
      go_roundw
      case rel =>
        refine ⟨j + 1, m + 1, by omega, by have := HMm.out; omega, by go_num, by go_num, ?_, ?_⟩
        · obtain ⟨q1, q2, q3⟩ := setsA_out (size := 1) (cs := [.string s0]) (cur := cur) hsz hlt rfl
          have h := HU.out (sets w1 g (j) [.string s0]) (setsA cur (j) [.string s0]) _ (s0) (by have h := sets_blk [.string s0] w1 (j) cur HC1.out; exact h) (by first | exact q1 | (simp only [Nat.mul_one] at q1; exact q1) | (simpa using q1)) (by first | exact q2 | (simp only [Nat.mul_one] at q2; exact q2) | (simpa using q2)) rfl (by first | exact q3 | (simp only [Nat.mul_one] at q3; exact q3) | (simpa using q3)) ⟨rfl, HZ.out⟩ (fun b hb hne _ => (sets_far hne _ _ _).trans (hb1.block b (HL.out b hb)))
          rw [mix_set HM.out hlt (by simp [mkString, HS0.out, HMm.out])] at h
          exact h
        · exact sets_chg (w1 := w1) hgb [.string s0] _ (j) (hc.trans (Chg.of_below _ hb1))
      case measure => simp [intOf]; omega
    · have HZ := Lib.hid (show OSl e 1 OStr wr A l.length (mkString l.length k) bs by have h := hOr; rw [show j = l.length by omega, mix_all HM.out] at h; exact h)
      have HS := Lib.hid hm
      clear hOr hm hml hO
      go_wp2_with fail
      go_returns
      exact ⟨ret_int (by have := HS.out; omega), HZ.out, hc⟩
set_option maxHeartbeats 1600000 in
theorem laws_heldStringS (A : Option Addr) (n c : Nat) (k : Nat) (w : World) (hS : Sl 1 RStr w A n (mkString n k)) (hn : n ≤ 1073741824) (h0 : 0 < k) (h1 : k ≤ 1152921504606846976) :
    Calls Tryd.prog 29 #[.slice A n c, .int .i64 k] w fun e' w' => e' = .returned (.int .i64 ((k + 1 * n : Nat) : Int)) ∧ Below w.heap.size w w' := by
  have hml : (mkString n k).length = n := by simp [mkString]
  have HM := Lib.hid hml
  go_enter Tryd.func29, Tryd.ntmps29
  go_wp2_with fail
  go_loopw [1, 5] (fun kk i wr => ∃ j m : Nat, j ≤ n ∧ m = k + 1 * j ∧ i = .int .i64 j ∧ kk = .int .i64 m ∧ Below w.heap.size w wr) (fun _ i _ => n - (intOf i).toNat)
  case atStart => exact ⟨0, k, Nat.zero_le _, rfl, rfl, rfl, Below.refl _ _⟩
  case round =>
    obtain ⟨j, m, hj, hm, rfl, rfl, hb⟩ := hrel
    have hm0 : 0 < (m : Int) := by omega
    have hm1 : (m : Int) ≤ 4611686018427387000 := by omega
    by_cases hlt : j < n
    · obtain ⟨b, off, rfl, bw, bc⟩ := hS.str (by omega)
      have qq := bc j (by omega)
      clear bc hS
      obtain ⟨s0, hs0, C0⟩ := laws_mText ((m : Int)) (by omega) (by omega)
      have g0 : (mkString n k)[j] = s0 := by simp [mkString, hs0, hm]
      rw [g0] at qq
      have q0 := qq
      clear qq
      rw [← hb.cell (p := ⟨b, _, none⟩) bw] at q0
      have bw' := keep_lt hb bw
      have i0 : (0 : Int) ≤ (j : Int) := by omega
      have i1 : (j : Int) < (n : Int) := by omega
      have HC0 := Lib.hid C0
      clear C0 hs0
      have HMm := Lib.hid hm
      clear hm g0 bw hml
      go_wp2_with fail
      refine wp_region_held_drew (S := (fun w' => w'.cell? ⟨b, off + j, none⟩ = some (.string s0) ∧ Below wr.heap.size wr w')) (by kernel_rfl) (by (try dsimp only); exact ⟨q0, (Below.refl _ _).drew⟩) (fun hHeld => ?_)
      first | (refine held_take 0 rfl (by kernel_rfl) (by kernel_rfl) (by kernel_rfl) (by rfl) (fun _ _ _ h => h) (by assumption) (by intro w hSw; (try dsimp only at hSw); go_simp; first | done | with_reducible rfl) ?_) | (refine held_skip 0 rfl (by kernel_rfl) (by kernel_rfl) (by kernel_rfl) (by rfl) (fun _ _ _ h => h) (by assumption) ?_)
      simp only [Act.put, List.setIfInBounds_toArray, List.set_cons_zero, List.set_cons_succ]
      first | (refine held_take 1 rfl (by kernel_rfl) (by kernel_rfl) (by kernel_rfl) (by rfl) (fun _ _ _ h => h) (by assumption) (by intro w hSw; (try dsimp only at hSw); go_simp; first | done | with_reducible rfl) ?_) | (refine held_skip 1 rfl (by kernel_rfl) (by kernel_rfl) (by kernel_rfl) (by rfl) (fun _ _ _ h => h) (by assumption) ?_)
      simp only [Act.put, List.setIfInBounds_toArray, List.set_cons_zero, List.set_cons_succ]
      first | (refine held_take 2 rfl (by kernel_rfl) (by kernel_rfl) (by kernel_rfl) (by rfl) (fun _ _ _ h => h) (by assumption) (by intro w hSw; (try dsimp only at hSw); go_simp; first | done | with_reducible rfl) ?_) | (refine held_skip 2 rfl (by kernel_rfl) (by kernel_rfl) (by kernel_rfl) (by rfl) (fun _ _ _ h => h) (by assumption) ?_)
      simp only [Act.put, List.setIfInBounds_toArray, List.set_cons_zero, List.set_cons_succ]
      first | (refine held_take 3 rfl (by kernel_rfl) (by kernel_rfl) (by kernel_rfl) (by rfl) (fun _ _ _ h => h) (by assumption) (by intro w hSw; (try dsimp only at hSw); go_simp; first | done | with_reducible rfl) ?_) | (refine held_skip 3 rfl (by kernel_rfl) (by kernel_rfl) (by kernel_rfl) (by rfl) (fun _ _ _ h => h) (by assumption) ?_)
      simp only [Act.put, List.setIfInBounds_toArray, List.set_cons_zero, List.set_cons_succ]
      first | (refine held_take 4 rfl (by kernel_rfl) (by kernel_rfl) (by kernel_rfl) (by rfl) (fun _ _ _ h => h) (by assumption) (by intro w hSw; (try dsimp only at hSw); go_simp; first | done | with_reducible rfl) ?_) | (refine held_skip 4 rfl (by kernel_rfl) (by kernel_rfl) (by kernel_rfl) (by rfl) (fun _ _ _ h => h) (by assumption) ?_)
      simp only [Act.put, List.setIfInBounds_toArray, List.set_cons_zero, List.set_cons_succ]
      refine held_one 5 (by kernel_rfl) rfl (fun K hK => ?_)
      go_simp
      go_at_call 57
      refine (HC0.out _).mono ?_; rintro e' y0 ⟨rfl, hy0⟩
      go_wp2_with fail
      refine hK.out _ _ (by (try dsimp only); obtain ⟨y0, yb⟩ := hHeld; exact ⟨keep_cell hy0 y0, ex_trans yb hy0⟩) (fun hNew => ?_)
      clear hK K hHeld
      have hHeld := hNew
      clear hNew
      try simp only [Act.put, List.setIfInBounds_toArray, List.set_cons_zero, List.set_cons_succ]
      first | (refine held_take 6 rfl (by kernel_rfl) (by kernel_rfl) (by kernel_rfl) (by rfl) (fun _ _ _ h => h) (by assumption) (by intro w hSw; (try dsimp only at hSw); go_simp; first | done | with_reducible rfl) ?_) | (refine held_skip 6 rfl (by kernel_rfl) (by kernel_rfl) (by kernel_rfl) (by rfl) (fun _ _ _ h => h) (by assumption) ?_)
      simp only [Act.put, List.setIfInBounds_toArray, List.set_cons_zero, List.set_cons_succ]
      refine wpAnyH_done (by kernel_rfl) ?_ _
      have hB0 := hHeld.2
      clear hHeld
      have z0_0 := keep_cell hB0 q0
      go_wp2_with fail
      go_roundw
      case rel => exact ⟨j + 1, m + 1, by omega, by have := HMm.out; omega, by go_num, by go_num, ex_trans hb hB0⟩
      case measure => simp [intOf]; omega
    · have HS := Lib.hid hm
      clear hm hml hS
      go_wp2_with fail
      go_returns
      exact ⟨ret_int (by have := HS.out; omega), hb⟩
end Go.Proofs.YtkoagijliokhlaaDoor
