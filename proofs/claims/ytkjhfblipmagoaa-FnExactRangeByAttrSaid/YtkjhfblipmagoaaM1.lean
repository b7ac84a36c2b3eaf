/-
  MARKS: the statements' own functions that write into a result and look whether it still stands.
-/
import Derived.WalkKit
import Derived.WalkSpells
import Derived.WalkLawsBesides
import Derived.Lib.Hide
import Derived.Handy
import Derived.StillTailTactics
import Derived.Deep.Light
import Derived.Deep.RegionHeld3
import Derived.Test.YtkjhfblipmagoaaLib
import Derived.Test.YtkjhfblipmagoaaOwn
import Derived.Test.YtkjhfblipmagoaaRow
import Derived.Test.YtkjhfblipmagoaaHld
import Derived.Test.YtkjhfblipmagoaaC1
import Derived.Test.YtkjhfblipmagoaaM0
import Derived.Test.YtkjhfblipmagoaaT2
import Derived.Test.YtkjhfblipmagoaaT3
import Derived.Test.YtkjhfblipmagoaaT4
import Derived.Test.YtkjhfblipmagoaaRows
namespace Go.Proofs.Ytkjhfblipmagoaa
open Go.RowKit
set_option linter.unusedVariables false
set_option maxRecDepth 100000
set_option maxHeartbeats 1600000 in
theorem laws_markStringS {e : Nat} (A : Option Addr) (n c : Nat) (l : List ByteArray) (bs : List Nat) (k : Nat) (w : World) (hO : OSl e 1 OStr w A n l bs) (hnd : bs.Nodup) (hn : n ≤ 1073741824) (h0 : 0 < k) (h1 : k ≤ 1152921504606846976) :
    Calls Try.prog 35 #[.slice A n c, .int .i64 k] w fun e' w' => e' = .returned (.int .i64 ((k + 1 * n : Nat) : Int)) ∧ OSl e 1 OStr w' A n (mkString n k) bs ∧ Chg bs w w' := by
  obtain rfl : l.length = n := hO.len
  have hml : (mkString l.length k).length = l.length := by simp [mkString]
  have HM := Lib.hid hml
  go_enter Try.func35, Try.ntmps35
  go_wp2_with fail
  go_loopw [1, 5] (fun kk i wr => ∃ j m : Nat, j ≤ l.length ∧ m = k + 1 * j ∧ i = .int .i64 j ∧ kk = .int .i64 m ∧ OSl e 1 OStr wr A l.length (mix (mkString l.length k) l j) bs ∧ Chg bs w wr) (fun _ i _ => l.length - (intOf i).toNat)
  case atStart => exact ⟨0, k, Nat.zero_le _, rfl, rfl, rfl, by rw [mix_zero]; exact hO, Chg.refl _ _⟩
  case round =>
    obtain ⟨j, m, hj, hm, rfl, rfl, hOr, hc⟩ := hrel
    have hm0 : 0 < (m : Int) := by omega
    have hm1 : (m : Int) ≤ 4611686018427387000 := by omega
    by_cases hlt : j < l.length
    · obtain ⟨g, bss, rfl, hgw, hgb, hbi, -, cur, hcur, hsz, ⟨cs, hcl, hcc, hcO⟩, hup⟩ := hOr.upd lStr hnd hlt
      have HZ := Lib.hid (hcO (by rw [mix_len hml hj]; exact hlt)).2
      have HL := Lib.hid (hOr.lt lStr)
      have i0 : (0 : Int) ≤ (j : Int) := by omega
      have i1 : (j : Int) < (l.length : Int) := by omega
      obtain ⟨s0, hs0, C0⟩ := laws_mText ((m : Int)) (by omega) (by omega)
      have HC0 := Lib.hid C0
      have HS0 := Lib.hid hs0
      clear C0 hs0
      have HU := Lib.hid hup
      have HC := Lib.hid hcur
      have HMm := Lib.hid hm
      have hb0 := Below.refl wr.heap.size wr
      clear hup hcur hcO hcc hml hOr hm hcl hO
      have hc0 := HC.out
      have hf := blk_free hc0
      have p0 := blk_cell hc0 (j := j) (by omega)
      have HCC := Lib.hid hc0
      clear hc0
      go_wp2_with fail
      refine (HC0.out _).mono ?_; rintro e' w1 ⟨rfl, hb1⟩
      have hc1 := (hb1.block g (by (try rw [size_set]); (try rw [size_set]); (try rw [size_set]); exact hgw)).trans HCC.out
      clear hf p0
      have hg1 := keep_lt hb1 hgw
      have hf := blk_free hc1
      have p0 := blk_cell hc1 (j := j) (by omega)
      have HC1 := Lib.hid hc1
      clear hc1
      go_wp2_with fail
      go_roundw
      case rel =>
        refine ⟨j + 1, m + 1, by omega, by have := HMm.out; omega, by go_num, by go_num, ?_, ?_⟩
        · obtain ⟨q1, q2, q3⟩ := setsA_out (size := 1) (cs := [.string s0]) (cur := cur) hsz hlt rfl
          have h := HU.out (sets w1 g (j) [.string s0]) (setsA cur (j) [.string s0]) _ (s0) (by have h := sets_blk [.string s0] w1 (j) cur HC1.out; exact h) (by first | exact q1 | (simp only [Nat.mul_one] at q1; exact q1) | (simpa using q1)) (by first | exact q2 | (simp only [Nat.mul_one] at q2; exact q2) | (simpa using q2)) rfl (by first | exact q3 | (simp only [Nat.mul_one] at q3; exact q3) | (simpa using q3)) ⟨rfl, HZ.out⟩ (fun b hb hne _ => (sets_far hne _ _ _).trans (hb1.block b (HL.out b hb)))
          rw [mix_set HM.out hlt (by simp [mkString, HS0.out, HMm.out])] at h
          exact h
        · exact sets_chg (w1 := w1) hgb [.string s0] _ (j) (hc.trans (Chg.of_below _ hb1))
      case measure => simp [intOf]; omega
    · have HZ := Lib.hid (show OSl e 1 OStr wr A l.length (mkString l.length k) bs by have h := hOr; rw [show j = l.length by omega, mix_all HM.out] at h; exact h)
      have HS := Lib.hid hm
      clear hOr hm hml hO
      go_wp2_with fail
      go_returns
      exact ⟨ret_int (by have := HS.out; omega), HZ.out, hc⟩
set_option maxHeartbeats 1600000 in
theorem laws_heldStringS (A : Option Addr) (n c : Nat) (k : Nat) (w : World) (hS : Sl 1 RStr w A n (mkString n k)) (hn : n ≤ 1073741824) (h0 : 0 < k) (h1 : k ≤ 1152921504606846976) :
    Calls Try.prog 36 #[.slice A n c, .int .i64 k] w fun e' w' => e' = .returned (.int .i64 ((k + 1 * n : Nat) : Int)) ∧ Below w.heap.size w w' := by
  have hml : (mkString n k).length = n := by simp [mkString]
  have HM := Lib.hid hml
  go_enter Try.func36, Try.ntmps36
  go_wp2_with fail
  go_loopw [1, 5] (fun kk i wr => ∃ j m : Nat, j ≤ n ∧ m = k + 1 * j ∧ i = .int .i64 j ∧ kk = .int .i64 m ∧ Below w.heap.size w wr) (fun _ i _ => n - (intOf i).toNat)
  case atStart => exact ⟨0, k, Nat.zero_le _, rfl, rfl, rfl, Below.refl _ _⟩
  case round =>
    obtain ⟨j, m, hj, hm, rfl, rfl, hb⟩ := hrel
    have hm0 : 0 < (m : Int) := by omega
    have hm1 : (m : Int) ≤ 4611686018427387000 := by omega
    by_cases hlt : j < n
    · obtain ⟨b, off, rfl, bw, bc⟩ := hS.str (by omega)
      have qq := bc j (by omega)
      clear bc hS
      obtain ⟨s0, hs0, C0⟩ := laws_mText ((m : Int)) (by omega) (by omega)
      have g0 : (mkString n k)[j] = s0 := by simp [mkString, hs0, hm]
      rw [g0] at qq
      have q0 := qq
      clear qq
      rw [← hb.cell (p := ⟨b, _, none⟩) bw] at q0
      have bw' := keep_lt hb bw
      have i0 : (0 : Int) ≤ (j : Int) := by omega
      have i1 : (j : Int) < (n : Int) := by omega
      have HC0 := Lib.hid C0
      clear C0 hs0
      have HMm := Lib.hid hm
      clear hm g0 bw hml
      go_wp2_with fail
      refine wp_region_held_drew (S := (fun w' => w'.cell? ⟨b, off + j, none⟩ = some (.string s0) ∧ Below wr.heap.size wr w')) (by kernel_rfl) (by (try dsimp only); exact ⟨q0, (Below.refl _ _).drew⟩) (fun hHeld => ?_)
      first | (refine held_take 0 rfl (by kernel_rfl) (by kernel_rfl) (by kernel_rfl) (by rfl) (fun _ _ _ h => h) (by assumption) (by intro w hSw; (try dsimp only at hSw); go_simp; first | done | with_reducible rfl) ?_) | (refine held_skip 0 rfl (by kernel_rfl) (by kernel_rfl) (by kernel_rfl) (by rfl) (fun _ _ _ h => h) (by assumption) ?_)
      simp only [Act.put, List.setIfInBounds_toArray, List.set_cons_zero, List.set_cons_succ]
      first | (refine held_take 1 rfl (by kernel_rfl) (by kernel_rfl) (by kernel_rfl) (by rfl) (fun _ _ _ h => h) (by assumption) (by intro w hSw; (try dsimp only at hSw); go_simp; first | done | with_reducible rfl) ?_) | (refine held_skip 1 rfl (by kernel_rfl) (by kernel_rfl) (by kernel_rfl) (by rfl) (fun _ _ _ h => h) (by assumption) ?_)
      simp only [Act.put, List.setIfInBounds_toArray, List.set_cons_zero, List.set_cons_succ]
      first | (refine held_take 2 rfl (by kernel_rfl) (by kernel_rfl) (by kernel_rfl) (by rfl) (fun _ _ _ h => h) (by assumption) (by intro w hSw; (try dsimp only at hSw); go_simp; first | done | with_reducible rfl) ?_) | (refine held_skip 2 rfl (by kernel_rfl) (by kernel_rfl) (by kernel_rfl) (by rfl) (fun _ _ _ h => h) (by assumption) ?_)
      simp only [Act.put, List.setIfInBounds_toArray, List.set_cons_zero, List.set_cons_succ]
      first | (refine held_take 3 rfl (by kernel_rfl) (by kernel_rfl) (by kernel_rfl) (by rfl) (fun _ _ _ h => h) (by assumption) (by intro w hSw; (try dsimp only at hSw); go_simp; first | done | with_reducible rfl) ?_) | (refine held_skip 3 rfl (by kernel_rfl) (by kernel_rfl) (by kernel_rfl) (by rfl) (fun _ _ _ h => h) (by assumption) ?_)
      simp only [Act.put, List.setIfInBounds_toArray, List.set_cons_zero, List.set_cons_succ]
      first | (refine held_take 4 rfl (by kernel_rfl) (by kernel_rfl) (by kernel_rfl) (by rfl) (fun _ _ _ h => h) (by assumption) (by intro w hSw; (try dsimp only at hSw); go_simp; first | done | with_reducible rfl) ?_) | (refine held_skip 4 rfl (by kernel_rfl) (by kernel_rfl) (by kernel_rfl) (by rfl) (fun _ _ _ h => h) (by assumption) ?_)
      simp only [Act.put, List.setIfInBounds_toArray, List.set_cons_zero, List.set_cons_succ]
      refine held_one 5 (by kernel_rfl) rfl (fun K hK => ?_)
      go_simp
      go_at_call 71
      refine (HC0.out _).mono ?_; rintro e' y0 ⟨rfl, hy0⟩
      go_wp2_with fail
      refine hK.out _ _ (by (try dsimp only); obtain ⟨y0, yb⟩ := hHeld; exact ⟨keep_cell hy0 y0, ex_trans yb hy0⟩) (fun hNew => ?_)
      clear hK K hHeld
      have hHeld := hNew
      clear hNew
      try simp only [Act.put, List.setIfInBounds_toArray, List.set_cons_zero, List.set_cons_succ]
      first | (refine held_take 6 rfl (by kernel_rfl) (by kernel_rfl) (by kernel_rfl) (by rfl) (fun _ _ _ h => h) (by assumption) (by intro w hSw; (try dsimp only at hSw); go_simp; first | done | with_reducible rfl) ?_) | (refine held_skip 6 rfl (by kernel_rfl) (by kernel_rfl) (by kernel_rfl) (by rfl) (fun _ _ _ h => h) (by assumption) ?_)
      simp only [Act.put, List.setIfInBounds_toArray, List.set_cons_zero, List.set_cons_succ]
      refine wpAnyH_done (by kernel_rfl) ?_ _
      have hB0 := hHeld.2
      clear hHeld
      have z0_0 := keep_cell hB0 q0
      go_wp2_with fail
      go_roundw
      case rel => exact ⟨j + 1, m + 1, by omega, by have := HMm.out; omega, by go_num, by go_num, ex_trans hb hB0⟩
      case measure => simp [intOf]; omega
    · have HS := Lib.hid hm
      clear hm hml hS
      go_wp2_with fail
      go_returns
      exact ⟨ret_int (by have := HS.out; omega), hb⟩
set_option maxHeartbeats 1600000 in
theorem laws_markIntS {e : Nat} (A : Option Addr) (n c : Nat) (l : List Int) (bs : List Nat) (k : Nat) (w : World) (hO : OSl e 1 OInt w A n l bs) (hnd : bs.Nodup) (hn : n ≤ 1073741824) (h0 : 0 < k) (h1 : k ≤ 1152921504606846976) :
    Calls Try.prog 40 #[.slice A n c, .int .i64 k] w fun e' w' => e' = .returned (.int .i64 ((k + 1 * n : Nat) : Int)) ∧ OSl e 1 OInt w' A n (mkInt n k) bs ∧ Chg bs w w' := by
  obtain rfl : l.length = n := hO.len
  have hml : (mkInt l.length k).length = l.length := by simp [mkInt]
  have HM := Lib.hid hml
  go_enter Try.func40, Try.ntmps40
  go_wp2_with fail
  go_loopw [1, 5] (fun kk i wr => ∃ j m : Nat, j ≤ l.length ∧ m = k + 1 * j ∧ i = .int .i64 j ∧ kk = .int .i64 m ∧ OSl e 1 OInt wr A l.length (mix (mkInt l.length k) l j) bs ∧ Chg bs w wr) (fun _ i _ => l.length - (intOf i).toNat)
  case atStart => exact ⟨0, k, Nat.zero_le _, rfl, rfl, rfl, by rw [mix_zero]; exact hO, Chg.refl _ _⟩
  case round =>
    obtain ⟨j, m, hj, hm, rfl, rfl, hOr, hc⟩ := hrel
    have hm0 : 0 < (m : Int) := by omega
    have hm1 : (m : Int) ≤ 4611686018427387000 := by omega
    by_cases hlt : j < l.length
    · obtain ⟨g, bss, rfl, hgw, hgb, hbi, -, cur, hcur, hsz, ⟨cs, hcl, hcc, hcO⟩, hup⟩ := hOr.upd lInt hnd hlt
      have HZ := Lib.hid (hcO (by rw [mix_len hml hj]; exact hlt)).2
      have HL := Lib.hid (hOr.lt lInt)
      have i0 : (0 : Int) ≤ (j : Int) := by omega
      have i1 : (j : Int) < (l.length : Int) := by omega
      have HU := Lib.hid hup
      have HC := Lib.hid hcur
      have HMm := Lib.hid hm
      have hb0 := Below.refl wr.heap.size wr
      clear hup hcur hcO hcc hml hOr hm hcl hO
      have hc0 := HC.out
      have hf := blk_free hc0
      have p0 := blk_cell hc0 (j := j) (by omega)
      have HCC := Lib.hid hc0
      clear hc0
      go_wp2_with fail
      go_roundw
      case rel =>
        refine ⟨j + 1, m + 1, by omega, by have := HMm.out; omega, by go_num, by go_num, ?_, ?_⟩
        · obtain ⟨q1, q2, q3⟩ := setsA_out (size := 1) (cs := [.int .i64 ((m : Int))]) (cur := cur) hsz hlt rfl
          have h := HU.out (sets wr g (j) [.int .i64 ((m : Int))]) (setsA cur (j) [.int .i64 ((m : Int))]) _ ((m : Int)) (by have h := sets_blk [.int .i64 ((m : Int))] wr (j) cur HCC.out; exact h) (by first | exact q1 | (simp only [Nat.mul_one] at q1; exact q1) | (simpa using q1)) (by first | exact q2 | (simp only [Nat.mul_one] at q2; exact q2) | (simpa using q2)) rfl (by first | exact q3 | (simp only [Nat.mul_one] at q3; exact q3) | (simpa using q3)) ⟨rfl, HZ.out⟩ (fun b hb hne _ => sets_far hne _ _ _)
          rw [mix_set HM.out hlt (by simp [mkInt, HMm.out])] at h
          exact h
        · exact sets_chg (w1 := wr) hgb [.int .i64 ((m : Int))] _ (j) hc
      case measure => simp [intOf]; omega
    · have HZ := Lib.hid (show OSl e 1 OInt wr A l.length (mkInt l.length k) bs by have h := hOr; rw [show j = l.length by omega, mix_all HM.out] at h; exact h)
      have HS := Lib.hid hm
      clear hOr hm hml hO
      go_wp2_with fail
      go_returns
      exact ⟨ret_int (by have := HS.out; omega), HZ.out, hc⟩
set_option maxHeartbeats 1600000 in
theorem laws_heldIntS (A : Option Addr) (n c : Nat) (k : Nat) (w : World) (hS : Sl 1 RInt w A n (mkInt n k)) (hn : n ≤ 1073741824) (h0 : 0 < k) (h1 : k ≤ 1152921504606846976) :
    Calls Try.prog 41 #[.slice A n c, .int .i64 k] w fun e' w' => e' = .returned (.int .i64 ((k + 1 * n : Nat) : Int)) ∧ Below w.heap.size w w' := by
  have hml : (mkInt n k).length = n := by simp [mkInt]
  have HM := Lib.hid hml
  go_enter Try.func41, Try.ntmps41
  go_wp2_with fail
  go_loopw [1, 5] (fun kk i wr => ∃ j m : Nat, j ≤ n ∧ m = k + 1 * j ∧ i = .int .i64 j ∧ kk = .int .i64 m ∧ Below w.heap.size w wr) (fun _ i _ => n - (intOf i).toNat)
  case atStart => exact ⟨0, k, Nat.zero_le _, rfl, rfl, rfl, Below.refl _ _⟩
  case round =>
    obtain ⟨j, m, hj, hm, rfl, rfl, hb⟩ := hrel
    have hm0 : 0 < (m : Int) := by omega
    have hm1 : (m : Int) ≤ 4611686018427387000 := by omega
    by_cases hlt : j < n
    · obtain ⟨b, off, rfl, bw, bc⟩ := hS.int (by omega)
      have qq := bc j (by omega)
      clear bc hS
      have g0 : (mkInt n k)[j] = (m : Int) := by simp [mkInt, hm]
      rw [g0] at qq
      have q0 := qq
      clear qq
      rw [← hb.cell (p := ⟨b, _, none⟩) bw] at q0
      have bw' := keep_lt hb bw
      have i0 : (0 : Int) ≤ (j : Int) := by omega
      have i1 : (j : Int) < (n : Int) := by omega
      have HMm := Lib.hid hm
      clear hm g0 bw hml
      go_wp2_with fail
      go_roundw
      case rel => exact ⟨j + 1, m + 1, by omega, by have := HMm.out; omega, by go_num, by go_num, hb⟩
      case measure => simp [intOf]; omega
    · have HS := Lib.hid hm
      clear hm hml hS
      go_wp2_with fail
      go_returns
      exact ⟨ret_int (by have := HS.out; omega), hb⟩
set_option maxHeartbeats 1600000 in
theorem laws_markFieldS {e : Nat} (A : Option Addr) (n c : Nat) (l : List Fld) (bs : List Nat) (k : Nat) (w : World) (hO : OSl e 2 OFld w A n l bs) (hnd : bs.Nodup) (hn : n ≤ 1073741824) (h0 : 0 < k) (h1 : k ≤ 1152921504606846976) :
    Calls Try.prog 85 #[.slice A n c, .int .i64 k] w fun e' w' => e' = .returned (.int .i64 ((k + 2 * n : Nat) : Int)) ∧ OSl e 2 OFld w' A n (mkField n k) bs ∧ Chg bs w w' := by
  obtain rfl : l.length = n := hO.len
  have hml : (mkField l.length k).length = l.length := by simp [mkField]
  have HM := Lib.hid hml
  go_enter Try.func85, Try.ntmps85
  go_wp2_with fail
  go_loopw [1, 5] (fun kk i wr => ∃ j m : Nat, j ≤ l.length ∧ m = k + 2 * j ∧ i = .int .i64 j ∧ kk = .int .i64 m ∧ OSl e 2 OFld wr A l.length (mix (mkField l.length k) l j) bs ∧ Chg bs w wr) (fun _ i _ => l.length - (intOf i).toNat)
  case atStart => exact ⟨0, k, Nat.zero_le _, rfl, rfl, rfl, by rw [mix_zero]; exact hO, Chg.refl _ _⟩
  case round =>
    obtain ⟨j, m, hj, hm, rfl, rfl, hOr, hc⟩ := hrel
    have hm0 : 0 < (m : Int) := by omega
    have hm1 : (m : Int) ≤ 4611686018427387000 := by omega
    by_cases hlt : j < l.length
    · obtain ⟨g, bss, rfl, hgw, hgb, hbi, -, cur, hcur, hsz, ⟨cs, hcl, hcc, hcO⟩, hup⟩ := hOr.upd lFld hnd hlt
      have HZ := Lib.hid (hcO (by rw [mix_len hml hj]; exact hlt)).2
      have HL := Lib.hid (hOr.lt lFld)
      have i0 : (0 : Int) ≤ (j : Int) := by omega
      have i1 : (j : Int) < (l.length : Int) := by omega
      obtain ⟨s0, hs0, C0⟩ := laws_mText ((m : Int)) (by omega) (by omega)
      have HC0 := Lib.hid C0
      have HS0 := Lib.hid hs0
      clear C0 hs0
      have HU := Lib.hid hup
      have HC := Lib.hid hcur
      have HMm := Lib.hid hm
      have hb0 := Below.refl wr.heap.size wr
      clear hup hcur hcO hcc hml hOr hm hcl hO
      have hc0 := HC.out
      have hf := blk_free hc0
      have p0 := blk_cell hc0 (j := j * 2) (by omega)
      have p1 := blk_cell hc0 (j := j * 2 + 1) (by omega)
      have HCC := Lib.hid hc0
      clear hc0
      go_wp2_with fail
      refine (HC0.out _).mono ?_; rintro e' w1 ⟨rfl, hb1⟩
      have hc1 := (hb1.block g (by (try rw [size_set]); (try rw [size_set]); (try rw [size_set]); exact hgw)).trans HCC.out
      clear hf p0 p1
      have hg1 := keep_lt hb1 hgw
      have hf := blk_free hc1
      have p0 := blk_cell hc1 (j := j * 2) (by omega)
      have p1 := blk_cell hc1 (j := j * 2 + 1) (by omega)
      have HC1 := Lib.hid hc1
      clear hc1
      go_wp2_with fail
      go_roundw
      case rel =>
        refine ⟨j + 1, m + 1 + 1, by omega, by have := HMm.out; omega, by go_num, by go_num, ?_, ?_⟩
        · obtain ⟨q1, q2, q3⟩ := setsA_out (size := 2) (cs := [.string s0, .int .i64 ((m : Int) + 1)]) (cur := cur) hsz hlt rfl
          have h := HU.out (sets w1 g (j * 2) [.string s0, .int .i64 ((m : Int) + 1)]) (setsA cur (j * 2) [.string s0, .int .i64 ((m : Int) + 1)]) _ (⟨s0, (m : Int) + 1⟩) (by have h := sets_blk [.string s0, .int .i64 ((m : Int) + 1)] w1 (j * 2) cur HC1.out; exact h) (by first | exact q1 | (simp only [Nat.mul_one] at q1; exact q1) | (simpa using q1)) (by first | exact q2 | (simp only [Nat.mul_one] at q2; exact q2) | (simpa using q2)) rfl (by first | exact q3 | (simp only [Nat.mul_one] at q3; exact q3) | (simpa using q3)) ⟨rfl, HZ.out⟩ (fun b hb hne _ => (sets_far hne _ _ _).trans (hb1.block b (HL.out b hb)))
          rw [mix_set HM.out hlt (by simp [mkField, HS0.out, HMm.out])] at h
          exact h
        · exact sets_chg (w1 := w1) hgb [.string s0, .int .i64 ((m : Int) + 1)] _ (j * 2) (hc.trans (Chg.of_below _ hb1))
      case measure => simp [intOf]; omega
    · have HZ := Lib.hid (show OSl e 2 OFld wr A l.length (mkField l.length k) bs by have h := hOr; rw [show j = l.length by omega, mix_all HM.out] at h; exact h)
      have HS := Lib.hid hm
      clear hOr hm hml hO
      go_wp2_with fail
      go_returns
      exact ⟨ret_int (by have := HS.out; omega), HZ.out, hc⟩
set_option maxHeartbeats 1600000 in
theorem laws_markAttrS {e : Nat} (A : Option Addr) (n c : Nat) (l : List Atr) (bs : List Nat) (k : Nat) (w : World) (hO : OSl e 4 OAtr w A n l bs) (hnd : bs.Nodup) (hn : n ≤ 1073741824) (h0 : 0 < k) (h1 : k ≤ 1152921504606846976) :
    Calls Try.prog 72 #[.slice A n c, .int .i64 k] w fun e' w' => e' = .returned (.int .i64 ((k + 4 * n : Nat) : Int)) ∧ OSl e 4 OAtr w' A n (mkAttr n k) bs ∧ Chg bs w w' := by
  obtain rfl : l.length = n := hO.len
  have hml : (mkAttr l.length k).length = l.length := by simp [mkAttr]
  have HM := Lib.hid hml
  go_enter Try.func72, Try.ntmps72
  go_wp2_with fail
  go_loopw [1, 5] (fun kk i wr => ∃ j m : Nat, j ≤ l.length ∧ m = k + 4 * j ∧ i = .int .i64 j ∧ kk = .int .i64 m ∧ OSl e 4 OAtr wr A l.length (mix (mkAttr l.length k) l j) bs ∧ Chg bs w wr) (fun _ i _ => l.length - (intOf i).toNat)
  case atStart => exact ⟨0, k, Nat.zero_le _, rfl, rfl, rfl, by rw [mix_zero]; exact hO, Chg.refl _ _⟩
  case round =>
    obtain ⟨j, m, hj, hm, rfl, rfl, hOr, hc⟩ := hrel
    have hm0 : 0 < (m : Int) := by omega
    have hm1 : (m : Int) ≤ 4611686018427387000 := by omega
    by_cases hlt : j < l.length
    · obtain ⟨g, bss, rfl, hgw, hgb, hbi, -, cur, hcur, hsz, ⟨cs, hcl, hcc, hcO⟩, hup⟩ := hOr.upd lAtr hnd hlt
      have HZ := Lib.hid (hcO (by rw [mix_len hml hj]; exact hlt)).2
      have HL := Lib.hid (hOr.lt lAtr)
      have i0 : (0 : Int) ≤ (j : Int) := by omega
      have i1 : (j : Int) < (l.length : Int) := by omega
      obtain ⟨s0, hs0, C0⟩ := laws_mText ((m : Int)) (by omega) (by omega)
      have HC0 := Lib.hid C0
      have HS0 := Lib.hid hs0
      clear C0 hs0
      obtain ⟨s3, hs3, C3⟩ := laws_mText ((m : Int) + 1 + 1 + 1) (by omega) (by omega)
      have HC3 := Lib.hid C3
      have HS3 := Lib.hid hs3
      clear C3 hs3
      have HU := Lib.hid hup
      have HC := Lib.hid hcur
      have HMm := Lib.hid hm
      have hb0 := Below.refl wr.heap.size wr
      clear hup hcur hcO hcc hml hOr hm hcl hO
      have hc0 := HC.out
      have hf := blk_free hc0
      have p0 := blk_cell hc0 (j := j * 4) (by omega)
      have p1 := blk_cell hc0 (j := j * 4 + 1) (by omega)
      have p2 := blk_cell hc0 (j := j * 4 + 2) (by omega)
      have p3 := blk_cell hc0 (j := j * 4 + 3) (by omega)
      have HCC := Lib.hid hc0
      clear hc0
      go_wp2_with fail
      refine (HC0.out _).mono ?_; rintro e' w1 ⟨rfl, hb1⟩
      have hc1 := (hb1.block g (by (try rw [size_set]); (try rw [size_set]); (try rw [size_set]); exact hgw)).trans HCC.out
      clear hf p0 p1 p2 p3
      have hg1 := keep_lt hb1 hgw
      have hf := blk_free hc1
      have p0 := blk_cell hc1 (j := j * 4) (by omega)
      have p1 := blk_cell hc1 (j := j * 4 + 1) (by omega)
      have p2 := blk_cell hc1 (j := j * 4 + 2) (by omega)
      have p3 := blk_cell hc1 (j := j * 4 + 3) (by omega)
      have HC1 := Lib.hid hc1
      clear hc1
      go_wp2_with fail
      refine (HC3.out _).mono ?_; rintro e' w2 ⟨rfl, hb2⟩
      have hc2 := (hb2.block g (by (repeat rw [size_set]); exact hg1)).trans (sets_blk [.string s0, .int .i64 ((m : Int) + 1), .int .i64 ((m : Int) + 1 + 1)] w1 (j * 4) cur HC1.out)
      have hg2 : g < w2.heap.size := blk_lt hc2
      clear hf p0 p1 p2 p3
      have hf := blk_free hc2
      have p0 := blk_cell hc2 (j := j * 4) (by rw [setsA_size]; omega)
      have p1 := blk_cell hc2 (j := j * 4 + 1) (by rw [setsA_size]; omega)
      have p2 := blk_cell hc2 (j := j * 4 + 2) (by rw [setsA_size]; omega)
      have p3 := blk_cell hc2 (j := j * 4 + 3) (by rw [setsA_size]; omega)
      have HC2 := Lib.hid hc2
      clear hc2
      go_wp2_with fail
      go_roundw
      case rel =>
        refine ⟨j + 1, m + 1 + 1 + 1 + 1, by omega, by have := HMm.out; omega, by go_num, by go_num, ?_, ?_⟩
        · have e2 : ∀ (w0 : World), sets w0 g (j * 4 + 3) [.string s3] = sets w0 g (j * 4 + 3) [.string s3] := fun _ => rfl
          obtain ⟨q1, q2, q3⟩ := setsA_out (size := 4) (cs := [.string s0, .int .i64 ((m : Int) + 1), .int .i64 ((m : Int) + 1 + 1), .string s3]) (cur := cur) hsz hlt rfl
          have h := HU.out (w2.setCell ⟨g, j * 4 + 3, none⟩ (.string s3)) (setsA cur (j * 4) [.string s0, .int .i64 ((m : Int) + 1), .int .i64 ((m : Int) + 1 + 1), .string s3]) _ (⟨s0, ⟨(m : Int) + 1, (m : Int) + 1 + 1, s3⟩⟩) (blk_set HC2.out _ _) q1 q2 rfl q3 ⟨rfl, HZ.out⟩ (fun b hb hne _ => (blk_far w2 ⟨g, j * 4 + 3, none⟩ hne _).trans ((hb2.block b (by (repeat rw [size_set]); exact Nat.lt_of_lt_of_le (HL.out b hb) hb1.size)).trans ((sets_far hne [.string s0, .int .i64 ((m : Int) + 1), .int .i64 ((m : Int) + 1 + 1)] w1 (j * 4)).trans (hb1.block b (HL.out b hb)))))
          rw [mix_set HM.out hlt (by simp [mkAttr, HS0.out, HS3.out, HMm.out, Int.add_assoc])] at h
          exact h
        · exact Chg.set ((sets_chg (w1 := w1) hgb [.string s0, .int .i64 ((m : Int) + 1), .int .i64 ((m : Int) + 1 + 1)] w1 (j * 4) (hc.trans (Chg.of_below _ hb1))).trans (Chg.of_below _ hb2)) hgb _
      case measure => simp [intOf]; omega
    · have HZ := Lib.hid (show OSl e 4 OAtr wr A l.length (mkAttr l.length k) bs by have h := hOr; rw [show j = l.length by omega, mix_all HM.out] at h; exact h)
      have HS := Lib.hid hm
      clear hOr hm hml hO
      go_wp2_with fail
      go_returns
      exact ⟨ret_int (by have := HS.out; omega), HZ.out, hc⟩
end Go.Proofs.Ytkjhfblipmagoaa
