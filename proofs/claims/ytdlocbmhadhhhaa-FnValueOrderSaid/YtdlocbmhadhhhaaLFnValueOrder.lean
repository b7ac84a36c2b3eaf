/-
  FnValueOrder RETURNS true AND LEAVES ITS ARGUMENTS AS THEY WERE, FOR EVERY INPUT THAT THE STATEMENT SPEAKS OF. No condition.
-/
import Derived.WalkKit
import Derived.ProofKit
import Derived.OpenShut
import Derived.Handy
import Derived.Lib.Hide
import Derived.Deep.QuietTactic
import Derived.BigQuiet
import Derived.Deep.RegionHeld3
import Derived.Deep.DeepCutAuto
import Derived.Test.YtdlocbmhadhhhaaLib
import Derived.Test.YtdlocbmhadhhhaaOp
import Derived.Test.YtdlocbmhadhhhaaC1
import Derived.Test.YtdlocbmhadhhhaaC2
import Derived.Test.YtdlocbmhadhhhaaC4
import Derived.Test.YtdlocbmhadhhhaaOwn
import Derived.Test.YtdlocbmhadhhhaaRow
import Derived.Test.YtdlocbmhadhhhaaN0
import Derived.Test.YtdlocbmhadhhhaaHld
import Derived.Test.YtdlocbmhadhhhaaD1
import Derived.Test.YtdlocbmhadhhhaaSz
import Derived.Test.YtdlocbmhadhhhaaY1
import Derived.Test.YtdlocbmhadhhhaaY2
import Derived.Test.YtdlocbmhadhhhaaY3
import Derived.Test.YtdlocbmhadhhhaaP4
import Derived.Test.YtdlocbmhadhhhaaRows
namespace Go.Proofs.Ytdlocbmhadhhhaa
open Go.RowKit Go.ChangeShapes Go.WideShapes Go.ChangeAt Go.ChangeMaps
set_option linter.unusedVariables false
set_option maxRecDepth 100000
theorem vl_cases (a b : Vl) : a = b ∨ ((a.kind == b.kind) = false ∧ ¬ a = b) ∨ ((a.kind == b.kind) = true ∧ (a.int == b.int) = false ∧ ¬ a = b) ∨ ((a.kind == b.kind) = true ∧ (a.int == b.int) = true ∧ (a.str.toList == b.str.toList) = false ∧ ¬ a = b) := by
  by_cases h : a = b
  · exact .inl h
  · cases h1 : (a.kind == b.kind) with
    | false => exact .inr (.inl ⟨rfl, h⟩)
    | true =>
      cases h2 : (a.int == b.int) with
      | false => exact .inr (.inr (.inl ⟨rfl, rfl, h⟩))
      | true =>
        refine .inr (.inr (.inr ⟨rfl, rfl, ?_, h⟩))
        cases h3 : (a.str.toList == b.str.toList) with
        | false => rfl
        | true =>
          exfalso
          apply h
          cases a; cases b
          simp only [beq_iff_eq] at h1 h2 h3
          subst h1; subst h2
          rw [toList_inj h3]
theorem vl_cases2 (ak ai : Int) (az : ByteArray) (bk bi : Int) (bz : ByteArray) : (ak = bk ∧ ai = bi ∧ az = bz) ∨ ((ak == bk) = false ∧ ¬ (⟨ak, ai, az⟩ : Vl) = ⟨bk, bi, bz⟩) ∨ (ak = bk ∧ (ai == bi) = false ∧ ¬ (⟨ak, ai, az⟩ : Vl) = ⟨bk, bi, bz⟩) ∨ (ak = bk ∧ ai = bi ∧ (az.toList == bz.toList) = false ∧ ¬ (⟨ak, ai, az⟩ : Vl) = ⟨bk, bi, bz⟩) := by
  rcases vl_cases ⟨ak, ai, az⟩ ⟨bk, bi, bz⟩ with h | ⟨k1, h⟩ | ⟨k1, k2, h⟩ | ⟨k1, k2, k3, h⟩
  · injection h with h1 h2 h3
    exact .inl ⟨h1, h2, h3⟩
  · exact .inr (.inl ⟨k1, h⟩)
  · exact .inr (.inr (.inl ⟨(by simpa using k1 : ak = bk), k2, h⟩))
  · exact .inr (.inr (.inr ⟨(by simpa using k1 : ak = bk), (by simpa using k2 : ai = bi), k3, h⟩))
theorem cmpV_bd (a b : Vl) : -1 ≤ cmpV a b ∧ cmpV a b ≤ 1 := by
  unfold cmpV orI cmpI cmpS
  (repeat' split) <;> omega
set_option maxHeartbeats 16000000 in
theorem walk_FnValueOrder (W : World) (A0 : Option Addr) (n0 c0 : Nat) (l0 : List Int) (hS0 : Sl 1 RByt W A0 n0 l0) (hn0 : n0 ≤ maxLen) (hl0 : ∀ y ∈ l0, 0 ≤ y ∧ y ≤ 255) : Calls Try.prog 3 #[.slice A0 n0 c0] W fun e w' => e = .returned (.bool true) ∧ Below W.heap.size W w' := by
  by_cases hc : n0 ≤ 1048576
  · have hSb := Lib.hid fun w' (hb : Below W.heap.size W w') => spec_DrawCompareValues A0 n0 c0 l0 w' (hS0.mono mByt hb) hc hl0
    have hSf := Lib.hid fun w' (hb : Below W.heap.size W w') => spec_DrawFormatValue A0 n0 c0 l0 w' (hS0.mono mByt hb) hc hl0
    clear hS0 hl0
    go_enter Try.func3, Try.ntmps3
    go_wp2_with fail
    refine (laws_big_f A0 n0 c0 _ hc).mono ?_; rintro e w0 ⟨rfl, rfl⟩
    go_wp2_with fail
    refine (hSb.out _ (Below.refl _ _)).mono ?_; rintro e w1 ⟨a, b, rfl, _, _, hb1⟩
    have HB1 := Lib.hid hb1
    clear hb1
    go_wp2_with fail
    refine (hSf.out _ (ex_trans HB1.out (by go_grown))).mono ?_; rintro e w3 ⟨c, rfl, _, hb3⟩
    have HR3 := Lib.hid (show HasB w3 [(w1.heap.size, #[.int .i64 a.kind, .int .i64 a.int, .string a.str], 25), (w1.heap.size + 1, #[.int .i64 b.kind, .int .i64 b.int, .string b.str], 25)] from fun x hx => by
      simp only [List.mem_cons, List.not_mem_nil, or_false] at hx
      rcases hx with rfl | rfl
      · exact below_keep hb3 (by first | exact (hp_old (by simp)).trans (hp_new rfl) | exact hp_new rfl)
      · exact below_keep hb3 (by first | exact hp_new (by simp) | exact (hp_old (by simp)).trans (hp_new (by simp))))
    have HB3 := Lib.hid (ex_trans (ex_trans HB1.out (by go_grown)) hb3)
    have hz3 := blk_lt (HR3.out _ (List.Mem.tail _ (List.Mem.head _)))
    simp only at hz3
    have hz3a : w1.heap.size < w3.heap.size := by omega
    clear hb3
    obtain ⟨n, hn⟩ : ∃ n, cmpV a b = n := ⟨_, rfl⟩
    obtain ⟨q, hq⟩ : ∃ q, cmpV b c = q := ⟨_, rfl⟩
    obtain ⟨r, hr⟩ : ∃ r, cmpV a c = r := ⟨_, rfl⟩
    have HIab := Lib.hid fun w' => impl_CompareValues a b w'
    have HSab := Lib.hid fun w' => spec_CompareValues a b w'
    have HIba := Lib.hid fun w' => impl_CompareValues b a w'
    have HIbc := Lib.hid fun w' => impl_CompareValues b c w'
    have HIac := Lib.hid fun w' => impl_CompareValues a c w'
    have HI0 := Lib.hid fun w' => impl_CompareValues ⟨0, 0, ByteArray.empty⟩ ⟨1, 0, ByteArray.empty⟩ w'
    rw [cmpV_first] at HI0
    rw [hn] at HIab HSab
    rw [hq] at HIbc
    rw [hr] at HIac
    have hmn : cmpV b a = -n := by rw [← hn]; exact cmpV_ok.anti a b
    rw [hmn] at HIba
    have hbd := cmpV_bd a b
    rw [hn] at hbd
    have hm1 : -1 ≤ n := hbd.1
    have hm2 : n ≤ 1 := hbd.2
    have HT := Lib.hid (show ¬ 0 < n → ¬ 0 < q → r ≤ 0 from fun h1 h2 => by rw [← hr]; exact cmpV_ok.trans a b c (by omega) (by omega))
    have HZ := Lib.hid (show n = 0 ↔ a = b by rw [← hn]; exact cmpV_ok.zero a b)
    clear hn hq hr hmn hbd
    obtain ⟨ak, ai, az⟩ := a
    obtain ⟨bk, bi, bz⟩ := b
    have hcase := vl_cases2 ak ai az bk bi bz
    rcases hcase with ⟨rfl, rfl, rfl⟩ | ⟨k1, h⟩ | ⟨rfl, k2, h⟩ | ⟨rfl, rfl, k3, h⟩
    · obtain rfl : n = 0 := HZ.out.2 rfl
      clear hm1 hm2
      have ua0 := blk_cell? (HR3.out _ (List.Mem.head _)) 0
      have ua1 := blk_cell? (HR3.out _ (List.Mem.head _)) 1
      have ua2 := blk_cell? (HR3.out _ (List.Mem.head _)) 2
      have ub0 := blk_cell? (HR3.out _ (List.Mem.tail _ (List.Mem.head _))) 0
      have ub1 := blk_cell? (HR3.out _ (List.Mem.tail _ (List.Mem.head _))) 1
      have ub2 := blk_cell? (HR3.out _ (List.Mem.tail _ (List.Mem.head _))) 2
      simp only [List.getElem?_toArray, List.getElem?_cons_zero, List.getElem?_cons_succ] at ua0 ua1 ua2 ub0 ub1 ub2
      go_wp2_with fail
      refine (HIab.out _).mono ?_; rintro e w4 ⟨rfl, hb4⟩
      have HR4 := Lib.hid (show HasB w4 [(w1.heap.size, #[.int .i64 ak, .int .i64 ai, .string az], 25), (w1.heap.size + 1, #[.int .i64 ak, .int .i64 ai, .string az], 25), (w3.heap.size, #[.int .i64 c.kind, .int .i64 c.int, .string c.str], 25)] from fun x hx => by
        simp only [List.mem_cons, List.not_mem_nil, or_false] at hx
        rcases hx with rfl | rfl | rfl
        · exact below_keep hb4 ((hp_old (by omega)).trans (HR3.out _ (List.Mem.head _)))
        · exact below_keep hb4 ((hp_old (by omega)).trans (HR3.out _ (List.Mem.tail _ (List.Mem.head _))))
        · exact below_keep hb4 (hp_new rfl))
      have HB4 := Lib.hid (ex_trans (ex_alloc HB3.out _) hb4)
      clear ua0 ua1 ua2 ub0 ub1 ub2 hb4
      have ua0 := blk_cell? (HR4.out _ (List.Mem.head _)) 0
      have ua1 := blk_cell? (HR4.out _ (List.Mem.head _)) 1
      have ua2 := blk_cell? (HR4.out _ (List.Mem.head _)) 2
      have ub0 := blk_cell? (HR4.out _ (List.Mem.tail _ (List.Mem.head _))) 0
      have ub1 := blk_cell? (HR4.out _ (List.Mem.tail _ (List.Mem.head _))) 1
      have ub2 := blk_cell? (HR4.out _ (List.Mem.tail _ (List.Mem.head _))) 2
      have uc0 := blk_cell? (HR4.out _ (List.Mem.tail _ (List.Mem.tail _ (List.Mem.head _)))) 0
      have uc1 := blk_cell? (HR4.out _ (List.Mem.tail _ (List.Mem.tail _ (List.Mem.head _)))) 1
      have uc2 := blk_cell? (HR4.out _ (List.Mem.tail _ (List.Mem.tail _ (List.Mem.head _)))) 2
      simp only [List.getElem?_toArray, List.getElem?_cons_zero, List.getElem?_cons_succ] at ua0 ua1 ua2 ub0 ub1 ub2 uc0 uc1 uc2
      go_wp2_with fail
      refine (HSab.out _).mono ?_; rintro e w5 ⟨rfl, hb5⟩
      have HR5 := Lib.hid (HR4.out.below hb5)
      have HB5 := Lib.hid (ex_trans HB4.out hb5)
      clear ua0 ua1 ua2 ub0 ub1 ub2 uc0 uc1 uc2 hb5
      have ua0 := blk_cell? (HR5.out _ (List.Mem.head _)) 0
      have ua1 := blk_cell? (HR5.out _ (List.Mem.head _)) 1
      have ua2 := blk_cell? (HR5.out _ (List.Mem.head _)) 2
      have ub0 := blk_cell? (HR5.out _ (List.Mem.tail _ (List.Mem.head _))) 0
      have ub1 := blk_cell? (HR5.out _ (List.Mem.tail _ (List.Mem.head _))) 1
      have ub2 := blk_cell? (HR5.out _ (List.Mem.tail _ (List.Mem.head _))) 2
      have uc0 := blk_cell? (HR5.out _ (List.Mem.tail _ (List.Mem.tail _ (List.Mem.head _)))) 0
      have uc1 := blk_cell? (HR5.out _ (List.Mem.tail _ (List.Mem.tail _ (List.Mem.head _)))) 1
      have uc2 := blk_cell? (HR5.out _ (List.Mem.tail _ (List.Mem.tail _ (List.Mem.head _)))) 2
      simp only [List.getElem?_toArray, List.getElem?_cons_zero, List.getElem?_cons_succ] at ua0 ua1 ua2 ub0 ub1 ub2 uc0 uc1 uc2
      go_wp2_with fail
      refine (HIba.out _).mono ?_; rintro e w6 ⟨rfl, hb6⟩
      have HR6 := Lib.hid (HR5.out.below hb6)
      have HB6 := Lib.hid (ex_trans HB5.out hb6)
      clear ua0 ua1 ua2 ub0 ub1 ub2 uc0 uc1 uc2 hb6
      have ua0 := blk_cell? (HR6.out _ (List.Mem.head _)) 0
      have ua1 := blk_cell? (HR6.out _ (List.Mem.head _)) 1
      have ua2 := blk_cell? (HR6.out _ (List.Mem.head _)) 2
      have ub0 := blk_cell? (HR6.out _ (List.Mem.tail _ (List.Mem.head _))) 0
      have ub1 := blk_cell? (HR6.out _ (List.Mem.tail _ (List.Mem.head _))) 1
      have ub2 := blk_cell? (HR6.out _ (List.Mem.tail _ (List.Mem.head _))) 2
      have uc0 := blk_cell? (HR6.out _ (List.Mem.tail _ (List.Mem.tail _ (List.Mem.head _)))) 0
      have uc1 := blk_cell? (HR6.out _ (List.Mem.tail _ (List.Mem.tail _ (List.Mem.head _)))) 1
      have uc2 := blk_cell? (HR6.out _ (List.Mem.tail _ (List.Mem.tail _ (List.Mem.head _)))) 2
      simp only [List.getElem?_toArray, List.getElem?_cons_zero, List.getElem?_cons_succ] at ua0 ua1 ua2 ub0 ub1 ub2 uc0 uc1 uc2
      go_wp2_with fail
      refine (HIab.out _).mono ?_; rintro e w7 ⟨rfl, hb7⟩
      have HR7 := Lib.hid (HR6.out.below hb7)
      have HB7 := Lib.hid (ex_trans HB6.out hb7)
      clear ua0 ua1 ua2 ub0 ub1 ub2 uc0 uc1 uc2 hb7
      have ua0 := blk_cell? (HR7.out _ (List.Mem.head _)) 0
      have ua1 := blk_cell? (HR7.out _ (List.Mem.head _)) 1
      have ua2 := blk_cell? (HR7.out _ (List.Mem.head _)) 2
      have ub0 := blk_cell? (HR7.out _ (List.Mem.tail _ (List.Mem.head _))) 0
      have ub1 := blk_cell? (HR7.out _ (List.Mem.tail _ (List.Mem.head _))) 1
      have ub2 := blk_cell? (HR7.out _ (List.Mem.tail _ (List.Mem.head _))) 2
      have uc0 := blk_cell? (HR7.out _ (List.Mem.tail _ (List.Mem.tail _ (List.Mem.head _)))) 0
      have uc1 := blk_cell? (HR7.out _ (List.Mem.tail _ (List.Mem.tail _ (List.Mem.head _)))) 1
      have uc2 := blk_cell? (HR7.out _ (List.Mem.tail _ (List.Mem.tail _ (List.Mem.head _)))) 2
      simp only [List.getElem?_toArray, List.getElem?_cons_zero, List.getElem?_cons_succ] at ua0 ua1 ua2 ub0 ub1 ub2 uc0 uc1 uc2
      have hp : ¬ ((0 : Int) < 0) := by omega
      go_wp2_with fail
      refine (HIbc.out _).mono ?_; rintro e w8 ⟨rfl, hb8⟩
      have HR8 := Lib.hid (HR7.out.below hb8)
      have HB8 := Lib.hid (ex_trans HB7.out hb8)
      clear ua0 ua1 ua2 ub0 ub1 ub2 uc0 uc1 uc2 hb8
      have ua0 := blk_cell? (HR8.out _ (List.Mem.head _)) 0
      have ua1 := blk_cell? (HR8.out _ (List.Mem.head _)) 1
      have ua2 := blk_cell? (HR8.out _ (List.Mem.head _)) 2
      have ub0 := blk_cell? (HR8.out _ (List.Mem.tail _ (List.Mem.head _))) 0
      have ub1 := blk_cell? (HR8.out _ (List.Mem.tail _ (List.Mem.head _))) 1
      have ub2 := blk_cell? (HR8.out _ (List.Mem.tail _ (List.Mem.head _))) 2
      have uc0 := blk_cell? (HR8.out _ (List.Mem.tail _ (List.Mem.tail _ (List.Mem.head _)))) 0
      have uc1 := blk_cell? (HR8.out _ (List.Mem.tail _ (List.Mem.tail _ (List.Mem.head _)))) 1
      have uc2 := blk_cell? (HR8.out _ (List.Mem.tail _ (List.Mem.tail _ (List.Mem.head _)))) 2
      simp only [List.getElem?_toArray, List.getElem?_cons_zero, List.getElem?_cons_succ] at ua0 ua1 ua2 ub0 ub1 ub2 uc0 uc1 uc2
      by_cases hq : 0 < q
      · have hq1 : decide (0 < q) = true := by simpa using hq
        go_wp2_with fail
        refine (HI0.out _).mono ?_; rintro e w9 ⟨rfl, hb9⟩
        have HR9 := Lib.hid (HR8.out.below hb9)
        have HB9 := Lib.hid (ex_trans HB8.out hb9)
        clear ua0 ua1 ua2 ub0 ub1 ub2 uc0 uc1 uc2 hb9
        have ua0 := blk_cell? (HR9.out _ (List.Mem.head _)) 0
        have ua1 := blk_cell? (HR9.out _ (List.Mem.head _)) 1
        have ua2 := blk_cell? (HR9.out _ (List.Mem.head _)) 2
        have ub0 := blk_cell? (HR9.out _ (List.Mem.tail _ (List.Mem.head _))) 0
        have ub1 := blk_cell? (HR9.out _ (List.Mem.tail _ (List.Mem.head _))) 1
        have ub2 := blk_cell? (HR9.out _ (List.Mem.tail _ (List.Mem.head _))) 2
        have uc0 := blk_cell? (HR9.out _ (List.Mem.tail _ (List.Mem.tail _ (List.Mem.head _)))) 0
        have uc1 := blk_cell? (HR9.out _ (List.Mem.tail _ (List.Mem.tail _ (List.Mem.head _)))) 1
        have uc2 := blk_cell? (HR9.out _ (List.Mem.tail _ (List.Mem.tail _ (List.Mem.head _)))) 2
        simp only [List.getElem?_toArray, List.getElem?_cons_zero, List.getElem?_cons_succ] at ua0 ua1 ua2 ub0 ub1 ub2 uc0 uc1 uc2
        go_wp2_with fail
        go_returns
        exact ⟨rfl, HB9.out⟩
      · have hq1 : decide (0 < q) = false := by simpa using hq
        have hr0 := HT.out (by first | exact hp | omega) (by first | exact hq | omega)
        have hr1 : decide (r ≤ 0) = true := by simpa using hr0
        go_wp2_with fail
        refine (HIac.out _).mono ?_; rintro e w9 ⟨rfl, hb9⟩
        have HR9 := Lib.hid (HR8.out.below hb9)
        have HB9 := Lib.hid (ex_trans HB8.out hb9)
        clear ua0 ua1 ua2 ub0 ub1 ub2 uc0 uc1 uc2 hb9
        have ua0 := blk_cell? (HR9.out _ (List.Mem.head _)) 0
        have ua1 := blk_cell? (HR9.out _ (List.Mem.head _)) 1
        have ua2 := blk_cell? (HR9.out _ (List.Mem.head _)) 2
        have ub0 := blk_cell? (HR9.out _ (List.Mem.tail _ (List.Mem.head _))) 0
        have ub1 := blk_cell? (HR9.out _ (List.Mem.tail _ (List.Mem.head _))) 1
        have ub2 := blk_cell? (HR9.out _ (List.Mem.tail _ (List.Mem.head _))) 2
        have uc0 := blk_cell? (HR9.out _ (List.Mem.tail _ (List.Mem.tail _ (List.Mem.head _)))) 0
        have uc1 := blk_cell? (HR9.out _ (List.Mem.tail _ (List.Mem.tail _ (List.Mem.head _)))) 1
        have uc2 := blk_cell? (HR9.out _ (List.Mem.tail _ (List.Mem.tail _ (List.Mem.head _)))) 2
        simp only [List.getElem?_toArray, List.getElem?_cons_zero, List.getElem?_cons_succ] at ua0 ua1 ua2 ub0 ub1 ub2 uc0 uc1 uc2
        go_wp2_with fail
        refine (HI0.out _).mono ?_; rintro e w10 ⟨rfl, hb10⟩
        have HR10 := Lib.hid (HR9.out.below hb10)
        have HB10 := Lib.hid (ex_trans HB9.out hb10)
        clear ua0 ua1 ua2 ub0 ub1 ub2 uc0 uc1 uc2 hb10
        have ua0 := blk_cell? (HR10.out _ (List.Mem.head _)) 0
        have ua1 := blk_cell? (HR10.out _ (List.Mem.head _)) 1
        have ua2 := blk_cell? (HR10.out _ (List.Mem.head _)) 2
        have ub0 := blk_cell? (HR10.out _ (List.Mem.tail _ (List.Mem.head _))) 0
        have ub1 := blk_cell? (HR10.out _ (List.Mem.tail _ (List.Mem.head _))) 1
        have ub2 := blk_cell? (HR10.out _ (List.Mem.tail _ (List.Mem.head _))) 2
        have uc0 := blk_cell? (HR10.out _ (List.Mem.tail _ (List.Mem.tail _ (List.Mem.head _)))) 0
        have uc1 := blk_cell? (HR10.out _ (List.Mem.tail _ (List.Mem.tail _ (List.Mem.head _)))) 1
        have uc2 := blk_cell? (HR10.out _ (List.Mem.tail _ (List.Mem.tail _ (List.Mem.head _)))) 2
        simp only [List.getElem?_toArray, List.getElem?_cons_zero, List.getElem?_cons_succ] at ua0 ua1 ua2 ub0 ub1 ub2 uc0 uc1 uc2
        go_wp2_with fail
        go_returns
        exact ⟨rfl, HB10.out⟩
    · have hn0 : (n == 0) = false := by have h0 := HZ.out; simp; exact fun e => h (h0.1 e)
      clear h
      have ua0 := blk_cell? (HR3.out _ (List.Mem.head _)) 0
      have ua1 := blk_cell? (HR3.out _ (List.Mem.head _)) 1
      have ua2 := blk_cell? (HR3.out _ (List.Mem.head _)) 2
      have ub0 := blk_cell? (HR3.out _ (List.Mem.tail _ (List.Mem.head _))) 0
      have ub1 := blk_cell? (HR3.out _ (List.Mem.tail _ (List.Mem.head _))) 1
      have ub2 := blk_cell? (HR3.out _ (List.Mem.tail _ (List.Mem.head _))) 2
      simp only [List.getElem?_toArray, List.getElem?_cons_zero, List.getElem?_cons_succ] at ua0 ua1 ua2 ub0 ub1 ub2
      go_wp2_with fail
      refine (HIab.out _).mono ?_; rintro e w4 ⟨rfl, hb4⟩
      have HR4 := Lib.hid (show HasB w4 [(w1.heap.size, #[.int .i64 ak, .int .i64 ai, .string az], 25), (w1.heap.size + 1, #[.int .i64 bk, .int .i64 bi, .string bz], 25), (w3.heap.size, #[.int .i64 c.kind, .int .i64 c.int, .string c.str], 25)] from fun x hx => by
        simp only [List.mem_cons, List.not_mem_nil, or_false] at hx
        rcases hx with rfl | rfl | rfl
        · exact below_keep hb4 ((hp_old (by omega)).trans (HR3.out _ (List.Mem.head _)))
        · exact below_keep hb4 ((hp_old (by omega)).trans (HR3.out _ (List.Mem.tail _ (List.Mem.head _))))
        · exact below_keep hb4 (hp_new rfl))
      have HB4 := Lib.hid (ex_trans (ex_alloc HB3.out _) hb4)
      clear ua0 ua1 ua2 ub0 ub1 ub2 hb4
      have ua0 := blk_cell? (HR4.out _ (List.Mem.head _)) 0
      have ua1 := blk_cell? (HR4.out _ (List.Mem.head _)) 1
      have ua2 := blk_cell? (HR4.out _ (List.Mem.head _)) 2
      have ub0 := blk_cell? (HR4.out _ (List.Mem.tail _ (List.Mem.head _))) 0
      have ub1 := blk_cell? (HR4.out _ (List.Mem.tail _ (List.Mem.head _))) 1
      have ub2 := blk_cell? (HR4.out _ (List.Mem.tail _ (List.Mem.head _))) 2
      have uc0 := blk_cell? (HR4.out _ (List.Mem.tail _ (List.Mem.tail _ (List.Mem.head _)))) 0
      have uc1 := blk_cell? (HR4.out _ (List.Mem.tail _ (List.Mem.tail _ (List.Mem.head _)))) 1
      have uc2 := blk_cell? (HR4.out _ (List.Mem.tail _ (List.Mem.tail _ (List.Mem.head _)))) 2
      simp only [List.getElem?_toArray, List.getElem?_cons_zero, List.getElem?_cons_succ] at ua0 ua1 ua2 ub0 ub1 ub2 uc0 uc1 uc2
      go_wp2_with fail
      refine (HSab.out _).mono ?_; rintro e w5 ⟨rfl, hb5⟩
      have HR5 := Lib.hid (HR4.out.below hb5)
      have HB5 := Lib.hid (ex_trans HB4.out hb5)
      clear ua0 ua1 ua2 ub0 ub1 ub2 uc0 uc1 uc2 hb5
      have ua0 := blk_cell? (HR5.out _ (List.Mem.head _)) 0
      have ua1 := blk_cell? (HR5.out _ (List.Mem.head _)) 1
      have ua2 := blk_cell? (HR5.out _ (List.Mem.head _)) 2
      have ub0 := blk_cell? (HR5.out _ (List.Mem.tail _ (List.Mem.head _))) 0
      have ub1 := blk_cell? (HR5.out _ (List.Mem.tail _ (List.Mem.head _))) 1
      have ub2 := blk_cell? (HR5.out _ (List.Mem.tail _ (List.Mem.head _))) 2
      have uc0 := blk_cell? (HR5.out _ (List.Mem.tail _ (List.Mem.tail _ (List.Mem.head _)))) 0
      have uc1 := blk_cell? (HR5.out _ (List.Mem.tail _ (List.Mem.tail _ (List.Mem.head _)))) 1
      have uc2 := blk_cell? (HR5.out _ (List.Mem.tail _ (List.Mem.tail _ (List.Mem.head _)))) 2
      simp only [List.getElem?_toArray, List.getElem?_cons_zero, List.getElem?_cons_succ] at ua0 ua1 ua2 ub0 ub1 ub2 uc0 uc1 uc2
      go_wp2_with fail
      refine (HIba.out _).mono ?_; rintro e w6 ⟨rfl, hb6⟩
      have HR6 := Lib.hid (HR5.out.below hb6)
      have HB6 := Lib.hid (ex_trans HB5.out hb6)
      clear ua0 ua1 ua2 ub0 ub1 ub2 uc0 uc1 uc2 hb6
      have ua0 := blk_cell? (HR6.out _ (List.Mem.head _)) 0
      have ua1 := blk_cell? (HR6.out _ (List.Mem.head _)) 1
      have ua2 := blk_cell? (HR6.out _ (List.Mem.head _)) 2
      have ub0 := blk_cell? (HR6.out _ (List.Mem.tail _ (List.Mem.head _))) 0
      have ub1 := blk_cell? (HR6.out _ (List.Mem.tail _ (List.Mem.head _))) 1
      have ub2 := blk_cell? (HR6.out _ (List.Mem.tail _ (List.Mem.head _))) 2
      have uc0 := blk_cell? (HR6.out _ (List.Mem.tail _ (List.Mem.tail _ (List.Mem.head _)))) 0
      have uc1 := blk_cell? (HR6.out _ (List.Mem.tail _ (List.Mem.tail _ (List.Mem.head _)))) 1
      have uc2 := blk_cell? (HR6.out _ (List.Mem.tail _ (List.Mem.tail _ (List.Mem.head _)))) 2
      simp only [List.getElem?_toArray, List.getElem?_cons_zero, List.getElem?_cons_succ] at ua0 ua1 ua2 ub0 ub1 ub2 uc0 uc1 uc2
      go_wp2_with fail
      refine (HIab.out _).mono ?_; rintro e w7 ⟨rfl, hb7⟩
      have HR7 := Lib.hid (HR6.out.below hb7)
      have HB7 := Lib.hid (ex_trans HB6.out hb7)
      clear ua0 ua1 ua2 ub0 ub1 ub2 uc0 uc1 uc2 hb7
      have ua0 := blk_cell? (HR7.out _ (List.Mem.head _)) 0
      have ua1 := blk_cell? (HR7.out _ (List.Mem.head _)) 1
      have ua2 := blk_cell? (HR7.out _ (List.Mem.head _)) 2
      have ub0 := blk_cell? (HR7.out _ (List.Mem.tail _ (List.Mem.head _))) 0
      have ub1 := blk_cell? (HR7.out _ (List.Mem.tail _ (List.Mem.head _))) 1
      have ub2 := blk_cell? (HR7.out _ (List.Mem.tail _ (List.Mem.head _))) 2
      have uc0 := blk_cell? (HR7.out _ (List.Mem.tail _ (List.Mem.tail _ (List.Mem.head _)))) 0
      have uc1 := blk_cell? (HR7.out _ (List.Mem.tail _ (List.Mem.tail _ (List.Mem.head _)))) 1
      have uc2 := blk_cell? (HR7.out _ (List.Mem.tail _ (List.Mem.tail _ (List.Mem.head _)))) 2
      simp only [List.getElem?_toArray, List.getElem?_cons_zero, List.getElem?_cons_succ] at ua0 ua1 ua2 ub0 ub1 ub2 uc0 uc1 uc2
      by_cases hp : 0 < n
      · have hp1 : decide (0 < n) = true := by simpa using hp
        go_wp2_with fail
        refine (HI0.out _).mono ?_; rintro e w8 ⟨rfl, hb8⟩
        have HR8 := Lib.hid (HR7.out.below hb8)
        have HB8 := Lib.hid (ex_trans HB7.out hb8)
        clear ua0 ua1 ua2 ub0 ub1 ub2 uc0 uc1 uc2 hb8
        have ua0 := blk_cell? (HR8.out _ (List.Mem.head _)) 0
        have ua1 := blk_cell? (HR8.out _ (List.Mem.head _)) 1
        have ua2 := blk_cell? (HR8.out _ (List.Mem.head _)) 2
        have ub0 := blk_cell? (HR8.out _ (List.Mem.tail _ (List.Mem.head _))) 0
        have ub1 := blk_cell? (HR8.out _ (List.Mem.tail _ (List.Mem.head _))) 1
        have ub2 := blk_cell? (HR8.out _ (List.Mem.tail _ (List.Mem.head _))) 2
        have uc0 := blk_cell? (HR8.out _ (List.Mem.tail _ (List.Mem.tail _ (List.Mem.head _)))) 0
        have uc1 := blk_cell? (HR8.out _ (List.Mem.tail _ (List.Mem.tail _ (List.Mem.head _)))) 1
        have uc2 := blk_cell? (HR8.out _ (List.Mem.tail _ (List.Mem.tail _ (List.Mem.head _)))) 2
        simp only [List.getElem?_toArray, List.getElem?_cons_zero, List.getElem?_cons_succ] at ua0 ua1 ua2 ub0 ub1 ub2 uc0 uc1 uc2
        go_wp2_with fail
        go_returns
        exact ⟨rfl, HB8.out⟩
      · have hp1 : decide (0 < n) = false := by simpa using hp
        go_wp2_with fail
        refine (HIbc.out _).mono ?_; rintro e w8 ⟨rfl, hb8⟩
        have HR8 := Lib.hid (HR7.out.below hb8)
        have HB8 := Lib.hid (ex_trans HB7.out hb8)
        clear ua0 ua1 ua2 ub0 ub1 ub2 uc0 uc1 uc2 hb8
        have ua0 := blk_cell? (HR8.out _ (List.Mem.head _)) 0
        have ua1 := blk_cell? (HR8.out _ (List.Mem.head _)) 1
        have ua2 := blk_cell? (HR8.out _ (List.Mem.head _)) 2
        have ub0 := blk_cell? (HR8.out _ (List.Mem.tail _ (List.Mem.head _))) 0
        have ub1 := blk_cell? (HR8.out _ (List.Mem.tail _ (List.Mem.head _))) 1
        have ub2 := blk_cell? (HR8.out _ (List.Mem.tail _ (List.Mem.head _))) 2
        have uc0 := blk_cell? (HR8.out _ (List.Mem.tail _ (List.Mem.tail _ (List.Mem.head _)))) 0
        have uc1 := blk_cell? (HR8.out _ (List.Mem.tail _ (List.Mem.tail _ (List.Mem.head _)))) 1
        have uc2 := blk_cell? (HR8.out _ (List.Mem.tail _ (List.Mem.tail _ (List.Mem.head _)))) 2
        simp only [List.getElem?_toArray, List.getElem?_cons_zero, List.getElem?_cons_succ] at ua0 ua1 ua2 ub0 ub1 ub2 uc0 uc1 uc2
        by_cases hq : 0 < q
        · have hq1 : decide (0 < q) = true := by simpa using hq
          go_wp2_with fail
          refine (HI0.out _).mono ?_; rintro e w9 ⟨rfl, hb9⟩
          have HR9 := Lib.hid (HR8.out.below hb9)
          have HB9 := Lib.hid (ex_trans HB8.out hb9)
          clear ua0 ua1 ua2 ub0 ub1 ub2 uc0 uc1 uc2 hb9
          have ua0 := blk_cell? (HR9.out _ (List.Mem.head _)) 0
          have ua1 := blk_cell? (HR9.out _ (List.Mem.head _)) 1
          have ua2 := blk_cell? (HR9.out _ (List.Mem.head _)) 2
          have ub0 := blk_cell? (HR9.out _ (List.Mem.tail _ (List.Mem.head _))) 0
          have ub1 := blk_cell? (HR9.out _ (List.Mem.tail _ (List.Mem.head _))) 1
          have ub2 := blk_cell? (HR9.out _ (List.Mem.tail _ (List.Mem.head _))) 2
          have uc0 := blk_cell? (HR9.out _ (List.Mem.tail _ (List.Mem.tail _ (List.Mem.head _)))) 0
          have uc1 := blk_cell? (HR9.out _ (List.Mem.tail _ (List.Mem.tail _ (List.Mem.head _)))) 1
          have uc2 := blk_cell? (HR9.out _ (List.Mem.tail _ (List.Mem.tail _ (List.Mem.head _)))) 2
          simp only [List.getElem?_toArray, List.getElem?_cons_zero, List.getElem?_cons_succ] at ua0 ua1 ua2 ub0 ub1 ub2 uc0 uc1 uc2
          go_wp2_with fail
          go_returns
          exact ⟨rfl, HB9.out⟩
        · have hq1 : decide (0 < q) = false := by simpa using hq
          have hr0 := HT.out (by first | exact hp | omega) (by first | exact hq | omega)
          have hr1 : decide (r ≤ 0) = true := by simpa using hr0
          go_wp2_with fail
          refine (HIac.out _).mono ?_; rintro e w9 ⟨rfl, hb9⟩
          have HR9 := Lib.hid (HR8.out.below hb9)
          have HB9 := Lib.hid (ex_trans HB8.out hb9)
          clear ua0 ua1 ua2 ub0 ub1 ub2 uc0 uc1 uc2 hb9
          have ua0 := blk_cell? (HR9.out _ (List.Mem.head _)) 0
          have ua1 := blk_cell? (HR9.out _ (List.Mem.head _)) 1
          have ua2 := blk_cell? (HR9.out _ (List.Mem.head _)) 2
          have ub0 := blk_cell? (HR9.out _ (List.Mem.tail _ (List.Mem.head _))) 0
          have ub1 := blk_cell? (HR9.out _ (List.Mem.tail _ (List.Mem.head _))) 1
          have ub2 := blk_cell? (HR9.out _ (List.Mem.tail _ (List.Mem.head _))) 2
          have uc0 := blk_cell? (HR9.out _ (List.Mem.tail _ (List.Mem.tail _ (List.Mem.head _)))) 0
          have uc1 := blk_cell? (HR9.out _ (List.Mem.tail _ (List.Mem.tail _ (List.Mem.head _)))) 1
          have uc2 := blk_cell? (HR9.out _ (List.Mem.tail _ (List.Mem.tail _ (List.Mem.head _)))) 2
          simp only [List.getElem?_toArray, List.getElem?_cons_zero, List.getElem?_cons_succ] at ua0 ua1 ua2 ub0 ub1 ub2 uc0 uc1 uc2
          go_wp2_with fail
          refine (HI0.out _).mono ?_; rintro e w10 ⟨rfl, hb10⟩
          have HR10 := Lib.hid (HR9.out.below hb10)
          have HB10 := Lib.hid (ex_trans HB9.out hb10)
          clear ua0 ua1 ua2 ub0 ub1 ub2 uc0 uc1 uc2 hb10
          have ua0 := blk_cell? (HR10.out _ (List.Mem.head _)) 0
          have ua1 := blk_cell? (HR10.out _ (List.Mem.head _)) 1
          have ua2 := blk_cell? (HR10.out _ (List.Mem.head _)) 2
          have ub0 := blk_cell? (HR10.out _ (List.Mem.tail _ (List.Mem.head _))) 0
          have ub1 := blk_cell? (HR10.out _ (List.Mem.tail _ (List.Mem.head _))) 1
          have ub2 := blk_cell? (HR10.out _ (List.Mem.tail _ (List.Mem.head _))) 2
          have uc0 := blk_cell? (HR10.out _ (List.Mem.tail _ (List.Mem.tail _ (List.Mem.head _)))) 0
          have uc1 := blk_cell? (HR10.out _ (List.Mem.tail _ (List.Mem.tail _ (List.Mem.head _)))) 1
          have uc2 := blk_cell? (HR10.out _ (List.Mem.tail _ (List.Mem.tail _ (List.Mem.head _)))) 2
          simp only [List.getElem?_toArray, List.getElem?_cons_zero, List.getElem?_cons_succ] at ua0 ua1 ua2 ub0 ub1 ub2 uc0 uc1 uc2
          go_wp2_with fail
          go_returns
          exact ⟨rfl, HB10.out⟩
    · have hn0 : (n == 0) = false := by have h0 := HZ.out; simp; exact fun e => h (h0.1 e)
      clear h
      have ua0 := blk_cell? (HR3.out _ (List.Mem.head _)) 0
      have ua1 := blk_cell? (HR3.out _ (List.Mem.head _)) 1
      have ua2 := blk_cell? (HR3.out _ (List.Mem.head _)) 2
      have ub0 := blk_cell? (HR3.out _ (List.Mem.tail _ (List.Mem.head _))) 0
      have ub1 := blk_cell? (HR3.out _ (List.Mem.tail _ (List.Mem.head _))) 1
      have ub2 := blk_cell? (HR3.out _ (List.Mem.tail _ (List.Mem.head _))) 2
      simp only [List.getElem?_toArray, List.getElem?_cons_zero, List.getElem?_cons_succ] at ua0 ua1 ua2 ub0 ub1 ub2
      go_wp2_with fail
      refine (HIab.out _).mono ?_; rintro e w4 ⟨rfl, hb4⟩
      have HR4 := Lib.hid (show HasB w4 [(w1.heap.size, #[.int .i64 ak, .int .i64 ai, .string az], 25), (w1.heap.size + 1, #[.int .i64 ak, .int .i64 bi, .string bz], 25), (w3.heap.size, #[.int .i64 c.kind, .int .i64 c.int, .string c.str], 25)] from fun x hx => by
        simp only [List.mem_cons, List.not_mem_nil, or_false] at hx
        rcases hx with rfl | rfl | rfl
        · exact below_keep hb4 ((hp_old (by omega)).trans (HR3.out _ (List.Mem.head _)))
        · exact below_keep hb4 ((hp_old (by omega)).trans (HR3.out _ (List.Mem.tail _ (List.Mem.head _))))
        · exact below_keep hb4 (hp_new rfl))
      have HB4 := Lib.hid (ex_trans (ex_alloc HB3.out _) hb4)
      clear ua0 ua1 ua2 ub0 ub1 ub2 hb4
      have ua0 := blk_cell? (HR4.out _ (List.Mem.head _)) 0
      have ua1 := blk_cell? (HR4.out _ (List.Mem.head _)) 1
      have ua2 := blk_cell? (HR4.out _ (List.Mem.head _)) 2
      have ub0 := blk_cell? (HR4.out _ (List.Mem.tail _ (List.Mem.head _))) 0
      have ub1 := blk_cell? (HR4.out _ (List.Mem.tail _ (List.Mem.head _))) 1
      have ub2 := blk_cell? (HR4.out _ (List.Mem.tail _ (List.Mem.head _))) 2
      have uc0 := blk_cell? (HR4.out _ (List.Mem.tail _ (List.Mem.tail _ (List.Mem.head _)))) 0
      have uc1 := blk_cell? (HR4.out _ (List.Mem.tail _ (List.Mem.tail _ (List.Mem.head _)))) 1
      have uc2 := blk_cell? (HR4.out _ (List.Mem.tail _ (List.Mem.tail _ (List.Mem.head _)))) 2
      simp only [List.getElem?_toArray, List.getElem?_cons_zero, List.getElem?_cons_succ] at ua0 ua1 ua2 ub0 ub1 ub2 uc0 uc1 uc2
      go_wp2_with fail
      refine (HSab.out _).mono ?_; rintro e w5 ⟨rfl, hb5⟩
      have HR5 := Lib.hid (HR4.out.below hb5)
      have HB5 := Lib.hid (ex_trans HB4.out hb5)
      clear ua0 ua1 ua2 ub0 ub1 ub2 uc0 uc1 uc2 hb5
      have ua0 := blk_cell? (HR5.out _ (List.Mem.head _)) 0
      have ua1 := blk_cell? (HR5.out _ (List.Mem.head _)) 1
      have ua2 := blk_cell? (HR5.out _ (List.Mem.head _)) 2
      have ub0 := blk_cell? (HR5.out _ (List.Mem.tail _ (List.Mem.head _))) 0
      have ub1 := blk_cell? (HR5.out _ (List.Mem.tail _ (List.Mem.head _))) 1
      have ub2 := blk_cell? (HR5.out _ (List.Mem.tail _ (List.Mem.head _))) 2
      have uc0 := blk_cell? (HR5.out _ (List.Mem.tail _ (List.Mem.tail _ (List.Mem.head _)))) 0
      have uc1 := blk_cell? (HR5.out _ (List.Mem.tail _ (List.Mem.tail _ (List.Mem.head _)))) 1
      have uc2 := blk_cell? (HR5.out _ (List.Mem.tail _ (List.Mem.tail _ (List.Mem.head _)))) 2
      simp only [List.getElem?_toArray, List.getElem?_cons_zero, List.getElem?_cons_succ] at ua0 ua1 ua2 ub0 ub1 ub2 uc0 uc1 uc2
      go_wp2_with fail
      refine (HIba.out _).mono ?_; rintro e w6 ⟨rfl, hb6⟩
      have HR6 := Lib.hid (HR5.out.below hb6)
      have HB6 := Lib.hid (ex_trans HB5.out hb6)
      clear ua0 ua1 ua2 ub0 ub1 ub2 uc0 uc1 uc2 hb6
      have ua0 := blk_cell? (HR6.out _ (List.Mem.head _)) 0
      have ua1 := blk_cell? (HR6.out _ (List.Mem.head _)) 1
      have ua2 := blk_cell? (HR6.out _ (List.Mem.head _)) 2
      have ub0 := blk_cell? (HR6.out _ (List.Mem.tail _ (List.Mem.head _))) 0
      have ub1 := blk_cell? (HR6.out _ (List.Mem.tail _ (List.Mem.head _))) 1
      have ub2 := blk_cell? (HR6.out _ (List.Mem.tail _ (List.Mem.head _))) 2
      have uc0 := blk_cell? (HR6.out _ (List.Mem.tail _ (List.Mem.tail _ (List.Mem.head _)))) 0
      have uc1 := blk_cell? (HR6.out _ (List.Mem.tail _ (List.Mem.tail _ (List.Mem.head _)))) 1
      have uc2 := blk_cell? (HR6.out _ (List.Mem.tail _ (List.Mem.tail _ (List.Mem.head _)))) 2
      simp only [List.getElem?_toArray, List.getElem?_cons_zero, List.getElem?_cons_succ] at ua0 ua1 ua2 ub0 ub1 ub2 uc0 uc1 uc2
      go_wp2_with fail
      refine (HIab.out _).mono ?_; rintro e w7 ⟨rfl, hb7⟩
      have HR7 := Lib.hid (HR6.out.below hb7)
      have HB7 := Lib.hid (ex_trans HB6.out hb7)
      clear ua0 ua1 ua2 ub0 ub1 ub2 uc0 uc1 uc2 hb7
      have ua0 := blk_cell? (HR7.out _ (List.Mem.head _)) 0
      have ua1 := blk_cell? (HR7.out _ (List.Mem.head _)) 1
      have ua2 := blk_cell? (HR7.out _ (List.Mem.head _)) 2
      have ub0 := blk_cell? (HR7.out _ (List.Mem.tail _ (List.Mem.head _))) 0
      have ub1 := blk_cell? (HR7.out _ (List.Mem.tail _ (List.Mem.head _))) 1
      have ub2 := blk_cell? (HR7.out _ (List.Mem.tail _ (List.Mem.head _))) 2
      have uc0 := blk_cell? (HR7.out _ (List.Mem.tail _ (List.Mem.tail _ (List.Mem.head _)))) 0
      have uc1 := blk_cell? (HR7.out _ (List.Mem.tail _ (List.Mem.tail _ (List.Mem.head _)))) 1
      have uc2 := blk_cell? (HR7.out _ (List.Mem.tail _ (List.Mem.tail _ (List.Mem.head _)))) 2
      simp only [List.getElem?_toArray, List.getElem?_cons_zero, List.getElem?_cons_succ] at ua0 ua1 ua2 ub0 ub1 ub2 uc0 uc1 uc2
      by_cases hp : 0 < n
      · have hp1 : decide (0 < n) = true := by simpa using hp
        go_wp2_with fail
        refine (HI0.out _).mono ?_; rintro e w8 ⟨rfl, hb8⟩
        have HR8 := Lib.hid (HR7.out.below hb8)
        have HB8 := Lib.hid (ex_trans HB7.out hb8)
        clear ua0 ua1 ua2 ub0 ub1 ub2 uc0 uc1 uc2 hb8
        have ua0 := blk_cell? (HR8.out _ (List.Mem.head _)) 0
        have ua1 := blk_cell? (HR8.out _ (List.Mem.head _)) 1
        have ua2 := blk_cell? (HR8.out _ (List.Mem.head _)) 2
        have ub0 := blk_cell? (HR8.out _ (List.Mem.tail _ (List.Mem.head _))) 0
        have ub1 := blk_cell? (HR8.out _ (List.Mem.tail _ (List.Mem.head _))) 1
        have ub2 := blk_cell? (HR8.out _ (List.Mem.tail _ (List.Mem.head _))) 2
        have uc0 := blk_cell? (HR8.out _ (List.Mem.tail _ (List.Mem.tail _ (List.Mem.head _)))) 0
        have uc1 := blk_cell? (HR8.out _ (List.Mem.tail _ (List.Mem.tail _ (List.Mem.head _)))) 1
        have uc2 := blk_cell? (HR8.out _ (List.Mem.tail _ (List.Mem.tail _ (List.Mem.head _)))) 2
        simp only [List.getElem?_toArray, List.getElem?_cons_zero, List.getElem?_cons_succ] at ua0 ua1 ua2 ub0 ub1 ub2 uc0 uc1 uc2
        go_wp2_with fail
        go_returns
        exact ⟨rfl, HB8.out⟩
      · have hp1 : decide (0 < n) = false := by simpa using hp
        go_wp2_with fail
        refine (HIbc.out _).mono ?_; rintro e w8 ⟨rfl, hb8⟩
        have HR8 := Lib.hid (HR7.out.below hb8)
        have HB8 := Lib.hid (ex_trans HB7.out hb8)
        clear ua0 ua1 ua2 ub0 ub1 ub2 uc0 uc1 uc2 hb8
        have ua0 := blk_cell? (HR8.out _ (List.Mem.head _)) 0
        have ua1 := blk_cell? (HR8.out _ (List.Mem.head _)) 1
        have ua2 := blk_cell? (HR8.out _ (List.Mem.head _)) 2
        have ub0 := blk_cell? (HR8.out _ (List.Mem.tail _ (List.Mem.head _))) 0
        have ub1 := blk_cell? (HR8.out _ (List.Mem.tail _ (List.Mem.head _))) 1
        have ub2 := blk_cell? (HR8.out _ (List.Mem.tail _ (List.Mem.head _))) 2
        have uc0 := blk_cell? (HR8.out _ (List.Mem.tail _ (List.Mem.tail _ (List.Mem.head _)))) 0
        have uc1 := blk_cell? (HR8.out _ (List.Mem.tail _ (List.Mem.tail _ (List.Mem.head _)))) 1
        have uc2 := blk_cell? (HR8.out _ (List.Mem.tail _ (List.Mem.tail _ (List.Mem.head _)))) 2
        simp only [List.getElem?_toArray, List.getElem?_cons_zero, List.getElem?_cons_succ] at ua0 ua1 ua2 ub0 ub1 ub2 uc0 uc1 uc2
        by_cases hq : 0 < q
        · have hq1 : decide (0 < q) = true := by simpa using hq
          go_wp2_with fail
          refine (HI0.out _).mono ?_; rintro e w9 ⟨rfl, hb9⟩
          have HR9 := Lib.hid (HR8.out.below hb9)
          have HB9 := Lib.hid (ex_trans HB8.out hb9)
          clear ua0 ua1 ua2 ub0 ub1 ub2 uc0 uc1 uc2 hb9
          have ua0 := blk_cell? (HR9.out _ (List.Mem.head _)) 0
          have ua1 := blk_cell? (HR9.out _ (List.Mem.head _)) 1
          have ua2 := blk_cell? (HR9.out _ (List.Mem.head _)) 2
          have ub0 := blk_cell? (HR9.out _ (List.Mem.tail _ (List.Mem.head _))) 0
          have ub1 := blk_cell? (HR9.out _ (List.Mem.tail _ (List.Mem.head _))) 1
          have ub2 := blk_cell? (HR9.out _ (List.Mem.tail _ (List.Mem.head _))) 2
          have uc0 := blk_cell? (HR9.out _ (List.Mem.tail _ (List.Mem.tail _ (List.Mem.head _)))) 0
          have uc1 := blk_cell? (HR9.out _ (List.Mem.tail _ (List.Mem.tail _ (List.Mem.head _)))) 1
          have uc2 := blk_cell? (HR9.out _ (List.Mem.tail _ (List.Mem.tail _ (List.Mem.head _)))) 2
          simp only [List.getElem?_toArray, List.getElem?_cons_zero, List.getElem?_cons_succ] at ua0 ua1 ua2 ub0 ub1 ub2 uc0 uc1 uc2
          go_wp2_with fail
          go_returns
          exact ⟨rfl, HB9.out⟩
        · have hq1 : decide (0 < q) = false := by simpa using hq
          have hr0 := HT.out (by first | exact hp | omega) (by first | exact hq | omega)
          have hr1 : decide (r ≤ 0) = true := by simpa using hr0
          go_wp2_with fail
          refine (HIac.out _).mono ?_; rintro e w9 ⟨rfl, hb9⟩
          have HR9 := Lib.hid (HR8.out.below hb9)
          have HB9 := Lib.hid (ex_trans HB8.out hb9)
          clear ua0 ua1 ua2 ub0 ub1 ub2 uc0 uc1 uc2 hb9
          have ua0 := blk_cell? (HR9.out _ (List.Mem.head _)) 0
          have ua1 := blk_cell? (HR9.out _ (List.Mem.head _)) 1
          have ua2 := blk_cell? (HR9.out _ (List.Mem.head _)) 2
          have ub0 := blk_cell? (HR9.out _ (List.Mem.tail _ (List.Mem.head _))) 0
          have ub1 := blk_cell? (HR9.out _ (List.Mem.tail _ (List.Mem.head _))) 1
          have ub2 := blk_cell? (HR9.out _ (List.Mem.tail _ (List.Mem.head _))) 2
          have uc0 := blk_cell? (HR9.out _ (List.Mem.tail _ (List.Mem.tail _ (List.Mem.head _)))) 0
          have uc1 := blk_cell? (HR9.out _ (List.Mem.tail _ (List.Mem.tail _ (List.Mem.head _)))) 1
          have uc2 := blk_cell? (HR9.out _ (List.Mem.tail _ (List.Mem.tail _ (List.Mem.head _)))) 2
          simp only [List.getElem?_toArray, List.getElem?_cons_zero, List.getElem?_cons_succ] at ua0 ua1 ua2 ub0 ub1 ub2 uc0 uc1 uc2
          go_wp2_with fail
          refine (HI0.out _).mono ?_; rintro e w10 ⟨rfl, hb10⟩
          have HR10 := Lib.hid (HR9.out.below hb10)
          have HB10 := Lib.hid (ex_trans HB9.out hb10)
          clear ua0 ua1 ua2 ub0 ub1 ub2 uc0 uc1 uc2 hb10
          have ua0 := blk_cell? (HR10.out _ (List.Mem.head _)) 0
          have ua1 := blk_cell? (HR10.out _ (List.Mem.head _)) 1
          have ua2 := blk_cell? (HR10.out _ (List.Mem.head _)) 2
          have ub0 := blk_cell? (HR10.out _ (List.Mem.tail _ (List.Mem.head _))) 0
          have ub1 := blk_cell? (HR10.out _ (List.Mem.tail _ (List.Mem.head _))) 1
          have ub2 := blk_cell? (HR10.out _ (List.Mem.tail _ (List.Mem.head _))) 2
          have uc0 := blk_cell? (HR10.out _ (List.Mem.tail _ (List.Mem.tail _ (List.Mem.head _)))) 0
          have uc1 := blk_cell? (HR10.out _ (List.Mem.tail _ (List.Mem.tail _ (List.Mem.head _)))) 1
          have uc2 := blk_cell? (HR10.out _ (List.Mem.tail _ (List.Mem.tail _ (List.Mem.head _)))) 2
          simp only [List.getElem?_toArray, List.getElem?_cons_zero, List.getElem?_cons_succ] at ua0 ua1 ua2 ub0 ub1 ub2 uc0 uc1 uc2
          go_wp2_with fail
          go_returns
          exact ⟨rfl, HB10.out⟩
    · have hn0 : (n == 0) = false := by have h0 := HZ.out; simp; exact fun e => h (h0.1 e)
      clear h
      have ua0 := blk_cell? (HR3.out _ (List.Mem.head _)) 0
      have ua1 := blk_cell? (HR3.out _ (List.Mem.head _)) 1
      have ua2 := blk_cell? (HR3.out _ (List.Mem.head _)) 2
      have ub0 := blk_cell? (HR3.out _ (List.Mem.tail _ (List.Mem.head _))) 0
      have ub1 := blk_cell? (HR3.out _ (List.Mem.tail _ (List.Mem.head _))) 1
      have ub2 := blk_cell? (HR3.out _ (List.Mem.tail _ (List.Mem.head _))) 2
      simp only [List.getElem?_toArray, List.getElem?_cons_zero, List.getElem?_cons_succ] at ua0 ua1 ua2 ub0 ub1 ub2
      go_wp2_with fail
      refine (HIab.out _).mono ?_; rintro e w4 ⟨rfl, hb4⟩
      have HR4 := Lib.hid (show HasB w4 [(w1.heap.size, #[.int .i64 ak, .int .i64 ai, .string az], 25), (w1.heap.size + 1, #[.int .i64 ak, .int .i64 ai, .string bz], 25), (w3.heap.size, #[.int .i64 c.kind, .int .i64 c.int, .string c.str], 25)] from fun x hx => by
        simp only [List.mem_cons, List.not_mem_nil, or_false] at hx
        rcases hx with rfl | rfl | rfl
        · exact below_keep hb4 ((hp_old (by omega)).trans (HR3.out _ (List.Mem.head _)))
        · exact below_keep hb4 ((hp_old (by omega)).trans (HR3.out _ (List.Mem.tail _ (List.Mem.head _))))
        · exact below_keep hb4 (hp_new rfl))
      have HB4 := Lib.hid (ex_trans (ex_alloc HB3.out _) hb4)
      clear ua0 ua1 ua2 ub0 ub1 ub2 hb4
      have ua0 := blk_cell? (HR4.out _ (List.Mem.head _)) 0
      have ua1 := blk_cell? (HR4.out _ (List.Mem.head _)) 1
      have ua2 := blk_cell? (HR4.out _ (List.Mem.head _)) 2
      have ub0 := blk_cell? (HR4.out _ (List.Mem.tail _ (List.Mem.head _))) 0
      have ub1 := blk_cell? (HR4.out _ (List.Mem.tail _ (List.Mem.head _))) 1
      have ub2 := blk_cell? (HR4.out _ (List.Mem.tail _ (List.Mem.head _))) 2
      have uc0 := blk_cell? (HR4.out _ (List.Mem.tail _ (List.Mem.tail _ (List.Mem.head _)))) 0
      have uc1 := blk_cell? (HR4.out _ (List.Mem.tail _ (List.Mem.tail _ (List.Mem.head _)))) 1
      have uc2 := blk_cell? (HR4.out _ (List.Mem.tail _ (List.Mem.tail _ (List.Mem.head _)))) 2
      simp only [List.getElem?_toArray, List.getElem?_cons_zero, List.getElem?_cons_succ] at ua0 ua1 ua2 ub0 ub1 ub2 uc0 uc1 uc2
      go_wp2_with fail
      refine (HSab.out _).mono ?_; rintro e w5 ⟨rfl, hb5⟩
      have HR5 := Lib.hid (HR4.out.below hb5)
      have HB5 := Lib.hid (ex_trans HB4.out hb5)
      clear ua0 ua1 ua2 ub0 ub1 ub2 uc0 uc1 uc2 hb5
      have ua0 := blk_cell? (HR5.out _ (List.Mem.head _)) 0
      have ua1 := blk_cell? (HR5.out _ (List.Mem.head _)) 1
      have ua2 := blk_cell? (HR5.out _ (List.Mem.head _)) 2
      have ub0 := blk_cell? (HR5.out _ (List.Mem.tail _ (List.Mem.head _))) 0
      have ub1 := blk_cell? (HR5.out _ (List.Mem.tail _ (List.Mem.head _))) 1
      have ub2 := blk_cell? (HR5.out _ (List.Mem.tail _ (List.Mem.head _))) 2
      have uc0 := blk_cell? (HR5.out _ (List.Mem.tail _ (List.Mem.tail _ (List.Mem.head _)))) 0
      have uc1 := blk_cell? (HR5.out _ (List.Mem.tail _ (List.Mem.tail _ (List.Mem.head _)))) 1
      have uc2 := blk_cell? (HR5.out _ (List.Mem.tail _ (List.Mem.tail _ (List.Mem.head _)))) 2
      simp only [List.getElem?_toArray, List.getElem?_cons_zero, List.getElem?_cons_succ] at ua0 ua1 ua2 ub0 ub1 ub2 uc0 uc1 uc2
      go_wp2_with fail
      refine (HIba.out _).mono ?_; rintro e w6 ⟨rfl, hb6⟩
      have HR6 := Lib.hid (HR5.out.below hb6)
      have HB6 := Lib.hid (ex_trans HB5.out hb6)
      clear ua0 ua1 ua2 ub0 ub1 ub2 uc0 uc1 uc2 hb6
      have ua0 := blk_cell? (HR6.out _ (List.Mem.head _)) 0
      have ua1 := blk_cell? (HR6.out _ (List.Mem.head _)) 1
      have ua2 := blk_cell? (HR6.out _ (List.Mem.head _)) 2
      have ub0 := blk_cell? (HR6.out _ (List.Mem.tail _ (List.Mem.head _))) 0
      have ub1 := blk_cell? (HR6.out _ (List.Mem.tail _ (List.Mem.head _))) 1
      have ub2 := blk_cell? (HR6.out _ (List.Mem.tail _ (List.Mem.head _))) 2
      have uc0 := blk_cell? (HR6.out _ (List.Mem.tail _ (List.Mem.tail _ (List.Mem.head _)))) 0
      have uc1 := blk_cell? (HR6.out _ (List.Mem.tail _ (List.Mem.tail _ (List.Mem.head _)))) 1
      have uc2 := blk_cell? (HR6.out _ (List.Mem.tail _ (List.Mem.tail _ (List.Mem.head _)))) 2
      simp only [List.getElem?_toArray, List.getElem?_cons_zero, List.getElem?_cons_succ] at ua0 ua1 ua2 ub0 ub1 ub2 uc0 uc1 uc2
      go_wp2_with fail
      refine (HIab.out _).mono ?_; rintro e w7 ⟨rfl, hb7⟩
      have HR7 := Lib.hid (HR6.out.below hb7)
      have HB7 := Lib.hid (ex_trans HB6.out hb7)
      clear ua0 ua1 ua2 ub0 ub1 ub2 uc0 uc1 uc2 hb7
      have ua0 := blk_cell? (HR7.out _ (List.Mem.head _)) 0
      have ua1 := blk_cell? (HR7.out _ (List.Mem.head _)) 1
      have ua2 := blk_cell? (HR7.out _ (List.Mem.head _)) 2
      have ub0 := blk_cell? (HR7.out _ (List.Mem.tail _ (List.Mem.head _))) 0
      have ub1 := blk_cell? (HR7.out _ (List.Mem.tail _ (List.Mem.head _))) 1
      have ub2 := blk_cell? (HR7.out _ (List.Mem.tail _ (List.Mem.head _))) 2
      have uc0 := blk_cell? (HR7.out _ (List.Mem.tail _ (List.Mem.tail _ (List.Mem.head _)))) 0
      have uc1 := blk_cell? (HR7.out _ (List.Mem.tail _ (List.Mem.tail _ (List.Mem.head _)))) 1
      have uc2 := blk_cell? (HR7.out _ (List.Mem.tail _ (List.Mem.tail _ (List.Mem.head _)))) 2
      simp only [List.getElem?_toArray, List.getElem?_cons_zero, List.getElem?_cons_succ] at ua0 ua1 ua2 ub0 ub1 ub2 uc0 uc1 uc2
      by_cases hp : 0 < n
      · have hp1 : decide (0 < n) = true := by simpa using hp
        go_wp2_with fail
        refine (HI0.out _).mono ?_; rintro e w8 ⟨rfl, hb8⟩
        have HR8 := Lib.hid (HR7.out.below hb8)
        have HB8 := Lib.hid (ex_trans HB7.out hb8)
        clear ua0 ua1 ua2 ub0 ub1 ub2 uc0 uc1 uc2 hb8
        have ua0 := blk_cell? (HR8.out _ (List.Mem.head _)) 0
        have ua1 := blk_cell? (HR8.out _ (List.Mem.head _)) 1
        have ua2 := blk_cell? (HR8.out _ (List.Mem.head _)) 2
        have ub0 := blk_cell? (HR8.out _ (List.Mem.tail _ (List.Mem.head _))) 0
        have ub1 := blk_cell? (HR8.out _ (List.Mem.tail _ (List.Mem.head _))) 1
        have ub2 := blk_cell? (HR8.out _ (List.Mem.tail _ (List.Mem.head _))) 2
        have uc0 := blk_cell? (HR8.out _ (List.Mem.tail _ (List.Mem.tail _ (List.Mem.head _)))) 0
        have uc1 := blk_cell? (HR8.out _ (List.Mem.tail _ (List.Mem.tail _ (List.Mem.head _)))) 1
        have uc2 := blk_cell? (HR8.out _ (List.Mem.tail _ (List.Mem.tail _ (List.Mem.head _)))) 2
        simp only [List.getElem?_toArray, List.getElem?_cons_zero, List.getElem?_cons_succ] at ua0 ua1 ua2 ub0 ub1 ub2 uc0 uc1 uc2
        go_wp2_with fail
        go_returns
        exact ⟨rfl, HB8.out⟩
      · have hp1 : decide (0 < n) = false := by simpa using hp
        go_wp2_with fail
        refine (HIbc.out _).mono ?_; rintro e w8 ⟨rfl, hb8⟩
        have HR8 := Lib.hid (HR7.out.below hb8)
        have HB8 := Lib.hid (ex_trans HB7.out hb8)
        clear ua0 ua1 ua2 ub0 ub1 ub2 uc0 uc1 uc2 hb8
        have ua0 := blk_cell? (HR8.out _ (List.Mem.head _)) 0
        have ua1 := blk_cell? (HR8.out _ (List.Mem.head _)) 1
        have ua2 := blk_cell? (HR8.out _ (List.Mem.head _)) 2
        have ub0 := blk_cell? (HR8.out _ (List.Mem.tail _ (List.Mem.head _))) 0
        have ub1 := blk_cell? (HR8.out _ (List.Mem.tail _ (List.Mem.head _))) 1
        have ub2 := blk_cell? (HR8.out _ (List.Mem.tail _ (List.Mem.head _))) 2
        have uc0 := blk_cell? (HR8.out _ (List.Mem.tail _ (List.Mem.tail _ (List.Mem.head _)))) 0
        have uc1 := blk_cell? (HR8.out _ (List.Mem.tail _ (List.Mem.tail _ (List.Mem.head _)))) 1
        have uc2 := blk_cell? (HR8.out _ (List.Mem.tail _ (List.Mem.tail _ (List.Mem.head _)))) 2
        simp only [List.getElem?_toArray, List.getElem?_cons_zero, List.getElem?_cons_succ] at ua0 ua1 ua2 ub0 ub1 ub2 uc0 uc1 uc2
        by_cases hq : 0 < q
        · have hq1 : decide (0 < q) = true := by simpa using hq
          go_wp2_with fail
          refine (HI0.out _).mono ?_; rintro e w9 ⟨rfl, hb9⟩
          have HR9 := Lib.hid (HR8.out.below hb9)
          have HB9 := Lib.hid (ex_trans HB8.out hb9)
          clear ua0 ua1 ua2 ub0 ub1 ub2 uc0 uc1 uc2 hb9
          have ua0 := blk_cell? (HR9.out _ (List.Mem.head _)) 0
          have ua1 := blk_cell? (HR9.out _ (List.Mem.head _)) 1
          have ua2 := blk_cell? (HR9.out _ (List.Mem.head _)) 2
          have ub0 := blk_cell? (HR9.out _ (List.Mem.tail _ (List.Mem.head _))) 0
          have ub1 := blk_cell? (HR9.out _ (List.Mem.tail _ (List.Mem.head _))) 1
          have ub2 := blk_cell? (HR9.out _ (List.Mem.tail _ (List.Mem.head _))) 2
          have uc0 := blk_cell? (HR9.out _ (List.Mem.tail _ (List.Mem.tail _ (List.Mem.head _)))) 0
          have uc1 := blk_cell? (HR9.out _ (List.Mem.tail _ (List.Mem.tail _ (List.Mem.head _)))) 1
          have uc2 := blk_cell? (HR9.out _ (List.Mem.tail _ (List.Mem.tail _ (List.Mem.head _)))) 2
          simp only [List.getElem?_toArray, List.getElem?_cons_zero, List.getElem?_cons_succ] at ua0 ua1 ua2 ub0 ub1 ub2 uc0 uc1 uc2
          go_wp2_with fail
          go_returns
          exact ⟨rfl, HB9.out⟩
        · have hq1 : decide (0 < q) = false := by simpa using hq
          have hr0 := HT.out (by first | exact hp | omega) (by first | exact hq | omega)
          have hr1 : decide (r ≤ 0) = true := by simpa using hr0
          go_wp2_with fail
          refine (HIac.out _).mono ?_; rintro e w9 ⟨rfl, hb9⟩
          have HR9 := Lib.hid (HR8.out.below hb9)
          have HB9 := Lib.hid (ex_trans HB8.out hb9)
          clear ua0 ua1 ua2 ub0 ub1 ub2 uc0 uc1 uc2 hb9
          have ua0 := blk_cell? (HR9.out _ (List.Mem.head _)) 0
          have ua1 := blk_cell? (HR9.out _ (List.Mem.head _)) 1
          have ua2 := blk_cell? (HR9.out _ (List.Mem.head _)) 2
          have ub0 := blk_cell? (HR9.out _ (List.Mem.tail _ (List.Mem.head _))) 0
          have ub1 := blk_cell? (HR9.out _ (List.Mem.tail _ (List.Mem.head _))) 1
          have ub2 := blk_cell? (HR9.out _ (List.Mem.tail _ (List.Mem.head _))) 2
          have uc0 := blk_cell? (HR9.out _ (List.Mem.tail _ (List.Mem.tail _ (List.Mem.head _)))) 0
          have uc1 := blk_cell? (HR9.out _ (List.Mem.tail _ (List.Mem.tail _ (List.Mem.head _)))) 1
          have uc2 := blk_cell? (HR9.out _ (List.Mem.tail _ (List.Mem.tail _ (List.Mem.head _)))) 2
          simp only [List.getElem?_toArray, List.getElem?_cons_zero, List.getElem?_cons_succ] at ua0 ua1 ua2 ub0 ub1 ub2 uc0 uc1 uc2
          go_wp2_with fail
          refine (HI0.out _).mono ?_; rintro e w10 ⟨rfl, hb10⟩
          have HR10 := Lib.hid (HR9.out.below hb10)
          have HB10 := Lib.hid (ex_trans HB9.out hb10)
          clear ua0 ua1 ua2 ub0 ub1 ub2 uc0 uc1 uc2 hb10
          have ua0 := blk_cell? (HR10.out _ (List.Mem.head _)) 0
          have ua1 := blk_cell? (HR10.out _ (List.Mem.head _)) 1
          have ua2 := blk_cell? (HR10.out _ (List.Mem.head _)) 2
          have ub0 := blk_cell? (HR10.out _ (List.Mem.tail _ (List.Mem.head _))) 0
          have ub1 := blk_cell? (HR10.out _ (List.Mem.tail _ (List.Mem.head _))) 1
          have ub2 := blk_cell? (HR10.out _ (List.Mem.tail _ (List.Mem.head _))) 2
          have uc0 := blk_cell? (HR10.out _ (List.Mem.tail _ (List.Mem.tail _ (List.Mem.head _)))) 0
          have uc1 := blk_cell? (HR10.out _ (List.Mem.tail _ (List.Mem.tail _ (List.Mem.head _)))) 1
          have uc2 := blk_cell? (HR10.out _ (List.Mem.tail _ (List.Mem.tail _ (List.Mem.head _)))) 2
          simp only [List.getElem?_toArray, List.getElem?_cons_zero, List.getElem?_cons_succ] at ua0 ua1 ua2 ub0 ub1 ub2 uc0 uc1 uc2
          go_wp2_with fail
          go_returns
          exact ⟨rfl, HB10.out⟩
  · go_enter Try.func3, Try.ntmps3
    go_wp2_with fail
    refine (laws_big_t A0 n0 c0 _ (by omega)).mono ?_; rintro e w0 ⟨rfl, rfl⟩
    go_wp2_with fail
    go_returns
    exact ⟨rfl, Below.refl _ _⟩
theorem core_FnValueOrder {H : Type} (enc : TypeId × Value → H) (W : World) (base : Nat) (args : Array Value) (ds : List (DataW H)) (p : List MemPlace)
    (hA : DataW.TrodAll enc Try.prog W 0 (fun _ => true) true Try.f3.params.toList args.toList ds p)
    (hval : ∀ (j : Nat) t v, Try.f3.params[j]? = some t → args[j]? = some v → Value.okWide Try.prog W .any base t v) :
    Calls Try.prog 3 args W fun e W' => e = .returned (.bool true) ∧ Below W.heap.size W W' := by
  rw [Try.params3] at hA hval
  obtain ⟨u0, vs0, d0, ds0, p0, q0, hargs, rfl, rfl, h0, r0⟩ := trodAll_cons hA
  obtain ⟨rfl, rfl, rfl⟩ := trodAll_nil r0
  obtain rfl : args = #[u0] := by cases args; simp_all
  obtain ⟨ad0, ln0, cp0, rfl⟩ := okWide_slice Try.underlying22 (hval 0 22 u0 rfl rfl)
  obtain ⟨fu0, g0⟩ := h0
  obtain ⟨A0, n0, c0, l0, e0, hn0, _, hS0, hl0⟩ := opens_slice Try.underlying22 (by omega) Op_byt g0
  simp only [Value.cells, List.cons.injEq, Value.slice.injEq, and_true] at e0
  obtain ⟨rfl, rfl, rfl⟩ := e0
  exact walk_FnValueOrder W ad0 ln0 cp0 l0 hS0 hn0 hl0
set_option maxRecDepth 100000 in
theorem lifted_FnValueOrder (os : Os) (started : os.Started) (H : Type) (enc : TypeId × Value → H) :
    ReturnsInHanded {} Try.checked os 3 .any (Rows.fnValueOrderSpec.pre6 enc Try.prog Try.f3 Rows.fnValueOrderRow.domain false) (Rows.fnValueOrderSpec.post enc Try.prog Try.f3 false true false false) :=
  law_lifted (C := Try.checked) (tb := 4) (n := 1) own started (by kernel_rfl) Try.func3 rfl (by kernel_rfl) Try.underlying4 (by kernel_rfl)
    (fun ds h => by match ds, h with | [_], _ => rfl) laidOut' (by kernel_rfl)
    (ChangeSpec.witness6 (enc := enc) (C := Try.checked) false ⟨#[], #[.slice none 0 0], []⟩ 8 (by kernel_rfl) (by kernel_rfl) (by kernel_rfl) (by kernel_rfl))
    (fun W base args ds p hA hval => core_FnValueOrder enc W base args ds p hA hval)
theorem holds_FnValueOrder : Rows.FnValueOrderSaid :=
  OpenClaim.holds_of_wide 3 Try.f3 rfl rfl rfl rfl rfl rfl rfl ⟨rfl, rfl, rfl, rfl, rfl⟩ rfl rfl rfl rfl rfl (by kernel_rfl) Try.func3 (by kernel_rfl)
    (of_decide_eq_true (by kernel_rfl)) (by unfold Func.isWrapper; first | (rw [if_pos (by decide +kernel)]; kernel_rfl) | (rw [if_neg (by decide +kernel)]; exact ⟨rfl, rfl⟩))
    (fun os started H enc _ => lifted_FnValueOrder os started H enc)
end Go.Proofs.Ytdlocbmhadhhhaa
