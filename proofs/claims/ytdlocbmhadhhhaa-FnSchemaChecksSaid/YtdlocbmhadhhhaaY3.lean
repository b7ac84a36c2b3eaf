/-
  CONTRACTS: draws of the laws over values.
-/
import Derived.WalkKit
import Derived.WalkSpells
import Derived.WalkLawsBesides
import Derived.Lib.Hide
import Derived.Handy
import Derived.StillTailTactics
import Derived.Deep.Light
import Derived.Deep.QuietTactic
import Derived.BigQuiet
import Derived.Deep.RegionHeld3
import Derived.Deep.DeepCutAuto
import Derived.Test.YtdlocbmhadhhhaaLib
import Derived.Test.YtdlocbmhadhhhaaOwn
import Derived.Test.YtdlocbmhadhhhaaRow
import Derived.Test.YtdlocbmhadhhhaaN0
import Derived.Test.YtdlocbmhadhhhaaHld
import Derived.Test.YtdlocbmhadhhhaaSz
import Derived.Test.YtdlocbmhadhhhaaC1
import Derived.Test.YtdlocbmhadhhhaaC2
import Derived.Test.YtdlocbmhadhhhaaC4
import Derived.Test.YtdlocbmhadhhhaaD1
import Derived.Test.YtdlocbmhadhhhaaY1
import Derived.Test.YtdlocbmhadhhhaaY2
import Derived.Test.YtdlocbmhadhhhaaRows
namespace Go.Proofs.Ytdlocbmhadhhhaa
open Go.RowKit
set_option linter.unusedVariables false
set_option maxRecDepth 100000
theorem laws_big_f (A : Option Addr) (n c : Nat) (w : World) (h : n ≤ 1048576) : Calls Try.prog 15 #[.slice A n c] w fun e w' => e = .returned (.bool false) ∧ w = w' := by
  have i1 : ¬ ((1048576 : Int) < (n : Int)) := by omega
  have i2 : decide ((1048576 : Int) < (n : Int)) = false := by simp; omega
  go_enter Try.func15, Try.ntmps15
  go_wp2_with fail
  go_ret
  exact ⟨rfl, rfl⟩
theorem laws_big_t (A : Option Addr) (n c : Nat) (w : World) (h : 1048576 < n) : Calls Try.prog 15 #[.slice A n c] w fun e w' => e = .returned (.bool true) ∧ w = w' := by
  have i1 : (1048576 : Int) < (n : Int) := by omega
  have i2 : decide ((1048576 : Int) < (n : Int)) = true := by simp; omega
  go_enter Try.func15, Try.ntmps15
  go_wp2_with fail
  go_ret
  exact ⟨rfl, rfl⟩
set_option maxHeartbeats 1600000 in
theorem spec_DrawCompareValues (A : Option Addr) (n c : Nat) (l : List Int) (w : World) (hS : Sl 1 RByt w A n l) (hn : n ≤ 1048576) (hl : ∀ y ∈ l, 0 ≤ y ∧ y ≤ 255) :
    Calls Try.prog 16 #[.slice A n c] w fun e w' => ∃ a b : Vl, e = .returned (.tuple #[a.v, b.v]) ∧ a.small ∧ b.small ∧ Below w.heap.size w w' := by
  have HN := Lib.hid fun w' (hb : Below w.heap.size w w') => spec_l01New A n c l w' (hS.mono mByt hb) hn hl
  clear hS hl
  go_enter Try.func16, Try.ntmps16
  go_wp2_with fail
  refine (HN.out _ (by go_grown)).mono ?_; rintro e w1 ⟨g, rfl, hC⟩
  have HR1 := Lib.hid (show HasB w1 [(w.heap.size, #[.int .i64 0, .int .i64 0, .string ByteArray.empty], 25), (w.heap.size + 1, #[.int .i64 0, .int .i64 0, .string ByteArray.empty], 25)] from fun x hx => by
    have hcw := (cur_w hC).2
    simp only [List.mem_cons, List.not_mem_nil, or_false] at hx
    rcases hx with rfl | rfl
    · exact below_keep hcw ((hp_old (by simp)).trans (hp_new rfl))
    · exact below_keep hcw (hp_new (by simp)))
  have hgw := (cur_w hC).1
  simp at hgw
  have HC1 := Lib.hid hC
  have HB1 := Lib.hid (ex_trans (show Below w.heap.size w (World.alloc (World.alloc w _) _) by go_grown) (cur_w hC).2)
  clear hC
  go_wp2_with fail
  refine (spec_l02Any _ _ g HC1.out).mono ?_; rintro e w2 ⟨a, rfl, ha, hc2, hb2, hg2⟩
  have HR2 := Lib.hid (HR1.out.chg hg2 (fun x hx h => by
    simp only [List.mem_cons, List.not_mem_nil, or_false] at hx
    simp only [List.mem_singleton] at h
    rcases hx with rfl | rfl <;> simp only at h <;> omega))
  have HB2 := Lib.hid (Below.mark HB1.out hg2 HB1.out.size (by simp only [List.mem_singleton]; intro b hb; omega))
  have HC2 := Lib.hid hc2
  have HA := Lib.hid ha
  clear hc2 hb2 hg2 ha
  go_wp2_with fail
  refine (spec_l02Any _ _ g HC2.out).mono ?_; rintro e w3 ⟨b, rfl, hb, hc3, hb3, hg3⟩
  have HR3 := Lib.hid (HR2.out.chg hg3 (fun x hx h => by
    simp only [List.mem_cons, List.not_mem_nil, or_false] at hx
    simp only [List.mem_singleton] at h
    rcases hx with rfl | rfl <;> simp only at h <;> omega))
  have HB3 := Lib.hid (Below.mark HB2.out hg3 HB2.out.size (by simp only [List.mem_singleton]; intro b hb; omega))
  have HBb := Lib.hid hb
  clear hc3 hb3 hg3 hb
  have ur := blk_cell? (HR3.out _ (List.Mem.head _))
  have us := blk_cell? (HR3.out _ (List.Mem.tail _ (List.Mem.head _)))
  have rf := blk_free (HR3.out _ (List.Mem.head _))
  have sf := blk_free (HR3.out _ (List.Mem.tail _ (List.Mem.head _)))
  have r0 := ur 0
  have r1 := ur 1
  have r2 := ur 2
  have s0 := us 0
  have s1 := us 1
  have s2 := us 2
  simp only [List.getElem?_toArray, List.getElem?_cons_zero, List.getElem?_cons_succ] at r0 r1 r2 s0 s1 s2
  go_wp2_with fail
  refine bodyPost_ret (v := .tuple #[a.v, b.v]) (by simp [results, Try.results16, go_sem, ur, us]) rfl ?_
  exact ⟨a, b, rfl, HA.out, HBb.out, sets_below (by omega) [.int .i64 b.kind, .int .i64 b.int, .string b.str] w _ 0 (sets_below (Nat.le_refl _) [.int .i64 a.kind, .int .i64 a.int, .string a.str] w w3 0 HB3.out)⟩
end Go.Proofs.Ytdlocbmhadhhhaa
