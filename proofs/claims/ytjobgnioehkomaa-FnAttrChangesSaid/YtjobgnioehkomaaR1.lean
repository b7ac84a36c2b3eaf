/-
  CONTRACTS: sortedOnce.
-/
import Derived.WalkKit
import Derived.WalkSpells
import Derived.WalkLawsBesides
import Derived.Lib.Hide
import Derived.Handy
import Derived.StillTailTactics
import Derived.Deep.Light
import Derived.Deep.QuietTactic
import Derived.BigQuiet
import Derived.Deep.RegionHeld3
import Derived.Sort.OwnSorted
import Derived.Lib.RowBridge
import Derived.Test.YtjobgnioehkomaaLib
import Derived.Test.YtjobgnioehkomaaOwn
import Derived.Test.YtjobgnioehkomaaRow
import Derived.Test.YtjobgnioehkomaaN0
import Derived.Test.YtjobgnioehkomaaHld
import Derived.Test.YtjobgnioehkomaaM0
import Derived.Test.YtjobgnioehkomaaC1
import Derived.Test.YtjobgnioehkomaaC2
import Derived.Test.YtjobgnioehkomaaC3
import Derived.Test.YtjobgnioehkomaaD1
import Derived.Test.YtjobgnioehkomaaD7
import Derived.Test.YtjobgnioehkomaaQ5
import Derived.Test.YtjobgnioehkomaaP4
import Derived.Test.YtjobgnioehkomaaR0
import Derived.Test.YtjobgnioehkomaaShelf
import Derived.Test.YtjobgnioehkomaaRows
namespace Go.Proofs.Ytjobgnioehkomaa
open Go.RowKit
set_option linter.unusedVariables false
set_option maxRecDepth 100000
set_option maxHeartbeats 800000 in
theorem slices_Clone_string (A : Option Addr) (n c : Nat) (l : List ByteArray) (w : World) (hS : Sl 1 RStr w A n l) (hn : n ≤ 1073741824) :
    Calls Try.prog 137 #[.slice A n c] w (NewRow id 9 1 eStr w l) := by
  obtain rfl : l.length = n := hS.len
  obtain ⟨ii, hi, hi0, hi1, hi2⟩ := info_parts info_string
  have hnil := fun (w : World) (a : Option Addr) (n c : Nat) => Lib.run_eql_slice_nil (P := Try.prog) w 34 _ a n c 0 0 Try.underlying34
  cases A with
  | none =>
    have h0 : l.length = 0 := by
      rcases Nat.eq_zero_or_pos l.length with h | h
      · exact h
      · obtain ⟨_, _, h, _⟩ := hS.at_ h; cases h
    obtain rfl : l = [] := List.eq_nil_of_length_eq_zero h0
    clear hS
    go_enter Try.func137, Try.ntmps137
    go_wp2_with fail
    go_returns
    exact ⟨none, 0, rfl, FRow.any0 _ _ _ _ _ _, by go_grown⟩
  | some a =>
    have HS := Lib.hid hS
    clear hS
    go_enter Try.func137, Try.ntmps137
    go_wp2_with (at_builtin; refine wpList_append_row rfl _ _ _ rfl encStr Try.underlying34 hi hi0 hi1 hi2 rfl rfl rfl (FRow.any0 _ _ _ _ _ _) (Src.of_sl encStr (fun h => h) (HS.out.mono mStr (by go_grown))) (by unfold maxLen; omega) (by omega) (show w.heap.size ≤ _ by simp) ?_; intro A2 c2 w2 hr2 hc2 hx2)
    go_returns
    exact ⟨A2, c2, by simp, by simpa using hr2, (Below.refl _ _).trans (Below.mark (by go_grown) hc2 (by simp) (by simp [rowBs_zero]))⟩
theorem str_flat (l : List ByteArray) : (l.map keyB).map Go.Proofs.encStr = l.flatMap eStr := by
  induction l with
  | nil => rfl
  | cons s l ih => rw [List.map_cons, List.map_cons, List.flatMap_cons, ih]; cases s; rfl
theorem enc_flat (bs : List (List UInt8)) : bs.map Go.Proofs.encStr = (bs.map fun b => (⟨b.toArray⟩ : ByteArray)).flatMap eStr := by
  induction bs with
  | nil => rfl
  | cons s l ih => rw [List.map_cons, List.map_cons, List.flatMap_cons, ih]; rfl
set_option maxHeartbeats 1600000 in
theorem impl_sortedOnce (A : Option Addr) (n c : Nat) (l : List ByteArray) (w : World) (hS : Sl 1 RStr w A n l) (hn : n ≤ 1073741824) :
    Calls Try.prog 86 #[.slice A n c] w (NewRow (fun v => v) 9 1 eStr w (onceS l)) := by
  have HC := Lib.hid (slices_Clone_string A n c l w hS hn)
  obtain rfl : l.length = n := hS.len
  clear hS
  go_enter Try.func86, Try.ntmps86
  go_wp2_with fail
  refine HC.out.mono ?_; rintro e w1 ⟨A1, c1, rfl, hr1, hb1⟩
  by_cases h0 : l.length = 0
  · obtain rfl : l = [] := List.eq_nil_of_length_eq_zero h0
    have HZ := Lib.hid (show onceS [] = [] from by rw [onceS_put]; rfl)
    have HR := Lib.hid hr1
    clear hr1
    go_wp2_with fail
    refine (Try.slices_Sort_string_none A1 c1 _).mono ?_; rintro e w2 ⟨rfl, rfl⟩
    go_wp2_with fail
    refine (Try.slices_Compact_string_empty A1 c1 _).mono ?_; rintro e w3 ⟨rfl, rfl⟩
    go_wp2_with fail
    go_returns
    rw [HZ.out]
    exact ⟨A1, c1, rfl, HR.out, hb1⟩
  · obtain ⟨g, rfl, hB, hg, hrb, cur, hcur, hs, ht⟩ := hr1.row (by have := hr1.le; omega)
    have hle := hr1.le
    have hcm := hr1.2.2.1
    have hsl : ∀ zs : List (List UInt8), zs.length = l.length → (cur.toList.take (l.length * 1) = zs.map Go.Proofs.encStr → cur.toList.take zs.length = zs.map Go.Proofs.encStr) := fun zs hz h => by rw [hz]; simpa using h
    have HSo := Try.slices_Sort_string g 0 c1 (l.map keyB) w1 (holds_of_block hcur (hsl _ (by simp) (by rw [ht, str_flat]))) hg (by rw [List.length_map]; omega)
    rw [List.length_map] at HSo
    obtain ⟨zs, hzs⟩ : ∃ zs, zs = (l.map keyB).mergeSort fun x y => decide (x ≤ y) := ⟨_, rfl⟩
    have hzl : zs.length = l.length := by rw [hzs, List.length_mergeSort, List.length_map]
    have hon : onceS l = (Lib.compact zs).map fun b => ⟨b.toArray⟩ := by unfold onceS onceB; rw [← hzs]
    rw [← hzs] at HSo
    have HSo' := Lib.hid HSo
    have hcsz : cur.size = c1 := by rw [hs, Nat.mul_one]
    have HCU := Lib.hid (And.intro hcur (And.intro hzl (And.intro hon (And.intro hB (And.intro hrb hcsz)))))
    clear HSo hcur ht hs hsl hzs hzl hon hr1 hB hrb hcsz
    go_wp2_with fail
    refine HSo'.out.mono ?_; rintro e w2 ⟨rfl, n1, os, hw2⟩
    have hk2 : w2.heap[g]? = some (.cells (Go.Sort.putCells Go.Proofs.encStr 0 zs.toArray cur) 9 (0, 0)) := by rw [hw2]; exact heap_sorted _ HCU.out.1
    have hc2 : Chg [g] w1 w2 := by rw [hw2]; exact Chg.grown (grownBy_sorted _) (fun g' h => by simp only [Option.some.injEq] at h; simp [h])
    have HCo := Try.slices_Compact_string g 0 c1 zs w2 (holds_of_block hk2 (take_putCells cur zs (by rw [HCU.out.2.1, HCU.out.2.2.2.2.2]; exact hle))) (by rw [HCU.out.2.1]; omega) (by rw [HCU.out.2.1]; exact hle)
    rw [HCU.out.2.1] at HCo
    have HCo' := Lib.hid HCo
    have HK2 := Lib.hid (And.intro hk2 hc2)
    clear HCo hk2 hc2 hw2
    go_wp2_with fail
    refine HCo'.out.mono ?_; rintro e w3 ⟨rfl, q, hw3⟩
    obtain ⟨cur2, hcur2⟩ : ∃ cur2, cur2 = Go.Sort.putCells Go.Proofs.encStr 0 zs.toArray cur := ⟨_, rfl⟩
    obtain ⟨ts, hts⟩ : ∃ ts, ts = Lib.compact zs ++ List.replicate (l.length - (Lib.compact zs).length) [] := ⟨_, rfl⟩
    have hcl : (Lib.compact zs).length ≤ l.length := by rw [← HCU.out.2.1]; exact Lib.compact_length_le zs
    have htl : ts.length = l.length := by rw [hts, List.length_append, List.length_replicate]; omega
    rw [← hts] at hw3
    have hw3' : w3 = Go.Sort.grow (Go.Sort.putRow Go.Proofs.encStr (Go.Sort.ahead w2 q) g 0 ts.toArray) #[] := by rw [hw3, Go.Sort.grow_empty]
    have hk3 : w3.heap[g]? = some (.cells (Go.Sort.putCells Go.Proofs.encStr 0 ts.toArray cur2) 9 (0, 0)) := by rw [hw3', hcur2]; exact heap_sorted _ HK2.out.1
    have hc3 : Chg [g] w2 w3 := by rw [hw3']; exact Chg.grown (grownBy_sorted _) (fun g' h => by simp only [Option.some.injEq] at h; simp [h])
    have hsz2 : cur2.size = c1 := by rw [hcur2]; unfold Go.Sort.putCells; simpa using HCU.out.2.2.2.2.2
    have htk := take_putCells cur2 ts (by rw [htl, hsz2]; exact hle)
    have hck : (Go.Sort.putCells Go.Proofs.encStr 0 ts.toArray cur2).toList.take ((Lib.compact zs).length * 1) = (onceS l).flatMap eStr := by
      have e1 := congrArg (List.take (Lib.compact zs).length) htk
      rw [List.take_take, htl, Nat.min_eq_left hcl] at e1
      rw [Nat.mul_one, e1, HCU.out.2.2.1, ← enc_flat, hts, List.map_append, ← List.length_map (f := Go.Proofs.encStr), List.take_left]
    have hol : (onceS l).length = (Lib.compact zs).length := by rw [HCU.out.2.2.1, List.length_map]
    have HF := Lib.hid (show FRow 9 1 eStr w3 w.heap.size (some ⟨g, 0, none⟩) (onceS l).length c1 (onceS l) from
      ⟨rfl, by rw [hol]; omega, hcm, .inr ⟨g, _, rfl, HCU.out.2.2.2.1, hk3, by unfold Go.Sort.putCells; simpa using hsz2, by rw [hol]; exact hck⟩⟩)
    have HB := Lib.hid (Below.mark hb1 (HK2.out.2.trans hc3) hb1.size (by simp only [List.mem_singleton]; intro b hb; rw [hb]; exact HCU.out.2.2.2.1))
    have HO := Lib.hid hol
    clear hk3 hc3 htk hck hol hw3 hw3' hts htl
    go_wp2_with fail
    go_returns
    exact ⟨_, c1, by rw [HO.out]; rfl, HF.out, HB.out⟩
end Go.Proofs.Ytjobgnioehkomaa
