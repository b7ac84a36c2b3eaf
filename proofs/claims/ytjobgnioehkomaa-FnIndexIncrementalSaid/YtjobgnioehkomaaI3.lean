/-
  CONTRACTS: slices.Insert of one element into a row of the call's own.
-/
import Derived.WalkKit
import Derived.WalkSpells
import Derived.WalkLawsBesides
import Derived.Lib.Hide
import Derived.Handy
import Derived.StillTailTactics
import Derived.Deep.Light
import Derived.Deep.QuietTactic
import Derived.BigQuiet
import Derived.Deep.RegionHeld3
import Derived.Deep.RegionLaw
import Derived.Lib.Overlaps
import Derived.ChangeAlike
import Derived.Test.YtjobgnioehkomaaI1
import Derived.Test.YtjobgnioehkomaaLib
import Derived.Test.YtjobgnioehkomaaOwn
import Derived.Test.YtjobgnioehkomaaRow
import Derived.Test.YtjobgnioehkomaaRaw
import Derived.Test.YtjobgnioehkomaaHld
import Derived.Test.YtjobgnioehkomaaM0
import Derived.Test.YtjobgnioehkomaaC1
import Derived.Test.YtjobgnioehkomaaC2
import Derived.Test.YtjobgnioehkomaaT1
import Derived.Test.YtjobgnioehkomaaT2
import Derived.Test.YtjobgnioehkomaaT3
import Derived.Test.YtjobgnioehkomaaT4
import Derived.Test.YtjobgnioehkomaaC3
import Derived.Test.YtjobgnioehkomaaC4
import Derived.Test.YtjobgnioehkomaaD1
import Derived.Test.YtjobgnioehkomaaH1
import Derived.Test.YtjobgnioehkomaaRows
namespace Go.Proofs.Ytjobgnioehkomaa
open Go.RowKit
set_option linter.unusedVariables false
set_option maxRecDepth 100000

theorem src_Posting (x : Ph) (vb : Nat) (w : World) (hv : w.heap[vb]? = some (.cells (ePh x).toArray 107 (0, 0))) : Src 5 ePh w (some ⟨vb, 0, none⟩) 1 [x] :=
  Src.of_cells (blk_lt hv) fun j u hu => by rw [Addr.add_lit, Nat.zero_add, blk_cell? hv]; simpa using hu
set_option maxHeartbeats 3200000 in
theorem slices_Insert_Posting_end (A : Option Addr) (n c i : Nat) (l : List Ph) (x : Ph) (vb vd B : Nat) (w : World) (h : FRow 107 5 ePh w B A n c l) (hn : n ≤ 1073741824) (hB : B ≤ w.heap.size) (hv : w.heap[vb]? = some (.cells (ePh x).toArray 107 (0, 0))) (hvb : vb ∉ rowBs A c) (hi : i = n) :
    Calls Try.prog 100 #[.slice A n c, .int .i64 i, .slice (some ⟨vb, 0, none⟩) 1 vd] w fun e' w' => ∃ A' c', e' = .returned (.slice A' (n + 1) c') ∧ FRow 107 5 ePh w' B A' (n + 1) c' (l.take i ++ x :: l.drop i) ∧ Chg (rowBs A c) w w' ∧ ∀ b ∈ rowBs A' c', b ∈ rowBs A c ∨ w.heap.size ≤ b := by
  subst hi
  obtain ⟨ii, hi, hi0, hi1, hi2⟩ := info_parts info_Posting
  have hle := h.le
  have e1 : l.take i ++ x :: l.drop i = l ++ [x] := by rw [List.take_of_length_le (by rw [h.len]; exact Nat.le_refl _), List.drop_of_length_le (by rw [h.len]; exact Nat.le_refl _)]
  rw [e1]
  have HR := Lib.hid h
  have HS := Lib.hid (src_Posting x vb w hv)
  have HP := Lib.hid hB
  have i0 : (0 : Int) ≤ (i : Int) := by omega
  have i1 : (i : Int) ≤ (c : Int) := by omega
  clear h hv hvb e1 hB
  by_cases hci : c = i
  all_goals
    go_enter Try.func100, Try.ntmps100
    go_wp2_with (at_builtin; refine wpList_append_row rfl _ _ _ rfl encPh Try.underlying55 hi hi0 hi1 hi2 rfl rfl rfl HR.out HS.out (by unfold maxLen; omega) (by omega) HP.out ?_; intro A2 c2 w2 hr2 hc2 hx2; have HR2 := Lib.hid (And.intro hr2 (And.intro hc2 hx2)); clear hr2 hc2 hx2)
    go_returns
    exact ⟨A2, c2, rfl, HR2.out.1, HR2.out.2.1, HR2.out.2.2⟩
set_option maxHeartbeats 6400000 in
theorem slices_Insert_Posting_room (A : Option Addr) (n c i : Nat) (l : List Ph) (x : Ph) (vb vd B : Nat) (w : World) (h : FRow 107 5 ePh w B A n c l) (hn : n ≤ 1073741824) (hB : B ≤ w.heap.size) (hv : w.heap[vb]? = some (.cells (ePh x).toArray 107 (0, 0))) (hvb : vb ∉ rowBs A c) (hi : i < n) (hroom : n + 1 ≤ c) :
    Calls Try.prog 100 #[.slice A n c, .int .i64 i, .slice (some ⟨vb, 0, none⟩) 1 vd] w fun e' w' => ∃ A' c', e' = .returned (.slice A' (n + 1) c') ∧ FRow 107 5 ePh w' B A' (n + 1) c' (l.take i ++ x :: l.drop i) ∧ Chg (rowBs A c) w w' ∧ ∀ b ∈ rowBs A' c', b ∈ rowBs A c ∨ w.heap.size ≤ b := by
  obtain ⟨ii, hin, hi0, hi1, hi2⟩ := info_parts info_Posting
  have hcb : c ≤ 9223372036854775807 := by have := h.2.2.1; unfold maxLen at this; exact this
  obtain ⟨g, rfl, hBg, hgw, hrb, cur, hcur, hcs, hct⟩ := h.row (by omega)
  have hln := h.len
  have hT : cur.toList.take (i * 5) = (l.take i).flatMap ePh := by
    rw [← flat_take encPh, ← hct, List.take_take, Nat.min_eq_left (Nat.mul_le_mul_right _ (by omega))]
  have hneb : vb ≠ g := by rw [hrb] at hvb; simpa using hvb
  have hvlt := blk_lt hv
  have hle1 : (n + 1) * 5 ≤ cur.size := by rw [hcs]; exact Nat.mul_le_mul_right _ hroom
  have HFIN := Lib.hid (ins_a (x := x) encPh hln (by omega) hT hle1)
  obtain ⟨D, hD⟩ : ∃ D, D = (l.drop i).flatMap ePh := ⟨_, rfl⟩
  have hDl : D.length = (n - i) * 5 := by rw [hD, flat_len encPh, List.length_drop, hln]
  have hD1 : ∀ u ∈ D, u.oneCell' = true := by rw [hD]; exact flat_one encPh _
  have hDc : ∀ (w' : World), w'.heap[g]? = w.heap[g]? → ∀ j u, D[j]? = some u → w'.cell? ((⟨g, i * 5, none⟩ : Addr).add j) = some u := fun w' hw j u hu => by
    have hjl : j < (n - i) * 5 := by rw [← hDl]; exact (List.getElem?_eq_some_iff.1 hu).1
    rw [Addr.add_lit, blk_cell? (hw.trans hcur)]
    have e1 : (cur.toList.take (n * 5))[i * 5 + j]? = some u := by
      rw [hct, ← List.getElem?_drop, flat_drop encPh, ← hD]; exact hu
    rw [List.getElem?_take_of_lt (by omega), Array.getElem?_toList] at e1
    exact e1
  rw [← hD] at HFIN
  have hov : ∀ (w' : World), w'.heap[g]? = w.heap[g]? → w'.heap[vb]? = w.heap[vb]? → ∀ lb cb, (callFunc 146 #[.slice (some ⟨vb, 0, none⟩) 1 vd, .slice (some ⟨g, (i + 1) * 5, none⟩) lb cb]).run Try.prog w' = .ok (.value (.bool false)) w' := fun w' hw hw2 lb cb => by
    rw [run_callFunc_extern Try.func146 (by kernel_rfl) (by kernel_rfl) (by kernel_rfl) (e := Extern.SlicesOverlaps.overlaps #[55, 55] #[4]) (by kernel_rfl),
      Lib.run_overlaps_apart w' 55 4 107 Try.underlying55 5 (fun _ => by kernel_rfl) ⟨vb, 0, none⟩ ⟨g, (i + 1) * 5, none⟩ 1 vd lb cb hneb 107 107 (ePh x).toArray.size cur.size (by simp [World.shape?, hw2.trans hv]) (by simp [World.shape?, hw.trans hcur]) (by omega) (blk_free (hw2.trans hv) _) (blk_free (hw2.trans hv) _)]
    rfl
  have HOV := Lib.hid hov
  have HDC := Lib.hid hDc
  have HCUR := Lib.hid hcur
  have HD1 := Lib.hid (And.intro hDl hD1)
  have HV := Lib.hid hv
  have HX := Lib.hid (And.intro hct (And.intro hT hcs))
  have hov0 := hov w rfl rfl
  have HLN := Lib.hid hln
  rw [hrb]
  clear h hct hT hov hDc hcur hv hvb hD hDl hD1 hln hcs hrb
  have z1 : (0 : Int) ≤ (i : Int) := by omega
  have z2 : (i : Int) ≤ (c : Int) := by omega
  have z3 : ((i : Int) == (n : Int)) = false := by simp; omega
  have z4 : (i : Int) ≤ (n : Int) := by omega
  have z5 : ¬ (c = i) := by omega
  have z6 : ¬ (c = i + 1) := by omega
  have z7 : (n : Int) + 1 ≤ (c : Int) := by omega
  go_enter Try.func100, Try.ntmps100
  go_wp2_with fail
  have w1 : IntKind.i64.wrap ((i : Int) + 1) = (i : Int) + 1 := IntWalk.i64_in _ (by omega)
  have w2 : (0 : Int) ≤ (i : Int) + 1 := by omega
  have w3 : ((i : Int) + 1).toNat = i + 1 := by omega
  have w4 : (i : Int) + 1 ≤ (n : Int) + 1 := by omega
  have w5 : (i : Int) ≤ (n : Int) + 1 := by omega
  go_region_law (refine step_copy_raw rfl (.tmp 73) (.tmp 76) rfl Try.underlying55 hin hi1 (g := g) (off := (i + 1) * 5) (dLen := n + 1 - (i + 1)) (dCap := c - (i + 1)) (sLen := n + 1 - i) (sCap := c - i) (ad := ⟨g, i * 5, none⟩) (cs := D) (m := n - i) (by simp [Act.eval, Act.put]) (by simp [Act.eval, Act.put]) ((Nat.min_eq_right (by omega)).trans (by omega)) HD1.out.1 HCUR.out (HDC.out _ rfl) (by rw [HD1.out.1]; omega) HD1.out.2 ?_; intro w6 hg6 hc6 hs6)
  have hv6 : w6.heap[vb]? = some (.cells (ePh x).toArray 107 (0, 0)) := (hc6.block vb hvlt (by simpa using hneb)).trans HV.out
  have HV6 := Lib.hid hv6
  have HC6 := Lib.hid hc6
  clear hv6 hc6
  go_wp2_with (refine wpList_copy_raw rfl _ _ rfl Try.underlying55 hin hi1 (g := g) (off := i * 5) (cs := ePh x) (m := 1) rfl rfl (Nat.min_eq_left (by omega)) (by rw [encPh.len]) hg6.out (fun j u hu => by rw [Addr.add_lit, Nat.zero_add, blk_cell? HV6.out]; simpa using hu) (by rw [encPh.len, spl_size (by rw [HD1.out.1]; omega)]; omega) (encPh.one x) ?_; intro w7 hg7 hc7 hs7; have HC7 := Lib.hid hc7; clear hc7)
  go_returns
  have hch := HC6.out.trans HC7.out
  refine ⟨some ⟨g, 0, none⟩, c, rfl, ⟨by rw [List.length_append, List.length_cons, List.length_take, List.length_drop, HLN.out]; omega, hroom, by unfold maxLen; omega, .inr ⟨g, _, rfl, hBg, hg7.out, ?_, HFIN.out⟩⟩, ⟨hch.os, hch.tape, hch.output, hch.size, hch.block⟩, fun b hb => .inl (by rw [rowBs_pos (by omega)] at hb; exact hb)⟩
  rw [spl_size (by rw [encPh.len, spl_size (by rw [HD1.out.1]; omega)]; omega), spl_size (by rw [HD1.out.1]; omega)]
  exact HX.out.2.2
set_option maxHeartbeats 6400000 in
theorem slices_Insert_Posting_grow (A : Option Addr) (n c i : Nat) (l : List Ph) (x : Ph) (vb vd B : Nat) (w : World) (h : FRow 107 5 ePh w B A n c l) (hn : n ≤ 1073741824) (hB : B ≤ w.heap.size) (hv : w.heap[vb]? = some (.cells (ePh x).toArray 107 (0, 0))) (hvb : vb ∉ rowBs A c) (hi : i < n) (hroom : c < n + 1) :
    Calls Try.prog 100 #[.slice A n c, .int .i64 i, .slice (some ⟨vb, 0, none⟩) 1 vd] w fun e' w' => ∃ A' c', e' = .returned (.slice A' (n + 1) c') ∧ FRow 107 5 ePh w' B A' (n + 1) c' (l.take i ++ x :: l.drop i) ∧ Chg (rowBs A c) w w' ∧ ∀ b ∈ rowBs A' c', b ∈ rowBs A c ∨ w.heap.size ≤ b := by
  obtain ⟨ii, hin, hi0, hi1, hi2⟩ := info_parts info_Posting
  have hle := h.le
  obtain rfl : n = c := by omega
  obtain ⟨g, rfl, hBg, hgw, hrb, cur, hcur, hcs, hct⟩ := h.row (by omega)
  have hln := h.len
  have hvlt := blk_lt hv
  obtain ⟨D, hD⟩ : ∃ D, D = (l.drop i).flatMap ePh := ⟨_, rfl⟩
  obtain ⟨E0, hE0⟩ : ∃ D, D = (l.take i).flatMap ePh := ⟨_, rfl⟩
  have hDl : D.length = (n - i) * 5 := by rw [hD, flat_len encPh, List.length_drop, hln]
  have hEl : E0.length = i * 5 := by rw [hE0, flat_len encPh, List.length_take, hln]; congr 1; omega
  have hD1 : ∀ u ∈ D, u.oneCell' = true := by rw [hD]; exact flat_one encPh _
  have hcell : ∀ (w' : World), w'.heap[g]? = w.heap[g]? → ∀ q u, (l.flatMap ePh)[q]? = some u → w'.cell? ⟨g, q, none⟩ = some u := fun w' hw q u hu => by
    have hql : q < n * 5 := by rw [← hln, ← flat_len encPh]; exact (List.getElem?_eq_some_iff.1 hu).1
    rw [blk_cell? (hw.trans hcur)]
    have e1 : (cur.toList.take (n * 5))[q]? = some u := by rw [hct]; exact hu
    rw [List.getElem?_take_of_lt hql, Array.getElem?_toList] at e1
    exact e1
  have hDc : ∀ (w' : World), w'.heap[g]? = w.heap[g]? → ∀ j u, D[j]? = some u → w'.cell? ((⟨g, i * 5, none⟩ : Addr).add j) = some u := fun w' hw j u hu => by
    rw [Addr.add_lit]
    exact hcell w' hw _ u (by rw [← List.getElem?_drop, flat_drop encPh, ← hD]; exact hu)
  have hEc : 0 < i → ∃ a, (some ⟨g, 0, none⟩ : Option Addr) = some a ∧ ∀ j u, E0[j]? = some u → w.cell? (a.add j) = some u := fun _ => ⟨_, rfl, fun j u hu => by
    rw [Addr.add_lit, Nat.zero_add]
    have hjl : j < i * 5 := by rw [← hEl]; exact (List.getElem?_eq_some_iff.1 hu).1
    refine hcell w rfl _ u ?_
    rw [hE0, ← flat_take encPh, List.getElem?_take_of_lt hjl] at hu
    exact hu⟩
  have HFIN := Lib.hid fun (cur2 : Array Value) (h1 : cur2.toList.take (i * 5) = E0) (h2 : (n + 1) * 5 ≤ cur2.size) => by have hh := ins_b (x := x) (cur := cur2) encPh hln (Nat.le_of_lt hi) (h1.trans hE0) h2; rw [← hD] at hh; exact hh
  have HDC := Lib.hid hDc
  have HEC := Lib.hid hEc
  have HD1 := Lib.hid (And.intro hDl hD1)
  have HEL := Lib.hid hEl
  have HV := Lib.hid hv
  have HLN := Lib.hid hln
  have HB := Lib.hid hB
  rw [hrb]
  clear h hct hDc hEc hcell hcur hv hvb hD hE0 hDl hEl hD1 hln hcs hrb hle hB
  have z1 : (0 : Int) ≤ (i : Int) := by omega
  have z3 : ((i : Int) == (n : Int)) = false := by simp; omega
  have z4 : (i : Int) ≤ (n : Int) := by omega
  have z5 : ¬ (n = i) := by omega
  have z8 : (0 : Int) ≤ (n : Int) + 1 - (i : Int) := by omega
  go_enter Try.func100, Try.ntmps100
  go_wp2_with (first
    | (at_builtin; refine wpList_append_zeros rfl _ _ rfl Try.underlying55 Try.underlying3 hin hi0 hi1 hi2 rfl (by omega) (m := n + 1 - i) (olds := E0) rfl (show Value.int IntKind.i64 ((n : Int) + 1 - (i : Int)) = .int .i64 (((n + 1 - i : Nat) : Int)) by rw [show ((n : Int) + 1 - (i : Int)) = ((n + 1 - i : Nat) : Int) by omega]) HEL.out HEC.out (by omega) (by omega) (by omega) (by omega) (by omega) (by omega) ?_; intro c2 cur2 w2 hge2 hcm2 hrow2 hb2 hlt2; have eL : i + (n + 1 - i) = n + 1 := (by omega); rw [eL] at hge2; have z9 : (i : Int) ≤ (n : Int) + 1 := (by omega); have z10 : ¬ (c2 = i) := (by omega); have z11 : ¬ (c2 = i + 1) := (by omega); have hv2 := Lib.hid ((hb2.block vb hvlt).trans HV.out); have hvl2 := Nat.lt_trans hvlt hlt2)
    | (refine wpList_copy_raw rfl _ _ rfl Try.underlying55 hin hi1 (g := w.heap.size) (off := i * 5) (cs := ePh x) (m := 1) rfl rfl (Nat.min_eq_left (by omega)) (by rw [encPh.len]) hrow2.out.1 (fun j u hu => by rw [Addr.add_lit, Nat.zero_add, blk_cell? hv2.out]; simpa using hu) (by rw [encPh.len, hrow2.out.2.1]; omega) (encPh.one x) ?_; intro w3 hg3 hc3 hs3; have HC3 := Lib.hid hc3; clear hc3))
  have w1 : IntKind.i64.wrap ((i : Int) + 1) = (i : Int) + 1 := IntWalk.i64_in _ (by omega)
  have w2' : (0 : Int) ≤ (i : Int) + 1 := by omega
  have w3' : ((i : Int) + 1).toNat = i + 1 := by omega
  have w4 : (i : Int) + 1 ≤ (n : Int) + 1 := by omega
  have hg3' : w3.heap[g]? = w.heap[g]? := (HC3.out.block g (Nat.lt_trans hgw hlt2) (by simp; omega)).trans (hb2.block g hgw)
  have HG3 := Lib.hid hg3'
  clear hg3'
  go_region_law (refine step_copy_raw rfl (.tmp 50) (.tmp 53) rfl Try.underlying55 hin hi1 (g := w.heap.size) (off := (i + 1) * 5) (dLen := n + 1 - (i + 1)) (dCap := c2 - (i + 1)) (sLen := n - i) (sCap := n - i) (ad := ⟨g, i * 5, none⟩) (cs := D) (m := n - i) (by simp [Act.eval, Act.put]) (by simp [Act.eval, Act.put]) ((Nat.min_eq_left (by omega)).trans rfl) HD1.out.1 hg3.out (HDC.out _ HG3.out) (by rw [HD1.out.1, spl_size (by rw [encPh.len, hrow2.out.2.1]; omega), hrow2.out.2.1]; omega) HD1.out.2 ?_; intro w6 hg6 hc6 hs6)
  have HC6 := Lib.hid hc6
  clear hc6
  go_wp2_with fail
  go_returns
  have hsz : (spl (spl cur2 (i * 5) (ePh x)) ((i + 1) * 5) D).size = c2 * 5 := by
    rw [spl_size (by rw [HD1.out.1, spl_size (by rw [encPh.len, hrow2.out.2.1]; omega), hrow2.out.2.1]; omega), spl_size (by rw [encPh.len, hrow2.out.2.1]; omega), hrow2.out.2.1]
  have hch : Chg [w.heap.size] w w6 := ((Chg.of_below _ hb2).trans HC3.out).drew.trans HC6.out
  refine ⟨some ⟨w.heap.size, 0, none⟩, c2, rfl, ⟨by rw [List.length_append, List.length_cons, List.length_take, List.length_drop, HLN.out]; omega, hge2, hcm2, .inr ⟨w.heap.size, _, rfl, HB.out, hg6.out, hsz, HFIN.out _ hrow2.out.2.2 (by rw [hrow2.out.2.1]; omega)⟩⟩, hch.new_ (Nat.le_refl _) |>.mono (fun b hb => by simp at hb), fun b hb => .inr (by rw [rowBs_pos (by omega)] at hb; simp at hb; omega)⟩
theorem slices_Insert_Posting (A : Option Addr) (n c i : Nat) (l : List Ph) (x : Ph) (vb vd B : Nat) (w : World) (h : FRow 107 5 ePh w B A n c l) (hn : n ≤ 1073741824) (hB : B ≤ w.heap.size) (hv : w.heap[vb]? = some (.cells (ePh x).toArray 107 (0, 0))) (hvb : vb ∉ rowBs A c) (hi : i ≤ n) :
    Calls Try.prog 100 #[.slice A n c, .int .i64 i, .slice (some ⟨vb, 0, none⟩) 1 vd] w fun e' w' => ∃ A' c', e' = .returned (.slice A' (n + 1) c') ∧ FRow 107 5 ePh w' B A' (n + 1) c' (l.take i ++ x :: l.drop i) ∧ Chg (rowBs A c) w w' ∧ ∀ b ∈ rowBs A' c', b ∈ rowBs A c ∨ w.heap.size ≤ b := by
  by_cases h1 : i = n
  · exact slices_Insert_Posting_end A n c i l x vb vd B w h hn hB hv hvb h1
  · by_cases h2 : n + 1 ≤ c
    · exact slices_Insert_Posting_room A n c i l x vb vd B w h hn hB hv hvb (by omega) h2
    · exact slices_Insert_Posting_grow A n c i l x vb vd B w h hn hB hv hvb (by omega) (by omega)
end Go.Proofs.Ytjobgnioehkomaa
