/-
  CONTRACTS: slices.Insert of one element into a row of the call's own.
-/
import Derived.WalkKit
import Derived.WalkSpells
import Derived.WalkLawsBesides
import Derived.Lib.Hide
import Derived.Handy
import Derived.StillTailTactics
import Derived.Deep.Light
import Derived.Deep.QuietTactic
import Derived.BigQuiet
import Derived.Deep.RegionHeld3
import Derived.Deep.RegionLaw
import Derived.Lib.Overlaps
import Derived.ChangeAlike
import Derived.Test.YtoceoakpnlohiaaLib
import Derived.Test.YtoceoakpnlohiaaOwn
import Derived.Test.YtoceoakpnlohiaaRow
import Derived.Test.YtoceoakpnlohiaaRaw
import Derived.Test.YtoceoakpnlohiaaHld
import Derived.Test.YtoceoakpnlohiaaM0
import Derived.Test.YtoceoakpnlohiaaC1
import Derived.Test.YtoceoakpnlohiaaC2
import Derived.Test.YtoceoakpnlohiaaT1
import Derived.Test.YtoceoakpnlohiaaT2
import Derived.Test.YtoceoakpnlohiaaT3
import Derived.Test.YtoceoakpnlohiaaT4
import Derived.Test.YtoceoakpnlohiaaC3
import Derived.Test.YtoceoakpnlohiaaC4
import Derived.Test.YtoceoakpnlohiaaD1
import Derived.Test.YtoceoakpnlohiaaH1
import Derived.Test.YtoceoakpnlohiaaRows
namespace Go.Proofs.Ytoceoakpnlohiaa
open Go.RowKit
set_option linter.unusedVariables false
set_option maxRecDepth 100000
section
variable {α : Type} {size : Nat} {enc : α → List Value} {l : List α} {i n : Nat} {x : α} {cur : Array Value}
theorem Chg.drew {bs : List Nat} {w w' : World} (h : Chg bs w w') : Chg bs w w'.drew := ⟨h.os, h.tape, h.output, h.size, h.block⟩
theorem spl_list (cur : Array Value) (o : Nat) (cs : List Value) : (spl cur o cs).toList = cur.toList.take o ++ cs ++ cur.toList.drop (o + cs.length) := by simp [spl]
theorem ins_a (hE : Enc size enc) (hl : l.length = n) (hi : i ≤ n) (hT : cur.toList.take (i * size) = (l.take i).flatMap enc) (hs : (n + 1) * size ≤ cur.size) :
    (spl (spl cur ((i + 1) * size) ((l.drop i).flatMap enc)) (i * size) (enc x)).toList.take ((n + 1) * size) = (l.take i ++ x :: l.drop i).flatMap enc := by
  have hD : ((l.drop i).flatMap enc).length = (n - i) * size := by rw [flat_len hE, List.length_drop, hl]
  have hX := hE.len x
  have e1 : (i + 1) * size = i * size + size := Nat.succ_mul _ _
  have e2 : (n + 1) * size = i * size + size + (n - i) * size := by rw [← e1, ← Nat.add_mul]; congr 1; omega
  have hTl : (cur.toList.take (i * size)).length = i * size := by rw [List.length_take, Array.length_toList]; omega
  have hTl' : (cur.toList.take ((i + 1) * size)).length = (i + 1) * size := by rw [List.length_take, Array.length_toList]; omega
  have hgoal : (l.take i ++ x :: l.drop i).flatMap enc = (cur.toList.take (i * size) ++ enc x) ++ (l.drop i).flatMap enc := by
    rw [List.flatMap_append, List.flatMap_cons, hT]; simp
  rw [spl_list, spl_list, hgoal, hX]
  have t1 : (cur.toList.take ((i + 1) * size) ++ (l.drop i).flatMap enc ++ cur.toList.drop ((i + 1) * size + ((l.drop i).flatMap enc).length)).take (i * size) = cur.toList.take (i * size) := by
    rw [List.append_assoc, List.take_append_of_le_length (by rw [hTl']; omega), List.take_take, Nat.min_eq_left (by omega)]
  have t2 : (cur.toList.take ((i + 1) * size) ++ (l.drop i).flatMap enc ++ cur.toList.drop ((i + 1) * size + ((l.drop i).flatMap enc).length)).drop (i * size + size) = (l.drop i).flatMap enc ++ cur.toList.drop ((i + 1) * size + ((l.drop i).flatMap enc).length) := by
    rw [List.append_assoc, ← e1]
    exact List.drop_left' hTl'
  rw [t1, t2, ← List.append_assoc]
  have hlen : (cur.toList.take (i * size) ++ enc x ++ (l.drop i).flatMap enc).length = (n + 1) * size := by rw [List.length_append, List.length_append, hTl, hX, hD, e2]
  rw [← hlen]
  exact List.take_left
theorem ins_b (hE : Enc size enc) (hl : l.length = n) (hi : i ≤ n) (hT : cur.toList.take (i * size) = (l.take i).flatMap enc) (hs : (n + 1) * size ≤ cur.size) :
    (spl (spl cur (i * size) (enc x)) ((i + 1) * size) ((l.drop i).flatMap enc)).toList.take ((n + 1) * size) = (l.take i ++ x :: l.drop i).flatMap enc := by
  have hD : ((l.drop i).flatMap enc).length = (n - i) * size := by rw [flat_len hE, List.length_drop, hl]
  have hX := hE.len x
  have e1 : (i + 1) * size = i * size + size := Nat.succ_mul _ _
  have e2 : (n + 1) * size = i * size + size + (n - i) * size := by rw [← e1, ← Nat.add_mul]; congr 1; omega
  have hTl : (cur.toList.take (i * size)).length = i * size := by rw [List.length_take, Array.length_toList]; omega
  have hgoal : (l.take i ++ x :: l.drop i).flatMap enc = (cur.toList.take (i * size) ++ enc x) ++ (l.drop i).flatMap enc := by
    rw [List.flatMap_append, List.flatMap_cons, hT]; simp
  rw [spl_list, spl_list, hgoal, hX]
  have hTX : (cur.toList.take (i * size) ++ enc x).length = (i + 1) * size := by rw [List.length_append, hTl, hX, e1]
  have t1 : (cur.toList.take (i * size) ++ enc x ++ cur.toList.drop (i * size + size)).take ((i + 1) * size) = cur.toList.take (i * size) ++ enc x := by
    rw [← hTX]; exact List.take_left
  rw [t1]
  have hlen : (cur.toList.take (i * size) ++ enc x ++ (l.drop i).flatMap enc).length = (n + 1) * size := by rw [List.length_append, hTX, hD, e2, e1]
  rw [← hlen]
  exact List.take_left
end
theorem src_Field (x : Fld) (vb : Nat) (w : World) (hv : w.heap[vb]? = some (.cells (eFld x).toArray 46 (0, 0))) : Src 2 eFld w (some ⟨vb, 0, none⟩) 1 [x] :=
  Src.of_cells (blk_lt hv) fun j u hu => by rw [Addr.add_lit, Nat.zero_add, blk_cell? hv]; simpa using hu
set_option maxHeartbeats 3200000 in
theorem slices_Insert_Field_end (A : Option Addr) (n c i : Nat) (l : List Fld) (x : Fld) (vb vd B : Nat) (w : World) (h : FRow 46 2 eFld w B A n c l) (hn : n ≤ 1073741824) (hB : B ≤ w.heap.size) (hv : w.heap[vb]? = some (.cells (eFld x).toArray 46 (0, 0))) (hvb : vb ∉ rowBs A c) (hi : i = n) :
    Calls Try.prog 71 #[.slice A n c, .int .i64 i, .slice (some ⟨vb, 0, none⟩) 1 vd] w fun e' w' => ∃ A' c', e' = .returned (.slice A' (n + 1) c') ∧ FRow 46 2 eFld w' B A' (n + 1) c' (l.take i ++ x :: l.drop i) ∧ Chg (rowBs A c) w w' ∧ ∀ b ∈ rowBs A' c', b ∈ rowBs A c ∨ w.heap.size ≤ b := by
  subst hi
  obtain ⟨ii, hi, hi0, hi1, hi2⟩ := info_parts info_Field
  have hle := h.le
  have e1 : l.take i ++ x :: l.drop i = l ++ [x] := by rw [List.take_of_length_le (by rw [h.len]; exact Nat.le_refl _), List.drop_of_length_le (by rw [h.len]; exact Nat.le_refl _)]
  rw [e1]
  have HR := Lib.hid h
  have HS := Lib.hid (src_Field x vb w hv)
  have HP := Lib.hid hB
  have i0 : (0 : Int) ≤ (i : Int) := by omega
  have i1 : (i : Int) ≤ (c : Int) := by omega
  clear h hv hvb e1 hB
  by_cases hci : c = i
  all_goals
    go_enter Try.func71, Try.ntmps71
    go_wp2_with (at_builtin; refine wpList_append_row rfl _ _ _ rfl encFld Try.underlying29 hi hi0 hi1 hi2 rfl rfl rfl HR.out HS.out (by unfold maxLen; omega) (by omega) HP.out ?_; intro A2 c2 w2 hr2 hc2 hx2; have HR2 := Lib.hid (And.intro hr2 (And.intro hc2 hx2)); clear hr2 hc2 hx2)
    go_returns
    exact ⟨A2, c2, rfl, HR2.out.1, HR2.out.2.1, HR2.out.2.2⟩
set_option maxHeartbeats 6400000 in
theorem slices_Insert_Field_room (A : Option Addr) (n c i : Nat) (l : List Fld) (x : Fld) (vb vd B : Nat) (w : World) (h : FRow 46 2 eFld w B A n c l) (hn : n ≤ 1073741824) (hB : B ≤ w.heap.size) (hv : w.heap[vb]? = some (.cells (eFld x).toArray 46 (0, 0))) (hvb : vb ∉ rowBs A c) (hi : i < n) (hroom : n + 1 ≤ c) :
    Calls Try.prog 71 #[.slice A n c, .int .i64 i, .slice (some ⟨vb, 0, none⟩) 1 vd] w fun e' w' => ∃ A' c', e' = .returned (.slice A' (n + 1) c') ∧ FRow 46 2 eFld w' B A' (n + 1) c' (l.take i ++ x :: l.drop i) ∧ Chg (rowBs A c) w w' ∧ ∀ b ∈ rowBs A' c', b ∈ rowBs A c ∨ w.heap.size ≤ b := by
  obtain ⟨ii, hin, hi0, hi1, hi2⟩ := info_parts info_Field
  have hcb : c ≤ 9223372036854775807 := by have := h.2.2.1; unfold maxLen at this; exact this
  obtain ⟨g, rfl, hBg, hgw, hrb, cur, hcur, hcs, hct⟩ := h.row (by omega)
  have hln := h.len
  have hT : cur.toList.take (i * 2) = (l.take i).flatMap eFld := by
    rw [← flat_take encFld, ← hct, List.take_take, Nat.min_eq_left (Nat.mul_le_mul_right _ (by omega))]
  have hneb : vb ≠ g := by rw [hrb] at hvb; simpa using hvb
  have hvlt := blk_lt hv
  have hle1 : (n + 1) * 2 ≤ cur.size := by rw [hcs]; exact Nat.mul_le_mul_right _ hroom
  have HFIN := Lib.hid (ins_a (x := x) encFld hln (by omega) hT hle1)
  obtain ⟨D, hD⟩ : ∃ D, D = (l.drop i).flatMap eFld := ⟨_, rfl⟩
  have hDl : D.length = (n - i) * 2 := by rw [hD, flat_len encFld, List.length_drop, hln]
  have hD1 : ∀ u ∈ D, u.oneCell' = true := by rw [hD]; exact flat_one encFld _
  have hDc : ∀ (w' : World), w'.heap[g]? = w.heap[g]? → ∀ j u, D[j]? = some u → w'.cell? ((⟨g, i * 2, none⟩ : Addr).add j) = some u := fun w' hw j u hu => by
    have hjl : j < (n - i) * 2 := by rw [← hDl]; exact (List.getElem?_eq_some_iff.1 hu).1
    rw [Addr.add_lit, blk_cell? (hw.trans hcur)]
    have e1 : (cur.toList.take (n * 2))[i * 2 + j]? = some u := by
      rw [hct, ← List.getElem?_drop, flat_drop encFld, ← hD]; exact hu
    rw [List.getElem?_take_of_lt (by omega), Array.getElem?_toList] at e1
    exact e1
  rw [← hD] at HFIN
  have hov : ∀ (w' : World), w'.heap[g]? = w.heap[g]? → w'.heap[vb]? = w.heap[vb]? → ∀ lb cb, (callFunc 129 #[.slice (some ⟨vb, 0, none⟩) 1 vd, .slice (some ⟨g, (i + 1) * 2, none⟩) lb cb]).run Try.prog w' = .ok (.value (.bool false)) w' := fun w' hw hw2 lb cb => by
    rw [run_callFunc_extern Try.func129 (by kernel_rfl) (by kernel_rfl) (by kernel_rfl) (e := Extern.SlicesOverlaps.overlaps #[29, 29] #[4]) (by kernel_rfl),
      Lib.run_overlaps_apart w' 29 4 46 Try.underlying29 2 (fun _ => by kernel_rfl) ⟨vb, 0, none⟩ ⟨g, (i + 1) * 2, none⟩ 1 vd lb cb hneb 46 46 (eFld x).toArray.size cur.size (by simp [World.shape?, hw2.trans hv]) (by simp [World.shape?, hw.trans hcur]) (by omega) (blk_free (hw2.trans hv) _) (blk_free (hw2.trans hv) _)]
    rfl
  have HOV := Lib.hid hov
  have HDC := Lib.hid hDc
  have HCUR := Lib.hid hcur
  have HD1 := Lib.hid (And.intro hDl hD1)
  have HV := Lib.hid hv
  have HX := Lib.hid (And.intro hct (And.intro hT hcs))
  have hov0 := hov w rfl rfl
  have HLN := Lib.hid hln
  rw [hrb]
  clear h hct hT hov hDc hcur hv hvb hD hDl hD1 hln hcs hrb
  have z1 : (0 : Int) ≤ (i : Int) := by omega
  have z2 : (i : Int) ≤ (c : Int) := by omega
  have z3 : ((i : Int) == (n : Int)) = false := by simp; omega
  have z4 : (i : Int) ≤ (n : Int) := by omega
  have z5 : ¬ (c = i) := by omega
  have z6 : ¬ (c = i + 1) := by omega
  have z7 : (n : Int) + 1 ≤ (c : Int) := by omega
  go_enter Try.func71, Try.ntmps71
  go_wp2_with fail
  have w1 : IntKind.i64.wrap ((i : Int) + 1) = (i : Int) + 1 := IntWalk.i64_in _ (by omega)
  have w2 : (0 : Int) ≤ (i : Int) + 1 := by omega
  have w3 : ((i : Int) + 1).toNat = i + 1 := by omega
  have w4 : (i : Int) + 1 ≤ (n : Int) + 1 := by omega
  have w5 : (i : Int) ≤ (n : Int) + 1 := by omega
  go_region_law (refine step_copy_raw rfl (.tmp 73) (.tmp 76) rfl Try.underlying29 hin hi1 (g := g) (off := (i + 1) * 2) (dLen := n + 1 - (i + 1)) (dCap := c - (i + 1)) (sLen := n + 1 - i) (sCap := c - i) (ad := ⟨g, i * 2, none⟩) (cs := D) (m := n - i) (by simp [Act.eval, Act.put]) (by simp [Act.eval, Act.put]) ((Nat.min_eq_right (by omega)).trans (by omega)) HD1.out.1 HCUR.out (HDC.out _ rfl) (by rw [HD1.out.1]; omega) HD1.out.2 ?_; intro w6 hg6 hc6 hs6)
  have hv6 : w6.heap[vb]? = some (.cells (eFld x).toArray 46 (0, 0)) := (hc6.block vb hvlt (by simpa using hneb)).trans HV.out
  have HV6 := Lib.hid hv6
  have HC6 := Lib.hid hc6
  clear hv6 hc6
  go_wp2_with (refine wpList_copy_raw rfl _ _ rfl Try.underlying29 hin hi1 (g := g) (off := i * 2) (cs := eFld x) (m := 1) rfl rfl (Nat.min_eq_left (by omega)) (by rw [encFld.len]) hg6.out (fun j u hu => by rw [Addr.add_lit, Nat.zero_add, blk_cell? HV6.out]; simpa using hu) (by rw [encFld.len, spl_size (by rw [HD1.out.1]; omega)]; omega) (encFld.one x) ?_; intro w7 hg7 hc7 hs7; have HC7 := Lib.hid hc7; clear hc7)
  go_returns
  have hch := HC6.out.trans HC7.out
  refine ⟨some ⟨g, 0, none⟩, c, rfl, ⟨by rw [List.length_append, List.length_cons, List.length_take, List.length_drop, HLN.out]; omega, hroom, by unfold maxLen; omega, .inr ⟨g, _, rfl, hBg, hg7.out, ?_, HFIN.out⟩⟩, ⟨hch.os, hch.tape, hch.output, hch.size, hch.block⟩, fun b hb => .inl (by rw [rowBs_pos (by omega)] at hb; exact hb)⟩
  rw [spl_size (by rw [encFld.len, spl_size (by rw [HD1.out.1]; omega)]; omega), spl_size (by rw [HD1.out.1]; omega)]
  exact HX.out.2.2
set_option maxHeartbeats 6400000 in
theorem slices_Insert_Field_grow (A : Option Addr) (n c i : Nat) (l : List Fld) (x : Fld) (vb vd B : Nat) (w : World) (h : FRow 46 2 eFld w B A n c l) (hn : n ≤ 1073741824) (hB : B ≤ w.heap.size) (hv : w.heap[vb]? = some (.cells (eFld x).toArray 46 (0, 0))) (hvb : vb ∉ rowBs A c) (hi : i < n) (hroom : c < n + 1) :
    Calls Try.prog 71 #[.slice A n c, .int .i64 i, .slice (some ⟨vb, 0, none⟩) 1 vd] w fun e' w' => ∃ A' c', e' = .returned (.slice A' (n + 1) c') ∧ FRow 46 2 eFld w' B A' (n + 1) c' (l.take i ++ x :: l.drop i) ∧ Chg (rowBs A c) w w' ∧ ∀ b ∈ rowBs A' c', b ∈ rowBs A c ∨ w.heap.size ≤ b := by
  obtain ⟨ii, hin, hi0, hi1, hi2⟩ := info_parts info_Field
  have hle := h.le
  obtain rfl : n = c := by omega
  obtain ⟨g, rfl, hBg, hgw, hrb, cur, hcur, hcs, hct⟩ := h.row (by omega)
  have hln := h.len
  have hvlt := blk_lt hv
  obtain ⟨D, hD⟩ : ∃ D, D = (l.drop i).flatMap eFld := ⟨_, rfl⟩
  obtain ⟨E0, hE0⟩ : ∃ D, D = (l.take i).flatMap eFld := ⟨_, rfl⟩
  have hDl : D.length = (n - i) * 2 := by rw [hD, flat_len encFld, List.length_drop, hln]
  have hEl : E0.length = i * 2 := by rw [hE0, flat_len encFld, List.length_take, hln]; congr 1; omega
  have hD1 : ∀ u ∈ D, u.oneCell' = true := by rw [hD]; exact flat_one encFld _
  have hcell : ∀ (w' : World), w'.heap[g]? = w.heap[g]? → ∀ q u, (l.flatMap eFld)[q]? = some u → w'.cell? ⟨g, q, none⟩ = some u := fun w' hw q u hu => by
    have hql : q < n * 2 := by rw [← hln, ← flat_len encFld]; exact (List.getElem?_eq_some_iff.1 hu).1
    rw [blk_cell? (hw.trans hcur)]
    have e1 : (cur.toList.take (n * 2))[q]? = some u := by rw [hct]; exact hu
    rw [List.getElem?_take_of_lt hql, Array.getElem?_toList] at e1
    exact e1
  have hDc : ∀ (w' : World), w'.heap[g]? = w.heap[g]? → ∀ j u, D[j]? = some u → w'.cell? ((⟨g, i * 2, none⟩ : Addr).add j) = some u := fun w' hw j u hu => by
    rw [Addr.add_lit]
    exact hcell w' hw _ u (by rw [← List.getElem?_drop, flat_drop encFld, ← hD]; exact hu)
  have hEc : 0 < i → ∃ a, (some ⟨g, 0, none⟩ : Option Addr) = some a ∧ ∀ j u, E0[j]? = some u → w.cell? (a.add j) = some u := fun _ => ⟨_, rfl, fun j u hu => by
    rw [Addr.add_lit, Nat.zero_add]
    have hjl : j < i * 2 := by rw [← hEl]; exact (List.getElem?_eq_some_iff.1 hu).1
    refine hcell w rfl _ u ?_
    rw [hE0, ← flat_take encFld, List.getElem?_take_of_lt hjl] at hu
    exact hu⟩
  have HFIN := Lib.hid fun (cur2 : Array Value) (h1 : cur2.toList.take (i * 2) = E0) (h2 : (n + 1) * 2 ≤ cur2.size) => by have hh := ins_b (x := x) (cur := cur2) encFld hln (Nat.le_of_lt hi) (h1.trans hE0) h2; rw [← hD] at hh; exact hh
  have HDC := Lib.hid hDc
  have HEC := Lib.hid hEc
  have HD1 := Lib.hid (And.intro hDl hD1)
  have HEL := Lib.hid hEl
  have HV := Lib.hid hv
  have HLN := Lib.hid hln
  have HB := Lib.hid hB
  rw [hrb]
  clear h hct hDc hEc hcell hcur hv hvb hD hE0 hDl hEl hD1 hln hcs hrb hle hB
  have z1 : (0 : Int) ≤ (i : Int) := by omega
  have z3 : ((i : Int) == (n : Int)) = false := by simp; omega
  have z4 : (i : Int) ≤ (n : Int) := by omega
  have z5 : ¬ (n = i) := by omega
  have z8 : (0 : Int) ≤ (n : Int) + 1 - (i : Int) := by omega
  go_enter Try.func71, Try.ntmps71
  go_wp2_with (first
    | (at_builtin; refine wpList_append_zeros rfl _ _ rfl Try.underlying29 Try.underlying3 hin hi0 hi1 hi2 rfl (by omega) (m := n + 1 - i) (olds := E0) rfl (show Value.int IntKind.i64 ((n : Int) + 1 - (i : Int)) = .int .i64 (((n + 1 - i : Nat) : Int)) by rw [show ((n : Int) + 1 - (i : Int)) = ((n + 1 - i : Nat) : Int) by omega]) HEL.out HEC.out (by omega) (by omega) (by omega) (by omega) (by omega) (by omega) ?_; intro c2 cur2 w2 hge2 hcm2 hrow2 hb2 hlt2; have eL : i + (n + 1 - i) = n + 1 := (by omega); rw [eL] at hge2; have z9 : (i : Int) ≤ (n : Int) + 1 := (by omega); have z10 : ¬ (c2 = i) := (by omega); have z11 : ¬ (c2 = i + 1) := (by omega); have hv2 := Lib.hid ((hb2.block vb hvlt).trans HV.out); have hvl2 := Nat.lt_trans hvlt hlt2)
    | (refine wpList_copy_raw rfl _ _ rfl Try.underlying29 hin hi1 (g := w.heap.size) (off := i * 2) (cs := eFld x) (m := 1) rfl rfl (Nat.min_eq_left (by omega)) (by rw [encFld.len]) hrow2.out.1 (fun j u hu => by rw [Addr.add_lit, Nat.zero_add, blk_cell? hv2.out]; simpa using hu) (by rw [encFld.len, hrow2.out.2.1]; omega) (encFld.one x) ?_; intro w3 hg3 hc3 hs3; have HC3 := Lib.hid hc3; clear hc3))
  have w1 : IntKind.i64.wrap ((i : Int) + 1) = (i : Int) + 1 := IntWalk.i64_in _ (by omega)
  have w2' : (0 : Int) ≤ (i : Int) + 1 := by omega
  have w3' : ((i : Int) + 1).toNat = i + 1 := by omega
  have w4 : (i : Int) + 1 ≤ (n : Int) + 1 := by omega
  have hg3' : w3.heap[g]? = w.heap[g]? := (HC3.out.block g (Nat.lt_trans hgw hlt2) (by simp; omega)).trans (hb2.block g hgw)
  have HG3 := Lib.hid hg3'
  clear hg3'
  go_region_law (refine step_copy_raw rfl (.tmp 50) (.tmp 53) rfl Try.underlying29 hin hi1 (g := w.heap.size) (off := (i + 1) * 2) (dLen := n + 1 - (i + 1)) (dCap := c2 - (i + 1)) (sLen := n - i) (sCap := n - i) (ad := ⟨g, i * 2, none⟩) (cs := D) (m := n - i) (by simp [Act.eval, Act.put]) (by simp [Act.eval, Act.put]) ((Nat.min_eq_left (by omega)).trans rfl) HD1.out.1 hg3.out (HDC.out _ HG3.out) (by rw [HD1.out.1, spl_size (by rw [encFld.len, hrow2.out.2.1]; omega), hrow2.out.2.1]; omega) HD1.out.2 ?_; intro w6 hg6 hc6 hs6)
  have HC6 := Lib.hid hc6
  clear hc6
  go_wp2_with fail
  go_returns
  have hsz : (spl (spl cur2 (i * 2) (eFld x)) ((i + 1) * 2) D).size = c2 * 2 := by
    rw [spl_size (by rw [HD1.out.1, spl_size (by rw [encFld.len, hrow2.out.2.1]; omega), hrow2.out.2.1]; omega), spl_size (by rw [encFld.len, hrow2.out.2.1]; omega), hrow2.out.2.1]
  have hch : Chg [w.heap.size] w w6 := ((Chg.of_below _ hb2).trans HC3.out).drew.trans HC6.out
  refine ⟨some ⟨w.heap.size, 0, none⟩, c2, rfl, ⟨by rw [List.length_append, List.length_cons, List.length_take, List.length_drop, HLN.out]; omega, hge2, hcm2, .inr ⟨w.heap.size, _, rfl, HB.out, hg6.out, hsz, HFIN.out _ hrow2.out.2.2 (by rw [hrow2.out.2.1]; omega)⟩⟩, hch.new_ (Nat.le_refl _) |>.mono (fun b hb => by simp at hb), fun b hb => .inr (by rw [rowBs_pos (by omega)] at hb; simp at hb; omega)⟩
theorem slices_Insert_Field (A : Option Addr) (n c i : Nat) (l : List Fld) (x : Fld) (vb vd B : Nat) (w : World) (h : FRow 46 2 eFld w B A n c l) (hn : n ≤ 1073741824) (hB : B ≤ w.heap.size) (hv : w.heap[vb]? = some (.cells (eFld x).toArray 46 (0, 0))) (hvb : vb ∉ rowBs A c) (hi : i ≤ n) :
    Calls Try.prog 71 #[.slice A n c, .int .i64 i, .slice (some ⟨vb, 0, none⟩) 1 vd] w fun e' w' => ∃ A' c', e' = .returned (.slice A' (n + 1) c') ∧ FRow 46 2 eFld w' B A' (n + 1) c' (l.take i ++ x :: l.drop i) ∧ Chg (rowBs A c) w w' ∧ ∀ b ∈ rowBs A' c', b ∈ rowBs A c ∨ w.heap.size ≤ b := by
  by_cases h1 : i = n
  · exact slices_Insert_Field_end A n c i l x vb vd B w h hn hB hv hvb h1
  · by_cases h2 : n + 1 ≤ c
    · exact slices_Insert_Field_room A n c i l x vb vd B w h hn hB hv hvb (by omega) h2
    · exact slices_Insert_Field_grow A n c i l x vb vd B w h hn hB hv hvb (by omega) (by omega)
end Go.Proofs.Ytoceoakpnlohiaa
