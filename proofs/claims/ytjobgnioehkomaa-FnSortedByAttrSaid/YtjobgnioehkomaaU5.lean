/-
  CONTRACTS: the program's SortedByAttr, RangeByAttr, MinByAttr.
-/
import Derived.WalkKit
import Derived.WalkSpells
import Derived.WalkLawsBesides
import Derived.Lib.Hide
import Derived.Handy
import Derived.StillTailTactics
import Derived.Deep.Light
import Derived.Deep.QuietTactic
import Derived.BigQuiet
import Derived.Deep.RegionHeld3
import Derived.Deep.DeepCutAuto
import Derived.Test.YtjobgnioehkomaaLib
import Derived.Test.YtjobgnioehkomaaOwn
import Derived.Test.YtjobgnioehkomaaRow
import Derived.Test.YtjobgnioehkomaaN0
import Derived.Test.YtjobgnioehkomaaRaw
import Derived.Test.YtjobgnioehkomaaHld
import Derived.Test.YtjobgnioehkomaaHl2
import Derived.Test.YtjobgnioehkomaaHl3
import Derived.Test.YtjobgnioehkomaaM0
import Derived.Test.YtjobgnioehkomaaC1
import Derived.Test.YtjobgnioehkomaaC2
import Derived.Test.YtjobgnioehkomaaT1
import Derived.Test.YtjobgnioehkomaaT2
import Derived.Test.YtjobgnioehkomaaT3
import Derived.Test.YtjobgnioehkomaaT4
import Derived.Test.YtjobgnioehkomaaC3
import Derived.Test.YtjobgnioehkomaaC4
import Derived.Test.YtjobgnioehkomaaC5
import Derived.Test.YtjobgnioehkomaaD1
import Derived.Test.YtjobgnioehkomaaD3
import Derived.Test.YtjobgnioehkomaaH1
import Derived.Test.YtjobgnioehkomaaU0
import Derived.Test.YtjobgnioehkomaaU1
import Derived.Test.YtjobgnioehkomaaU2
import Derived.Test.YtjobgnioehkomaaU3
import Derived.Test.YtjobgnioehkomaaU4
import Derived.Test.YtjobgnioehkomaaRows
namespace Go.Proofs.Ytjobgnioehkomaa
open Go.RowKit
set_option linter.unusedVariables false
set_option maxRecDepth 100000
theorem Sl.zheads {w : World} {A : Option Addr} {n : Nat} {l : List Fil} (h : Sl 5 RFil w A n l) : ∃ zs : List HF, zs.map (·.2) = l ∧ Sl 5 RFh w A n (zs.map (·.1)) ∧ ∀ p ∈ zs, p.1.is w p.2 := by
  obtain ⟨hs, h1, h2, h3⟩ := h.fheads
  refine ⟨hs.zip l, by rw [List.map_snd_zip]; omega, by rw [List.map_fst_zip (by omega)]; exact h2, fun p hp => ?_⟩
  obtain ⟨i, hi, rfl⟩ := List.getElem_of_mem hp
  rw [List.length_zip] at hi
  rw [List.getElem_zip]
  exact h3 i (by omega) (by omega)
def sortedI (nm : ByteArray) (fs : List Fil) : List Int := (sortF nm fs).map (·.id)
def rangeI (nm : ByteArray) (lo hi : Int) (fs : List Fil) : List Int := ((sortF nm fs).filter fun f => inB (intA f.attrs nm) lo hi).map (·.id)
theorem sortedI_len (nm : ByteArray) (fs : List Fil) : (sortedI nm fs).length ≤ fs.length := by unfold sortedI sortF; rw [List.length_map, srt_len]; exact List.length_filter_le _ _
theorem rangeI_len (nm : ByteArray) (lo hi : Int) (fs : List Fil) : (rangeI nm lo hi fs).length ≤ fs.length := by
  unfold rangeI sortF; rw [List.length_map]
  exact Nat.le_trans (List.length_filter_le _ _) (by rw [srt_len]; exact List.length_filter_le _ _)
theorem sortZ_ids {w : World} {nm : ByteArray} {zs : List HF} (h : ∀ p ∈ zs, p.1.is w p.2) : (sortZ nm zs).map (fun p => p.1.id) = sortedI nm (zs.map (·.2)) := by
  unfold sortedI
  rw [← sortZ_map, List.map_map]
  exact List.map_congr_left fun p hp => (h p (sortZ_mem hp).1).1
theorem sortZ_range {w : World} {nm : ByteArray} {lo hi : Int} {zs : List HF} (h : ∀ p ∈ zs, p.1.is w p.2) : ((sortZ nm zs).filter fun p => inB (intZ nm p) lo hi).map (fun p => p.1.id) = rangeI nm lo hi (zs.map (·.2)) := by
  unfold rangeI
  rw [← sortZ_map, List.filter_map, List.map_map]
  exact List.map_congr_left fun p hp => (h p (sortZ_mem (List.mem_filter.1 hp).1).1).1
set_option maxHeartbeats 3200000 in
theorem impl_SortedByAttr (s : Sto) (A : Option Addr) (n c : Nat) (B : Option Addr) (m d : Nat) (nm : ByteArray) (w : World) (hT : Sl 5 RFil w B m s.files) (hm : m ≤ 1073741824) (hok : s.ok 1073741824) :
    Calls Try.prog 48 #[s.v A n c B m d, .string nm] w (NewRow id 3 1 eInt w (sortedI nm s.files)) := by
  obtain ⟨zs, hz1, hz2, hz3⟩ := hT.zheads
  obtain ⟨ii, hi, hi0, hi1, hi2⟩ := info_parts info_int
  have hzl : zs.length = m := by have := hz2.len; simpa using this
  have hsl := sortZ_len nm zs
  have HC := Lib.hid fun w' (hb : Below w.heap.size w w') => impl_filesByAttr s A n c B m d nm w' zs (hz2.mono mFh hb) (fun p hp => (hz3 p hp).mono hb) hm (fun p hp => (hok.2.2.2 p.2 (by rw [← hz1]; exact List.mem_map_of_mem hp)).1)
  have HE := Lib.hid (show (sortZ nm zs).map (fun p => p.1.id) = sortedI nm s.files by rw [← hz1]; exact sortZ_ids hz3)
  clear hT hok hz1 hz2 hz3
  go_enter Try.func48, Try.ntmps48
  go_wp2_with fail
  refine (HC.out _ (by go_grown)).mono ?_; rintro e w1 ⟨A1, c1, rfl, hS1, hb1⟩
  have HB1 := Lib.hid (ex_trans (w := w) (by go_grown) hb1)
  have hz1 : w.heap.size ≤ w1.heap.size := HB1.out.size
  generalize sortZ nm zs = Z at *
  clear hb1
  go_wp2_with fail
  go_loopw [5, 13] (fun v i wr => ∃ k : Nat, k ≤ Z.length ∧ i = .int .i64 k ∧ AppB 3 1 eInt w1 w1.heap.size k ((Z.take k).map (fun p => p.1.id)) v wr) (fun _ i _ => Z.length - (intOf i).toNat)
  case atStart => exact ⟨0, Nat.zero_le _, rfl, _, _, rfl, FRow.any0 _ _ _ _ _ _, Below.refl _ _⟩
  case round =>
    obtain ⟨k, hk, rfl, A2, c2, rfl, hrow, hb⟩ := hrel
    by_cases hlt : k < Z.length
    · obtain ⟨g, off, rfl, bw, bc⟩ := hS1.fh (by omega)
      obtain ⟨x0, x1, x2, x3, x4⟩ := bc k (by rw [List.length_map]; exact hlt)
      rw [← hb.cell (p := ⟨g, _, none⟩) bw] at x0 x1 x2 x3 x4
      simp only [List.getElem_map] at x0 x1 x2 x3 x4
      have i0 : (0 : Int) ≤ (k : Int) := by omega
      have i1 : (k : Int) < (Z.length : Int) := by omega
      have HR := Lib.hid hrow
      have HT := Lib.hid (take_map_succ (fun p : HF => p.1.id) Z hlt)
      have hbz := hb.size
      have HB2 := Lib.hid hb
      clear bc hrow hb
      go_wp2_with (at_builtin; refine wpList_append_row rfl _ _ _ rfl encInt Try.underlying24 hi hi0 hi1 hi2 rfl rfl rfl (HR.out.below (by go_grown)) (src1 encInt _ Z[k].1.id _ (by simp) rfl) (by unfold maxLen; omega) (by omega) (by simp; omega) ?_; intro A3 c3 w3 hr3 hc3 hx3)
      have HR3 := Lib.hid (show AppB 3 1 eInt w1 w1.heap.size (k + 1) ((Z.take (k + 1)).map (fun p => p.1.id)) (.slice A3 (k + 1) c3) w3 from ⟨A3, c3, rfl, by rw [HT.out]; exact hr3, Below.mark (ex_trans HB2.out (by go_grown)) hc3 (by simp; omega) (fun b hb' => (HR.out.base b hb').1)⟩)
      clear hr3 hc3 hx3
      go_wp2_with fail
      go_roundw
      case rel => exact ⟨k + 1, by omega, by go_num, HR3.out⟩
      case measure => simp [intOf]; omega
    · obtain rfl : k = Z.length := by omega
      rw [List.take_length, HE.out] at hrow
      have HR := Lib.hid (hrow.re (B' := w.heap.size) (fun b hb => Nat.le_trans hz1 (hrow.base b hb).1))
      have HB2 := Lib.hid hb
      have hl : (sortedI nm s.files).length = Z.length := hrow.len
      clear hrow hb
      go_wp2_with fail
      go_returns
      refine ⟨A2, c2, by rw [hl]; rfl, by rw [hl]; exact HR.out, HB1.out.trans (HB2.out.mono hz1)⟩
set_option maxHeartbeats 6400000 in
theorem impl_RangeByAttr (s : Sto) (A : Option Addr) (n c : Nat) (B : Option Addr) (m d : Nat) (nm : ByteArray) (lo hi : Int) (w : World) (hT : Sl 5 RFil w B m s.files) (hm : m ≤ 1073741824) (hok : s.ok 1073741824) :
    Calls Try.prog 57 #[s.v A n c B m d, .string nm, .int .i64 lo, .int .i64 hi] w (NewRow id 3 1 eInt w (rangeI nm lo hi s.files)) := by
  obtain ⟨zs, hz1, hz2, hz3⟩ := hT.zheads
  obtain ⟨ii, hi', hi0, hi1, hi2⟩ := info_parts info_int
  have hzl : zs.length = m := by have := hz2.len; simpa using this
  have hsl := sortZ_len nm zs
  have HC := Lib.hid fun w' (hb : Below w.heap.size w w') => impl_filesByAttr s A n c B m d nm w' zs (hz2.mono mFh hb) (fun p hp => (hz3 p hp).mono hb) hm (fun p hp => (hok.2.2.2 p.2 (by rw [← hz1]; exact List.mem_map_of_mem hp)).1)
  have HE := Lib.hid (show ((sortZ nm zs).filter fun p => inB (intZ nm p) lo hi).map (fun p => p.1.id) = rangeI nm lo hi s.files by rw [← hz1]; exact sortZ_range hz3)
  have HP := Lib.hid fun (p : HF) (hp : p ∈ sortZ nm zs) => And.intro (hz3 p (sortZ_mem hp).1) (hok.2.2.2 p.2 (by rw [← hz1]; exact List.mem_map_of_mem (sortZ_mem hp).1)).1
  clear hT hok hz1 hz2 hz3
  go_enter Try.func57, Try.ntmps57
  go_wp2_with fail
  refine (HC.out _ (by go_grown)).mono ?_; rintro e w1 ⟨A1, c1, rfl, hS1, hb1⟩
  have HB1 := Lib.hid (ex_trans (w := w) (by go_grown) hb1)
  have hz1 : w.heap.size ≤ w1.heap.size := HB1.out.size
  generalize sortZ nm zs = Z at *
  clear hb1
  go_wp2_with fail
  go_loopw [9, 19] (fun v i wr => ∃ k q : Nat, k ≤ Z.length ∧ q ≤ k ∧ i = .int .i64 k ∧ AppB 3 1 eInt w1 w1.heap.size q (((Z.take k).filter fun p => inB (intZ nm p) lo hi).map (fun p => p.1.id)) v wr) (fun _ i _ => Z.length - (intOf i).toNat)
  case atStart => exact ⟨0, 0, Nat.zero_le _, Nat.le_refl _, rfl, _, _, rfl, FRow.any0 _ _ _ _ _ _, Below.refl _ _⟩
  case round =>
    obtain ⟨k, q, hk, hq, rfl, A2, c2, rfl, hrow, hb⟩ := hrel
    by_cases hlt : k < Z.length
    · obtain ⟨g, off, rfl, bw, bc⟩ := hS1.fh (by omega)
      obtain ⟨x0, x1, x2, x3, x4⟩ := bc k (by rw [List.length_map]; exact hlt)
      rw [← hb.cell (p := ⟨g, _, none⟩) bw] at x0 x1 x2 x3 x4
      simp only [List.getElem_map] at x0 x1 x2 x3 x4
      have i0 : (0 : Int) ≤ (k : Int) := by omega
      have i1 : (k : Int) < (Z.length : Int) := by omega
      obtain ⟨hpis, hpl⟩ := HP.out Z[k] (List.getElem_mem _)
      have hpis := (hpis.mono HB1.out).mono (ex_trans (Below.refl _ _) hb)
      have HI := Lib.hid fun w' (hb' : Below wr.heap.size wr w') => impl_IntAttr ⟨Z[k].1.id, Z[k].1.owner, Z[k].1.shared, Z[k].1.link, Z[k].2.attrs⟩ Z[k].1.A Z[k].1.n Z[k].1.c nm w' (hpis.2.2.2.2.mono mAtr hb') (by rw [← hpis.2.2.2.2.len]; exact hpl)
      have HR := Lib.hid hrow
      have hbz := hb.size
      have HB2 := Lib.hid hb
      clear bc hrow hb hpis hpl
      have HTK := Lib.hid (take_filter_succ (fun p : HF => inB (intZ nm p) lo hi) Z hlt)
      cases hf : inB (intZ nm Z[k]) lo hi with
      | true =>
        have HTK2 := Lib.hid (show ((Z.take (k + 1)).filter fun p => inB (intZ nm p) lo hi).map (fun p => p.1.id) = ((Z.take k).filter fun p => inB (intZ nm p) lo hi).map (fun p => p.1.id) ++ [Z[k].1.id] by rw [HTK.out]; simp only [hf]; simp)
        have hf' : inB (intA Z[k].2.attrs nm) lo hi = true := hf
        have HF' := Lib.hid hf'
        clear hf hf'
        go_wp2_with fail
        refine (HI.out _ (by go_grown)).mono ?_; rintro e w2 ⟨rfl, hb2⟩
        have hB2 := ex_trans (w := wr) (by go_grown) hb2
        have y0 := hb2.cell (p := ⟨wr.heap.size, 0, none⟩) (by simp)
        have y1 := hb2.cell (p := ⟨wr.heap.size, 1, none⟩) (by simp)
        have y2 := hb2.cell (p := ⟨wr.heap.size, 2, none⟩) (by simp)
        have y3 := hb2.cell (p := ⟨wr.heap.size, 3, none⟩) (by simp)
        have y4 := hb2.cell (p := ⟨wr.heap.size, 4, none⟩) (by simp)
        have hz2 := hb2.size
        simp at hz2
        have HR2 := Lib.hid (HR.out.below hB2)
        have HB3 := Lib.hid hB2
        clear hb2 hB2
        go_wp2_with (first | (go_at_call 82; refine (impl_within _ _ _ _).mono ?_; rintro e w' ⟨rfl, rfl⟩; rw [HF'.out]) | (at_builtin; refine wpList_append_row rfl _ _ _ rfl encInt Try.underlying24 hi' hi0 hi1 hi2 rfl rfl rfl (HR2.out.below (by go_grown)) (src1 encInt _ Z[k].1.id _ (by simp) rfl) (by unfold maxLen; omega) (by omega) (by simp; omega) ?_; intro A3 c3 w3 hr3 hc3 hx3))
        have HR3 := Lib.hid (show AppB 3 1 eInt w1 w1.heap.size (q + 1) (((Z.take (k + 1)).filter fun p => inB (intZ nm p) lo hi).map (fun p => p.1.id)) (.slice A3 (q + 1) c3) w3 from ⟨A3, c3, rfl, by rw [HTK2.out]; exact hr3, Below.mark (ex_trans (ex_trans HB2.out HB3.out) (by go_grown)) hc3 (by simp; omega) (fun b hb' => (HR.out.base b hb').1)⟩)
        clear hr3 hc3 hx3
        go_wp2_with fail
        go_roundw
        case rel => exact ⟨k + 1, q + 1, by omega, by omega, by go_num, HR3.out⟩
        case measure => simp [intOf]; omega
      | false =>
        have HTK2 := Lib.hid (show ((Z.take (k + 1)).filter fun p => inB (intZ nm p) lo hi).map (fun p => p.1.id) = ((Z.take k).filter fun p => inB (intZ nm p) lo hi).map (fun p => p.1.id) by rw [HTK.out]; simp only [hf]; simp)
        have hf' : inB (intA Z[k].2.attrs nm) lo hi = false := hf
        have HF' := Lib.hid hf'
        clear hf hf'
        go_wp2_with fail
        refine (HI.out _ (by go_grown)).mono ?_; rintro e w2 ⟨rfl, hb2⟩
        have hB2 := ex_trans (w := wr) (by go_grown) hb2
        have HR2 := Lib.hid (HR.out.below hB2)
        have HB3 := Lib.hid hB2
        clear hb2 hB2
        go_wp2_with (go_at_call 82; refine (impl_within _ _ _ _).mono ?_; rintro e w' ⟨rfl, rfl⟩; rw [HF'.out])
        go_roundw
        case rel => exact ⟨k + 1, q, by omega, by omega, by go_num, A2, c2, rfl, by rw [HTK2.out]; exact HR2.out, ex_trans HB2.out HB3.out⟩
        case measure => simp [intOf]; omega
    · obtain rfl : k = Z.length := by omega
      rw [List.take_length, HE.out] at hrow
      have HR := Lib.hid (hrow.re (B' := w.heap.size) (fun b hb => Nat.le_trans hz1 (hrow.base b hb).1))
      have HB2 := Lib.hid hb
      have hl : (rangeI nm lo hi s.files).length = q := hrow.len
      clear hrow hb
      go_wp2_with fail
      go_returns
      refine ⟨A2, c2, by rw [hl]; rfl, by rw [hl]; exact HR.out, HB1.out.trans (HB2.out.mono hz1)⟩
def minV (nm : ByteArray) (fs : List Fil) : Int := match sortedI nm fs with | [] => 0 | x :: _ => x
def minB (nm : ByteArray) (fs : List Fil) : Bool := match sortedI nm fs with | [] => false | _ :: _ => true
theorem min_nil {nm : ByteArray} {fs : List Fil} (h : sortedI nm fs = []) : minV nm fs = 0 ∧ minB nm fs = false := by unfold minV minB; rw [h]; exact ⟨rfl, rfl⟩
theorem min_cons {nm : ByteArray} {fs : List Fil} {x : Int} {l : List Int} (h : sortedI nm fs = x :: l) : minV nm fs = x ∧ minB nm fs = true := by unfold minV minB; rw [h]; exact ⟨rfl, rfl⟩
set_option maxHeartbeats 1600000 in
theorem impl_MinByAttr (s : Sto) (A : Option Addr) (n c : Nat) (B : Option Addr) (m d : Nat) (nm : ByteArray) (w : World) (hT : Sl 5 RFil w B m s.files) (hm : m ≤ 1073741824) (hok : s.ok 1073741824) :
    Calls Try.prog 50 #[s.v A n c B m d, .string nm] w fun e w' => e = .returned (.tuple #[.int .i64 (minV nm s.files), .bool (minB nm s.files)]) ∧ Below w.heap.size w w' := by
  have HC := Lib.hid fun w' (hb : Below w.heap.size w w') => impl_SortedByAttr s A n c B m d nm w' (hT.mono mFil hb) hm hok
  clear hT hok
  go_enter Try.func50, Try.ntmps50
  go_wp2_with fail
  refine (HC.out _ (by go_grown)).mono ?_; rintro e w1 ⟨A1, c1, rfl, hr1, hb1⟩
  have hB1 := ex_trans (w := w) (by go_grown) hb1
  cases hl : sortedI nm s.files with
  | nil =>
    have HM := Lib.hid (min_nil hl)
    rw [hl] at hr1
    clear hr1 hl
    simp only [List.length_nil]
    go_wp2_with fail
    go_returns
    exact ⟨by rw [HM.out.1, HM.out.2]; rfl, hB1⟩
  | cons x l =>
    have HM := Lib.hid (min_cons hl)
    rw [hl] at hr1
    obtain ⟨g, rfl, -, -, -, -, hcell⟩ := hr1.cell encInt (by simp)
    have q0 := hcell 0 (by simp) 0 _ rfl
    simp only [Nat.zero_mul, Nat.add_zero, List.getElem_cons_zero] at q0
    clear hcell hr1 hl
    simp only [List.length_cons]
    have i1 : (0 : Int) < ((l.length + 1 : Nat) : Int) := by omega
    have i2 : ¬ (((l.length + 1 : Nat) : Int) = 0) := by omega
    go_wp2_with fail
    go_returns
    exact ⟨by rw [HM.out.1, HM.out.2]; rfl, hB1⟩
end Go.Proofs.Ytjobgnioehkomaa
