/-
  SEVERAL TEXTS IN ONE: U6 U7 W1.
-/
import Derived.WalkKit
import Derived.WalkSpells
import Derived.WalkLawsBesides
import Derived.Lib.Hide
import Derived.Handy
import Derived.StillTailTactics
import Derived.Deep.Light
import Derived.Deep.QuietTactic
import Derived.BigQuiet
import Derived.Deep.RegionHeld3
import Derived.Deep.DeepCutAuto
import Derived.Test.YtjobgnioehkomaaLib
import Derived.Test.YtjobgnioehkomaaOwn
import Derived.Test.YtjobgnioehkomaaRow
import Derived.Test.YtjobgnioehkomaaC4
import Derived.Test.YtjobgnioehkomaaD1
import Derived.Test.YtjobgnioehkomaaU0
import Derived.Test.YtjobgnioehkomaaU4
import Derived.Test.YtjobgnioehkomaaN0
import Derived.Test.YtjobgnioehkomaaRaw
import Derived.Test.YtjobgnioehkomaaHld
import Derived.Test.YtjobgnioehkomaaHl2
import Derived.Test.YtjobgnioehkomaaHl3
import Derived.Test.YtjobgnioehkomaaM0
import Derived.Test.YtjobgnioehkomaaC1
import Derived.Test.YtjobgnioehkomaaC2
import Derived.Test.YtjobgnioehkomaaT1
import Derived.Test.YtjobgnioehkomaaT2
import Derived.Test.YtjobgnioehkomaaT3
import Derived.Test.YtjobgnioehkomaaT4
import Derived.Test.YtjobgnioehkomaaC3
import Derived.Test.YtjobgnioehkomaaC5
import Derived.Test.YtjobgnioehkomaaD3
import Derived.Test.YtjobgnioehkomaaH1
import Derived.Test.YtjobgnioehkomaaU5
import Derived.Test.YtjobgnioehkomaaC8
import Derived.Test.YtjobgnioehkomaaD6
import Derived.Test.YtjobgnioehkomaaRows
namespace Go.Proofs.Ytjobgnioehkomaa
set_option linter.unusedVariables false
def atF (fs : List Fil) (i : Nat) : Fil := fs.getD i ⟨0, 0, false, 0, []⟩
theorem atF_at {fs : List Fil} {i : Nat} (h : i < fs.length) : atF fs i = fs[i] := by unfold atF; rw [List.getD_eq_getElem?_getD, List.getElem?_eq_getElem h]; rfl
def keyN (nm : ByteArray) (fs : List Fil) (i : Nat) : Int := intA (atF fs i).attrs nm
def hasN (nm : ByteArray) (fs : List Fil) (i : Nat) : Bool := hasI (atF fs i).attrs nm
def plcs (nm : ByteArray) (fs : List Fil) (k : Nat) : List Nat := srt (keyN nm fs) ((List.range k).filter (hasN nm fs))
theorem plcs_zero (nm : ByteArray) (fs : List Fil) : plcs nm fs 0 = [] := rfl
theorem plcs_succ (nm : ByteArray) (fs : List Fil) (k : Nat) : plcs nm fs (k + 1) = if hasN nm fs k then insK (keyN nm fs) k (plcs nm fs k) else plcs nm fs k := by
  unfold plcs
  rw [List.range_succ, List.filter_append]
  cases h : hasN nm fs k with
  | true => rw [show [k].filter (hasN nm fs) = [k] by simp [h], srt_snoc]; rfl
  | false => rw [show [k].filter (hasN nm fs) = [] by simp [h], List.append_nil]; rfl
theorem plcs_len (nm : ByteArray) (fs : List Fil) (k : Nat) : (plcs nm fs k).length ≤ k := by
  unfold plcs; rw [srt_len]
  exact Nat.le_trans (List.length_filter_le _ _) (by simp)
theorem plcs_lt {nm : ByteArray} {fs : List Fil} {k i : Nat} (h : i ∈ plcs nm fs k) : i < k := by
  unfold plcs at h
  have := (List.mem_filter.1 (srt_mem.1 h)).1
  simpa using this
theorem range_atF (fs : List Fil) : (List.range fs.length).map (atF fs) = fs := by
  apply List.ext_getElem (by simp)
  intro i h1 h2
  rw [List.getElem_map, List.getElem_range, atF_at h2]
theorem plcs_map (nm : ByteArray) (fs : List Fil) : (plcs nm fs fs.length).map (atF fs) = sortF nm fs := by
  unfold plcs sortF
  have h := srt_map (key := fun f : Fil => intA f.attrs nm) (atF fs) ((List.range fs.length).filter (hasN nm fs))
  rw [show keyN nm fs = fun b => intA (atF fs b).attrs nm from rfl, h]
  congr 1
  conv => rhs; rw [← range_atF fs, List.filter_map]
  rfl
/-- the place where an element is put: behind those that are not greater -/
def leKey (nm : ByteArray) (fs : List Fil) (x : Int) (L : List Nat) (j : Nat) : Prop := ∀ y ∈ L.take j, keyN nm fs y ≤ x
theorem leKey_zero (nm : ByteArray) (fs : List Fil) (x : Int) (L : List Nat) : leKey nm fs x L 0 := by intro y hy; simp at hy
theorem leKey_succ {nm : ByteArray} {fs : List Fil} {x : Int} {L : List Nat} {j : Nat} (h : leKey nm fs x L j) (hj : j < L.length) (hx : keyN nm fs L[j] ≤ x) : leKey nm fs x L (j + 1) := by
  intro y hy
  rw [List.take_succ_eq_append_getElem hj, List.mem_append] at hy
  rcases hy with hy | hy
  · exact h y hy
  · rw [List.mem_singleton] at hy; rw [hy]; exact hx
theorem insK_at {nm : ByteArray} {fs : List Fil} {k : Nat} {L : List Nat} {j : Nat} (h : leKey nm fs (keyN nm fs k) L j) (hj : j ≤ L.length) (hx : ∀ h : j < L.length, ¬ keyN nm fs L[j] ≤ keyN nm fs k) : insK (keyN nm fs) k L = L.take j ++ [k] ++ L.drop j := by
  conv => lhs; rw [← List.take_append_drop j L]
  rw [insK_last (key := keyN nm fs) (x := k) h, List.append_assoc]
  congr 1
  by_cases hjl : j < L.length
  · rw [List.drop_eq_getElem_cons hjl]
    unfold insK
    rw [if_neg (hx hjl)]
    rfl
  · rw [List.drop_of_length_le (by omega)]
    rfl
/-- the places as the program writes them -/
def intsN (L : List Nat) : List Int := L.map (fun (i : Nat) => (i : Int))
theorem intsN_len (L : List Nat) : (intsN L).length = L.length := by unfold intsN; simp
theorem intsN_at (L : List Nat) (j : Nat) (h : j < L.length) (h' : j < (intsN L).length) : (intsN L)[j] = (L[j] : Int) := List.getElem_map (fun (i : Nat) => (i : Int))
theorem intsN_put (L : List Nat) (j k : Nat) : intsN (L.take j ++ [k] ++ L.drop j) = (intsN L).take j ++ [(k : Int)] ++ (intsN L).drop j := by unfold intsN; simp [List.map_take, List.map_drop]
theorem plcs_ids (nm : ByteArray) (fs : List Fil) : (plcs nm fs fs.length).map (fun i => (atF fs i).id) = (sortF nm fs).map (·.id) := by
  rw [← plcs_map, List.map_map]; rfl
theorem plcs_range (nm : ByteArray) (lo hi : Int) (fs : List Fil) : ((plcs nm fs fs.length).filter fun i => inB (keyN nm fs i) lo hi).map (fun i => (atF fs i).id) = ((sortF nm fs).filter fun f => inB (intA f.attrs nm) lo hi).map (·.id) := by
  rw [← plcs_map, List.filter_map, List.map_map]; rfl
end Go.Proofs.Ytjobgnioehkomaa
namespace Go.Proofs.Ytjobgnioehkomaa
open Go.RowKit
set_option linter.unusedVariables false
set_option linter.unusedSimpArgs false
set_option maxRecDepth 100000
theorem Src.takeU {α : Type} {size m k : Nat} {enc : α → List Value} {w : World} {A : Option Addr} {l : List α} (hE : Enc size enc) (h : Src size enc w A m l) (hk : k ≤ m) : Src size enc w A k (l.take k) := by
  refine ⟨by rw [List.length_take, h.1]; omega, fun hp => ?_⟩
  obtain ⟨a, hA, hlt, hc⟩ := h.2 (by omega)
  refine ⟨a, hA, hlt, fun j u hu => hc j u ?_⟩
  rw [← flat_take hE] at hu
  have hj := (List.getElem?_eq_some_iff.1 hu).1
  rw [List.length_take] at hj
  rwa [List.getElem?_take_of_lt (by omega)] at hu
theorem Src.dropU {α : Type} {size m k : Nat} {enc : α → List Value} {w : World} {b off : Nat} {l : List α} (hE : Enc size enc) (h : Src size enc w (some ⟨b, off, none⟩) m l) (hk : k ≤ m) : Src size enc w (some ⟨b, off + k * size, none⟩) (m - k) (l.drop k) := by
  refine ⟨by rw [List.length_drop, h.1], fun hp => ?_⟩
  obtain ⟨a, hA, hlt, hc⟩ := h.2 (by omega)
  obtain rfl : (⟨b, off, none⟩ : Addr) = a := by simpa using hA
  refine ⟨_, rfl, hlt, fun j u hu => ?_⟩
  rw [← flat_drop hE, List.getElem?_drop] at hu
  have := hc _ u hu
  rw [Addr.add_lit] at this ⊢
  rw [Nat.add_assoc]; exact this
/-- a place's number lies in its row -/
theorem intsN_cell {w : World} {B n c : Nat} {A : Option Addr} {L : List Nat} {e : TypeId} (h : FRow e 1 eInt w B A n c (intsN L)) (hn : 0 < L.length) : ∃ g, A = some ⟨g, 0, none⟩ ∧ B ≤ g ∧ g < w.heap.size ∧ ∀ j (hj : j < L.length), w.cell? ⟨g, j, none⟩ = some (.int .i64 (L[j] : Int)) := by
  have hl := h.len
  rw [intsN_len] at hl
  obtain ⟨g, h1, h2, h3, -, -, h6⟩ := h.cell encInt (by omega)
  refine ⟨g, h1, h2, h3, fun j hj => ?_⟩
  have h7 := h6 j (by rw [intsN_len]; exact hj) 0 _ rfl
  rw [intsN_at L j hj] at h7
  simpa using h7
set_option maxHeartbeats 1600000 in
theorem spec_l08Num (s : Sto) (A : Option Addr) (n c : Nat) (B : Option Addr) (m d : Nat) (nm : ByteArray) (w : World) (hT : Sl 5 RFil w B m s.files) (hm : m ≤ 1073741824) (hok : s.ok 1073741824) (id : Nat) (hid : id < s.files.length) :
    Calls Try.prog 122 #[s.v A n c B m d, .int .i64 id, .string nm] w fun e w' => e = .returned (.int .i64 (keyN nm s.files id)) ∧ Below w.heap.size w w' := by
  obtain rfl : s.files.length = m := hT.len
  have hof := hok.2.2.2
  clear hok
  obtain ⟨b, off, rfl, bw, bc⟩ := hT.fil (by omega)
  obtain ⟨qA, qn, qc', q0, q1, q2, q3, q4, qS⟩ := bc id hid
  have hqn : qn ≤ 1073741824 := by rw [← qS.len]; exact (hof _ (List.getElem_mem hid)).1
  have HC := Lib.hid fun w' (hb' : Below w.heap.size w w') => spec_IntAttr s.files[id] qA qn qc' nm w' (qS.mono mAtr hb') hqn
  have HK := Lib.hid (show intA s.files[id].attrs nm = keyN nm s.files id by unfold keyN; rw [atF_at hid])
  have i0 : (0 : Int) ≤ (id : Int) := by omega
  have i1 : (id : Int) < (s.files.length : Int) := by omega
  clear bc qS hof hT
  go_enter Try.func122, Try.ntmps122
  go_wp2_with fail
  refine (HC.out _ (by go_grown)).mono ?_; rintro e w1 ⟨rfl, hb1⟩
  have hB1 := ex_trans (w := w) (by go_grown) hb1
  rw [HK.out]
  go_wp2_with fail
  go_returns
  exact ⟨rfl, hB1⟩
set_option maxHeartbeats 6400000 in
theorem spec_l08Places (s : Sto) (A : Option Addr) (n c : Nat) (B : Option Addr) (m d : Nat) (nm : ByteArray) (w : World) (hT : Sl 5 RFil w B m s.files) (hm : m ≤ 1073741824) (hok : s.ok 1073741824) :
    Calls Try.prog 121 #[s.v A n c B m d, .string nm] w fun e w' => ∃ (A' : Option Addr) (c' : Nat), e = .returned (.slice A' (plcs nm s.files s.files.length).length c') ∧ FRow 3 1 eInt w' w.heap.size A' (plcs nm s.files s.files.length).length c' (intsN (plcs nm s.files s.files.length)) ∧ Below w.heap.size w w' := by
  obtain rfl : s.files.length = m := hT.len
  obtain ⟨ii, hi, hi0, hi1, hi2⟩ := info_parts info_int
  have HOF := Lib.hid hok.2.2.2
  have HNU := Lib.hid fun (i : Nat) (hi : i < s.files.length) w' (hb : Below w.heap.size w w') => spec_l08Num s A n c B s.files.length d nm w' (hT.mono mFil hb) hm hok i hi
  have HT := Lib.hid hT
  clear hT hok
  go_enter Try.func121, Try.ntmps121
  go_wp2_with fail
  go_loopw [5, 6] (fun v i wr => ∃ k : Nat, k ≤ s.files.length ∧ i = .int .i64 k ∧ wr.heap[w.heap.size]? = some (.cells #[.slice A n c, .slice B s.files.length d, .int .i64 s.next] 40 (0, 0)) ∧ ∃ q : Nat, q ≤ k ∧ AppB 3 1 eInt w (w.heap.size + 1) q (intsN (plcs nm s.files k)) v wr) (fun _ i _ => s.files.length - (intOf i).toNat)
  case atStart => exact ⟨0, Nat.zero_le _, rfl, (hp_old (by simp)).trans (hp_new rfl), 0, Nat.le_refl _, _, _, rfl, FRow.any0 _ _ _ _ _ _, by go_grown⟩
  case round =>
    obtain ⟨W1, rfl⟩ : ∃ W1, W1 = wr := ⟨_, rfl⟩
    obtain ⟨k, hk, rfl, hbx, q, hq, A1, c1, rfl, hrow, hb⟩ := hrel
    have HBx := Lib.hid hbx
    have x0 := blk_cell? hbx 0
    have x1 := blk_cell? hbx 1
    have x2 := blk_cell? hbx 2
    have hlb := blk_lt hbx
    simp only [List.getElem?_toArray, List.getElem?_cons_zero, List.getElem?_cons_succ] at x0 x1 x2
    clear hbx
    by_cases hlt : k < s.files.length
    · obtain ⟨b, off, rfl, bw, bc⟩ := HT.out.fil (by omega)
      obtain ⟨qA, qn, qc', q0, q1, q2, q3, q4, qS⟩ := bc k hlt
      have qT := qS.mono mAtr hb
      have hqn : qn ≤ 1073741824 := by rw [← qT.len]; exact (HOF.out _ (List.getElem_mem hlt)).1
      rw [← hb.cell (p := ⟨b, _, none⟩) bw] at q0 q1 q2 q3 q4
      have HC := Lib.hid fun w' (hb' : Below W1.heap.size W1 w') => spec_IntAttr s.files[k] qA qn qc' nm w' (qT.mono mAtr hb') hqn
      have i0 : (0 : Int) ≤ (k : Int) := by omega
      have i1 : (k : Int) < (s.files.length : Int) := by omega
      have HR := Lib.hid hrow
      have HB := Lib.hid hb
      have hzb := hb.size
      have HK := Lib.hid (show intA s.files[k].attrs nm = keyN nm s.files k by unfold keyN; rw [atF_at hlt])
      have HPS := Lib.hid (plcs_succ nm s.files k)
      have HLT := Lib.hid fun (i : Nat) (h : i ∈ plcs nm s.files k) => plcs_lt h
      clear bc qS qT hrow hb
      cases hf : hasN nm s.files k with
      | false =>
        have HF' := Lib.hid (show hasI s.files[k].attrs nm = false by rw [← hf]; unfold hasN; rw [atF_at hlt])
        have HN9 := Lib.hid (show intsN (plcs nm s.files (k + 1)) = intsN (plcs nm s.files k) by rw [HPS.out, hf]; rfl)
        clear hf
        go_wp2_with fail
        refine (HC.out _ (by go_grown)).mono ?_; rintro e w2 ⟨rfl, hb2⟩
        rw [HF'.out]
        have HB2 := Lib.hid (ex_trans (w := W1) (by go_grown) hb2)
        clear hb2
        go_wp2_with fail
        go_roundw
        case rel => exact ⟨k + 1, by omega, by go_num, below_keep HB2.out HBx.out, q, by omega, A1, c1, rfl, by rw [HN9.out]; exact HR.out.below HB2.out, ex_trans HB.out HB2.out⟩
        case measure => simp [intOf]; omega
      | true =>
        have HF' := Lib.hid (show hasI s.files[k].attrs nm = true by rw [← hf]; unfold hasN; rw [atF_at hlt])
        have HS1 := Lib.hid (show plcs nm s.files (k + 1) = insK (keyN nm s.files) k (plcs nm s.files k) by rw [HPS.out, hf]; rfl)
        clear hf HPS
        generalize plcs nm s.files k = L at *
        obtain rfl : L.length = q := by rw [← HR.out.len, intsN_len]
        go_wp2_with fail
        refine (HC.out _ (by go_grown)).mono ?_; rintro e w2 ⟨rfl, hb2⟩
        rw [HF'.out, HK.out]
        have HB2 := Lib.hid (ex_trans (w := W1) (by go_grown) hb2)
        clear hb2
        have hz2 : W1.heap.size ≤ w2.heap.size := HB2.out.size
        go_wp2_with fail
        go_loopw [9] (fun a wr => ∃ j : Nat, j ≤ L.length ∧ a = .int .i64 j ∧ Hid (leKey nm s.files (keyN nm s.files k) L j) ∧ Below w2.heap.size w2 wr) (fun a _ => L.length - (intOf a).toNat)
        case atStart => exact ⟨0, Nat.zero_le _, rfl, Lib.hid (leKey_zero _ _ _ _), Below.refl _ _⟩
        case round =>
          obtain ⟨j, hj, rfl, hle, hb3⟩ := hrel
          have hbr : Below w.heap.size w wr := ex_trans HB.out (ex_trans HB2.out hb3)
          have h13 : Below W1.heap.size W1 wr := ex_trans HB2.out hb3
          have HRr := Lib.hid (HR.out.below h13)
          have HBr := Lib.hid (below_keep h13 HBx.out)
          have y0 := keep_cell h13 x0
          have y1 := keep_cell h13 x1
          have y2 := keep_cell h13 x2
          have hz3 := h13.size
          have hcap := HRr.out.le
          have j0 : (0 : Int) ≤ (j : Int) := by omega
          have j2 : (j : Int) ≤ (L.length : Int) := by omega
          have j3 : (j : Int) ≤ (c1 : Int) := by omega
          have HB3 := Lib.hid hb3
          clear h13 hb3
          by_cases hjl : j < L.length
          · obtain ⟨g, rfl, hgB, hgw, hcell⟩ := intsN_cell HRr.out (by omega)
            have z0 := hcell j hjl
            have j1 : (j : Int) < (L.length : Int) := by omega
            have hLj : L[j] < s.files.length := Nat.lt_trans (HLT.out _ (List.getElem_mem hjl)) hlt
            have HNj := Lib.hid fun w' (hb' : Below wr.heap.size wr w') => HNU.out L[j] hLj w' (ex_trans hbr hb')
            clear hcell
            have hd : decide ((j : Int) < (L.length : Int)) = true := decide_eq_true j1
            by_cases hq : keyN nm s.files L[j] ≤ keyN nm s.files k
            · have HT8 := Lib.hid (leKey_succ hle.out hjl hq)
              have hd2 : decide (keyN nm s.files L[j] ≤ keyN nm s.files k) = true := decide_eq_true hq
              have HQ := Lib.hid hq
              clear hle hq
              go_upto_region 8 with fail
              refine wp_region_held_drew (S := (fun w' => w'.cell? ⟨w.heap.size, 0, none⟩ = some (.slice A n c) ∧ w'.cell? ⟨w.heap.size, 1, none⟩ = some (.slice (some ⟨b, off, none⟩) s.files.length d) ∧ w'.cell? ⟨w.heap.size, 2, none⟩ = some (.int .i64 s.next) ∧ w'.cell? ⟨g, j, none⟩ = some (.int .i64 (L[j] : Int)) ∧ Below wr.heap.size wr w')) (by kernel_rfl) (by (try dsimp only); exact ⟨y0, y1, y2, z0, (Below.refl _ _).drew⟩) (fun hHeld => ?_)
              first | (refine held_take 0 rfl (by kernel_rfl) (by kernel_rfl) (by kernel_rfl) (by rfl) (fun _ _ _ h => h) (by assumption) (by intro w hSw; (try dsimp only at hSw); go_simp; first | done | with_reducible rfl) ?_) | (refine held_skip 0 rfl (by kernel_rfl) (by kernel_rfl) (by kernel_rfl) (by rfl) (fun _ _ _ h => h) (by assumption) ?_)
              simp only [Act.put, List.setIfInBounds_toArray, List.set_cons_zero, List.set_cons_succ]
              first | (refine held_take 1 rfl (by kernel_rfl) (by kernel_rfl) (by kernel_rfl) (by rfl) (fun _ _ _ h => h) (by assumption) (by intro w hSw; (try dsimp only at hSw); go_simp; first | done | with_reducible rfl) ?_) | (refine held_skip 1 rfl (by kernel_rfl) (by kernel_rfl) (by kernel_rfl) (by rfl) (fun _ _ _ h => h) (by assumption) ?_)
              simp only [Act.put, List.setIfInBounds_toArray, List.set_cons_zero, List.set_cons_succ]
              first | (refine held_take 2 rfl (by kernel_rfl) (by kernel_rfl) (by kernel_rfl) (by rfl) (fun _ _ _ h => h) (by assumption) (by intro w hSw; (try dsimp only at hSw); go_simp; first | done | with_reducible rfl) ?_) | (refine held_skip 2 rfl (by kernel_rfl) (by kernel_rfl) (by kernel_rfl) (by rfl) (fun _ _ _ h => h) (by assumption) ?_)
              simp only [Act.put, List.setIfInBounds_toArray, List.set_cons_zero, List.set_cons_succ]
              first | (refine held_take 3 rfl (by kernel_rfl) (by kernel_rfl) (by kernel_rfl) (by rfl) (fun _ _ _ h => h) (by assumption) (by intro w hSw; (try dsimp only at hSw); go_simp; first | done | with_reducible rfl) ?_) | (refine held_skip 3 rfl (by kernel_rfl) (by kernel_rfl) (by kernel_rfl) (by rfl) (fun _ _ _ h => h) (by assumption) ?_)
              simp only [Act.put, List.setIfInBounds_toArray, List.set_cons_zero, List.set_cons_succ]
              first | (refine held_take 4 rfl (by kernel_rfl) (by kernel_rfl) (by kernel_rfl) (by rfl) (fun _ _ _ h => h) (by assumption) (by intro w hSw; (try dsimp only at hSw); go_simp; first | done | with_reducible rfl) ?_) | (refine held_skip 4 rfl (by kernel_rfl) (by kernel_rfl) (by kernel_rfl) (by rfl) (fun _ _ _ h => h) (by assumption) ?_)
              simp only [Act.put, List.setIfInBounds_toArray, List.set_cons_zero, List.set_cons_succ]
              first | (refine held_take 5 rfl (by kernel_rfl) (by kernel_rfl) (by kernel_rfl) (by rfl) (fun _ _ _ h => h) (by assumption) (by intro w hSw; (try dsimp only at hSw); go_simp; first | done | with_reducible rfl) ?_) | (refine held_skip 5 rfl (by kernel_rfl) (by kernel_rfl) (by kernel_rfl) (by rfl) (fun _ _ _ h => h) (by assumption) ?_)
              simp only [Act.put, List.setIfInBounds_toArray, List.set_cons_zero, List.set_cons_succ]
              first | (refine held_take 6 rfl (by kernel_rfl) (by kernel_rfl) (by kernel_rfl) (by rfl) (fun _ _ _ h => h) (by assumption) (by intro w hSw; (try dsimp only at hSw); go_simp; first | done | with_reducible rfl) ?_) | (refine held_skip 6 rfl (by kernel_rfl) (by kernel_rfl) (by kernel_rfl) (by rfl) (fun _ _ _ h => h) (by assumption) ?_)
              simp only [Act.put, List.setIfInBounds_toArray, List.set_cons_zero, List.set_cons_succ]
              first | (refine held_take 7 rfl (by kernel_rfl) (by kernel_rfl) (by kernel_rfl) (by rfl) (fun _ _ _ h => h) (by assumption) (by intro w hSw; (try dsimp only at hSw); go_simp; first | done | with_reducible rfl) ?_) | (refine held_skip 7 rfl (by kernel_rfl) (by kernel_rfl) (by kernel_rfl) (by rfl) (fun _ _ _ h => h) (by assumption) ?_)
              simp only [Act.put, List.setIfInBounds_toArray, List.set_cons_zero, List.set_cons_succ]
              first | (refine held_take 8 rfl (by kernel_rfl) (by kernel_rfl) (by kernel_rfl) (by rfl) (fun _ _ _ h => h) (by assumption) (by intro w hSw; (try dsimp only at hSw); go_simp; first | done | with_reducible rfl) ?_) | (refine held_skip 8 rfl (by kernel_rfl) (by kernel_rfl) (by kernel_rfl) (by rfl) (fun _ _ _ h => h) (by assumption) ?_)
              simp only [Act.put, List.setIfInBounds_toArray, List.set_cons_zero, List.set_cons_succ]
              first | (refine held_take 9 rfl (by kernel_rfl) (by kernel_rfl) (by kernel_rfl) (by rfl) (fun _ _ _ h => h) (by assumption) (by intro w hSw; (try dsimp only at hSw); go_simp; first | done | with_reducible rfl) ?_) | (refine held_skip 9 rfl (by kernel_rfl) (by kernel_rfl) (by kernel_rfl) (by rfl) (fun _ _ _ h => h) (by assumption) ?_)
              simp only [Act.put, List.setIfInBounds_toArray, List.set_cons_zero, List.set_cons_succ]
              first | (refine held_take 10 rfl (by kernel_rfl) (by kernel_rfl) (by kernel_rfl) (by rfl) (fun _ _ _ h => h) (by assumption) (by intro w hSw; (try dsimp only at hSw); go_simp; first | done | with_reducible rfl) ?_) | (refine held_skip 10 rfl (by kernel_rfl) (by kernel_rfl) (by kernel_rfl) (by rfl) (fun _ _ _ h => h) (by assumption) ?_)
              simp only [Act.put, List.setIfInBounds_toArray, List.set_cons_zero, List.set_cons_succ]
              first | (refine held_take 12 rfl (by kernel_rfl) (by kernel_rfl) (by kernel_rfl) (by rfl) (fun _ _ _ h => h) (by assumption) (by intro w hSw; (try dsimp only at hSw); go_simp; first | done | with_reducible rfl) ?_) | (refine held_skip 12 rfl (by kernel_rfl) (by kernel_rfl) (by kernel_rfl) (by rfl) (fun _ _ _ h => h) (by assumption) ?_)
              simp only [Act.put, List.setIfInBounds_toArray, List.set_cons_zero, List.set_cons_succ]
              refine held_one 11 (by kernel_rfl) rfl (fun K hK => ?_)
              go_simp
              go_at_call 122
              refine (HNj.out _ hHeld.2.2.2.2).mono ?_; rintro e w4 ⟨rfl, hb4⟩
              go_wp2_with fail
              refine hK.out _ _ (by (try dsimp only); exact ⟨keep_cell hb4 hHeld.1, keep_cell hb4 hHeld.2.1, keep_cell hb4 hHeld.2.2.1, keep_cell hb4 hHeld.2.2.2.1, ex_trans hHeld.2.2.2.2 hb4⟩) (fun hNew => ?_)
              clear hK K hHeld
              have hHeld := hNew
              clear hNew
              try simp only [Act.put, List.setIfInBounds_toArray, List.set_cons_zero, List.set_cons_succ]
              clear hb4
              first | (refine held_take 13 rfl (by kernel_rfl) (by kernel_rfl) (by kernel_rfl) (by rfl) (fun _ _ _ h => h) (by assumption) (by intro w hSw; (try dsimp only at hSw); go_simp; first | done | with_reducible rfl) ?_) | (refine held_skip 13 rfl (by kernel_rfl) (by kernel_rfl) (by kernel_rfl) (by rfl) (fun _ _ _ h => h) (by assumption) ?_)
              simp only [Act.put, List.setIfInBounds_toArray, List.set_cons_zero, List.set_cons_succ]
              first | (refine held_take 14 rfl (by kernel_rfl) (by kernel_rfl) (by kernel_rfl) (by rfl) (fun _ _ _ h => h) (by assumption) (by intro w hSw; (try dsimp only at hSw); go_simp; first | done | with_reducible rfl) ?_) | (refine held_skip 14 rfl (by kernel_rfl) (by kernel_rfl) (by kernel_rfl) (by rfl) (fun _ _ _ h => h) (by assumption) ?_)
              simp only [Act.put, List.setIfInBounds_toArray, List.set_cons_zero, List.set_cons_succ]
              refine wpAnyH_done (by kernel_rfl) ?_ _
              have HB8 := Lib.hid hHeld.2.2.2.2
              clear hHeld
              have HB8 := Lib.hid (ex_trans (show Below w2.heap.size w2 wr from HB3.out) HB8.out)
              go_wp2_with fail
              go_roundw
              case rel => exact ⟨j + 1, by omega, by go_num, HT8, HB8.out⟩
              case measure => simp [intOf]; omega
            · have HT8 := Lib.hid (And.intro hle.out (fun _ : j < L.length => Int.not_le.1 hq))
              have hd2 : decide (keyN nm s.files L[j] ≤ keyN nm s.files k) = false := decide_eq_false hq
              have HQ := Lib.hid hq
              have hck : ¬ (c1 = j) := by omega
              clear hle hq
              go_upto_region 8 with fail
              refine wp_region_held_drew (S := (fun w' => w'.cell? ⟨w.heap.size, 0, none⟩ = some (.slice A n c) ∧ w'.cell? ⟨w.heap.size, 1, none⟩ = some (.slice (some ⟨b, off, none⟩) s.files.length d) ∧ w'.cell? ⟨w.heap.size, 2, none⟩ = some (.int .i64 s.next) ∧ w'.cell? ⟨g, j, none⟩ = some (.int .i64 (L[j] : Int)) ∧ Below wr.heap.size wr w')) (by kernel_rfl) (by (try dsimp only); exact ⟨y0, y1, y2, z0, (Below.refl _ _).drew⟩) (fun hHeld => ?_)
              first | (refine held_take 0 rfl (by kernel_rfl) (by kernel_rfl) (by kernel_rfl) (by rfl) (fun _ _ _ h => h) (by assumption) (by intro w hSw; (try dsimp only at hSw); go_simp; first | done | with_reducible rfl) ?_) | (refine held_skip 0 rfl (by kernel_rfl) (by kernel_rfl) (by kernel_rfl) (by rfl) (fun _ _ _ h => h) (by assumption) ?_)
              simp only [Act.put, List.setIfInBounds_toArray, List.set_cons_zero, List.set_cons_succ]
              first | (refine held_take 1 rfl (by kernel_rfl) (by kernel_rfl) (by kernel_rfl) (by rfl) (fun _ _ _ h => h) (by assumption) (by intro w hSw; (try dsimp only at hSw); go_simp; first | done | with_reducible rfl) ?_) | (refine held_skip 1 rfl (by kernel_rfl) (by kernel_rfl) (by kernel_rfl) (by rfl) (fun _ _ _ h => h) (by assumption) ?_)
              simp only [Act.put, List.setIfInBounds_toArray, List.set_cons_zero, List.set_cons_succ]
              first | (refine held_take 2 rfl (by kernel_rfl) (by kernel_rfl) (by kernel_rfl) (by rfl) (fun _ _ _ h => h) (by assumption) (by intro w hSw; (try dsimp only at hSw); go_simp; first | done | with_reducible rfl) ?_) | (refine held_skip 2 rfl (by kernel_rfl) (by kernel_rfl) (by kernel_rfl) (by rfl) (fun _ _ _ h => h) (by assumption) ?_)
              simp only [Act.put, List.setIfInBounds_toArray, List.set_cons_zero, List.set_cons_succ]
              first | (refine held_take 3 rfl (by kernel_rfl) (by kernel_rfl) (by kernel_rfl) (by rfl) (fun _ _ _ h => h) (by assumption) (by intro w hSw; (try dsimp only at hSw); go_simp; first | done | with_reducible rfl) ?_) | (refine held_skip 3 rfl (by kernel_rfl) (by kernel_rfl) (by kernel_rfl) (by rfl) (fun _ _ _ h => h) (by assumption) ?_)
              simp only [Act.put, List.setIfInBounds_toArray, List.set_cons_zero, List.set_cons_succ]
              first | (refine held_take 4 rfl (by kernel_rfl) (by kernel_rfl) (by kernel_rfl) (by rfl) (fun _ _ _ h => h) (by assumption) (by intro w hSw; (try dsimp only at hSw); go_simp; first | done | with_reducible rfl) ?_) | (refine held_skip 4 rfl (by kernel_rfl) (by kernel_rfl) (by kernel_rfl) (by rfl) (fun _ _ _ h => h) (by assumption) ?_)
              simp only [Act.put, List.setIfInBounds_toArray, List.set_cons_zero, List.set_cons_succ]
              first | (refine held_take 5 rfl (by kernel_rfl) (by kernel_rfl) (by kernel_rfl) (by rfl) (fun _ _ _ h => h) (by assumption) (by intro w hSw; (try dsimp only at hSw); go_simp; first | done | with_reducible rfl) ?_) | (refine held_skip 5 rfl (by kernel_rfl) (by kernel_rfl) (by kernel_rfl) (by rfl) (fun _ _ _ h => h) (by assumption) ?_)
              simp only [Act.put, List.setIfInBounds_toArray, List.set_cons_zero, List.set_cons_succ]
              first | (refine held_take 6 rfl (by kernel_rfl) (by kernel_rfl) (by kernel_rfl) (by rfl) (fun _ _ _ h => h) (by assumption) (by intro w hSw; (try dsimp only at hSw); go_simp; first | done | with_reducible rfl) ?_) | (refine held_skip 6 rfl (by kernel_rfl) (by kernel_rfl) (by kernel_rfl) (by rfl) (fun _ _ _ h => h) (by assumption) ?_)
              simp only [Act.put, List.setIfInBounds_toArray, List.set_cons_zero, List.set_cons_succ]
              first | (refine held_take 7 rfl (by kernel_rfl) (by kernel_rfl) (by kernel_rfl) (by rfl) (fun _ _ _ h => h) (by assumption) (by intro w hSw; (try dsimp only at hSw); go_simp; first | done | with_reducible rfl) ?_) | (refine held_skip 7 rfl (by kernel_rfl) (by kernel_rfl) (by kernel_rfl) (by rfl) (fun _ _ _ h => h) (by assumption) ?_)
              simp only [Act.put, List.setIfInBounds_toArray, List.set_cons_zero, List.set_cons_succ]
              first | (refine held_take 8 rfl (by kernel_rfl) (by kernel_rfl) (by kernel_rfl) (by rfl) (fun _ _ _ h => h) (by assumption) (by intro w hSw; (try dsimp only at hSw); go_simp; first | done | with_reducible rfl) ?_) | (refine held_skip 8 rfl (by kernel_rfl) (by kernel_rfl) (by kernel_rfl) (by rfl) (fun _ _ _ h => h) (by assumption) ?_)
              simp only [Act.put, List.setIfInBounds_toArray, List.set_cons_zero, List.set_cons_succ]
              first | (refine held_take 9 rfl (by kernel_rfl) (by kernel_rfl) (by kernel_rfl) (by rfl) (fun _ _ _ h => h) (by assumption) (by intro w hSw; (try dsimp only at hSw); go_simp; first | done | with_reducible rfl) ?_) | (refine held_skip 9 rfl (by kernel_rfl) (by kernel_rfl) (by kernel_rfl) (by rfl) (fun _ _ _ h => h) (by assumption) ?_)
              simp only [Act.put, List.setIfInBounds_toArray, List.set_cons_zero, List.set_cons_succ]
              first | (refine held_take 10 rfl (by kernel_rfl) (by kernel_rfl) (by kernel_rfl) (by rfl) (fun _ _ _ h => h) (by assumption) (by intro w hSw; (try dsimp only at hSw); go_simp; first | done | with_reducible rfl) ?_) | (refine held_skip 10 rfl (by kernel_rfl) (by kernel_rfl) (by kernel_rfl) (by rfl) (fun _ _ _ h => h) (by assumption) ?_)
              simp only [Act.put, List.setIfInBounds_toArray, List.set_cons_zero, List.set_cons_succ]
              first | (refine held_take 12 rfl (by kernel_rfl) (by kernel_rfl) (by kernel_rfl) (by rfl) (fun _ _ _ h => h) (by assumption) (by intro w hSw; (try dsimp only at hSw); go_simp; first | done | with_reducible rfl) ?_) | (refine held_skip 12 rfl (by kernel_rfl) (by kernel_rfl) (by kernel_rfl) (by rfl) (fun _ _ _ h => h) (by assumption) ?_)
              simp only [Act.put, List.setIfInBounds_toArray, List.set_cons_zero, List.set_cons_succ]
              refine held_one 11 (by kernel_rfl) rfl (fun K hK => ?_)
              go_simp
              go_at_call 122
              refine (HNj.out _ hHeld.2.2.2.2).mono ?_; rintro e w4 ⟨rfl, hb4⟩
              go_wp2_with fail
              refine hK.out _ _ (by (try dsimp only); exact ⟨keep_cell hb4 hHeld.1, keep_cell hb4 hHeld.2.1, keep_cell hb4 hHeld.2.2.1, keep_cell hb4 hHeld.2.2.2.1, ex_trans hHeld.2.2.2.2 hb4⟩) (fun hNew => ?_)
              clear hK K hHeld
              have hHeld := hNew
              clear hNew
              try simp only [Act.put, List.setIfInBounds_toArray, List.set_cons_zero, List.set_cons_succ]
              clear hb4
              first | (refine held_take 13 rfl (by kernel_rfl) (by kernel_rfl) (by kernel_rfl) (by rfl) (fun _ _ _ h => h) (by assumption) (by intro w hSw; (try dsimp only at hSw); go_simp; first | done | with_reducible rfl) ?_) | (refine held_skip 13 rfl (by kernel_rfl) (by kernel_rfl) (by kernel_rfl) (by rfl) (fun _ _ _ h => h) (by assumption) ?_)
              simp only [Act.put, List.setIfInBounds_toArray, List.set_cons_zero, List.set_cons_succ]
              first | (refine held_take 14 rfl (by kernel_rfl) (by kernel_rfl) (by kernel_rfl) (by rfl) (fun _ _ _ h => h) (by assumption) (by intro w hSw; (try dsimp only at hSw); go_simp; first | done | with_reducible rfl) ?_) | (refine held_skip 14 rfl (by kernel_rfl) (by kernel_rfl) (by kernel_rfl) (by rfl) (fun _ _ _ h => h) (by assumption) ?_)
              simp only [Act.put, List.setIfInBounds_toArray, List.set_cons_zero, List.set_cons_succ]
              refine wpAnyH_done (by kernel_rfl) ?_ _
              have HB8 := Lib.hid hHeld.2.2.2.2
              clear hHeld
              have h84 := HB8.out
              have HRr := Lib.hid (HRr.out.below h84)
              have HBr := Lib.hid (below_keep h84 HBr.out)
              have hbr := ex_trans hbr h84
              have hz4 := h84.size
              clear y0 y1 y2 h84
              have HZ := Lib.hid (show intsN (plcs nm s.files (k + 1)) = (intsN L).take j ++ [(k : Int)] ++ (intsN L).drop j by rw [HS1.out, insK_at HT8.out.1 (by omega) (fun h => Int.not_le.2 (HT8.out.2 h)), intsN_put])
              go_wp2_with (at_builtin; first
                          | (refine wpList_append_row rfl (.tmp 48) (.tmp 51) _ rfl encInt Try.underlying24 hi hi0 hi1 hi2 rfl rfl rfl (FRow.any0 _ _ _ _ w4.heap.size _) (((Src.of_row encInt HRr.out).below (by go_grown)).takeU encInt (k := j) (by omega)) (by unfold maxLen; omega) (by omega) (by simp <;> omega) ?_; intro A6 c6 w6 hr6 hc6 hx6; have hB6 : Below w4.heap.size w4 w6 := (Below.mark (B := w4.heap.size) (w := w4) (by go_grown) hc6 (by simp <;> omega) (by simp [rowBs_zero])); have HR6 := Lib.hid (show FRow 3 1 eInt w6 w4.heap.size A6 j c6 ((intsN L).take j) by simpa using hr6); clear hr6 hc6 hx6)
                          | (refine wpList_append_row rfl (.tmp 52) (.tmp 54) _ rfl encInt Try.underlying24 hi hi0 hi1 hi2 rfl rfl rfl (HR6.out.below (by go_grown)) (src1 encInt _ (k : Int) _ (by simp) rfl) (by unfold maxLen; omega) (by omega) (by have := hB6.size; simp <;> omega) ?_; intro A8 c8 w8 hr8 hc8 hx8; have hB8 : Below w4.heap.size w4 w8 := (Below.mark (B := w4.heap.size) (w := w4) (ex_alloc hB6 _) hc8 (by have := hB6.size; simp <;> omega) (fun b hb => (HR6.out.base b hb).1)); have HR8 := Lib.hid hr8; clear hr8 hc8 hx8)
                          | (refine wpList_append_row rfl (.tmp 56) (.tmp 59) _ rfl encInt Try.underlying24 hi hi0 hi1 hi2 rfl rfl rfl HR8.out (by have hh := Src.dropU encInt ((Src.of_row encInt HRr.out).below hB8) (k := j) (by omega); simp only [Nat.zero_add, Nat.mul_one] at hh; exact hh) (by unfold maxLen; omega) (by omega) (by have := hB8.size; omega) ?_; intro A9 c9 w9 hr9 hc9 hx9; have hB9 : Below w4.heap.size w4 w9 := (Below.mark (B := w4.heap.size) (w := w4) hB8 hc9 hB8.size (fun b hb => (HR8.out.base b hb).1)); have HR9 := Lib.hid hr9; clear hr9 hc9 hx9))
              have hN9 : FRow 3 1 eInt w9 (w.heap.size + 1) A9 (j + 1 + (L.length - j)) c9 (intsN (plcs nm s.files (k + 1))) := by rw [HZ.out]; exact HR9.out.re (fun b hb => by have := (HR9.out.base b hb).1; omega)
              have HN9 := Lib.hid hN9
              have HBX := Lib.hid (below_keep hB9 HBr.out)
              have HBW := Lib.hid (ex_trans hbr hB9)
              clear hN9 hB9 hB8 hB6
              go_wp2_with fail
              go_roundw
              case rel => exact ⟨k + 1, by omega, by go_num, HBX.out, j + 1 + (L.length - j), by omega, A9, c9, rfl, HN9.out, HBW.out⟩
              case measure => simp [intOf]; omega
          · obtain rfl : j = L.length := by omega
            have HT8 := Lib.hid (And.intro hle.out (fun h : L.length < L.length => (absurd h (by omega) : keyN nm s.files k < keyN nm s.files L[L.length])))
            have hd : decide ((L.length : Int) < (L.length : Int)) = false := decide_eq_false (by omega)
            clear hle
            go_upto_region 8 with fail
            refine wp_region_held_drew (S := (fun w' => Below wr.heap.size wr w')) (by kernel_rfl) (by (try dsimp only); exact (Below.refl _ _).drew) (fun hHeld => ?_)
            first | (refine held_take 0 rfl (by kernel_rfl) (by kernel_rfl) (by kernel_rfl) (by rfl) (fun _ _ _ h => h) (by assumption) (by intro w hSw; (try dsimp only at hSw); go_simp; first | done | with_reducible rfl) ?_) | (refine held_skip 0 rfl (by kernel_rfl) (by kernel_rfl) (by kernel_rfl) (by rfl) (fun _ _ _ h => h) (by assumption) ?_)
            simp only [Act.put, List.setIfInBounds_toArray, List.set_cons_zero, List.set_cons_succ]
            first | (refine held_take 1 rfl (by kernel_rfl) (by kernel_rfl) (by kernel_rfl) (by rfl) (fun _ _ _ h => h) (by assumption) (by intro w hSw; (try dsimp only at hSw); go_simp; first | done | with_reducible rfl) ?_) | (refine held_skip 1 rfl (by kernel_rfl) (by kernel_rfl) (by kernel_rfl) (by rfl) (fun _ _ _ h => h) (by assumption) ?_)
            simp only [Act.put, List.setIfInBounds_toArray, List.set_cons_zero, List.set_cons_succ]
            first | (refine held_take 2 rfl (by kernel_rfl) (by kernel_rfl) (by kernel_rfl) (by rfl) (fun _ _ _ h => h) (by assumption) (by intro w hSw; (try dsimp only at hSw); go_simp; first | done | with_reducible rfl) ?_) | (refine held_skip 2 rfl (by kernel_rfl) (by kernel_rfl) (by kernel_rfl) (by rfl) (fun _ _ _ h => h) (by assumption) ?_)
            simp only [Act.put, List.setIfInBounds_toArray, List.set_cons_zero, List.set_cons_succ]
            first | (refine held_take 3 rfl (by kernel_rfl) (by kernel_rfl) (by kernel_rfl) (by rfl) (fun _ _ _ h => h) (by assumption) (by intro w hSw; (try dsimp only at hSw); go_simp; first | done | with_reducible rfl) ?_) | (refine held_skip 3 rfl (by kernel_rfl) (by kernel_rfl) (by kernel_rfl) (by rfl) (fun _ _ _ h => h) (by assumption) ?_)
            simp only [Act.put, List.setIfInBounds_toArray, List.set_cons_zero, List.set_cons_succ]
            first | (refine held_take 4 rfl (by kernel_rfl) (by kernel_rfl) (by kernel_rfl) (by rfl) (fun _ _ _ h => h) (by assumption) (by intro w hSw; (try dsimp only at hSw); go_simp; first | done | with_reducible rfl) ?_) | (refine held_skip 4 rfl (by kernel_rfl) (by kernel_rfl) (by kernel_rfl) (by rfl) (fun _ _ _ h => h) (by assumption) ?_)
            simp only [Act.put, List.setIfInBounds_toArray, List.set_cons_zero, List.set_cons_succ]
            first | (refine held_take 5 rfl (by kernel_rfl) (by kernel_rfl) (by kernel_rfl) (by rfl) (fun _ _ _ h => h) (by assumption) (by intro w hSw; (try dsimp only at hSw); go_simp; first | done | with_reducible rfl) ?_) | (refine held_skip 5 rfl (by kernel_rfl) (by kernel_rfl) (by kernel_rfl) (by rfl) (fun _ _ _ h => h) (by assumption) ?_)
            simp only [Act.put, List.setIfInBounds_toArray, List.set_cons_zero, List.set_cons_succ]
            first | (refine held_take 6 rfl (by kernel_rfl) (by kernel_rfl) (by kernel_rfl) (by rfl) (fun _ _ _ h => h) (by assumption) (by intro w hSw; (try dsimp only at hSw); go_simp; first | done | with_reducible rfl) ?_) | (refine held_skip 6 rfl (by kernel_rfl) (by kernel_rfl) (by kernel_rfl) (by rfl) (fun _ _ _ h => h) (by assumption) ?_)
            simp only [Act.put, List.setIfInBounds_toArray, List.set_cons_zero, List.set_cons_succ]
            first | (refine held_take 7 rfl (by kernel_rfl) (by kernel_rfl) (by kernel_rfl) (by rfl) (fun _ _ _ h => h) (by assumption) (by intro w hSw; (try dsimp only at hSw); go_simp; first | done | with_reducible rfl) ?_) | (refine held_skip 7 rfl (by kernel_rfl) (by kernel_rfl) (by kernel_rfl) (by rfl) (fun _ _ _ h => h) (by assumption) ?_)
            simp only [Act.put, List.setIfInBounds_toArray, List.set_cons_zero, List.set_cons_succ]
            first | (refine held_take 8 rfl (by kernel_rfl) (by kernel_rfl) (by kernel_rfl) (by rfl) (fun _ _ _ h => h) (by assumption) (by intro w hSw; (try dsimp only at hSw); go_simp; first | done | with_reducible rfl) ?_) | (refine held_skip 8 rfl (by kernel_rfl) (by kernel_rfl) (by kernel_rfl) (by rfl) (fun _ _ _ h => h) (by assumption) ?_)
            simp only [Act.put, List.setIfInBounds_toArray, List.set_cons_zero, List.set_cons_succ]
            first | (refine held_take 9 rfl (by kernel_rfl) (by kernel_rfl) (by kernel_rfl) (by rfl) (fun _ _ _ h => h) (by assumption) (by intro w hSw; (try dsimp only at hSw); go_simp; first | done | with_reducible rfl) ?_) | (refine held_skip 9 rfl (by kernel_rfl) (by kernel_rfl) (by kernel_rfl) (by rfl) (fun _ _ _ h => h) (by assumption) ?_)
            simp only [Act.put, List.setIfInBounds_toArray, List.set_cons_zero, List.set_cons_succ]
            first | (refine held_take 10 rfl (by kernel_rfl) (by kernel_rfl) (by kernel_rfl) (by rfl) (fun _ _ _ h => h) (by assumption) (by intro w hSw; (try dsimp only at hSw); go_simp; first | done | with_reducible rfl) ?_) | (refine held_skip 10 rfl (by kernel_rfl) (by kernel_rfl) (by kernel_rfl) (by rfl) (fun _ _ _ h => h) (by assumption) ?_)
            simp only [Act.put, List.setIfInBounds_toArray, List.set_cons_zero, List.set_cons_succ]
            first | (refine held_take 11 rfl (by kernel_rfl) (by kernel_rfl) (by kernel_rfl) (by rfl) (fun _ _ _ h => h) (by assumption) (by intro w hSw; (try dsimp only at hSw); go_simp; first | done | with_reducible rfl) ?_) | (refine held_skip 11 rfl (by kernel_rfl) (by kernel_rfl) (by kernel_rfl) (by rfl) (fun _ _ _ h => h) (by assumption) ?_)
            simp only [Act.put, List.setIfInBounds_toArray, List.set_cons_zero, List.set_cons_succ]
            first | (refine held_take 12 rfl (by kernel_rfl) (by kernel_rfl) (by kernel_rfl) (by rfl) (fun _ _ _ h => h) (by assumption) (by intro w hSw; (try dsimp only at hSw); go_simp; first | done | with_reducible rfl) ?_) | (refine held_skip 12 rfl (by kernel_rfl) (by kernel_rfl) (by kernel_rfl) (by rfl) (fun _ _ _ h => h) (by assumption) ?_)
            simp only [Act.put, List.setIfInBounds_toArray, List.set_cons_zero, List.set_cons_succ]
            first | (refine held_take 13 rfl (by kernel_rfl) (by kernel_rfl) (by kernel_rfl) (by rfl) (fun _ _ _ h => h) (by assumption) (by intro w hSw; (try dsimp only at hSw); go_simp; first | done | with_reducible rfl) ?_) | (refine held_skip 13 rfl (by kernel_rfl) (by kernel_rfl) (by kernel_rfl) (by rfl) (fun _ _ _ h => h) (by assumption) ?_)
            simp only [Act.put, List.setIfInBounds_toArray, List.set_cons_zero, List.set_cons_succ]
            first | (refine held_take 14 rfl (by kernel_rfl) (by kernel_rfl) (by kernel_rfl) (by rfl) (fun _ _ _ h => h) (by assumption) (by intro w hSw; (try dsimp only at hSw); go_simp; first | done | with_reducible rfl) ?_) | (refine held_skip 14 rfl (by kernel_rfl) (by kernel_rfl) (by kernel_rfl) (by rfl) (fun _ _ _ h => h) (by assumption) ?_)
            simp only [Act.put, List.setIfInBounds_toArray, List.set_cons_zero, List.set_cons_succ]
            refine wpAnyH_done (by kernel_rfl) ?_ _
            have HB8 := Lib.hid hHeld
            clear hHeld
            generalize World.drew wr = w4 at *
            have h84 := HB8.out
            have HRr := Lib.hid (HRr.out.below h84)
            have HBr := Lib.hid (below_keep h84 HBr.out)
            have hbr := ex_trans hbr h84
            have hz4 := h84.size
            clear y0 y1 y2 h84
            have HZ := Lib.hid (show intsN (plcs nm s.files (k + 1)) = (intsN L).take L.length ++ [(k : Int)] by rw [HS1.out, insK_at HT8.out.1 (by omega) (fun h => Int.not_le.2 (HT8.out.2 h)), intsN_put, List.drop_of_length_le (by rw [intsN_len]; exact Nat.le_refl _), List.append_nil])
            go_wp2_with (at_builtin; first
                        | (refine wpList_append_row rfl (.tmp 48) (.tmp 51) _ rfl encInt Try.underlying24 hi hi0 hi1 hi2 rfl rfl rfl (FRow.any0 _ _ _ _ w4.heap.size _) (((Src.of_row encInt HRr.out).below (by go_grown)).takeU encInt (k := L.length) (by omega)) (by unfold maxLen; omega) (by omega) (by simp <;> omega) ?_; intro A6 c6 w6 hr6 hc6 hx6; have hB6 : Below w4.heap.size w4 w6 := (Below.mark (B := w4.heap.size) (w := w4) (by go_grown) hc6 (by simp <;> omega) (by simp [rowBs_zero])); have HR6 := Lib.hid (show FRow 3 1 eInt w6 w4.heap.size A6 L.length c6 ((intsN L).take L.length) by simpa using hr6); clear hr6 hc6 hx6)
                        | (refine wpList_append_row rfl (.tmp 52) (.tmp 54) _ rfl encInt Try.underlying24 hi hi0 hi1 hi2 rfl rfl rfl (HR6.out.below (by go_grown)) (src1 encInt _ (k : Int) _ (by simp) rfl) (by unfold maxLen; omega) (by omega) (by have := hB6.size; simp <;> omega) ?_; intro A8 c8 w8 hr8 hc8 hx8; have hB8 : Below w4.heap.size w4 w8 := (Below.mark (B := w4.heap.size) (w := w4) (ex_alloc hB6 _) hc8 (by have := hB6.size; simp <;> omega) (fun b hb => (HR6.out.base b hb).1)); have HR8 := Lib.hid hr8; clear hr8 hc8 hx8)
                        | (refine wpList_append_row rfl (.tmp 56) (.tmp 59) _ rfl encInt Try.underlying24 hi hi0 hi1 hi2 rfl rfl rfl HR8.out (Src.none0 _ _) (by unfold maxLen; omega) (by omega) (by have := hB8.size; omega) ?_; intro A9 c9 w9 hr9 hc9 hx9; have hB9 : Below w4.heap.size w4 w9 := (Below.mark (B := w4.heap.size) (w := w4) hB8 hc9 hB8.size (fun b hb => (HR8.out.base b hb).1)); have HR9 := Lib.hid hr9; clear hr9 hc9 hx9))
            have hN9 : FRow 3 1 eInt w9 (w.heap.size + 1) A9 (L.length + 1) c9 (intsN (plcs nm s.files (k + 1))) := by rw [HZ.out]; have h9 := HR9.out.re (B' := w.heap.size + 1) (fun b hb => by have := (HR9.out.base b hb).1; omega); simpa using h9
            have HN9 := Lib.hid hN9
            have HBX := Lib.hid (below_keep hB9 HBr.out)
            have HBW := Lib.hid (ex_trans hbr hB9)
            clear hN9 hB9 hB8 hB6
            go_wp2_with fail
            go_roundw
            case rel => exact ⟨k + 1, by omega, by go_num, HBX.out, L.length + 1, by omega, A9, c9, rfl, HN9.out, HBW.out⟩
            case measure => simp [intOf]; omega
    · obtain rfl : k = s.files.length := by omega
      obtain rfl : (plcs nm s.files s.files.length).length = q := by rw [← hrow.len, intsN_len]
      have HR := Lib.hid (hrow.re (B' := w.heap.size) (fun b hb => by have := (hrow.base b hb).1; omega))
      have HB := Lib.hid hb
      clear hrow hb
      go_wp2_with fail
      go_returns
      exact ⟨A1, c1, rfl, HR.out, HB.out⟩
set_option maxHeartbeats 3200000 in
theorem spec_SortedByAttr (s : Sto) (A : Option Addr) (n c : Nat) (B : Option Addr) (m d : Nat) (nm : ByteArray) (w : World) (hT : Sl 5 RFil w B m s.files) (hm : m ≤ 1073741824) (hok : s.ok 1073741824) :
    Calls Try.prog 56 #[s.v A n c B m d, .string nm] w (NewRow id 3 1 eInt w (sortedI nm s.files)) := by
  obtain rfl : s.files.length = m := hT.len
  obtain ⟨ii, hi, hi0, hi1, hi2⟩ := info_parts info_int
  have HC := Lib.hid fun w' (hb : Below w.heap.size w w') => spec_l08Places s A n c B s.files.length d nm w' (hT.mono mFil hb) hm hok
  have HT := Lib.hid hT
  have HE := Lib.hid (plcs_ids nm s.files)
  have HL := Lib.hid fun (i : Nat) (h : i ∈ plcs nm s.files s.files.length) => plcs_lt h
  have hLl := plcs_len nm s.files s.files.length
  clear hT hok
  go_enter Try.func56, Try.ntmps56
  go_wp2_with fail
  refine (HC.out _ (by go_grown)).mono ?_; rintro e w1 ⟨A1, c1, rfl, hrL, hb1⟩
  have x1 : w1.cell? ⟨w.heap.size, 1, none⟩ = some (.slice B s.files.length d) := (hb1.cell (p := ⟨w.heap.size, 1, none⟩) (by simp <;> omega)).trans (by go_simp <;> omega)
  have HB1 := Lib.hid (ex_trans (w := w) (by go_grown) hb1)
  have hz1 : w.heap.size < w1.heap.size := by have := hb1.size; simp at this; omega
  generalize plcs nm s.files s.files.length = L at *
  have HRL := Lib.hid hrL
  clear hb1 hrL
  go_wp2_with fail
  go_loopw [5, 7] (fun v i wr => ∃ k : Nat, k ≤ L.length ∧ i = .int .i64 k ∧ AppB 3 1 eInt w1 w1.heap.size k ((L.take k).map (fun i => (atF s.files i).id)) v wr) (fun _ i _ => L.length - (intOf i).toNat)
  case atStart => exact ⟨0, Nat.zero_le _, rfl, _, _, rfl, FRow.any0 _ _ _ _ _ _, Below.refl _ _⟩
  case round =>
    obtain ⟨k, hk, rfl, A2, c2, rfl, hrow, hb⟩ := hrel
    by_cases hlt : k < L.length
    · obtain ⟨g, rfl, hgB, hgw, hcell⟩ := intsN_cell HRL.out (by omega)
      have z0 := hcell k hlt
      have hLk : L[k] < s.files.length := HL.out _ (List.getElem_mem hlt)
      obtain ⟨b, off, rfl, bw, bc⟩ := HT.out.fil (by omega)
      obtain ⟨qA, qn, qc', q0, -, -, -, -, -⟩ := bc L[k] hLk
      have hbb := ex_trans HB1.out hb
      rw [← hbb.cell (p := ⟨b, _, none⟩) bw] at q0
      rw [← hb.cell (p := ⟨g, _, none⟩) hgw] at z0
      have y1 := keep_cell hb x1
      have HTK := Lib.hid (show (L.take (k + 1)).map (fun i => (atF s.files i).id) = (L.take k).map (fun i => (atF s.files i).id) ++ [s.files[L[k]].id] by rw [take_map_succ (fun i => (atF s.files i).id) L hlt, atF_at hLk])
      have i0 : (0 : Int) ≤ (k : Int) := by omega
      have i1 : (k : Int) < (L.length : Int) := by omega
      have l0 : (0 : Int) ≤ (L[k] : Int) := by omega
      have l1 : (L[k] : Int) < (s.files.length : Int) := by omega
      have HR := Lib.hid hrow
      have hzr := hb.size
      have HB2 := Lib.hid hb
      clear bc hcell hrow hb hbb
      go_upto_region 6 with fail
      refine wp_region_held_drew (S := (fun w' => w'.cell? ⟨w.heap.size, 1, none⟩ = some (.slice (some ⟨b, off, none⟩) s.files.length d) ∧ w'.cell? ⟨g, k, none⟩ = some (.int .i64 (L[k] : Int)) ∧ w'.cell? ⟨b, off + L[k] * 5, none⟩ = some (.int .i64 s.files[L[k]].id) ∧ Below w1.heap.size w1 w')) (by kernel_rfl) (by (try dsimp only); exact ⟨y1, z0, q0, HB2.out.drew⟩) (fun hHeld => ?_)
      first | (refine held_take 0 rfl (by kernel_rfl) (by kernel_rfl) (by kernel_rfl) (by rfl) (fun _ _ _ h => h) (by assumption) (by intro w hSw; (try dsimp only at hSw); go_simp; first | done | with_reducible rfl) ?_) | (refine held_skip 0 rfl (by kernel_rfl) (by kernel_rfl) (by kernel_rfl) (by rfl) (fun _ _ _ h => h) (by assumption) ?_)
      simp only [Act.put, List.setIfInBounds_toArray, List.set_cons_zero, List.set_cons_succ]
      first | (refine held_take 1 rfl (by kernel_rfl) (by kernel_rfl) (by kernel_rfl) (by rfl) (fun _ _ _ h => h) (by assumption) (by intro w hSw; (try dsimp only at hSw); go_simp; first | done | with_reducible rfl) ?_) | (refine held_skip 1 rfl (by kernel_rfl) (by kernel_rfl) (by kernel_rfl) (by rfl) (fun _ _ _ h => h) (by assumption) ?_)
      simp only [Act.put, List.setIfInBounds_toArray, List.set_cons_zero, List.set_cons_succ]
      first | (refine held_take 2 rfl (by kernel_rfl) (by kernel_rfl) (by kernel_rfl) (by rfl) (fun _ _ _ h => h) (by assumption) (by intro w hSw; (try dsimp only at hSw); go_simp; first | done | with_reducible rfl) ?_) | (refine held_skip 2 rfl (by kernel_rfl) (by kernel_rfl) (by kernel_rfl) (by rfl) (fun _ _ _ h => h) (by assumption) ?_)
      simp only [Act.put, List.setIfInBounds_toArray, List.set_cons_zero, List.set_cons_succ]
      first | (refine held_take 3 rfl (by kernel_rfl) (by kernel_rfl) (by kernel_rfl) (by rfl) (fun _ _ _ h => h) (by assumption) (by intro w hSw; (try dsimp only at hSw); go_simp; first | done | with_reducible rfl) ?_) | (refine held_skip 3 rfl (by kernel_rfl) (by kernel_rfl) (by kernel_rfl) (by rfl) (fun _ _ _ h => h) (by assumption) ?_)
      simp only [Act.put, List.setIfInBounds_toArray, List.set_cons_zero, List.set_cons_succ]
      first | (refine held_take 4 rfl (by kernel_rfl) (by kernel_rfl) (by kernel_rfl) (by rfl) (fun _ _ _ h => h) (by assumption) (by intro w hSw; (try dsimp only at hSw); go_simp; first | done | with_reducible rfl) ?_) | (refine held_skip 4 rfl (by kernel_rfl) (by kernel_rfl) (by kernel_rfl) (by rfl) (fun _ _ _ h => h) (by assumption) ?_)
      simp only [Act.put, List.setIfInBounds_toArray, List.set_cons_zero, List.set_cons_succ]
      first | (refine held_take 5 rfl (by kernel_rfl) (by kernel_rfl) (by kernel_rfl) (by rfl) (fun _ _ _ h => h) (by assumption) (by intro w hSw; (try dsimp only at hSw); go_simp; first | done | with_reducible rfl) ?_) | (refine held_skip 5 rfl (by kernel_rfl) (by kernel_rfl) (by kernel_rfl) (by rfl) (fun _ _ _ h => h) (by assumption) ?_)
      simp only [Act.put, List.setIfInBounds_toArray, List.set_cons_zero, List.set_cons_succ]
      first | (refine held_take 6 rfl (by kernel_rfl) (by kernel_rfl) (by kernel_rfl) (by rfl) (fun _ _ _ h => h) (by assumption) (by intro w hSw; (try dsimp only at hSw); go_simp; first | done | with_reducible rfl) ?_) | (refine held_skip 6 rfl (by kernel_rfl) (by kernel_rfl) (by kernel_rfl) (by rfl) (fun _ _ _ h => h) (by assumption) ?_)
      simp only [Act.put, List.setIfInBounds_toArray, List.set_cons_zero, List.set_cons_succ]
      first | (refine held_take 7 rfl (by kernel_rfl) (by kernel_rfl) (by kernel_rfl) (by rfl) (fun _ _ _ h => h) (by assumption) (by intro w hSw; (try dsimp only at hSw); go_simp; first | done | with_reducible rfl) ?_) | (refine held_skip 7 rfl (by kernel_rfl) (by kernel_rfl) (by kernel_rfl) (by rfl) (fun _ _ _ h => h) (by assumption) ?_)
      simp only [Act.put, List.setIfInBounds_toArray, List.set_cons_zero, List.set_cons_succ]
      first | (refine held_take 8 rfl (by kernel_rfl) (by kernel_rfl) (by kernel_rfl) (by rfl) (fun _ _ _ h => h) (by assumption) (by intro w hSw; (try dsimp only at hSw); go_simp; first | done | with_reducible rfl) ?_) | (refine held_skip 8 rfl (by kernel_rfl) (by kernel_rfl) (by kernel_rfl) (by rfl) (fun _ _ _ h => h) (by assumption) ?_)
      simp only [Act.put, List.setIfInBounds_toArray, List.set_cons_zero, List.set_cons_succ]
      first | (refine held_take 9 rfl (by kernel_rfl) (by kernel_rfl) (by kernel_rfl) (by rfl) (fun _ _ _ h => h) (by assumption) (by intro w hSw; (try dsimp only at hSw); go_simp; first | done | with_reducible rfl) ?_) | (refine held_skip 9 rfl (by kernel_rfl) (by kernel_rfl) (by kernel_rfl) (by rfl) (fun _ _ _ h => h) (by assumption) ?_)
      simp only [Act.put, List.setIfInBounds_toArray, List.set_cons_zero, List.set_cons_succ]
      generalize hwd : World.drew wr = wd at *
      have HRd := Lib.hid (show FRow 3 1 eInt wd w1.heap.size A2 k c2 ((L.take k).map (fun i => (atF s.files i).id)) by rw [← hwd]; exact HR.out.below (Below.refl _ _).drew)
      have hszd : w1.heap.size ≤ wd.heap.size := hHeld.2.2.2.size
      clear hwd
      refine held_one 10 (by kernel_rfl) rfl (fun K hK => ?_)
      go_simp
      generalize hwa : World.alloc wd _ = wa
      have hba : Below wd.heap.size wd wa := by rw [← hwa]; exact (Below.refl _ _).alloc (Nat.le_refl _) _
      have hsa : wd.heap.size ≤ wa.heap.size := hba.size
      have HSR := Lib.hid (show Src 1 eInt wa (some ⟨wd.heap.size, 0, none⟩) 1 [s.files[L[k]].id] by rw [← hwa]; exact src1 encInt _ _ _ rfl rfl)
      have HRa := Lib.hid (HRd.out.below hba)
      refine hK.out _ _ (by (try dsimp only); exact ⟨keep_cell hba hHeld.1, keep_cell hba hHeld.2.1, keep_cell hba hHeld.2.2.1, ex_trans hHeld.2.2.2 hba⟩) (fun hNew => ?_)
      clear hK K hHeld
      have hHeld := hNew
      clear hNew
      try simp only [Act.put, List.setIfInBounds_toArray, List.set_cons_zero, List.set_cons_succ]
      clear hwa hba
      refine held_one 11 (by kernel_rfl) rfl (fun K hK => ?_)
      refine step_append_row rfl (.tmp 18) (.tmp 28) _ rfl encInt Try.underlying24 hi hi0 hi1 hi2 rfl rfl rfl HRa.out HSR.out (by unfold maxLen; omega) (by omega) (by omega) ?_; intro A3 c3 w3 hr3 hc3 hx3
      have HR3 := Lib.hid hr3
      refine hK.out _ _ (by (try dsimp only); exact ⟨hc3.cell hHeld.1 (fun h => by have h1 := (HRa.out.base _ h).1; simp only at h1; omega), hc3.cell hHeld.2.1 (fun h => by have h1 := (HRa.out.base _ h).1; simp only at h1; omega), hc3.cell hHeld.2.2.1 (fun h => by have h1 := (HRa.out.base _ h).1; simp only at h1; omega), Below.mark hHeld.2.2.2 hc3 hHeld.2.2.2.size (fun b hb => (HRa.out.base b hb).1)⟩) (fun hNew => ?_)
      clear hK K hHeld
      have hHeld := hNew
      clear hNew
      try simp only [Act.put, List.setIfInBounds_toArray, List.set_cons_zero, List.set_cons_succ]
      clear hr3 hc3 hx3
      first | (refine held_take 12 rfl (by kernel_rfl) (by kernel_rfl) (by kernel_rfl) (by rfl) (fun _ _ _ h => h) (by assumption) (by intro w hSw; (try dsimp only at hSw); go_simp; first | done | with_reducible rfl) ?_) | (refine held_skip 12 rfl (by kernel_rfl) (by kernel_rfl) (by kernel_rfl) (by rfl) (fun _ _ _ h => h) (by assumption) ?_)
      simp only [Act.put, List.setIfInBounds_toArray, List.set_cons_zero, List.set_cons_succ]
      refine wpAnyH_done (by kernel_rfl) ?_ _
      have HB3 := Lib.hid hHeld.2.2.2
      clear hHeld
      go_wp2_with fail
      go_roundw
      case rel => exact ⟨k + 1, by omega, by go_num, A3, c3, rfl, by rw [HTK.out]; exact HR3.out, HB3.out⟩
      case measure => simp [intOf]; omega
    · obtain rfl : k = L.length := by omega
      rw [List.take_length, HE.out] at hrow
      have hrow : FRow 3 1 eInt wr w1.heap.size A2 L.length c2 (sortedI nm s.files) := hrow
      have HR := Lib.hid (hrow.re (B' := w.heap.size) (fun b hb => Nat.le_trans (Nat.le_of_lt hz1) (hrow.base b hb).1))
      have hl : (sortedI nm s.files).length = L.length := hrow.len
      have HB2 := Lib.hid hb
      clear hrow hb
      go_wp2_with fail
      go_returns
      refine ⟨A2, c2, by rw [hl]; rfl, by rw [hl]; exact HR.out, ex_trans HB1.out HB2.out⟩
set_option maxHeartbeats 6400000 in
theorem spec_RangeByAttr (s : Sto) (A : Option Addr) (n c : Nat) (B : Option Addr) (m d : Nat) (nm : ByteArray) (lo hi : Int) (w : World) (hT : Sl 5 RFil w B m s.files) (hm : m ≤ 1073741824) (hok : s.ok 1073741824) :
    Calls Try.prog 58 #[s.v A n c B m d, .string nm, .int .i64 lo, .int .i64 hi] w (NewRow id 3 1 eInt w (rangeI nm lo hi s.files)) := by
  obtain rfl : s.files.length = m := hT.len
  obtain ⟨ii, hii, hi0, hi1, hi2⟩ := info_parts info_int
  have HC := Lib.hid fun w' (hb : Below w.heap.size w w') => spec_l08Places s A n c B s.files.length d nm w' (hT.mono mFil hb) hm hok
  have HNU := Lib.hid fun (i : Nat) (hi : i < s.files.length) w' (hb : Below w.heap.size w w') => spec_l08Num s A n c B s.files.length d nm w' (hT.mono mFil hb) hm hok i hi
  have HT := Lib.hid hT
  have HE := Lib.hid (plcs_range nm lo hi s.files)
  have HL := Lib.hid fun (i : Nat) (h : i ∈ plcs nm s.files s.files.length) => plcs_lt h
  have hLl := plcs_len nm s.files s.files.length
  clear hT hok
  go_enter Try.func58, Try.ntmps58
  go_wp2_with fail
  refine (HC.out _ (by go_grown)).mono ?_; rintro e w1 ⟨A1, c1, rfl, hrL, hb1⟩
  have x0 : w1.cell? ⟨w.heap.size, 0, none⟩ = some (.slice A n c) := (hb1.cell (p := ⟨w.heap.size, 0, none⟩) (by simp <;> omega)).trans (by go_simp <;> omega)
  have x1 : w1.cell? ⟨w.heap.size, 1, none⟩ = some (.slice B s.files.length d) := (hb1.cell (p := ⟨w.heap.size, 1, none⟩) (by simp <;> omega)).trans (by go_simp <;> omega)
  have x2 : w1.cell? ⟨w.heap.size, 2, none⟩ = some (.int .i64 s.next) := (hb1.cell (p := ⟨w.heap.size, 2, none⟩) (by simp <;> omega)).trans (by go_simp <;> omega)
  have HB1 := Lib.hid (ex_trans (w := w) (by go_grown) hb1)
  have hz1 : w.heap.size < w1.heap.size := by have := hb1.size; simp at this; omega
  generalize plcs nm s.files s.files.length = L at *
  have HRL := Lib.hid hrL
  clear hb1 hrL
  go_wp2_with fail
  go_loopw [9, 11] (fun v i wr => ∃ k q : Nat, k ≤ L.length ∧ q ≤ k ∧ i = .int .i64 k ∧ AppB 3 1 eInt w1 w1.heap.size q (((L.take k).filter fun i => inB (keyN nm s.files i) lo hi).map (fun i => (atF s.files i).id)) v wr) (fun _ i _ => L.length - (intOf i).toNat)
  case atStart => exact ⟨0, 0, Nat.zero_le _, Nat.le_refl _, rfl, _, _, rfl, FRow.any0 _ _ _ _ _ _, Below.refl _ _⟩
  case round =>
    obtain ⟨k, q, hk, hq, rfl, A2, c2, rfl, hrow, hb⟩ := hrel
    by_cases hlt : k < L.length
    · obtain ⟨g, rfl, hgB, hgw, hcell⟩ := intsN_cell HRL.out (by omega)
      have z0 := hcell k hlt
      have hLk : L[k] < s.files.length := HL.out _ (List.getElem_mem hlt)
      obtain ⟨b, off, rfl, bw, bc⟩ := HT.out.fil (by omega)
      obtain ⟨qA, qn, qc', q0, -, -, -, -, -⟩ := bc L[k] hLk
      have hbb := ex_trans HB1.out hb
      have HNk := Lib.hid fun w' (hb' : Below wr.heap.size wr w') => HNU.out L[k] hLk w' (ex_trans hbb hb')
      rw [← hbb.cell (p := ⟨b, _, none⟩) bw] at q0
      rw [← hb.cell (p := ⟨g, _, none⟩) hgw] at z0
      have y0 := keep_cell hb x0
      have y1 := keep_cell hb x1
      have y2 := keep_cell hb x2
      have HTK := Lib.hid (take_filter_succ (fun i => inB (keyN nm s.files i) lo hi) L hlt)
      have i0 : (0 : Int) ≤ (k : Int) := by omega
      have i1 : (k : Int) < (L.length : Int) := by omega
      have l0 : (0 : Int) ≤ (L[k] : Int) := by omega
      have l1 : (L[k] : Int) < (s.files.length : Int) := by omega
      have hzr := hb.size
      have HR0 := Lib.hid hrow
      have HBa := Lib.hid hb
      clear bc hcell hrow hb hbb
      cases hf : inB (keyN nm s.files L[k]) lo hi with
      | true =>
        have HF := Lib.hid hf
        have HTK2 := Lib.hid (show ((L.take (k + 1)).filter fun i => inB (keyN nm s.files i) lo hi).map (fun i => (atF s.files i).id) = ((L.take k).filter fun i => inB (keyN nm s.files i) lo hi).map (fun i => (atF s.files i).id) ++ [s.files[L[k]].id] by rw [HTK.out]; simp only [hf]; simp [atF_at hLk])
        clear hf
        go_upto_region 6 with fail
        refine wp_region_held_drew (S := (fun w' => w'.cell? ⟨w.heap.size, 0, none⟩ = some (.slice A n c) ∧ w'.cell? ⟨w.heap.size, 1, none⟩ = some (.slice (some ⟨b, off, none⟩) s.files.length d) ∧ w'.cell? ⟨w.heap.size, 2, none⟩ = some (.int .i64 s.next) ∧ w'.cell? ⟨g, k, none⟩ = some (.int .i64 (L[k] : Int)) ∧ w'.cell? ⟨b, off + L[k] * 5, none⟩ = some (.int .i64 s.files[L[k]].id) ∧ Below wr.heap.size wr w')) (by kernel_rfl) (by (try dsimp only); exact ⟨y0, y1, y2, z0, q0, (Below.refl _ _).drew⟩) (fun hHeld => ?_)
        first | (refine held_take 0 rfl (by kernel_rfl) (by kernel_rfl) (by kernel_rfl) (by rfl) (fun _ _ _ h => h) (by assumption) (by intro w hSw; (try dsimp only at hSw); go_simp; first | done | with_reducible rfl) ?_) | (refine held_skip 0 rfl (by kernel_rfl) (by kernel_rfl) (by kernel_rfl) (by rfl) (fun _ _ _ h => h) (by assumption) ?_)
        simp only [Act.put, List.setIfInBounds_toArray, List.set_cons_zero, List.set_cons_succ]
        first | (refine held_take 1 rfl (by kernel_rfl) (by kernel_rfl) (by kernel_rfl) (by rfl) (fun _ _ _ h => h) (by assumption) (by intro w hSw; (try dsimp only at hSw); go_simp; first | done | with_reducible rfl) ?_) | (refine held_skip 1 rfl (by kernel_rfl) (by kernel_rfl) (by kernel_rfl) (by rfl) (fun _ _ _ h => h) (by assumption) ?_)
        simp only [Act.put, List.setIfInBounds_toArray, List.set_cons_zero, List.set_cons_succ]
        first | (refine held_take 2 rfl (by kernel_rfl) (by kernel_rfl) (by kernel_rfl) (by rfl) (fun _ _ _ h => h) (by assumption) (by intro w hSw; (try dsimp only at hSw); go_simp; first | done | with_reducible rfl) ?_) | (refine held_skip 2 rfl (by kernel_rfl) (by kernel_rfl) (by kernel_rfl) (by rfl) (fun _ _ _ h => h) (by assumption) ?_)
        simp only [Act.put, List.setIfInBounds_toArray, List.set_cons_zero, List.set_cons_succ]
        first | (refine held_take 3 rfl (by kernel_rfl) (by kernel_rfl) (by kernel_rfl) (by rfl) (fun _ _ _ h => h) (by assumption) (by intro w hSw; (try dsimp only at hSw); go_simp; first | done | with_reducible rfl) ?_) | (refine held_skip 3 rfl (by kernel_rfl) (by kernel_rfl) (by kernel_rfl) (by rfl) (fun _ _ _ h => h) (by assumption) ?_)
        simp only [Act.put, List.setIfInBounds_toArray, List.set_cons_zero, List.set_cons_succ]
        first | (refine held_take 4 rfl (by kernel_rfl) (by kernel_rfl) (by kernel_rfl) (by rfl) (fun _ _ _ h => h) (by assumption) (by intro w hSw; (try dsimp only at hSw); go_simp; first | done | with_reducible rfl) ?_) | (refine held_skip 4 rfl (by kernel_rfl) (by kernel_rfl) (by kernel_rfl) (by rfl) (fun _ _ _ h => h) (by assumption) ?_)
        simp only [Act.put, List.setIfInBounds_toArray, List.set_cons_zero, List.set_cons_succ]
        first | (refine held_take 5 rfl (by kernel_rfl) (by kernel_rfl) (by kernel_rfl) (by rfl) (fun _ _ _ h => h) (by assumption) (by intro w hSw; (try dsimp only at hSw); go_simp; first | done | with_reducible rfl) ?_) | (refine held_skip 5 rfl (by kernel_rfl) (by kernel_rfl) (by kernel_rfl) (by rfl) (fun _ _ _ h => h) (by assumption) ?_)
        simp only [Act.put, List.setIfInBounds_toArray, List.set_cons_zero, List.set_cons_succ]
        first | (refine held_take 7 rfl (by kernel_rfl) (by kernel_rfl) (by kernel_rfl) (by rfl) (fun _ _ _ h => h) (by assumption) (by intro w hSw; (try dsimp only at hSw); go_simp; first | done | with_reducible rfl) ?_) | (refine held_skip 7 rfl (by kernel_rfl) (by kernel_rfl) (by kernel_rfl) (by rfl) (fun _ _ _ h => h) (by assumption) ?_)
        simp only [Act.put, List.setIfInBounds_toArray, List.set_cons_zero, List.set_cons_succ]
        first | (refine held_take 8 rfl (by kernel_rfl) (by kernel_rfl) (by kernel_rfl) (by rfl) (fun _ _ _ h => h) (by assumption) (by intro w hSw; (try dsimp only at hSw); go_simp; first | done | with_reducible rfl) ?_) | (refine held_skip 8 rfl (by kernel_rfl) (by kernel_rfl) (by kernel_rfl) (by rfl) (fun _ _ _ h => h) (by assumption) ?_)
        simp only [Act.put, List.setIfInBounds_toArray, List.set_cons_zero, List.set_cons_succ]
        refine held_one 6 (by kernel_rfl) rfl (fun K hK => ?_)
        go_simp
        go_at_call 122
        refine (HNk.out _ hHeld.2.2.2.2.2).mono ?_; rintro e w4 ⟨rfl, hb4⟩
        go_wp2_with fail
        refine hK.out _ _ (by (try dsimp only); exact ⟨keep_cell hb4 hHeld.1, keep_cell hb4 hHeld.2.1, keep_cell hb4 hHeld.2.2.1, keep_cell hb4 hHeld.2.2.2.1, keep_cell hb4 hHeld.2.2.2.2.1, ex_trans hHeld.2.2.2.2.2 hb4⟩) (fun hNew => ?_)
        clear hK K hHeld
        have hHeld := hNew
        clear hNew
        try simp only [Act.put, List.setIfInBounds_toArray, List.set_cons_zero, List.set_cons_succ]
        clear hb4
        refine held_one 9 (by kernel_rfl) rfl (fun K hK => ?_)
        go_simp
        go_at_call 72
        refine (spec_l01In _ _ _ _).mono ?_; rintro e w' ⟨rfl, rfl⟩; rw [HF.out]
        go_wp2_with fail
        refine hK.out _ _ (by (try dsimp only); exact hHeld) (fun hNew => ?_)
        clear hK K hHeld
        have hHeld := hNew
        clear hNew
        try simp only [Act.put, List.setIfInBounds_toArray, List.set_cons_zero, List.set_cons_succ]
        refine wpAnyH_done (by kernel_rfl) ?_ _
        have HB8 := Lib.hid hHeld.2.2.2.2.2
        have u1 := hHeld.2.1
        have z0 := hHeld.2.2.2.1
        have q0 := hHeld.2.2.2.2.1
        clear hHeld y0 y1 y2
        go_upto_region 7 with fail
        have HR := Lib.hid (HR0.out.below HB8.out)
        have HB2 := Lib.hid (ex_trans HBa.out HB8.out)
        refine wp_region_held_drew (S := (fun w' => w'.cell? ⟨w.heap.size, 1, none⟩ = some (.slice (some ⟨b, off, none⟩) s.files.length d) ∧ w'.cell? ⟨g, k, none⟩ = some (.int .i64 (L[k] : Int)) ∧ w'.cell? ⟨b, off + L[k] * 5, none⟩ = some (.int .i64 s.files[L[k]].id) ∧ Below w1.heap.size w1 w')) (by kernel_rfl) (by (try dsimp only); exact ⟨u1, z0, q0, HB2.out.drew⟩) (fun hHeld => ?_)
        first | (refine held_take 0 rfl (by kernel_rfl) (by kernel_rfl) (by kernel_rfl) (by rfl) (fun _ _ _ h => h) (by assumption) (by intro w hSw; (try dsimp only at hSw); go_simp; first | done | with_reducible rfl) ?_) | (refine held_skip 0 rfl (by kernel_rfl) (by kernel_rfl) (by kernel_rfl) (by rfl) (fun _ _ _ h => h) (by assumption) ?_)
        simp only [Act.put, List.setIfInBounds_toArray, List.set_cons_zero, List.set_cons_succ]
        first | (refine held_take 1 rfl (by kernel_rfl) (by kernel_rfl) (by kernel_rfl) (by rfl) (fun _ _ _ h => h) (by assumption) (by intro w hSw; (try dsimp only at hSw); go_simp; first | done | with_reducible rfl) ?_) | (refine held_skip 1 rfl (by kernel_rfl) (by kernel_rfl) (by kernel_rfl) (by rfl) (fun _ _ _ h => h) (by assumption) ?_)
        simp only [Act.put, List.setIfInBounds_toArray, List.set_cons_zero, List.set_cons_succ]
        first | (refine held_take 2 rfl (by kernel_rfl) (by kernel_rfl) (by kernel_rfl) (by rfl) (fun _ _ _ h => h) (by assumption) (by intro w hSw; (try dsimp only at hSw); go_simp; first | done | with_reducible rfl) ?_) | (refine held_skip 2 rfl (by kernel_rfl) (by kernel_rfl) (by kernel_rfl) (by rfl) (fun _ _ _ h => h) (by assumption) ?_)
        simp only [Act.put, List.setIfInBounds_toArray, List.set_cons_zero, List.set_cons_succ]
        first | (refine held_take 3 rfl (by kernel_rfl) (by kernel_rfl) (by kernel_rfl) (by rfl) (fun _ _ _ h => h) (by assumption) (by intro w hSw; (try dsimp only at hSw); go_simp; first | done | with_reducible rfl) ?_) | (refine held_skip 3 rfl (by kernel_rfl) (by kernel_rfl) (by kernel_rfl) (by rfl) (fun _ _ _ h => h) (by assumption) ?_)
        simp only [Act.put, List.setIfInBounds_toArray, List.set_cons_zero, List.set_cons_succ]
        first | (refine held_take 4 rfl (by kernel_rfl) (by kernel_rfl) (by kernel_rfl) (by rfl) (fun _ _ _ h => h) (by assumption) (by intro w hSw; (try dsimp only at hSw); go_simp; first | done | with_reducible rfl) ?_) | (refine held_skip 4 rfl (by kernel_rfl) (by kernel_rfl) (by kernel_rfl) (by rfl) (fun _ _ _ h => h) (by assumption) ?_)
        simp only [Act.put, List.setIfInBounds_toArray, List.set_cons_zero, List.set_cons_succ]
        first | (refine held_take 5 rfl (by kernel_rfl) (by kernel_rfl) (by kernel_rfl) (by rfl) (fun _ _ _ h => h) (by assumption) (by intro w hSw; (try dsimp only at hSw); go_simp; first | done | with_reducible rfl) ?_) | (refine held_skip 5 rfl (by kernel_rfl) (by kernel_rfl) (by kernel_rfl) (by rfl) (fun _ _ _ h => h) (by assumption) ?_)
        simp only [Act.put, List.setIfInBounds_toArray, List.set_cons_zero, List.set_cons_succ]
        first | (refine held_take 6 rfl (by kernel_rfl) (by kernel_rfl) (by kernel_rfl) (by rfl) (fun _ _ _ h => h) (by assumption) (by intro w hSw; (try dsimp only at hSw); go_simp; first | done | with_reducible rfl) ?_) | (refine held_skip 6 rfl (by kernel_rfl) (by kernel_rfl) (by kernel_rfl) (by rfl) (fun _ _ _ h => h) (by assumption) ?_)
        simp only [Act.put, List.setIfInBounds_toArray, List.set_cons_zero, List.set_cons_succ]
        first | (refine held_take 7 rfl (by kernel_rfl) (by kernel_rfl) (by kernel_rfl) (by rfl) (fun _ _ _ h => h) (by assumption) (by intro w hSw; (try dsimp only at hSw); go_simp; first | done | with_reducible rfl) ?_) | (refine held_skip 7 rfl (by kernel_rfl) (by kernel_rfl) (by kernel_rfl) (by rfl) (fun _ _ _ h => h) (by assumption) ?_)
        simp only [Act.put, List.setIfInBounds_toArray, List.set_cons_zero, List.set_cons_succ]
        first | (refine held_take 8 rfl (by kernel_rfl) (by kernel_rfl) (by kernel_rfl) (by rfl) (fun _ _ _ h => h) (by assumption) (by intro w hSw; (try dsimp only at hSw); go_simp; first | done | with_reducible rfl) ?_) | (refine held_skip 8 rfl (by kernel_rfl) (by kernel_rfl) (by kernel_rfl) (by rfl) (fun _ _ _ h => h) (by assumption) ?_)
        simp only [Act.put, List.setIfInBounds_toArray, List.set_cons_zero, List.set_cons_succ]
        first | (refine held_take 9 rfl (by kernel_rfl) (by kernel_rfl) (by kernel_rfl) (by rfl) (fun _ _ _ h => h) (by assumption) (by intro w hSw; (try dsimp only at hSw); go_simp; first | done | with_reducible rfl) ?_) | (refine held_skip 9 rfl (by kernel_rfl) (by kernel_rfl) (by kernel_rfl) (by rfl) (fun _ _ _ h => h) (by assumption) ?_)
        simp only [Act.put, List.setIfInBounds_toArray, List.set_cons_zero, List.set_cons_succ]
        generalize hwd : World.drew w4 = wd at *
        have HRd := Lib.hid (show FRow 3 1 eInt wd w1.heap.size A2 q c2 (((L.take k).filter fun i => inB (keyN nm s.files i) lo hi).map (fun i => (atF s.files i).id)) by rw [← hwd]; exact HR.out.below (Below.refl _ _).drew)
        have hszd : w1.heap.size ≤ wd.heap.size := hHeld.2.2.2.size
        clear hwd
        refine held_one 10 (by kernel_rfl) rfl (fun K hK => ?_)
        go_simp
        generalize hwa : World.alloc wd _ = wa
        have hba : Below wd.heap.size wd wa := by rw [← hwa]; exact (Below.refl _ _).alloc (Nat.le_refl _) _
        have hsa : wd.heap.size ≤ wa.heap.size := hba.size
        have HSR := Lib.hid (show Src 1 eInt wa (some ⟨wd.heap.size, 0, none⟩) 1 [s.files[L[k]].id] by rw [← hwa]; exact src1 encInt _ _ _ rfl rfl)
        have HRa := Lib.hid (HRd.out.below hba)
        refine hK.out _ _ (by (try dsimp only); exact ⟨keep_cell hba hHeld.1, keep_cell hba hHeld.2.1, keep_cell hba hHeld.2.2.1, ex_trans hHeld.2.2.2 hba⟩) (fun hNew => ?_)
        clear hK K hHeld
        have hHeld := hNew
        clear hNew
        try simp only [Act.put, List.setIfInBounds_toArray, List.set_cons_zero, List.set_cons_succ]
        clear hwa hba
        refine held_one 11 (by kernel_rfl) rfl (fun K hK => ?_)
        refine step_append_row rfl (.tmp 32) (.tmp 42) _ rfl encInt Try.underlying24 hii hi0 hi1 hi2 rfl rfl rfl HRa.out HSR.out (by unfold maxLen; omega) (by omega) (by omega) ?_; intro A3 c3 w3 hr3 hc3 hx3
        have HR3 := Lib.hid hr3
        refine hK.out _ _ (by (try dsimp only); exact ⟨hc3.cell hHeld.1 (fun h => by have h1 := (HRa.out.base _ h).1; simp only at h1; omega), hc3.cell hHeld.2.1 (fun h => by have h1 := (HRa.out.base _ h).1; simp only at h1; omega), hc3.cell hHeld.2.2.1 (fun h => by have h1 := (HRa.out.base _ h).1; simp only at h1; omega), Below.mark hHeld.2.2.2 hc3 hHeld.2.2.2.size (fun b hb => (HRa.out.base b hb).1)⟩) (fun hNew => ?_)
        clear hK K hHeld
        have hHeld := hNew
        clear hNew
        try simp only [Act.put, List.setIfInBounds_toArray, List.set_cons_zero, List.set_cons_succ]
        clear hr3 hc3 hx3
        first | (refine held_take 12 rfl (by kernel_rfl) (by kernel_rfl) (by kernel_rfl) (by rfl) (fun _ _ _ h => h) (by assumption) (by intro w hSw; (try dsimp only at hSw); go_simp; first | done | with_reducible rfl) ?_) | (refine held_skip 12 rfl (by kernel_rfl) (by kernel_rfl) (by kernel_rfl) (by rfl) (fun _ _ _ h => h) (by assumption) ?_)
        simp only [Act.put, List.setIfInBounds_toArray, List.set_cons_zero, List.set_cons_succ]
        refine wpAnyH_done (by kernel_rfl) ?_ _
        have HB3 := Lib.hid hHeld.2.2.2
        clear hHeld
        go_wp2_with fail
        go_roundw
        case rel => exact ⟨k + 1, q + 1, by omega, by omega, by go_num, A3, c3, rfl, by rw [HTK2.out]; exact HR3.out, HB3.out⟩
        case measure => simp [intOf]; omega
      | false =>
        have HF := Lib.hid hf
        have HTK2 := Lib.hid (show ((L.take (k + 1)).filter fun i => inB (keyN nm s.files i) lo hi).map (fun i => (atF s.files i).id) = ((L.take k).filter fun i => inB (keyN nm s.files i) lo hi).map (fun i => (atF s.files i).id) by rw [HTK.out]; simp only [hf]; simp)
        clear hf
        go_upto_region 6 with fail
        refine wp_region_held_drew (S := (fun w' => w'.cell? ⟨w.heap.size, 0, none⟩ = some (.slice A n c) ∧ w'.cell? ⟨w.heap.size, 1, none⟩ = some (.slice (some ⟨b, off, none⟩) s.files.length d) ∧ w'.cell? ⟨w.heap.size, 2, none⟩ = some (.int .i64 s.next) ∧ w'.cell? ⟨g, k, none⟩ = some (.int .i64 (L[k] : Int)) ∧ w'.cell? ⟨b, off + L[k] * 5, none⟩ = some (.int .i64 s.files[L[k]].id) ∧ Below wr.heap.size wr w')) (by kernel_rfl) (by (try dsimp only); exact ⟨y0, y1, y2, z0, q0, (Below.refl _ _).drew⟩) (fun hHeld => ?_)
        first | (refine held_take 0 rfl (by kernel_rfl) (by kernel_rfl) (by kernel_rfl) (by rfl) (fun _ _ _ h => h) (by assumption) (by intro w hSw; (try dsimp only at hSw); go_simp; first | done | with_reducible rfl) ?_) | (refine held_skip 0 rfl (by kernel_rfl) (by kernel_rfl) (by kernel_rfl) (by rfl) (fun _ _ _ h => h) (by assumption) ?_)
        simp only [Act.put, List.setIfInBounds_toArray, List.set_cons_zero, List.set_cons_succ]
        first | (refine held_take 1 rfl (by kernel_rfl) (by kernel_rfl) (by kernel_rfl) (by rfl) (fun _ _ _ h => h) (by assumption) (by intro w hSw; (try dsimp only at hSw); go_simp; first | done | with_reducible rfl) ?_) | (refine held_skip 1 rfl (by kernel_rfl) (by kernel_rfl) (by kernel_rfl) (by rfl) (fun _ _ _ h => h) (by assumption) ?_)
        simp only [Act.put, List.setIfInBounds_toArray, List.set_cons_zero, List.set_cons_succ]
        first | (refine held_take 2 rfl (by kernel_rfl) (by kernel_rfl) (by kernel_rfl) (by rfl) (fun _ _ _ h => h) (by assumption) (by intro w hSw; (try dsimp only at hSw); go_simp; first | done | with_reducible rfl) ?_) | (refine held_skip 2 rfl (by kernel_rfl) (by kernel_rfl) (by kernel_rfl) (by rfl) (fun _ _ _ h => h) (by assumption) ?_)
        simp only [Act.put, List.setIfInBounds_toArray, List.set_cons_zero, List.set_cons_succ]
        first | (refine held_take 3 rfl (by kernel_rfl) (by kernel_rfl) (by kernel_rfl) (by rfl) (fun _ _ _ h => h) (by assumption) (by intro w hSw; (try dsimp only at hSw); go_simp; first | done | with_reducible rfl) ?_) | (refine held_skip 3 rfl (by kernel_rfl) (by kernel_rfl) (by kernel_rfl) (by rfl) (fun _ _ _ h => h) (by assumption) ?_)
        simp only [Act.put, List.setIfInBounds_toArray, List.set_cons_zero, List.set_cons_succ]
        first | (refine held_take 4 rfl (by kernel_rfl) (by kernel_rfl) (by kernel_rfl) (by rfl) (fun _ _ _ h => h) (by assumption) (by intro w hSw; (try dsimp only at hSw); go_simp; first | done | with_reducible rfl) ?_) | (refine held_skip 4 rfl (by kernel_rfl) (by kernel_rfl) (by kernel_rfl) (by rfl) (fun _ _ _ h => h) (by assumption) ?_)
        simp only [Act.put, List.setIfInBounds_toArray, List.set_cons_zero, List.set_cons_succ]
        first | (refine held_take 5 rfl (by kernel_rfl) (by kernel_rfl) (by kernel_rfl) (by rfl) (fun _ _ _ h => h) (by assumption) (by intro w hSw; (try dsimp only at hSw); go_simp; first | done | with_reducible rfl) ?_) | (refine held_skip 5 rfl (by kernel_rfl) (by kernel_rfl) (by kernel_rfl) (by rfl) (fun _ _ _ h => h) (by assumption) ?_)
        simp only [Act.put, List.setIfInBounds_toArray, List.set_cons_zero, List.set_cons_succ]
        first | (refine held_take 7 rfl (by kernel_rfl) (by kernel_rfl) (by kernel_rfl) (by rfl) (fun _ _ _ h => h) (by assumption) (by intro w hSw; (try dsimp only at hSw); go_simp; first | done | with_reducible rfl) ?_) | (refine held_skip 7 rfl (by kernel_rfl) (by kernel_rfl) (by kernel_rfl) (by rfl) (fun _ _ _ h => h) (by assumption) ?_)
        simp only [Act.put, List.setIfInBounds_toArray, List.set_cons_zero, List.set_cons_succ]
        first | (refine held_take 8 rfl (by kernel_rfl) (by kernel_rfl) (by kernel_rfl) (by rfl) (fun _ _ _ h => h) (by assumption) (by intro w hSw; (try dsimp only at hSw); go_simp; first | done | with_reducible rfl) ?_) | (refine held_skip 8 rfl (by kernel_rfl) (by kernel_rfl) (by kernel_rfl) (by rfl) (fun _ _ _ h => h) (by assumption) ?_)
        simp only [Act.put, List.setIfInBounds_toArray, List.set_cons_zero, List.set_cons_succ]
        refine held_one 6 (by kernel_rfl) rfl (fun K hK => ?_)
        go_simp
        go_at_call 122
        refine (HNk.out _ hHeld.2.2.2.2.2).mono ?_; rintro e w4 ⟨rfl, hb4⟩
        go_wp2_with fail
        refine hK.out _ _ (by (try dsimp only); exact ⟨keep_cell hb4 hHeld.1, keep_cell hb4 hHeld.2.1, keep_cell hb4 hHeld.2.2.1, keep_cell hb4 hHeld.2.2.2.1, keep_cell hb4 hHeld.2.2.2.2.1, ex_trans hHeld.2.2.2.2.2 hb4⟩) (fun hNew => ?_)
        clear hK K hHeld
        have hHeld := hNew
        clear hNew
        try simp only [Act.put, List.setIfInBounds_toArray, List.set_cons_zero, List.set_cons_succ]
        clear hb4
        refine held_one 9 (by kernel_rfl) rfl (fun K hK => ?_)
        go_simp
        go_at_call 72
        refine (spec_l01In _ _ _ _).mono ?_; rintro e w' ⟨rfl, rfl⟩; rw [HF.out]
        go_wp2_with fail
        refine hK.out _ _ (by (try dsimp only); exact hHeld) (fun hNew => ?_)
        clear hK K hHeld
        have hHeld := hNew
        clear hNew
        try simp only [Act.put, List.setIfInBounds_toArray, List.set_cons_zero, List.set_cons_succ]
        refine wpAnyH_done (by kernel_rfl) ?_ _
        have HB8 := Lib.hid hHeld.2.2.2.2.2
        have u1 := hHeld.2.1
        have z0 := hHeld.2.2.2.1
        have q0 := hHeld.2.2.2.2.1
        clear hHeld y0 y1 y2
        go_wp2_with fail
        go_roundw
        case rel => exact ⟨k + 1, q, by omega, by omega, by go_num, A2, c2, rfl, by rw [HTK2.out]; exact HR0.out.below HB8.out, ex_trans HBa.out HB8.out⟩
        case measure => simp [intOf]; omega
    · obtain rfl : k = L.length := by omega
      rw [List.take_length, HE.out] at hrow
      have hrow : FRow 3 1 eInt wr w1.heap.size A2 q c2 (rangeI nm lo hi s.files) := hrow
      have HR := Lib.hid (hrow.re (B' := w.heap.size) (fun b hb => Nat.le_trans (Nat.le_of_lt hz1) (hrow.base b hb).1))
      have hl : (rangeI nm lo hi s.files).length = q := hrow.len
      have HB2 := Lib.hid hb
      clear hrow hb
      go_wp2_with fail
      go_returns
      refine ⟨A2, c2, by rw [hl]; rfl, by rw [hl]; exact HR.out, ex_trans HB1.out HB2.out⟩
set_option maxHeartbeats 1600000 in
theorem spec_MinByAttr (s : Sto) (A : Option Addr) (n c : Nat) (B : Option Addr) (m d : Nat) (nm : ByteArray) (w : World) (hT : Sl 5 RFil w B m s.files) (hm : m ≤ 1073741824) (hok : s.ok 1073741824) :
    Calls Try.prog 51 #[s.v A n c B m d, .string nm] w fun e w' => e = .returned (.tuple #[.int .i64 (minV nm s.files), .bool (minB nm s.files)]) ∧ Below w.heap.size w w' := by
  have HC := Lib.hid fun w' (hb : Below w.heap.size w w') => spec_SortedByAttr s A n c B m d nm w' (hT.mono mFil hb) hm hok
  clear hT hok
  go_enter Try.func51, Try.ntmps51
  go_wp2_with fail
  refine (HC.out _ (by go_grown)).mono ?_; rintro e w1 ⟨A1, c1, rfl, hr1, hb1⟩
  have hB1 := ex_trans (w := w) (by go_grown) hb1
  cases hl : sortedI nm s.files with
  | nil =>
    have HM := Lib.hid (min_nil hl)
    rw [hl] at hr1
    clear hr1 hl
    simp only [List.length_nil]
    go_wp2_with fail
    go_returns
    exact ⟨by rw [HM.out.1, HM.out.2]; rfl, hB1⟩
  | cons x l =>
    have HM := Lib.hid (min_cons hl)
    rw [hl] at hr1
    obtain ⟨g, rfl, -, -, -, -, hcell⟩ := hr1.cell encInt (by simp)
    have q0 := hcell 0 (by simp) 0 _ rfl
    simp only [Nat.zero_mul, Nat.add_zero, List.getElem_cons_zero] at q0
    clear hcell hr1 hl
    simp only [List.length_cons]
    have i1 : (0 : Int) < ((l.length + 1 : Nat) : Int) := by omega
    have i2 : ¬ (((l.length + 1 : Nat) : Int) = 0) := by omega
    go_wp2_with fail
    go_returns
    exact ⟨by rw [HM.out.1, HM.out.2]; rfl, hB1⟩
end Go.Proofs.Ytjobgnioehkomaa
namespace Go.Proofs.Ytjobgnioehkomaa
open Go.RowKit
set_option linter.unusedVariables false
theorem wrap_in {x : Int} (h1 : -9223372036854775808 ≤ x) (h2 : x < 9223372036854775808) : wrap64 x = x := by unfold wrap64; omega
theorem insK_sum {α : Type} (key g : α → Int) (x : α) (l : List α) : ((insK key x l).map g).sum = g x + (l.map g).sum := by
  induction l with
  | nil => simp [insK]
  | cons y l ih => unfold insK; split <;> simp [ih] <;> omega
theorem mrg_sum {α : Type} (key g : α → Int) (u v : List α) : ((mrg key u v).map g).sum = (u.map g).sum + (v.map g).sum := by
  induction v generalizing u with
  | nil => simp [mrg]
  | cons x v ih => rw [mrg_cons, ih, insK_sum]; simp; omega
theorem srt_sum {α : Type} (key g : α → Int) (l : List α) : ((srt key l).map g).sum = (l.map g).sum := by unfold srt; rw [mrg_sum]; simp
theorem sortF_mem {nm : ByteArray} {fs : List Fil} {f : Fil} : f ∈ sortF nm fs ↔ f ∈ fs ∧ hasI f.attrs nm = true := by unfold sortF; rw [srt_mem, List.mem_filter]
theorem sortF_len (nm : ByteArray) (fs : List Fil) : (sortF nm fs).length ≤ fs.length := by unfold sortF; rw [srt_len]; exact List.length_filter_le _ _
theorem sortF_asc (nm : ByteArray) (fs : List Fil) : Asc (fun f : Fil => intA f.attrs nm) (sortF nm fs) := srt_asc _
theorem asc_at {α : Type} {key : α → Int} {l : List α} (h : Asc key l) {i j : Nat} (hij : i < j) (hj : j < l.length) : key (l[i]'(by omega)) ≤ key l[j] := by
  induction l generalizing i j with
  | nil => simp at hj
  | cons x l ih =>
    cases j with
    | zero => omega
    | succ j =>
      cases i with
      | zero => exact h.1 _ (by simp)
      | succ i => exact ih h.2 (by omega) (by simpa using hj)
theorem intA_no {l : List Atr} {nm : ByteArray} (h : hasI l nm = false) : intA l nm = 0 := by
  unfold intA hasI at *
  rw [if_neg (by simpa using h)]
theorem sum_has (nm : ByteArray) (fs : List Fil) : ((fs.filter fun f => hasI f.attrs nm).map fun f => intA f.attrs nm).sum = (fs.map fun f => intA f.attrs nm).sum := by
  induction fs with
  | nil => rfl
  | cons f fs ih =>
    cases h : hasI f.attrs nm with
    | true => simp [h, ih]
    | false => simp [h, ih, intA_no h]
/-- the sum as the law's loop makes it -/
def sumW (nm : ByteArray) (s : Int) (l : List Fil) : Int := l.foldl (fun s f => wrap64 (s + intA f.attrs nm)) s
theorem sumW_eq (nm : ByteArray) (l : List Fil) (h : ∀ f ∈ l, 0 ≤ intA f.attrs nm ∧ intA f.attrs nm ≤ 999) : ∀ (s : Int), 0 ≤ s → s + 999 * l.length ≤ 1000000 → sumW nm s l = s + (l.map fun f => intA f.attrs nm).sum := by
  induction l with
  | nil => intro s h1 h2; simp [sumW]
  | cons f l ih =>
    intro s h1 h2
    have hf := h f (List.mem_cons_self ..)
    simp only [List.length_cons] at h2
    unfold sumW
    rw [List.foldl_cons, wrap_in (by omega) (by omega)]
    have h3 := ih (fun x hx => h x (List.mem_cons_of_mem _ hx)) (s + intA f.attrs nm) (by omega) (by omega)
    unfold sumW at h3
    rw [h3]
    simp
    omega
theorem sum_sorted (nm : ByteArray) (fs : List Fil) (h : ∀ f ∈ fs, 0 ≤ intA f.attrs nm ∧ intA f.attrs nm ≤ 999) (hl : fs.length ≤ 12) : sumW nm 0 (sortF nm fs) = sumI nm fs := by
  have h1 := sumW_eq nm (sortF nm fs) (fun f hf => h f (sortF_mem.1 hf).1) 0 (by omega) (by have := sortF_len nm fs; omega)
  have h2 := sumW_eq nm fs h 0 (by omega) (by omega)
  have h3 : sumI nm fs = sumW nm 0 fs := rfl
  rw [h3, h1, h2]
  unfold sortF
  rw [srt_sum, sum_has]
theorem range_all (nm : ByteArray) (fs : List Fil) (h : ∀ f ∈ fs, 0 ≤ intA f.attrs nm ∧ intA f.attrs nm ≤ 999) : rangeI nm 0 999 fs = sortedI nm fs := by
  unfold rangeI sortedI
  rw [List.filter_eq_self.2]
  intro f hf
  have := h f (sortF_mem.1 hf).1
  simp [inB, this.1, this.2]
theorem min_len (nm : ByteArray) (fs : List Fil) : minB nm fs = decide (0 < (sortedI nm fs).length) := by
  unfold minB; split <;> rename_i h <;> rw [h] <;> simp
theorem sumW_snoc (nm : ByteArray) (s : Int) (l : List Fil) {k : Nat} (hk : k < l.length) : sumW nm s (l.take (k + 1)) = wrap64 (sumW nm s (l.take k) + intA l[k].attrs nm) := by
  unfold sumW; rw [List.take_succ_eq_append_getElem hk, List.foldl_append]; rfl
end Go.Proofs.Ytjobgnioehkomaa
