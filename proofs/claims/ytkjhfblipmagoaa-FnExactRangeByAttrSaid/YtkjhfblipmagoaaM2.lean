/-
  MARKS of files, stores, postings.
-/
import Derived.WalkKit
import Derived.WalkSpells
import Derived.WalkLawsBesides
import Derived.Lib.Hide
import Derived.Handy
import Derived.StillTailTactics
import Derived.Deep.Light
import Derived.Deep.RegionHeld3
import Derived.Test.YtkjhfblipmagoaaLib
import Derived.Test.YtkjhfblipmagoaaOwn
import Derived.Test.YtkjhfblipmagoaaRow
import Derived.Test.YtkjhfblipmagoaaHld
import Derived.Test.YtkjhfblipmagoaaC1
import Derived.Test.YtkjhfblipmagoaaM0
import Derived.Test.YtkjhfblipmagoaaM1
import Derived.Test.YtkjhfblipmagoaaT2
import Derived.Test.YtkjhfblipmagoaaT3
import Derived.Test.YtkjhfblipmagoaaT4
import Derived.Test.YtkjhfblipmagoaaRows
namespace Go.Proofs.Ytkjhfblipmagoaa
open Go.RowKit
set_option linter.unusedVariables false
set_option maxRecDepth 100000
/-- where the marks of element i begin: the elements before it take up 'a' numbers each and 'b' for each of the ms -/
def kat (b : Nat) (ms : List Nat) (k i : Nat) : Nat := k + 4 * i + b * (ms.take i).sum
theorem kat_zero (b : Nat) (ms : List Nat) (k : Nat) : kat b ms k 0 = k := by simp [kat]
theorem sum_take_succ (ms : List Nat) {i : Nat} (h : i < ms.length) : (ms.take (i + 1)).sum = (ms.take i).sum + ms[i] := by
  rw [List.take_succ_eq_append_getElem h, List.sum_append]; simp
theorem sum_take_le (ms : List Nat) (i : Nat) : (ms.take i).sum ≤ ms.sum := by
  conv => rhs; rw [← List.take_append_drop i ms]
  rw [List.sum_append]; omega
theorem kat_succ {b : Nat} {ms : List Nat} {k i : Nat} (h : i < ms.length) : kat b ms k (i + 1) = kat b ms k i + 4 + b * ms[i] := by
  unfold kat; rw [sum_take_succ ms h, Nat.mul_add b]; omega
theorem kat_le (b : Nat) (ms : List Nat) (k : Nat) {i : Nat} (h : i ≤ ms.length) : kat b ms k i ≤ k + 4 * ms.length + b * ms.sum := by
  unfold kat
  have := Nat.mul_le_mul_left b (sum_take_le ms i)
  omega
theorem setsA_snoc (x : Value) : ∀ (l : List Value) (cur : Array Value) (o : Nat), setsA cur o (l ++ [x]) = (setsA cur o l).setIfInBounds (o + l.length) x
  | [], _, _ => rfl
  | v :: l, cur, o => by
    rw [List.cons_append, setsA, setsA_snoc x l, setsA, List.length_cons, show o + 1 + l.length = o + (l.length + 1) by omega]
theorem setsA_keep {x : Value} {l : List Value} {cur : Array Value} {o : Nat} (h : cur[o + l.length]? = some x) : setsA cur o (l ++ [x]) = setsA cur o l := by
  rw [setsA_snoc]
  have h1 : (setsA cur o l)[o + l.length]? = some x := (setsA_high _ _ _ _ (Nat.le_refl _)).trans h
  apply Array.ext_getElem?
  intro i
  rw [Array.getElem?_setIfInBounds]
  split
  · rename_i e; subst e
    have hlt := (Array.getElem?_eq_some_iff.1 h1).1
    rw [if_pos hlt, h1]
  · rfl
def mkFile1 (n k : Nat) : Fil := ⟨(k : Int), ((k + 1 : Nat) : Int), ((k : Int) + 1 + 1) % 3 == 0, ((k + 3 : Nat) : Int), mkAttr n (k + 4)⟩
def mkFile (ms : List Nat) (k : Nat) : List Fil := (List.range ms.length).map fun i => mkFile1 (ms.getD i 0) (kat 4 ms k i)
def mkPosting1 (n k : Nat) : Pst := ⟨mt (k : Nat), ⟨((k + 1 : Nat) : Int), ((k + 2 : Nat) : Int), mt (k + 3 : Nat)⟩, mkInt n (k + 4)⟩
def mkPosting (ms : List Nat) (k : Nat) : List Pst := (List.range ms.length).map fun i => mkPosting1 (ms.getD i 0) (kat 1 ms k i)
def Fil.cnt (f : Fil) : Nat := f.attrs.length
def Pst.cnt (p : Pst) : Nat := p.ids.length
theorem mkFile_len (ms : List Nat) (k : Nat) : (mkFile ms k).length = ms.length := by simp [mkFile]
theorem mkPosting_len (ms : List Nat) (k : Nat) : (mkPosting ms k).length = ms.length := by simp [mkPosting]
theorem mkFile_at {ms : List Nat} {k i : Nat} (h : i < ms.length) : (mkFile ms k)[i]'(by rw [mkFile_len]; exact h) = mkFile1 ms[i] (kat 4 ms k i) := by simp [mkFile, h]
theorem mkPosting_at {ms : List Nat} {k i : Nat} (h : i < ms.length) : (mkPosting ms k)[i]'(by rw [mkPosting_len]; exact h) = mkPosting1 ms[i] (kat 1 ms k i) := by simp [mkPosting, h]
theorem laws_markFile {ea : Nat} (f : Fil) (A : Option Addr) (n c : Nat) (bs : List Nat) (k : Nat) (w : World) (hO : OSl ea 4 OAtr w A n f.attrs bs) (hnd : bs.Nodup) (hn : n ≤ 1073741824) (h0 : 0 < k) (h1 : k ≤ 1152921504606846976) :
    Calls Try.prog 25 #[f.v A n c, .int .i64 k] w fun e' w' => e' = .returned (.int .i64 ((k + 4 * n : Nat) : Int)) ∧ OSl ea 4 OAtr w' A n (mkAttr n k) bs ∧ Chg bs w w' := by
  have HC := Lib.hid fun w' (hb : Below w.heap.size w w') => laws_markAttrS A n c f.attrs bs k w' (hO.below lAtr hb) hnd hn h0 h1
  have HL := Lib.hid (hO.lt lAtr)
  clear hO
  go_enter Try.func25, Try.ntmps25
  go_wp2_with fail
  refine (HC.out _ (by go_grown)).mono ?_; rintro e w1 ⟨rfl, hO1, hc1⟩
  go_wp2_with fail
  go_returns
  exact ⟨rfl, hO1, (Chg.of_below bs (by go_grown)).trans hc1⟩
set_option maxHeartbeats 3200000 in
theorem laws_markFileS {e ea : Nat} (A : Option Addr) (n c : Nat) (l : List Fil) (bs : List Nat) (k : Nat) (w : World) (hO : OSl e 5 (OFil ea) w A n l bs) (hnd : bs.Nodup) (hn : n ≤ 1073741824) (hs : (l.map (·.cnt)).sum ≤ 1073741824) (h0 : 0 < k) (h1 : k ≤ 576460752303423488) :
    Calls Try.prog 86 #[.slice A n c, .int .i64 k] w fun e' w' => e' = .returned (.int .i64 ((kat 4 (l.map (·.cnt)) k n : Nat) : Int)) ∧ OSl e 5 (OFil ea) w' A n (mkFile (l.map (·.cnt)) k) bs ∧ Chg bs w w' := by
  obtain rfl : l.length = n := hO.len
  have hml : (mkFile (l.map (·.cnt)) k).length = l.length := by rw [mkFile_len, List.length_map]
  have HM := Lib.hid hml
  have HLM := Lib.hid (show (l.map (·.cnt)).length = l.length from List.length_map ..)
  have HKB := Lib.hid fun (i : Nat) (hi : i ≤ l.length) => kat_le 4 (l.map (·.cnt)) k (i := i) (by rw [List.length_map]; exact hi)
  go_enter Try.func86, Try.ntmps86
  go_wp2_with fail
  go_loopw [1, 5] (fun kk i wr => ∃ j m : Nat, j ≤ l.length ∧ m = kat 4 (l.map (·.cnt)) k j ∧ i = .int .i64 j ∧ kk = .int .i64 m ∧ OSl e 5 (OFil ea) wr A l.length (mix (mkFile (l.map (·.cnt)) k) l j) bs ∧ Chg bs w wr) (fun _ i _ => l.length - (intOf i).toNat)
  case atStart => exact ⟨0, k, Nat.zero_le _, (kat_zero _ _ _).symm, rfl, rfl, by rw [mix_zero]; exact hO, Chg.refl _ _⟩
  case round =>
    obtain ⟨j, m, hj, hm, rfl, rfl, hOr, hc⟩ := hrel
    have hkb := HKB.out j hj
    rw [← hm, HLM.out] at hkb
    have hm0 : 0 < (m : Int) := by rw [hm]; unfold kat; omega
    have hm1 : (m : Int) ≤ 576460752303423488 + 8589934592 + 8589934592 := by omega
    clear hkb
    by_cases hlt : j < l.length
    · obtain ⟨g, bss, rfl, hgw, hgb, hbi, hbn, cur, hcur, hsz, ⟨cs, hcl, hcc, hcO⟩, hup⟩ := hOr.upd (lFil ea) hnd hlt
      have hO1 := hcO (by rw [mix_len hml hj]; exact hlt)
      rw [mix_at hml hlt] at hO1
      obtain ⟨B, q, d, rfl, hqd, hI⟩ := hO1
      obtain rfl : l[j].attrs.length = q := hI.len
      have hle : l[j].attrs.length ≤ 1073741824 := by
        refine Nat.le_trans ?_ hs
        have := sum_take_succ (l.map (·.cnt)) (i := j) (by rw [List.length_map]; exact hlt)
        have h2 := sum_take_le (l.map (·.cnt)) (j + 1)
        rw [List.getElem_map] at this
        unfold Fil.cnt at *
        omega
      have HB := Lib.hid hbi
      have HL := Lib.hid (hOr.lt (lFil ea))
      have i0 : (0 : Int) ≤ (j : Int) := by omega
      have i1 : (j : Int) < (l.length : Int) := by omega
      have HU := Lib.hid hup
      have HC := Lib.hid hcur
      have HMm := Lib.hid hm
      have h5 := hcc 4 _ rfl
      have H5 := Lib.hid h5
      have HIn := Lib.hid fun (w' : World) (hh : ∀ b ∈ bss.getD j [], w'.heap[b]? = wr.heap[b]?) (x : Nat) (hx : 0 < x) (hx1 : x ≤ 1152921504606846976) => laws_markAttrS B _ d l[j].attrs (bss.getD j []) x w' (hI.loc lAtr hh) hbn hle hx hx1
      have hx0 : 0 < m + 4 := by omega
      have hx1 : m + 4 ≤ 1152921504606846976 := by omega
      have HX := Lib.hid (And.intro hqd (show (mix (mkFile (l.map (·.cnt)) k) l j).set j (mkFile1 l[j].attrs.length m) = mix (mkFile (l.map (·.cnt)) k) l (j + 1) from mix_set hml hlt (by rw [hm, mkFile_at (by rw [List.length_map]; exact hlt), List.getElem_map]; rfl)))
      have HKS := Lib.hid (show kat 4 (l.map (·.cnt)) k (j + 1) = m + 4 + 4 * l[j].attrs.length by rw [kat_succ (by rw [List.length_map]; exact hlt), List.getElem_map, ← hm]; rfl)
      clear hup hcO hcc hml hOr hm hcl hO hI hbi hbn hs
      have hc0 := HC.out
      have hf := blk_free hc0
      have p0 := blk_cell hc0 (j := j * 5) (by omega)
      have p1 := blk_cell hc0 (j := j * 5 + 1) (by omega)
      have p2 := blk_cell hc0 (j := j * 5 + 2) (by omega)
      have p3 := blk_cell hc0 (j := j * 5 + 3) (by omega)
      have p4 : World.cell? _ ⟨g, j * 5 + 4, none⟩ = some (.slice B l[j].attrs.length d) := (blk_cell? hc0 _).trans (h5)
      have HCC := Lib.hid hc0
      clear hc0
      go_wp2_with fail
      have HF : Hid (∀ b ∈ bs, b ≠ g → (sets wr g (j * 5) [.int .i64 m, .int .i64 ((m : Int) + 1), .bool (((m : Int) + 1 + 1) % 3 == 0), .int .i64 ((m : Int) + 1 + 1 + 1)]).heap[b]? = wr.heap[b]?) := Lib.hid (fun b hb hne => sets_far hne [.int .i64 m, .int .i64 ((m : Int) + 1), .bool (((m : Int) + 1 + 1) % 3 == 0), .int .i64 ((m : Int) + 1 + 1 + 1)] wr (j * 5))
      have HW : Hid ((sets wr g (j * 5) [.int .i64 m, .int .i64 ((m : Int) + 1), .bool (((m : Int) + 1 + 1) % 3 == 0), .int .i64 ((m : Int) + 1 + 1 + 1)]).heap[g]? = some (.cells (setsA cur (j * 5) [.int .i64 m, .int .i64 ((m : Int) + 1), .bool (((m : Int) + 1 + 1) % 3 == 0), .int .i64 ((m : Int) + 1 + 1 + 1)]) e (0, 0))) := Lib.hid (sets_blk [.int .i64 m, .int .i64 ((m : Int) + 1), .bool (((m : Int) + 1 + 1) % 3 == 0), .int .i64 ((m : Int) + 1 + 1 + 1)] wr (j * 5) cur HCC.out)
      have HG : Hid (Chg bs w (sets wr g (j * 5) [.int .i64 m, .int .i64 ((m : Int) + 1), .bool (((m : Int) + 1 + 1) % 3 == 0), .int .i64 ((m : Int) + 1 + 1 + 1)])) := Lib.hid (sets_chg (w1 := wr) hgb [.int .i64 m, .int .i64 ((m : Int) + 1), .bool (((m : Int) + 1 + 1) % 3 == 0), .int .i64 ((m : Int) + 1 + 1 + 1)] wr (j * 5) hc)
      have HLT : Hid (∀ b ∈ bs, b < (sets wr g (j * 5) [.int .i64 m, .int .i64 ((m : Int) + 1), .bool (((m : Int) + 1 + 1) % 3 == 0), .int .i64 ((m : Int) + 1 + 1 + 1)]).heap.size) := Lib.hid fun b hb => (by rw [sets_size]; exact HL.out b hb)
      have h := HIn.out (sets wr g (j * 5) [.int .i64 m, .int .i64 ((m : Int) + 1), .bool (((m : Int) + 1 + 1) % 3 == 0), .int .i64 ((m : Int) + 1 + 1 + 1)]) (fun b hb => HF.out b (HB.out b hb).1 (HB.out b hb).2) (m + 4) hx0 hx1
      rw [show (((m + 4 : Nat) : Int)) = (m : Int) + 1 + 1 + 1 + 1 by omega] at h
      refine h.mono ?_; rintro e' w4 ⟨rfl, hI4, hc4⟩
      have HI4 := Lib.hid hI4
      clear h hI4 HIn h5
      have hm4 : ((m + 4 + 4 * l[j].attrs.length : Nat) : Int) ≤ 4611686018427387904 := by omega
      go_wp2_with fail
      go_roundw
      case rel =>
        refine ⟨j + 1, m + 4 + 4 * l[j].attrs.length, by omega, HKS.out.symm, by go_num, by go_num, ?_, HG.out.step hc4 fun b hb _ => (HB.out b hb).1⟩
        obtain ⟨q1, q2, q3⟩ := setsA_out (size := 5) (cs := [.int .i64 m, .int .i64 ((m : Int) + 1), .bool (((m : Int) + 1 + 1) % 3 == 0), .int .i64 ((m : Int) + 1 + 1 + 1), .slice B l[j].attrs.length d]) (cur := cur) hsz hlt rfl
        have e1 : setsA cur (j * 5) [.int .i64 m, .int .i64 ((m : Int) + 1), .bool (((m : Int) + 1 + 1) % 3 == 0), .int .i64 ((m : Int) + 1 + 1 + 1), .slice B l[j].attrs.length d] = setsA cur (j * 5) [.int .i64 m, .int .i64 ((m : Int) + 1), .bool (((m : Int) + 1 + 1) % 3 == 0), .int .i64 ((m : Int) + 1 + 1 + 1)] := setsA_keep (l := [.int .i64 m, .int .i64 ((m : Int) + 1), .bool (((m : Int) + 1 + 1) % 3 == 0), .int .i64 ((m : Int) + 1 + 1 + 1)]) H5.out
        rw [e1] at q1 q2 q3
        have hgW := (hc4.block g (HLT.out g hgb) fun hb => (HB.out g hb).2 rfl).trans HW.out
        have h := HU.out w4 _ _ (mkFile1 l[j].attrs.length m) hgW q1 q2 rfl q3 ⟨B, _, d, by simp [mkFile1, Int.add_assoc], HX.out.1, HI4.out⟩ (fun b hb hne hbn => (hc4.block b (HLT.out b hb) hbn).trans (HF.out b hb hne))
        rw [HX.out.2] at h
        exact h
      case measure => simp [intOf]; omega
    · have HZ := Lib.hid (show OSl e 5 (OFil ea) wr A l.length (mkFile (l.map (·.cnt)) k) bs by have h := hOr; rw [show j = l.length by omega, mix_all HM.out] at h; exact h)
      have HS := Lib.hid (show m = kat 4 (l.map (·.cnt)) k l.length by rw [hm, show j = l.length by omega])
      clear hOr hm hml hO hs
      go_wp2_with fail
      go_returns
      exact ⟨ret_int (by rw [HS.out]), HZ.out, hc⟩
set_option maxHeartbeats 3200000 in
theorem laws_markPostingS {e ea : Nat} (A : Option Addr) (n c : Nat) (l : List Pst) (bs : List Nat) (k : Nat) (w : World) (hO : OSl e 5 (OPst ea) w A n l bs) (hnd : bs.Nodup) (hn : n ≤ 1073741824) (hs : (l.map (·.cnt)).sum ≤ 1073741824) (h0 : 0 < k) (h1 : k ≤ 576460752303423488) :
    Calls Try.prog 24 #[.slice A n c, .int .i64 k] w fun e' w' => e' = .returned (.int .i64 ((kat 1 (l.map (·.cnt)) k n : Nat) : Int)) ∧ OSl e 5 (OPst ea) w' A n (mkPosting (l.map (·.cnt)) k) bs ∧ Chg bs w w' := by
  obtain rfl : l.length = n := hO.len
  have hml : (mkPosting (l.map (·.cnt)) k).length = l.length := by rw [mkPosting_len, List.length_map]
  have HM := Lib.hid hml
  have HLM := Lib.hid (show (l.map (·.cnt)).length = l.length from List.length_map ..)
  have HKB := Lib.hid fun (i : Nat) (hi : i ≤ l.length) => kat_le 1 (l.map (·.cnt)) k (i := i) (by rw [List.length_map]; exact hi)
  go_enter Try.func24, Try.ntmps24
  go_wp2_with fail
  go_loopw [1, 5] (fun kk i wr => ∃ j m : Nat, j ≤ l.length ∧ m = kat 1 (l.map (·.cnt)) k j ∧ i = .int .i64 j ∧ kk = .int .i64 m ∧ OSl e 5 (OPst ea) wr A l.length (mix (mkPosting (l.map (·.cnt)) k) l j) bs ∧ Chg bs w wr) (fun _ i _ => l.length - (intOf i).toNat)
  case atStart => exact ⟨0, k, Nat.zero_le _, (kat_zero _ _ _).symm, rfl, rfl, by rw [mix_zero]; exact hO, Chg.refl _ _⟩
  case round =>
    obtain ⟨j, m, hj, hm, rfl, rfl, hOr, hc⟩ := hrel
    have hkb := HKB.out j hj
    rw [← hm, HLM.out] at hkb
    have hm0 : 0 < (m : Int) := by rw [hm]; unfold kat; omega
    have hm1 : (m : Int) ≤ 576460752303423488 + 8589934592 + 8589934592 := by omega
    clear hkb
    by_cases hlt : j < l.length
    · obtain ⟨g, bss, rfl, hgw, hgb, hbi, hbn, cur, hcur, hsz, ⟨cs, hcl, hcc, hcO⟩, hup⟩ := hOr.upd (lPst ea) hnd hlt
      have hO1 := hcO (by rw [mix_len hml hj]; exact hlt)
      rw [mix_at hml hlt] at hO1
      obtain ⟨B, q, d, rfl, hqd, hI⟩ := hO1
      obtain rfl : l[j].ids.length = q := hI.len
      have hle : l[j].ids.length ≤ 1073741824 := by
        refine Nat.le_trans ?_ hs
        have := sum_take_succ (l.map (·.cnt)) (i := j) (by rw [List.length_map]; exact hlt)
        have h2 := sum_take_le (l.map (·.cnt)) (j + 1)
        rw [List.getElem_map] at this
        unfold Pst.cnt at *
        omega
      have HB := Lib.hid hbi
      have HL := Lib.hid (hOr.lt (lPst ea))
      have i0 : (0 : Int) ≤ (j : Int) := by omega
      have i1 : (j : Int) < (l.length : Int) := by omega
      obtain ⟨s0, hs0, C0⟩ := laws_mText ((m : Int)) (by omega) (by omega)
      have HC0 := Lib.hid C0
      have HS0 := Lib.hid hs0
      clear C0 hs0
      obtain ⟨s3, hs3, C3⟩ := laws_mText ((m : Int) + 1 + 1 + 1) (by omega) (by omega)
      have HC3 := Lib.hid C3
      have HS3 := Lib.hid hs3
      clear C3 hs3
      have HU := Lib.hid hup
      have HC := Lib.hid hcur
      have HMm := Lib.hid hm
      have h5 := hcc 4 _ rfl
      have H5 := Lib.hid h5
      have HIn := Lib.hid fun (w' : World) (hh : ∀ b ∈ bss.getD j [], w'.heap[b]? = wr.heap[b]?) (x : Nat) (hx : 0 < x) (hx1 : x ≤ 1152921504606846976) => laws_markIntS B _ d l[j].ids (bss.getD j []) x w' (hI.loc lInt hh) hbn hle hx hx1
      have hx0 : 0 < m + 4 := by omega
      have hx1 : m + 4 ≤ 1152921504606846976 := by omega
      have HX := Lib.hid (And.intro hqd (show (mix (mkPosting (l.map (·.cnt)) k) l j).set j (mkPosting1 l[j].ids.length m) = mix (mkPosting (l.map (·.cnt)) k) l (j + 1) from mix_set hml hlt (by rw [hm, mkPosting_at (by rw [List.length_map]; exact hlt), List.getElem_map]; rfl)))
      have HKS := Lib.hid (show kat 1 (l.map (·.cnt)) k (j + 1) = m + 4 + 1 * l[j].ids.length by rw [kat_succ (by rw [List.length_map]; exact hlt), List.getElem_map, ← hm]; rfl)
      clear hup hcO hcc hml hOr hm hcl hO hI hbi hbn hs
      have hc0 := HC.out
      have hf := blk_free hc0
      have p0 := blk_cell hc0 (j := j * 5) (by omega)
      have p1 := blk_cell hc0 (j := j * 5 + 1) (by omega)
      have p2 := blk_cell hc0 (j := j * 5 + 2) (by omega)
      have p3 := blk_cell hc0 (j := j * 5 + 3) (by omega)
      have p4 : World.cell? _ ⟨g, j * 5 + 4, none⟩ = some (.slice B l[j].ids.length d) := (blk_cell? hc0 _).trans (h5)
      have HCC := Lib.hid hc0
      clear hc0
      go_wp2_with fail
      refine (HC0.out _).mono ?_; rintro e' w1 ⟨rfl, hb1⟩
      have hc1 := (hb1.block g (by (repeat rw [size_set]); exact hgw)).trans HCC.out
      clear hf p0 p1 p2 p3 p4
      have hg1 := keep_lt hb1 hgw
      have hf := blk_free hc1
      have p0 := blk_cell hc1 (j := j * 5) (by omega)
      have p1 := blk_cell hc1 (j := j * 5 + 1) (by omega)
      have p2 := blk_cell hc1 (j := j * 5 + 2) (by omega)
      have p3 := blk_cell hc1 (j := j * 5 + 3) (by omega)
      have p4 : World.cell? _ ⟨g, j * 5 + 4, none⟩ = some (.slice B l[j].ids.length d) := (blk_cell? hc1 _).trans (h5)
      have HC1 := Lib.hid hc1
      clear hc1
      go_wp2_with fail
      refine (HC3.out _).mono ?_; rintro e' w2 ⟨rfl, hb2⟩
      have hc2 := (hb2.block g (by (repeat rw [size_set]); exact hg1)).trans (sets_blk [.string s0, .int .i64 ((m : Int) + 1), .int .i64 ((m : Int) + 1 + 1)] w1 (j * 5) cur HC1.out)
      have hg2 : g < w2.heap.size := blk_lt hc2
      clear hf p0 p1 p2 p3 p4
      have hf := blk_free hc2
      have p0 := blk_cell hc2 (j := j * 5) (by rw [setsA_size]; omega)
      have p1 := blk_cell hc2 (j := j * 5 + 1) (by rw [setsA_size]; omega)
      have p2 := blk_cell hc2 (j := j * 5 + 2) (by rw [setsA_size]; omega)
      have p3 := blk_cell hc2 (j := j * 5 + 3) (by rw [setsA_size]; omega)
      have p4 : World.cell? _ ⟨g, j * 5 + 4, none⟩ = some (.slice B l[j].ids.length d) := (blk_cell? hc2 _).trans ((setsA_high [.string s0, .int .i64 ((m : Int) + 1), .int .i64 ((m : Int) + 1 + 1)] cur (j * 5) (j * 5 + 4) (by simp)).trans h5)
      have HC2 := Lib.hid hc2
      clear hc2
      go_wp2_with fail
      have HF : Hid (∀ b ∈ bs, b ≠ g → (w2.setCell ⟨g, j * 5 + 3, none⟩ (.string s3)).heap[b]? = wr.heap[b]?) := Lib.hid (fun b hb hne => (blk_far w2 ⟨g, j * 5 + 3, none⟩ hne _).trans ((hb2.block b (by (repeat rw [size_set]); exact Nat.lt_of_lt_of_le (HL.out b hb) hb1.size)).trans ((sets_far hne [.string s0, .int .i64 ((m : Int) + 1), .int .i64 ((m : Int) + 1 + 1)] w1 (j * 5)).trans (hb1.block b (HL.out b hb)))))
      have HW : Hid ((w2.setCell ⟨g, j * 5 + 3, none⟩ (.string s3)).heap[g]? = some (.cells (setsA cur (j * 5) [.string s0, .int .i64 ((m : Int) + 1), .int .i64 ((m : Int) + 1 + 1), .string s3]) e (0, 0))) := Lib.hid (blk_set HC2.out _ _)
      have HG : Hid (Chg bs w (w2.setCell ⟨g, j * 5 + 3, none⟩ (.string s3))) := Lib.hid (Chg.set ((sets_chg (w1 := w1) hgb [.string s0, .int .i64 ((m : Int) + 1), .int .i64 ((m : Int) + 1 + 1)] w1 (j * 5) (hc.trans (Chg.of_below _ hb1))).trans (Chg.of_below _ hb2)) hgb _)
      have HLT : Hid (∀ b ∈ bs, b < (w2.setCell ⟨g, j * 5 + 3, none⟩ (.string s3)).heap.size) := Lib.hid fun b hb => (by rw [size_set]; exact Nat.lt_of_lt_of_le (HL.out b hb) (Nat.le_trans hb1.size (Nat.le_trans (by (repeat rw [size_set]); exact Nat.le_refl _) hb2.size)))
      have h := HIn.out (w2.setCell ⟨g, j * 5 + 3, none⟩ (.string s3)) (fun b hb => HF.out b (HB.out b hb).1 (HB.out b hb).2) (m + 4) hx0 hx1
      rw [show (((m + 4 : Nat) : Int)) = (m : Int) + 1 + 1 + 1 + 1 by omega] at h
      refine h.mono ?_; rintro e' w4 ⟨rfl, hI4, hc4⟩
      have HI4 := Lib.hid hI4
      clear h hI4 HIn h5
      have hm4 : ((m + 4 + 1 * l[j].ids.length : Nat) : Int) ≤ 4611686018427387904 := by omega
      go_wp2_with fail
      go_roundw
      case rel =>
        refine ⟨j + 1, m + 4 + 1 * l[j].ids.length, by omega, HKS.out.symm, by go_num, by go_num, ?_, HG.out.step hc4 fun b hb _ => (HB.out b hb).1⟩
        obtain ⟨q1, q2, q3⟩ := setsA_out (size := 5) (cs := [.string s0, .int .i64 ((m : Int) + 1), .int .i64 ((m : Int) + 1 + 1), .string s3, .slice B l[j].ids.length d]) (cur := cur) hsz hlt rfl
        have e1 : setsA cur (j * 5) [.string s0, .int .i64 ((m : Int) + 1), .int .i64 ((m : Int) + 1 + 1), .string s3, .slice B l[j].ids.length d] = setsA cur (j * 5) [.string s0, .int .i64 ((m : Int) + 1), .int .i64 ((m : Int) + 1 + 1), .string s3] := setsA_keep (l := [.string s0, .int .i64 ((m : Int) + 1), .int .i64 ((m : Int) + 1 + 1), .string s3]) H5.out
        rw [e1] at q1 q2 q3
        have hgW := (hc4.block g (HLT.out g hgb) fun hb => (HB.out g hb).2 rfl).trans HW.out
        have h := HU.out w4 _ _ (mkPosting1 l[j].ids.length m) hgW q1 q2 rfl q3 ⟨B, _, d, by simp [mkPosting1, HS0.out, HS3.out, Int.add_assoc], HX.out.1, HI4.out⟩ (fun b hb hne hbn => (hc4.block b (HLT.out b hb) hbn).trans (HF.out b hb hne))
        rw [HX.out.2] at h
        exact h
      case measure => simp [intOf]; omega
    · have HZ := Lib.hid (show OSl e 5 (OPst ea) wr A l.length (mkPosting (l.map (·.cnt)) k) bs by have h := hOr; rw [show j = l.length by omega, mix_all HM.out] at h; exact h)
      have HS := Lib.hid (show m = kat 1 (l.map (·.cnt)) k l.length by rw [hm, show j = l.length by omega])
      clear hOr hm hml hO hs
      go_wp2_with fail
      go_returns
      exact ⟨ret_int (by rw [HS.out]), HZ.out, hc⟩
set_option maxHeartbeats 3200000 in
theorem laws_heldPostingS (A : Option Addr) (n c : Nat) (ms : List Nat) (k : Nat) (w : World) (hS : Sl 5 RPst w A n (mkPosting ms k)) (hn : n ≤ 1073741824) (hs : ms.sum ≤ 1073741824) (h0 : 0 < k) (h1 : k ≤ 576460752303423488) :
    Calls Try.prog 26 #[.slice A n c, .int .i64 k] w fun e' w' => e' = .returned (.int .i64 ((kat 1 ms k n : Nat) : Int)) ∧ Below w.heap.size w w' := by
  obtain rfl : ms.length = n := by rw [← hS.len, mkPosting_len]
  have HKB := Lib.hid fun (i : Nat) (hi : i ≤ ms.length) => kat_le 1 ms k hi
  go_enter Try.func26, Try.ntmps26
  go_wp2_with fail
  go_loopw [1, 5] (fun kk i wr => ∃ j m : Nat, j ≤ ms.length ∧ m = kat 1 ms k j ∧ i = .int .i64 j ∧ kk = .int .i64 m ∧ Below w.heap.size w wr) (fun _ i _ => ms.length - (intOf i).toNat)
  case atStart => exact ⟨0, k, Nat.zero_le _, (kat_zero _ _ _).symm, rfl, rfl, Below.refl _ _⟩
  case round =>
    obtain ⟨j, m, hj, hm, rfl, rfl, hb⟩ := hrel
    have hkb := HKB.out j hj
    rw [← hm] at hkb
    have hm0 : 0 < (m : Int) := by rw [hm]; unfold kat; omega
    have hm1 : (m : Int) ≤ 576460752303423488 + 8589934592 + 8589934592 := by omega
    clear hkb
    by_cases hlt : j < ms.length
    · obtain ⟨b, off, rfl, bw, bc⟩ := hS.pst (by omega)
      obtain ⟨B, q, d, q0, q1, q2, q3, q4, qS⟩ := bc j (by rw [mkPosting_len]; omega)
      have qT := qS.mono mInt hb
      rw [← hb.cell (p := ⟨b, _, none⟩) bw] at q0 q1 q2 q3 q4
      clear bc qS hS
      have hmi : ms[j] ≤ 1073741824 := by
        have := sum_take_succ ms hlt
        have h2 := sum_take_le ms (j + 1)
        omega
      have HKS := Lib.hid (show kat 1 ms k (j + 1) = m + 4 + 1 * ms[j] by rw [kat_succ hlt, ← hm])
      have hjl : j < (mkPosting ms k).length := by rw [mkPosting_len]; exact hlt
      have hAt := mkPosting_at (k := k) hlt
      rw [← hm] at hAt
      obtain ⟨s0, hs0, C0⟩ := laws_mText ((m : Int)) (by omega) (by omega)
      obtain ⟨s3, hs3, C3⟩ := laws_mText ((m : Int) + 1 + 1 + 1) (by omega) (by omega)
      have g0 : (mkPosting ms k)[j].name = s0 := by rw [hAt]; simp [mkPosting1, hs0]
      have g1 : (mkPosting ms k)[j].val.kind = (m : Int) + 1 := by rw [hAt]; simp [mkPosting1]
      have g2 : (mkPosting ms k)[j].val.int = (m : Int) + 1 + 1 := by rw [hAt]; simp [mkPosting1, Int.add_assoc]
      have g3 : (mkPosting ms k)[j].val.str = s3 := by rw [hAt]; simp [mkPosting1, hs3, Int.add_assoc]
      have g4 : (mkPosting ms k)[j].ids = mkInt ms[j] (m + 4) := by rw [hAt]; rfl
      rw [g0] at q0
      rw [g1] at q1
      rw [g2] at q2
      rw [g3] at q3
      rw [g4] at qT
      obtain rfl : ms[j] = q := by rw [← qT.len]; simp [mkInt]
      have hx0 : 0 < m + 4 := by omega
      have hx1 : m + 4 ≤ 1152921504606846976 := by omega
      have HIn := Lib.hid fun (w' : World) (hh : Below wr.heap.size wr w') => laws_heldIntS B _ d (m + 4) w' (qT.mono mInt hh) hmi hx0 hx1
      have bw' := keep_lt hb bw
      have i0 : (0 : Int) ≤ (j : Int) := by omega
      have i1 : (j : Int) < (ms.length : Int) := by omega
      have HC0 := Lib.hid C0
      clear C0 hs0
      have HC3 := Lib.hid C3
      clear C3 hs3
      have HMm := Lib.hid hm
      clear hm g0 g1 g2 g3 g4 hAt hjl bw qT hs
      go_wp2_with fail
      refine wp_region_held_drew (S := (fun w' => w'.cell? ⟨b, off + j * 5, none⟩ = some (.string s0) ∧ Below wr.heap.size wr w')) (by kernel_rfl) (by (try dsimp only); exact ⟨q0, (Below.refl _ _).drew⟩) (fun hHeld => ?_)
      first | (refine held_take 0 rfl (by kernel_rfl) (by kernel_rfl) (by kernel_rfl) (by rfl) (fun _ _ _ h => h) (by assumption) (by intro w hSw; (try dsimp only at hSw); go_simp; first | done | with_reducible rfl) ?_) | (refine held_skip 0 rfl (by kernel_rfl) (by kernel_rfl) (by kernel_rfl) (by rfl) (fun _ _ _ h => h) (by assumption) ?_)
      simp only [Act.put, List.setIfInBounds_toArray, List.set_cons_zero, List.set_cons_succ]
      first | (refine held_take 1 rfl (by kernel_rfl) (by kernel_rfl) (by kernel_rfl) (by rfl) (fun _ _ _ h => h) (by assumption) (by intro w hSw; (try dsimp only at hSw); go_simp; first | done | with_reducible rfl) ?_) | (refine held_skip 1 rfl (by kernel_rfl) (by kernel_rfl) (by kernel_rfl) (by rfl) (fun _ _ _ h => h) (by assumption) ?_)
      simp only [Act.put, List.setIfInBounds_toArray, List.set_cons_zero, List.set_cons_succ]
      first | (refine held_take 2 rfl (by kernel_rfl) (by kernel_rfl) (by kernel_rfl) (by rfl) (fun _ _ _ h => h) (by assumption) (by intro w hSw; (try dsimp only at hSw); go_simp; first | done | with_reducible rfl) ?_) | (refine held_skip 2 rfl (by kernel_rfl) (by kernel_rfl) (by kernel_rfl) (by rfl) (fun _ _ _ h => h) (by assumption) ?_)
      simp only [Act.put, List.setIfInBounds_toArray, List.set_cons_zero, List.set_cons_succ]
      first | (refine held_take 3 rfl (by kernel_rfl) (by kernel_rfl) (by kernel_rfl) (by rfl) (fun _ _ _ h => h) (by assumption) (by intro w hSw; (try dsimp only at hSw); go_simp; first | done | with_reducible rfl) ?_) | (refine held_skip 3 rfl (by kernel_rfl) (by kernel_rfl) (by kernel_rfl) (by rfl) (fun _ _ _ h => h) (by assumption) ?_)
      simp only [Act.put, List.setIfInBounds_toArray, List.set_cons_zero, List.set_cons_succ]
      first | (refine held_take 4 rfl (by kernel_rfl) (by kernel_rfl) (by kernel_rfl) (by rfl) (fun _ _ _ h => h) (by assumption) (by intro w hSw; (try dsimp only at hSw); go_simp; first | done | with_reducible rfl) ?_) | (refine held_skip 4 rfl (by kernel_rfl) (by kernel_rfl) (by kernel_rfl) (by rfl) (fun _ _ _ h => h) (by assumption) ?_)
      simp only [Act.put, List.setIfInBounds_toArray, List.set_cons_zero, List.set_cons_succ]
      first | (refine held_take 5 rfl (by kernel_rfl) (by kernel_rfl) (by kernel_rfl) (by rfl) (fun _ _ _ h => h) (by assumption) (by intro w hSw; (try dsimp only at hSw); go_simp; first | done | with_reducible rfl) ?_) | (refine held_skip 5 rfl (by kernel_rfl) (by kernel_rfl) (by kernel_rfl) (by rfl) (fun _ _ _ h => h) (by assumption) ?_)
      simp only [Act.put, List.setIfInBounds_toArray, List.set_cons_zero, List.set_cons_succ]
      refine held_one 6 (by kernel_rfl) rfl (fun K hK => ?_)
      go_simp
      go_at_call 71
      refine (HC0.out _).mono ?_; rintro e' y0 ⟨rfl, hy0⟩
      go_wp2_with fail
      refine hK.out _ _ (by (try dsimp only); obtain ⟨y0, yb⟩ := hHeld; exact ⟨keep_cell hy0 y0, ex_trans yb hy0⟩) (fun hNew => ?_)
      clear hK K hHeld
      have hHeld := hNew
      clear hNew
      try simp only [Act.put, List.setIfInBounds_toArray, List.set_cons_zero, List.set_cons_succ]
      first | (refine held_take 7 rfl (by kernel_rfl) (by kernel_rfl) (by kernel_rfl) (by rfl) (fun _ _ _ h => h) (by assumption) (by intro w hSw; (try dsimp only at hSw); go_simp; first | done | with_reducible rfl) ?_) | (refine held_skip 7 rfl (by kernel_rfl) (by kernel_rfl) (by kernel_rfl) (by rfl) (fun _ _ _ h => h) (by assumption) ?_)
      simp only [Act.put, List.setIfInBounds_toArray, List.set_cons_zero, List.set_cons_succ]
      refine wpAnyH_done (by kernel_rfl) ?_ _
      have hB0 := hHeld.2
      clear hHeld
      have z0_0 := keep_cell hB0 q0
      have z1_0 := keep_cell hB0 q1
      have z2_0 := keep_cell hB0 q2
      have z3_0 := keep_cell hB0 q3
      have z4_0 := keep_cell hB0 q4
      go_wp2_with fail
      refine wp_region_held_drew (S := (fun w' => w'.cell? ⟨b, off + j * 5 + 3, none⟩ = some (.string s3) ∧ Below wr.heap.size wr w')) (by kernel_rfl) (by (try dsimp only); exact ⟨keep_cell hB0 q3, (hB0).drew⟩) (fun hHeld => ?_)
      first | (refine held_take 0 rfl (by kernel_rfl) (by kernel_rfl) (by kernel_rfl) (by rfl) (fun _ _ _ h => h) (by assumption) (by intro w hSw; (try dsimp only at hSw); go_simp; first | done | with_reducible rfl) ?_) | (refine held_skip 0 rfl (by kernel_rfl) (by kernel_rfl) (by kernel_rfl) (by rfl) (fun _ _ _ h => h) (by assumption) ?_)
      simp only [Act.put, List.setIfInBounds_toArray, List.set_cons_zero, List.set_cons_succ]
      first | (refine held_take 1 rfl (by kernel_rfl) (by kernel_rfl) (by kernel_rfl) (by rfl) (fun _ _ _ h => h) (by assumption) (by intro w hSw; (try dsimp only at hSw); go_simp; first | done | with_reducible rfl) ?_) | (refine held_skip 1 rfl (by kernel_rfl) (by kernel_rfl) (by kernel_rfl) (by rfl) (fun _ _ _ h => h) (by assumption) ?_)
      simp only [Act.put, List.setIfInBounds_toArray, List.set_cons_zero, List.set_cons_succ]
      first | (refine held_take 2 rfl (by kernel_rfl) (by kernel_rfl) (by kernel_rfl) (by rfl) (fun _ _ _ h => h) (by assumption) (by intro w hSw; (try dsimp only at hSw); go_simp; first | done | with_reducible rfl) ?_) | (refine held_skip 2 rfl (by kernel_rfl) (by kernel_rfl) (by kernel_rfl) (by rfl) (fun _ _ _ h => h) (by assumption) ?_)
      simp only [Act.put, List.setIfInBounds_toArray, List.set_cons_zero, List.set_cons_succ]
      first | (refine held_take 3 rfl (by kernel_rfl) (by kernel_rfl) (by kernel_rfl) (by rfl) (fun _ _ _ h => h) (by assumption) (by intro w hSw; (try dsimp only at hSw); go_simp; first | done | with_reducible rfl) ?_) | (refine held_skip 3 rfl (by kernel_rfl) (by kernel_rfl) (by kernel_rfl) (by rfl) (fun _ _ _ h => h) (by assumption) ?_)
      simp only [Act.put, List.setIfInBounds_toArray, List.set_cons_zero, List.set_cons_succ]
      first | (refine held_take 4 rfl (by kernel_rfl) (by kernel_rfl) (by kernel_rfl) (by rfl) (fun _ _ _ h => h) (by assumption) (by intro w hSw; (try dsimp only at hSw); go_simp; first | done | with_reducible rfl) ?_) | (refine held_skip 4 rfl (by kernel_rfl) (by kernel_rfl) (by kernel_rfl) (by rfl) (fun _ _ _ h => h) (by assumption) ?_)
      simp only [Act.put, List.setIfInBounds_toArray, List.set_cons_zero, List.set_cons_succ]
      first | (refine held_take 5 rfl (by kernel_rfl) (by kernel_rfl) (by kernel_rfl) (by rfl) (fun _ _ _ h => h) (by assumption) (by intro w hSw; (try dsimp only at hSw); go_simp; first | done | with_reducible rfl) ?_) | (refine held_skip 5 rfl (by kernel_rfl) (by kernel_rfl) (by kernel_rfl) (by rfl) (fun _ _ _ h => h) (by assumption) ?_)
      simp only [Act.put, List.setIfInBounds_toArray, List.set_cons_zero, List.set_cons_succ]
      first | (refine held_take 6 rfl (by kernel_rfl) (by kernel_rfl) (by kernel_rfl) (by rfl) (fun _ _ _ h => h) (by assumption) (by intro w hSw; (try dsimp only at hSw); go_simp; first | done | with_reducible rfl) ?_) | (refine held_skip 6 rfl (by kernel_rfl) (by kernel_rfl) (by kernel_rfl) (by rfl) (fun _ _ _ h => h) (by assumption) ?_)
      simp only [Act.put, List.setIfInBounds_toArray, List.set_cons_zero, List.set_cons_succ]
      refine held_one 7 (by kernel_rfl) rfl (fun K hK => ?_)
      go_simp
      go_at_call 71
      refine (HC3.out _).mono ?_; rintro e' y3 ⟨rfl, hy3⟩
      go_wp2_with fail
      refine hK.out _ _ (by (try dsimp only); obtain ⟨y0, yb⟩ := hHeld; exact ⟨keep_cell hy3 y0, ex_trans yb hy3⟩) (fun hNew => ?_)
      clear hK K hHeld
      have hHeld := hNew
      clear hNew
      try simp only [Act.put, List.setIfInBounds_toArray, List.set_cons_zero, List.set_cons_succ]
      first | (refine held_take 8 rfl (by kernel_rfl) (by kernel_rfl) (by kernel_rfl) (by rfl) (fun _ _ _ h => h) (by assumption) (by intro w hSw; (try dsimp only at hSw); go_simp; first | done | with_reducible rfl) ?_) | (refine held_skip 8 rfl (by kernel_rfl) (by kernel_rfl) (by kernel_rfl) (by rfl) (fun _ _ _ h => h) (by assumption) ?_)
      simp only [Act.put, List.setIfInBounds_toArray, List.set_cons_zero, List.set_cons_succ]
      refine wpAnyH_done (by kernel_rfl) ?_ _
      have hB3 := hHeld.2
      clear hHeld
      have z0_1 := keep_cell hB3 q0
      have z1_1 := keep_cell hB3 q1
      have z2_1 := keep_cell hB3 q2
      have z3_1 := keep_cell hB3 q3
      have z4_1 := keep_cell hB3 q4
      go_wp2_with fail
      have h := HIn.out _ hB3
      rw [show (((m + 4 : Nat) : Int)) = (m : Int) + 1 + 1 + 1 + 1 by omega] at h
      refine h.mono ?_; rintro e' w4 ⟨rfl, hb4⟩
      clear h HIn
      have hm4 : ((m + 4 + 1 * ms[j] : Nat) : Int) ≤ 4611686018427387904 := by omega
      have hm5 : (0 : Int) ≤ ((m + 4 + 1 * ms[j] : Nat) : Int) := by omega
      go_wp2_with fail
      go_roundw
      case rel => exact ⟨j + 1, m + 4 + 1 * ms[j], by omega, HKS.out.symm, by go_num, by go_num, ex_trans (ex_trans hb hB3) hb4⟩
      case measure => simp [intOf]; omega
    · have HS := Lib.hid (show m = kat 1 ms k ms.length by rw [hm, show j = ms.length by omega])
      clear hm hS hs
      go_wp2_with fail
      go_returns
      exact ⟨ret_int (by rw [HS.out]), hb⟩
theorem laws_markStore {ef eF ea : Nat} (s : Sto) (A : Option Addr) (n c : Nat) (B : Option Addr) (m d : Nat) (bs bt : List Nat) (k : Nat) (w : World) (hO : OSl ef 2 OFld w A n s.schema bs) (hT : OSl eF 5 (OFil ea) w B m s.files bt) (hnd : (bs ++ bt).Nodup)
    (hn : n ≤ 1073741824) (hm : m ≤ 1073741824) (hs : (s.files.map (·.cnt)).sum ≤ 1073741824) (h0 : 0 < k) (h1 : k ≤ 288230376151711744) :
    Calls Try.prog 31 #[s.v A n c B m d, .int .i64 k] w fun e' w' => e' = .returned (.int .i64 ((kat 4 (s.files.map (·.cnt)) (k + 2 * n) m : Nat) : Int)) ∧ OSl ef 2 OFld w' A n (mkField n k) bs ∧ OSl eF 5 (OFil ea) w' B m (mkFile (s.files.map (·.cnt)) (k + 2 * n)) bt ∧ Chg (bs ++ bt) w w' := by
  obtain ⟨hd1, hd2, hd3⟩ := List.nodup_append.1 hnd
  have HC := Lib.hid fun w' (hb : Below w.heap.size w w') => laws_markFieldS A n c s.schema bs k w' (hO.below lFld hb) hd1 hn h0 (by omega)
  have HD := Lib.hid fun w' (hh : ∀ b ∈ bt, w'.heap[b]? = w.heap[b]?) => laws_markFileS B m d s.files bt (k + 2 * n) w' (hT.loc (lFil ea) hh) hd2 hm hs (by omega) (by omega)
  have HL := Lib.hid (hO.lt lFld)
  have HT := Lib.hid (hT.lt (lFil ea))
  have HX := Lib.hid hd3
  clear hO hT hs hd3 hnd
  go_enter Try.func31, Try.ntmps31
  go_wp2_with fail
  refine (HC.out _ (by go_grown)).mono ?_; rintro e w1 ⟨rfl, hO1, hc1⟩
  have HO1 := Lib.hid hO1
  have hcc := hc1.block w.heap.size (by simp) (fun h => by have := HL.out _ h; omega)
  rw [blk_new] at hcc
  have p1 := blk_cell? hcc 1
  have hz1 : w.heap.size < w1.heap.size := blk_lt hcc
  have HCC := Lib.hid hcc
  clear hcc hO1
  go_wp2_with fail
  refine (HD.out _ (fun b hb => (hc1.block b (by have := HT.out b hb; simp; omega) (fun h => HX.out b h b hb rfl)).trans (Below.heap_alloc _ _ _ (HT.out b hb)))).mono ?_; rintro e w2 ⟨rfl, hO2, hc2⟩
  have HO2 := Lib.hid hO2
  clear hO2
  go_wp2_with fail
  go_returns
  refine ⟨rfl, HO1.out.loc lFld (fun b hb => hc2.block b (by have := HL.out b hb; omega) (fun h => HX.out b hb b h rfl)), HO2.out, ?_⟩
  exact (((Chg.refl _ w).alloc _).step hc1 (fun b hb _ => List.mem_append_left _ hb)).step hc2 (fun b hb _ => List.mem_append_right _ hb)
end Go.Proofs.Ytkjhfblipmagoaa
