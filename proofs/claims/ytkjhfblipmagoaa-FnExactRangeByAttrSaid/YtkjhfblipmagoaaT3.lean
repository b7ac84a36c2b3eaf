/-
  CONTRACTS: the statements' own conversions (toX), sizes (szX) and comparisons (eqX): files, stores.
-/
import Derived.WalkKit
import Derived.WalkSpells
import Derived.WalkLawsBesides
import Derived.Lib.Hide
import Derived.Handy
import Derived.StillTailTactics
import Derived.Deep.Light
import Derived.Test.YtkjhfblipmagoaaLib
import Derived.Test.YtkjhfblipmagoaaOwn
import Derived.Test.YtkjhfblipmagoaaC1
import Derived.Test.YtkjhfblipmagoaaC2
import Derived.Test.YtkjhfblipmagoaaT1
import Derived.Test.YtkjhfblipmagoaaT2
import Derived.Test.YtkjhfblipmagoaaRows
namespace Go.Proofs.Ytkjhfblipmagoaa
open Go.RowKit
set_option linter.unusedVariables false
set_option maxRecDepth 100000
abbrev Fil.v (f : Fil) (A : Option Addr) (n c : Nat) : Value := .agg #[.int .i64 f.id, .int .i64 f.owner, .bool f.shared, .int .i64 f.link, .slice A n c]
theorem laws_szFile (f : Fil) (A : Option Addr) (n c : Nat) (left : Int) (w : World) (hS : Sl 4 RAtr w A n f.attrs) (hv : f.ok maxLen) (h0 : 0 ≤ left) (h1 : left ≤ 1048576) :
    Calls Try.prog 17 #[f.v A n c, .int .i64 left] w fun e w' => e = .returned (.int .i64 (lefts f.sz left)) ∧ Below w.heap.size w w' := by
  obtain ⟨hn, hs⟩ := hv
  rw [hS.len] at hn
  have C := fun w' (hb : Below w.heap.size w w') => laws_szAttrS A n c f.attrs left w' (hS.mono mAtr hb) hn hs h0 h1
  by_cases h : f.sz ≤ left
  · rw [lefts_ge (show szS Atr.sz f.attrs ≤ left from h)] at C
    have g0 : 0 ≤ left - szS Atr.sz f.attrs := by unfold Fil.sz at h; omega
    rw [lefts_ge h]
    have HC := Lib.hid C
    clear C
    go_enter Try.func17, Try.ntmps17
    go_wp2_with (go_at_call 59; refine (HC.out _ (by go_grown)).mono ?_; rintro e w1 ⟨rfl, hb1⟩)
    go_returns
    exact ⟨rfl, ex_trans (by go_grown) hb1⟩
  · rw [lefts_lt (show ¬ szS Atr.sz f.attrs ≤ left from h)] at C
    rw [lefts_lt h]
    have HC := Lib.hid C
    clear C
    go_enter Try.func17, Try.ntmps17
    go_wp2_with (go_at_call 59; refine (HC.out _ (by go_grown)).mono ?_; rintro e w1 ⟨rfl, hb1⟩)
    go_returns
    exact ⟨rfl, ex_trans (by go_grown) hb1⟩
set_option maxHeartbeats 800000 in
theorem laws_szFileS (A : Option Addr) (n c : Nat) (l : List Fil) (left : Int) (w : World) (hS : Sl 5 RFil w A n l) (hn : n ≤ maxLen) (hok : ∀ y ∈ l, y.ok maxLen) (h0 : 0 ≤ left) (h1 : left ≤ 1048576) :
    Calls Try.prog 47 #[.slice A n c, .int .i64 left] w fun e w' => e = .returned (.int .i64 (lefts (szS Fil.sz l) left)) ∧ Below w.heap.size w w' := by
  obtain rfl : l.length = n := hS.len
  unfold maxLen at hn
  by_cases hlen : (l.length : Int) ≤ left
  · have hlen' : ¬ left - (l.length : Int) < 0 := by omega
    go_enter Try.func47, Try.ntmps47
    go_wp2_with fail
    go_loopw [1, 5] (fun lf i wr => ∃ (k : Nat) (r : Int), k ≤ l.length ∧ i = .int .i64 k ∧ lf = .int .i64 r ∧ Hid (r = left - l.length - sumTo Fil.sz l k) ∧ 0 ≤ r ∧ r ≤ 1048576 ∧ Below w.heap.size w wr) (fun _ i _ => l.length - (intOf i).toNat)
    case atStart => exact ⟨0, _, Nat.zero_le _, rfl, rfl, Lib.hid (by rw [sumTo_zero]; omega), by omega, by omega, Below.refl _ _⟩
    case round =>
      obtain ⟨k, r, hk, rfl, rfl, hr, hr0, hr1, hb⟩ := hrel
      by_cases hlt : k < l.length
      · obtain ⟨b, off, rfl, bw, bc⟩ := hS.fil (by omega)
        obtain ⟨qA, qn, qc', q0, q1, q2, q3, q4, qS⟩ := bc k (by omega)
        have qT := qS.mono mAtr hb
        rw [← hb.cell (p := ⟨b, _, none⟩) bw] at q0 q1 q2 q3 q4
        clear bc qS
        have hok1 := hok l[k] (List.getElem_mem _)
        by_cases hle : l[k].sz ≤ r
        · have e1 := lefts_ge hle
          have hr' : r - l[k].sz = left - l.length - sumTo Fil.sz l (k + 1) := by rw [sumTo_succ _ hlt]; have := hr.out; omega
          have hnn := Fil.sz_nn l[k]
          have HR := Lib.hid hr'
          have g0 : 0 ≤ r - l[k].sz := by omega
          have C := fun w => laws_szFile l[k] qA qn qc' r w
          rw [e1] at C
          have HC := Lib.hid C
          clear hr' e1 C hok
          go_wp2_with (go_at_call 17; refine (HC.out _ qT hok1 hr0 hr1).mono ?_; rintro e w1 ⟨rfl, hb1⟩)
          go_roundw
          case rel => exact ⟨k + 1, _, by omega, by go_num, rfl, HR, by omega, by omega, ex_trans hb hb1⟩
          case measure => simp [intOf]; omega
        · have e1 := lefts_lt hle
          have HZ := Lib.hid (szS_more (left := left) Fil.sz_nn hlt (by have := hr.out; omega))
          have C := fun w => laws_szFile l[k] qA qn qc' r w
          rw [e1] at C
          have HC := Lib.hid C
          clear e1 C hok
          go_wp2_with (go_at_call 17; refine (HC.out _ qT hok1 hr0 hr1).mono ?_; rintro e w1 ⟨rfl, hb1⟩)
          go_returns
          exact ⟨ret_int HZ.out, ex_trans hb hb1⟩
      · have HZ := Lib.hid (szS_all (show k = l.length by omega) hr.out hr0)
        go_wp2_with fail
        go_returns
        exact ⟨ret_int HZ.out, hb⟩
  · have hlen' : left - (l.length : Int) < 0 := by omega
    have HZ := Lib.hid (szS_len (left := left) (l := l) Fil.sz_nn (by omega))
    go_enter Try.func47, Try.ntmps47
    go_wp2_with fail
    go_returns
    exact ⟨ret_int HZ.out, by go_grown⟩
def NewFil (ea : Nat) (w : World) (f : Fil) (en : Ending) (w' : World) : Prop :=
  ∃ A n c bs, en = .returned (f.v A n c) ∧ n ≤ c ∧ OSl ea 4 OAtr w' A n f.attrs bs ∧ Fresh w bs ∧ Below w.heap.size w w'
theorem NewFil.out {ea : Nat} {w w' : World} {f : Fil} {en : Ending} (h : NewFil ea w f en w') :
    ∃ A c bs, en = .returned (f.v A f.attrs.length c) ∧ f.attrs.length ≤ c ∧ OSl ea 4 OAtr w' A f.attrs.length f.attrs bs ∧ Fresh w bs ∧ Below w.heap.size w w' := by
  obtain ⟨A, n, c, bs, h1, h2, h3, h4, h5⟩ := h
  obtain rfl := h3.len
  exact ⟨A, c, bs, h1, h2, h3, h4, h5⟩
theorem laws_toFile (f : Fil) (A : Option Addr) (n c : Nat) (w : World) (hS : Sl 4 RAtr w A n f.attrs) (hv : f.ok 1073741824) :
    Calls Try.prog 20 #[f.v A n c] w fun e w' => NewFil 91 w f e w' := by
  have hn : n ≤ 1073741824 := by rw [← hS.len]; exact hv.1
  have HC := Lib.hid fun w' (hb : Below w.heap.size w w') => laws_toAttrS A n c f.attrs w' (hS.mono mAtr hb) hn
  clear hv
  go_enter Try.func20, Try.ntmps20
  go_wp2_with fail
  refine (HC.out _ (by go_grown)).mono ?_; rintro e w1 hN
  obtain ⟨A1, c1, bs1, rfl, hc1, hO1, hF1, hb1⟩ := hN.out
  have hB1 := ex_trans (w := w) (by go_grown) hb1
  obtain ⟨hcc1, hff1⟩ := bcell hb1
  have hz2 : w.heap.size + 2 < w1.heap.size := by (have := hb1.size; simp at this; omega)
  have hz1 : w.heap.size + 1 < w1.heap.size := by omega
  have hz0 : w.heap.size < w1.heap.size := by omega
  have hF1' : ∀ b ∈ bs1, w.heap.size + 2 < b := fun b hb => by have := hF1.2 b hb; simp at this; omega
  have HF := Lib.hid hF1'
  clear hF1'
  go_wp2_with fail
  refine bodyPost_ret (v := f.v A1 f.attrs.length c1) (by simp [results, Try.results20, go_sem, hcc1]) rfl ⟨A1, f.attrs.length, c1, bs1, rfl, hc1, ?_, ⟨hF1.1, fun b hb => by have := HF.out b hb; omega⟩, by go_grown⟩
  refine hO1.loc lAtr fun b hb => ?_
  have hn1 : b ≠ w.heap.size + 1 + 1 := by have := HF.out b hb; omega
  have hn2 : b ≠ w.heap.size + 1 := by have := HF.out b hb; omega
  repeat rw [blk_far]
  all_goals first | exact hn1 | exact hn2
theorem info_File : (Try.prog.info? 46).map (fun i => (i.zero, i.size, i.bytes)) = some (some (.agg #[.int .i64 0, .int .i64 0, .bool false, .int .i64 0, .slice none 0 0]), 5, 56) := by kernel_rfl
set_option maxHeartbeats 800000 in
theorem laws_toFileS (A : Option Addr) (n c : Nat) (l : List Fil) (w : World) (hS : Sl 5 RFil w A n l) (hn : n ≤ 1073741824) (hok : ∀ y ∈ l, y.ok 1073741824) :
    Calls Try.prog 51 #[.slice A n c] w fun e w' => NewSl 46 5 (OFil 91) w l e w' := by
  have hmk := mk_full Try.underlying29 info_File n (by omega) (by omega)
  have hl : l.length = n := hS.len
  go_enter Try.func51, Try.ntmps51
  go_wp2_with fail
  go_loopw [4] (fun i wr => ∃ k : Nat, k ≤ n ∧ i = .int .i64 k ∧ FillInv 46 5 (OFil 91) w n l k wr) (fun i _ => n - (intOf i).toNat)
  case atStart => exact ⟨0, Nat.zero_le _, rfl, FillInv.start (by simp [size_madeCells])⟩
  case round =>
    obtain ⟨k, hk, rfl, hI⟩ := hrel
    by_cases hlt : k < n
    · have hb := hI.1
      obtain ⟨b, off, rfl, bw, bc⟩ := hS.fil (by omega)
      obtain ⟨qA, qn, qc', q0, q1, q2, q3, q4, qS⟩ := bc k (by omega)
      have qT := qS.mono mAtr hb
      rw [← hb.cell (p := ⟨b, _, none⟩) bw] at q0 q1 q2 q3 q4
      clear bc qS
      have hok1 := hok l[k] (List.getElem_mem _)
      clear hok
      obtain ⟨cur, hg, hsz⟩ := hI.cur
      have hg0 := blk_lt hg
      have Hg := Lib.hid hg
      clear hg
      go_wp2_with (go_at_call 20; refine (laws_toFile l[k] qA qn qc' _ qT hok1).mono ?_; rintro e w1 ⟨A1, n1, c1, bs1, rfl, hnc1, hO1, hF1, hb1⟩; have hg1 := (hb1.block _ hg0).trans Hg.out; have p0 := blk_cell hg1 (j := k * 5) (by omega); have p1 := blk_cell hg1 (j := k * 5 + 1) (by omega); have p2 := blk_cell hg1 (j := k * 5 + 2) (by omega); have p3 := blk_cell hg1 (j := k * 5 + 3) (by omega); have p4 := blk_cell hg1 (j := k * 5 + 4) (by omega); have f0 := blk_free hg1 (k * 5); have f1 := blk_free hg1 (k * 5 + 1); have f2 := blk_free hg1 (k * 5 + 2); have f3 := blk_free hg1 (k * 5 + 3); have f4 := blk_free hg1 (k * 5 + 4); have Hg1 := Lib.hid hg1; clear hg1)
      go_roundw
      case rel => exact ⟨k + 1, by omega, by go_num, hI.stores (lFil _) hl hlt hb1 (cs := [_, _, _, _, _]) rfl (fun _ => ⟨A1, n1, c1, rfl, hnc1, hO1⟩) hF1⟩
      case measure => simp [intOf]; omega
    · go_wp2_with fail
      go_returns
      obtain rfl : k = n := by omega
      exact hI.end_ hl
theorem laws_eqFile (a b : Fil) (A : Option Addr) (n c : Nat) (B : Option Addr) (m d : Nat) (w : World) (hS : Sl 4 RAtr w A n a.attrs) (hT : Sl 4 RAtr w B m b.attrs) (ha : a.ok 1073741824) (hb : b.ok 1073741824) :
    Calls Try.prog 23 #[a.v A n c, b.v B m d] w fun e w' => e = .returned (.bool (a.eqb b)) ∧ Below w.heap.size w w' := by
  have hn : n ≤ 1073741824 := by rw [← hS.len]; exact ha.1
  have hm : m ≤ 1073741824 := by rw [← hT.len]; exact hb.1
  have HC := Lib.hid fun w' (hb : Below w.heap.size w w') => laws_eqAttrS A B n c m d a.attrs b.attrs w' (hS.mono mAtr hb) (hT.mono mAtr hb) hn hm
  clear ha hb
  go_enter Try.func23, Try.ntmps23
  go_wp2_with (go_at_call 70; refine (HC.out _ (by go_grown)).mono ?_; rintro e w1 ⟨rfl, hb1⟩; have hB1 := ex_trans (w := w) (by go_grown) hb1)
  all_goals go_returns
  all_goals refine ⟨ret_bool ?_, by go_grown⟩
  all_goals go_light
  all_goals clear HC
  all_goals simp_all [Fil.eqb]
set_option maxHeartbeats 800000 in
theorem laws_eqFileS (A B : Option Addr) (n c m d : Nat) (l l' : List Fil) (w : World) (hS : Sl 5 RFil w A n l) (hT : Sl 5 RFil w B m l') (hn : n ≤ 1073741824) (hm : m ≤ 1073741824) (hok : ∀ y ∈ l, y.ok 1073741824) (hok' : ∀ y ∈ l', y.ok 1073741824) :
    Calls Try.prog 57 #[.slice A n c, .slice B m d] w fun e w' => e = .returned (.bool (eqL Fil.eqb l l')) ∧ Below w.heap.size w w' := by
  obtain rfl : l.length = n := hS.len
  obtain rfl : l'.length = m := hT.len
  by_cases hlen : l.length = l'.length
  · have g0 : ((l.length : Int) != (l'.length : Int)) = false := by simp; omega
    have HL := Lib.hid hlen
    clear hlen
    go_enter Try.func57, Try.ntmps57
    go_wp2_with fail
    go_loopw [5] (fun i wr => ∃ (k : Nat), k ≤ l.length ∧ i = .int .i64 k ∧ eqTo Fil.eqb l l' k ∧ Below w.heap.size w wr) (fun i _ => l.length - (intOf i).toNat)
    case atStart => exact ⟨0, Nat.zero_le _, rfl, eqTo_zero _ _ _, Below.refl _ _⟩
    case round =>
      obtain ⟨k, hk, rfl, hE, hb⟩ := hrel
      by_cases hlt : k < l.length
      · have hlt' : k < l'.length := by have := HL.out; omega
        obtain ⟨b, off, rfl, bw, bc⟩ := hS.fil (by omega)
        obtain ⟨qA, qn, qc', q0, q1, q2, q3, q4, qS⟩ := bc k (by omega)
        have qT := qS.mono mAtr hb
        rw [← hb.cell (p := ⟨b, _, none⟩) bw] at q0 q1 q2 q3 q4
        clear bc qS
        obtain ⟨b1, off1, rfl, b1w, b1c⟩ := hT.fil (by omega)
        obtain ⟨rA, rn, rc', r0, r1, r2, r3, r4, rS⟩ := b1c k (by omega)
        have rT := rS.mono mAtr hb
        rw [← hb.cell (p := ⟨b1, _, none⟩) b1w] at r0 r1 r2 r3 r4
        clear b1c rS
        have hok1 := hok l[k] (List.getElem_mem _)
        have hok2 := hok' l'[k] (List.getElem_mem _)
        clear hok hok'
        cases hf : Fil.eqb l[k] l'[k] with
        | true =>
          have hE' := eqTo_succ hE (fun _ _ => hf)
          have C := fun w => laws_eqFile l[k] l'[k] qA qn qc' rA rn rc' w
          rw [hf] at C
          have HC := Lib.hid C
          clear hf C hE
          go_wp2_with fail
          refine still_tail 8 (by kernel_rfl) (by kernel_rfl) ?_
          simp only [List.take_succ_cons, List.take_zero, List.drop_succ_cons, List.drop_zero]
          repeat still_step
          refine wpStill_nil ?_
          go_wp2_with (go_at_call 23; refine (HC.out _ (qT.mono mAtr (Below.refl _ _).drew) (rT.mono mAtr (Below.refl _ _).drew) hok1 hok2).mono ?_; rintro e w1 ⟨rfl, hb1⟩)
          go_roundw
          case rel => exact ⟨k + 1, by omega, by go_num, hE', ex_trans hb.drew hb1⟩
          case measure => simp [intOf]; omega
        | false =>
          have HZ := Lib.hid (eqL_false hlt hlt' hf)
          have C := fun w => laws_eqFile l[k] l'[k] qA qn qc' rA rn rc' w
          rw [hf] at C
          have HC := Lib.hid C
          clear hf C hE
          go_wp2_with fail
          refine still_tail 8 (by kernel_rfl) (by kernel_rfl) ?_
          simp only [List.take_succ_cons, List.take_zero, List.drop_succ_cons, List.drop_zero]
          repeat still_step
          refine wpStill_nil ?_
          go_wp2_with (go_at_call 23; refine (HC.out _ (qT.mono mAtr (Below.refl _ _).drew) (rT.mono mAtr (Below.refl _ _).drew) hok1 hok2).mono ?_; rintro e w1 ⟨rfl, hb1⟩)
          go_returns
          exact ⟨ret_bool HZ.out.symm, ex_trans hb.drew hb1⟩
      · have HZ := Lib.hid (eqL_true HL.out (fun i h1 h2 => hE i h1 h2 (by omega)))
        clear hE
        go_wp2_with fail
        go_returns
        exact ⟨ret_bool HZ.out.symm, hb⟩
  · have g0 : ((l.length : Int) != (l'.length : Int)) = true := by simp; omega
    have HZ := Lib.hid (eqL_len (f := Fil.eqb) hlen)
    clear hlen
    go_enter Try.func57, Try.ntmps57
    go_wp2_with fail
    go_returns
    exact ⟨ret_bool HZ.out.symm, by go_grown⟩
abbrev Sto.v (s : Sto) (A : Option Addr) (n c : Nat) (B : Option Addr) (m d : Nat) : Value := .agg #[.slice A n c, .slice B m d, .int .i64 s.next]
theorem laws_szStore (s : Sto) (A : Option Addr) (n c : Nat) (B : Option Addr) (m d : Nat) (left : Int) (w : World) (hS : Sl 2 RFld w A n s.schema) (hT : Sl 5 RFil w B m s.files) (hv : s.ok maxLen) (h0 : 0 ≤ left) (h1 : left ≤ 1048576) :
    Calls Try.prog 11 #[s.v A n c B m d, .int .i64 left] w fun e w' => e = .returned (.int .i64 (lefts s.sz left)) ∧ Below w.heap.size w w' := by
  obtain ⟨k1, k2, k3, k4⟩ := hv
  rw [hS.len] at k1
  rw [hT.len] at k3
  have nn := szS_nn Fld.sz_nn s.schema
  have nm := szS_nn Fil.sz_nn s.files
  have C := fun w' (hb : Below w.heap.size w w') => laws_szFieldS A n c s.schema left w' (hS.mono mFld hb) k1 k2 h0 h1
  by_cases h : szS Fld.sz s.schema ≤ left
  · rw [lefts_ge h] at C
    have g0 : 0 ≤ left - szS Fld.sz s.schema := by omega
    have g1 : left - szS Fld.sz s.schema ≤ 1048576 := by omega
    have D := fun w' (hb : Below w.heap.size w w') => laws_szFileS B m d s.files (left - szS Fld.sz s.schema) w' (hT.mono mFil hb) k3 k4 g0 g1
    by_cases h2 : szS Fil.sz s.files ≤ left - szS Fld.sz s.schema
    · have HZ := Lib.hid (lefts_ge (show s.sz ≤ left by unfold Sto.sz; omega))
      have g2 : 0 ≤ left - szS Fld.sz s.schema - szS Fil.sz s.files := by omega
      rw [lefts_ge h2] at D
      have HC := Lib.hid C
      have HD := Lib.hid D
      clear C D k1 k2 k3 k4
      go_enter Try.func11, Try.ntmps11
      go_wp2_with fail
      refine (HC.out _ (by go_grown)).mono ?_; rintro e w1 ⟨rfl, hb1⟩
      have hB1 := ex_trans (w := w) (by go_grown) hb1
      obtain ⟨hc1, hf1⟩ := bcell hb1
      have hz1 : w.heap.size < w1.heap.size := by have := hb1.size; simp at this; omega
      go_wp2_with fail
      refine (HD.out _ hB1).mono ?_; rintro e w2 ⟨rfl, hb2⟩
      go_wp2_with fail
      go_returns
      exact ⟨ret_int (by rw [HZ.out]; unfold Sto.sz; omega), ex_trans hB1 hb2⟩
    · have HZ := Lib.hid (lefts_lt (show ¬ s.sz ≤ left by unfold Sto.sz; omega))
      rw [lefts_lt h2] at D
      have HC := Lib.hid C
      have HD := Lib.hid D
      clear C D k1 k2 k3 k4
      go_enter Try.func11, Try.ntmps11
      go_wp2_with fail
      refine (HC.out _ (by go_grown)).mono ?_; rintro e w1 ⟨rfl, hb1⟩
      have hB1 := ex_trans (w := w) (by go_grown) hb1
      obtain ⟨hc1, hf1⟩ := bcell hb1
      have hz1 : w.heap.size < w1.heap.size := by have := hb1.size; simp at this; omega
      go_wp2_with fail
      refine (HD.out _ hB1).mono ?_; rintro e w2 ⟨rfl, hb2⟩
      go_wp2_with fail
      go_returns
      exact ⟨ret_int HZ.out.symm, ex_trans hB1 hb2⟩
  · have HZ := Lib.hid (lefts_lt (show ¬ s.sz ≤ left by unfold Sto.sz; omega))
    rw [lefts_lt h] at C
    have HC := Lib.hid C
    clear C k1 k2 k3 k4
    go_enter Try.func11, Try.ntmps11
    go_wp2_with fail
    refine (HC.out _ (by go_grown)).mono ?_; rintro e w1 ⟨rfl, hb1⟩
    go_wp2_with fail
    go_returns
    exact ⟨ret_int HZ.out.symm, ex_trans (by go_grown) hb1⟩
/-- a store in new memory: its schema's blocks, then its files' -/
def NewSto (ef eF ea : Nat) (w : World) (s : Sto) (en : Ending) (w' : World) : Prop :=
  ∃ A n c B m d bs bt, en = .returned (s.v A n c B m d) ∧ n ≤ c ∧ m ≤ d ∧ OSl ef 2 OFld w' A n s.schema bs ∧ OSl eF 5 (OFil ea) w' B m s.files bt ∧ Fresh w (bs ++ bt) ∧ Below w.heap.size w w'
theorem NewSto.out {ef eF ea : Nat} {w w' : World} {s : Sto} {en : Ending} (h : NewSto ef eF ea w s en w') :
    ∃ A c B d bs bt, en = .returned (s.v A s.schema.length c B s.files.length d) ∧ s.schema.length ≤ c ∧ s.files.length ≤ d ∧ OSl ef 2 OFld w' A s.schema.length s.schema bs ∧ OSl eF 5 (OFil ea) w' B s.files.length s.files bt ∧ Fresh w (bs ++ bt) ∧ Below w.heap.size w w' := by
  obtain ⟨A, n, c, B, m, d, bs, bt, h1, h2, h3, h4, h5, h6, h7⟩ := h
  obtain rfl := h4.len
  obtain rfl := h5.len
  exact ⟨A, c, B, d, bs, bt, h1, h2, h3, h4, h5, h6, h7⟩
theorem fresh_append {w w1 : World} {bs bt : List Nat} (h : Fresh w bs) (hlt : ∀ b ∈ bs, b < w1.heap.size) (hb : w.heap.size ≤ w1.heap.size) (k : Fresh w1 bt) : Fresh w (bs ++ bt) := by
  refine ⟨List.nodup_append.2 ⟨h.1, k.1, fun a ha b hb2 => ?_⟩, fun b hb2 => ?_⟩
  · have h1 := hlt a ha
    have h2 := k.2 b hb2
    omega
  · rcases List.mem_append.1 hb2 with h1 | h1
    · exact h.2 b h1
    · have := k.2 b h1; omega
set_option maxHeartbeats 800000 in
theorem laws_toStore (s : Sto) (A : Option Addr) (n c : Nat) (B : Option Addr) (m d : Nat) (w : World) (hS : Sl 2 RFld w A n s.schema) (hT : Sl 5 RFil w B m s.files) (hv : s.ok 1073741824) :
    Calls Try.prog 13 #[s.v A n c B m d] w fun e w' => NewSto 77 46 91 w s e w' := by
  obtain ⟨k1, k2, k3, k4⟩ := hv
  rw [hS.len] at k1
  rw [hT.len] at k3
  have HC := Lib.hid fun w' (hb : Below w.heap.size w w') => laws_toFieldS A n c s.schema w' (hS.mono mFld hb) k1
  have HD := Lib.hid fun w' (hb : Below w.heap.size w w') => laws_toFileS B m d s.files w' (hT.mono mFil hb) k3 k4
  clear k1 k2 k3 k4
  go_enter Try.func13, Try.ntmps13
  go_wp2_with fail
  refine (HC.out _ (by go_grown)).mono ?_; rintro e w1 hN
  obtain ⟨A1, c1, bs1, rfl, hc1, hO1, hF1, hb1⟩ := hN.out
  have hB1 := ex_trans (w := w) (by go_grown) hb1
  obtain ⟨hcc1, hff1⟩ := bcell hb1
  have hz2 : w.heap.size + 2 < w1.heap.size := by (have := hb1.size; simp at this; omega)
  have hz1 : w.heap.size + 1 < w1.heap.size := by omega
  have hz0 : w.heap.size < w1.heap.size := by omega
  have HF := Lib.hid (show ∀ b ∈ bs1, w.heap.size + 2 < b from fun b hb => by have := hF1.2 b hb; simp at this; omega)
  go_wp2_with fail
  refine (HD.out _ (by go_grown)).mono ?_; rintro e w2 hN2
  obtain ⟨A2, c2, bs2, rfl, hc2, hO2, hF2, hb2⟩ := hN2.out
  have hB2 := ex_trans (w := w) (by go_grown) hb2
  obtain ⟨hcc2, hff2⟩ := bcell hb2
  have hs2 : w1.heap.size ≤ w2.heap.size := by have := hb2.size; simpa [size_set] using this
  have hy2 : w.heap.size + 2 < w2.heap.size := by omega
  have hy1 : w.heap.size + 1 < w2.heap.size := by omega
  have hy0 : w.heap.size < w2.heap.size := by omega
  have HG := Lib.hid (show ∀ b ∈ bs2, w1.heap.size ≤ b from fun b hb => by have := hF2.2 b hb; simpa [size_set] using this)
  go_wp2_with fail
  refine bodyPost_ret (v := s.v A1 s.schema.length c1 A2 s.files.length c2) (by simp [results, Try.results13, go_sem, hcc2, hcc1, hz1]) rfl ⟨A1, _, c1, A2, _, c2, bs1, bs2, rfl, hc1, hc2, ?_, ?_, ?_, by go_grown⟩
  · refine hO1.loc lFld fun b hb => ?_
    have hn1 : b ≠ w.heap.size + 1 + 1 := by have := HF.out b hb; omega
    have hn2 : b ≠ w.heap.size + 1 := by have := HF.out b hb; omega
    have hlt : b < w1.heap.size := hO1.lt lFld b hb
    repeat rw [blk_far]
    · rw [hb2.block b (by simpa [size_set] using hlt)]
      repeat rw [blk_far]
      all_goals first | exact hn1 | exact hn2
    all_goals first | exact hn1 | exact hn2
  · refine hO2.loc (lFil _) fun b hb => ?_
    have hn1 : b ≠ w.heap.size + 1 + 1 := by have := HG.out b hb; omega
    have hn2 : b ≠ w.heap.size + 1 := by have := HG.out b hb; omega
    repeat rw [blk_far]
    all_goals first | exact hn1 | exact hn2
  · refine fresh_append (w1 := w1) ⟨hF1.1, fun b hb => by have := HF.out b hb; omega⟩ (fun b hb => hO1.lt lFld b hb) (by omega) ⟨hF2.1, HG.out⟩
theorem laws_eqStore (a b : Sto) (A : Option Addr) (n c : Nat) (B : Option Addr) (m d : Nat) (A' : Option Addr) (n' c' : Nat) (B' : Option Addr) (m' d' : Nat) (w : World)
    (hS : Sl 2 RFld w A n a.schema) (hT : Sl 5 RFil w B m a.files) (hS' : Sl 2 RFld w A' n' b.schema) (hT' : Sl 5 RFil w B' m' b.files) (ha : a.ok 1073741824) (hb : b.ok 1073741824) :
    Calls Try.prog 15 #[a.v A n c B m d, b.v A' n' c' B' m' d'] w fun e w' => e = .returned (.bool (a.eqb b)) ∧ Below w.heap.size w w' := by
  obtain ⟨k1, _, k3, k4⟩ := ha
  obtain ⟨j1, _, j3, j4⟩ := hb
  rw [hS.len] at k1
  rw [hT.len] at k3
  rw [hS'.len] at j1
  rw [hT'.len] at j3
  have HC := Lib.hid fun w' (hb : Below w.heap.size w w') => laws_eqFieldS A A' n c n' c' a.schema b.schema w' (hS.mono mFld hb) (hS'.mono mFld hb) k1 j1
  have HD := Lib.hid fun w' (hb : Below w.heap.size w w') => laws_eqFileS B B' m d m' d' a.files b.files w' (hT.mono mFil hb) (hT'.mono mFil hb) k3 j3 k4 j4
  clear k1 k3 k4 j1 j3 j4
  go_enter Try.func15, Try.ntmps15
  go_wp2_with fail
  refine (HC.out _ (by go_grown)).mono ?_; rintro e w1 ⟨rfl, hb1⟩
  have hB1 := ex_trans (w := w) (by go_grown) hb1
  obtain ⟨hc1, hf1⟩ := bcell hb1
  have hz1 : w.heap.size + 1 < w1.heap.size := by have := hb1.size; simp at this; omega
  have hz0 : w.heap.size < w1.heap.size := by omega
  cases h1 : eqL Fld.eqb a.schema b.schema with
  | false =>
    have HZ := Lib.hid (show false = a.eqb b by simp [Sto.eqb, h1])
    clear h1
    go_wp2_with fail
    go_returns
    exact ⟨ret_bool HZ.out, hB1⟩
  | true =>
    have HZ := Lib.hid (show (eqL Fil.eqb a.files b.files && a.next == b.next) = a.eqb b by simp [Sto.eqb, h1])
    clear h1
    go_wp2_with fail
    refine (HD.out _ hB1).mono ?_; rintro e w2 ⟨rfl, hb2⟩
    have hB2 := ex_trans hB1 hb2
    obtain ⟨hc2, hf2⟩ := bcell hb2
    have hy1 : w.heap.size + 1 < w2.heap.size := by have := hb2.size; omega
    have hy0 : w.heap.size < w2.heap.size := by omega
    go_wp2_with fail
    all_goals go_returns
    all_goals refine ⟨ret_bool ?_, hB2⟩
    all_goals rw [← HZ.out]
    all_goals go_light
    all_goals simp_all
theorem laws_eqFileS_same (A B : Option Addr) (n c m d : Nat) (l : List Fil) (w : World) (hS : Sl 5 RFil w A n l) (hT : Sl 5 RFil w B m l) (hn : n ≤ 1073741824) (hm : m ≤ 1073741824) (hok : ∀ y ∈ l, y.ok 1073741824) :
    Calls Try.prog 57 #[.slice A n c, .slice B m d] w fun e w' => e = .returned (.bool true) ∧ Below w.heap.size w w' := by
  have h := laws_eqFileS A B n c m d l l w hS hT hn hm hok hok
  rw [(eqL_iff (fun a b => Fil.eqb_iff)).2 rfl] at h
  exact h
theorem laws_szFileS_ok (A : Option Addr) (n c : Nat) (l : List Fil) (left : Int) (w : World) (hS : Sl 5 RFil w A n l) (hn : n ≤ maxLen) (hok : ∀ y ∈ l, y.ok maxLen) (h0 : 0 ≤ left) (h1 : left ≤ 1048576) (h : szS Fil.sz l ≤ left) :
    Calls Try.prog 47 #[.slice A n c, .int .i64 left] w fun e w' => e = .returned (.int .i64 (left - szS Fil.sz l)) ∧ Below w.heap.size w w' := by
  have h2 := laws_szFileS A n c l left w hS hn hok h0 h1
  rw [lefts_ge h] at h2
  exact h2
theorem laws_szFileS_no (A : Option Addr) (n c : Nat) (l : List Fil) (left : Int) (w : World) (hS : Sl 5 RFil w A n l) (hn : n ≤ maxLen) (hok : ∀ y ∈ l, y.ok maxLen) (h0 : 0 ≤ left) (h1 : left ≤ 1048576) (h : ¬ szS Fil.sz l ≤ left) :
    Calls Try.prog 47 #[.slice A n c, .int .i64 left] w fun e w' => e = .returned (.int .i64 (-1)) ∧ Below w.heap.size w w' := by
  have h2 := laws_szFileS A n c l left w hS hn hok h0 h1
  rw [lefts_lt h] at h2
  exact h2
theorem laws_eqFile_same (a : Fil) (A : Option Addr) (n c : Nat) (B : Option Addr) (m d : Nat) (w : World) (hS : Sl 4 RAtr w A n a.attrs) (hT : Sl 4 RAtr w B m a.attrs) (ha : a.ok 1073741824) :
    Calls Try.prog 23 #[a.v A n c, a.v B m d] w fun e w' => e = .returned (.bool true) ∧ Below w.heap.size w w' := by
  have h := laws_eqFile a a A n c B m d w hS hT ha ha
  rw [Fil.eqb_iff.2 rfl] at h
  exact h
theorem laws_szFile_ok (f : Fil) (A : Option Addr) (n c : Nat) (left : Int) (w : World) (hS : Sl 4 RAtr w A n f.attrs) (hv : f.ok maxLen) (h0 : 0 ≤ left) (h1 : left ≤ 1048576) (h : f.sz ≤ left) :
    Calls Try.prog 17 #[f.v A n c, .int .i64 left] w fun e w' => e = .returned (.int .i64 (left - f.sz)) ∧ Below w.heap.size w w' := by
  have h2 := laws_szFile f A n c left w hS hv h0 h1
  rw [lefts_ge h] at h2
  exact h2
theorem laws_szFile_no (f : Fil) (A : Option Addr) (n c : Nat) (left : Int) (w : World) (hS : Sl 4 RAtr w A n f.attrs) (hv : f.ok maxLen) (h0 : 0 ≤ left) (h1 : left ≤ 1048576) (h : ¬ f.sz ≤ left) :
    Calls Try.prog 17 #[f.v A n c, .int .i64 left] w fun e w' => e = .returned (.int .i64 (-1)) ∧ Below w.heap.size w w' := by
  have h2 := laws_szFile f A n c left w hS hv h0 h1
  rw [lefts_lt h] at h2
  exact h2
theorem laws_szStore_ok (s : Sto) (A : Option Addr) (n c : Nat) (B : Option Addr) (m d : Nat) (left : Int) (w : World) (hS : Sl 2 RFld w A n s.schema) (hT : Sl 5 RFil w B m s.files) (hv : s.ok maxLen) (h0 : 0 ≤ left) (h1 : left ≤ 1048576) (h : s.sz ≤ left) :
    Calls Try.prog 11 #[s.v A n c B m d, .int .i64 left] w fun e w' => e = .returned (.int .i64 (left - s.sz)) ∧ Below w.heap.size w w' := by
  have h2 := laws_szStore s A n c B m d left w hS hT hv h0 h1
  rw [lefts_ge h] at h2
  exact h2
theorem laws_szStore_no (s : Sto) (A : Option Addr) (n c : Nat) (B : Option Addr) (m d : Nat) (left : Int) (w : World) (hS : Sl 2 RFld w A n s.schema) (hT : Sl 5 RFil w B m s.files) (hv : s.ok maxLen) (h0 : 0 ≤ left) (h1 : left ≤ 1048576) (h : ¬ s.sz ≤ left) :
    Calls Try.prog 11 #[s.v A n c B m d, .int .i64 left] w fun e w' => e = .returned (.int .i64 (-1)) ∧ Below w.heap.size w w' := by
  have h2 := laws_szStore s A n c B m d left w hS hT hv h0 h1
  rw [lefts_lt h] at h2
  exact h2
theorem laws_eqStore_same (a : Sto) (A : Option Addr) (n c : Nat) (B : Option Addr) (m d : Nat) (A' : Option Addr) (n' c' : Nat) (B' : Option Addr) (m' d' : Nat) (w : World)
    (hS : Sl 2 RFld w A n a.schema) (hT : Sl 5 RFil w B m a.files) (hS' : Sl 2 RFld w A' n' a.schema) (hT' : Sl 5 RFil w B' m' a.files) (ha : a.ok 1073741824) :
    Calls Try.prog 15 #[a.v A n c B m d, a.v A' n' c' B' m' d'] w fun e w' => e = .returned (.bool true) ∧ Below w.heap.size w w' := by
  have h := laws_eqStore a a A n c B m d A' n' c' B' m' d' w hS hT hS' hT' ha ha
  rw [Sto.eqb_iff.2 rfl] at h
  exact h
end Go.Proofs.Ytkjhfblipmagoaa
