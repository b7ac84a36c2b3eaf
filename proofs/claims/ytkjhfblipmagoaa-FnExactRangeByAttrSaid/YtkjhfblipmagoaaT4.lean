/-
  CONTRACTS: the statements' own conversions (toX), sizes (szX) and comparisons (eqX): numbers and postings.
-/
import Derived.WalkKit
import Derived.WalkSpells
import Derived.WalkLawsBesides
import Derived.Lib.Hide
import Derived.Handy
import Derived.StillTailTactics
import Derived.Deep.Light
import Derived.Deep.QuietTactic
import Derived.BigQuiet
import Derived.Test.YtkjhfblipmagoaaLib
import Derived.Test.YtkjhfblipmagoaaOwn
import Derived.Test.YtkjhfblipmagoaaC1
import Derived.Test.YtkjhfblipmagoaaC2
import Derived.Test.YtkjhfblipmagoaaT1
import Derived.Test.YtkjhfblipmagoaaT2
import Derived.Test.YtkjhfblipmagoaaRows
namespace Go.Proofs.Ytkjhfblipmagoaa
open Go.RowKit
set_option linter.unusedVariables false
set_option maxRecDepth 100000
theorem laws_szIntS (A : Option Addr) (n c : Nat) (left : Int) (w : World) (hn : n ≤ maxLen) (h0 : 0 ≤ left) (h1 : left ≤ 1048576) :
    Calls Try.prog 113 #[.slice A n c, .int .i64 left] w fun e w' => e = .returned (.int .i64 (lefts n left)) ∧ Below w.heap.size w w' := by
  unfold maxLen at hn
  by_cases h : (n : Int) ≤ left
  · have HZ := Lib.hid (lefts_ge h)
    go_enter Try.func113, Try.ntmps113
    go_wp2_with fail
    go_returns
    exact ⟨ret_int HZ.out.symm, by go_grown⟩
  · have HZ := Lib.hid (lefts_lt h)
    have h' : left - (n : Int) < 0 := by omega
    go_enter Try.func113, Try.ntmps113
    go_wp2_with fail
    go_returns
    exact ⟨ret_int HZ.out.symm, by go_grown⟩
theorem info_int : (Try.prog.info? 3).map (fun i => (i.zero, i.size, i.bytes)) = some (some (.int .i64 0), 1, 8) := by kernel_rfl
set_option maxHeartbeats 800000 in
theorem laws_toIntS (A : Option Addr) (n c : Nat) (l : List Int) (w : World) (hS : Sl 1 RInt w A n l) (hn : n ≤ 1073741824) :
    Calls Try.prog 116 #[.slice A n c] w fun e w' => NewSl 3 1 OInt w l e w' := by
  have hmk := mk_full Try.underlying61 info_int n (by omega) (by omega)
  have hl : l.length = n := hS.len
  go_enter Try.func116, Try.ntmps116
  go_wp2_with fail
  go_loopw [4] (fun i wr => ∃ k : Nat, k ≤ n ∧ i = .int .i64 k ∧ FillInv 3 1 OInt w n l k wr) (fun i _ => n - (intOf i).toNat)
  case atStart => exact ⟨0, Nat.zero_le _, rfl, FillInv.start (by simp [size_madeCells])⟩
  case round =>
    obtain ⟨k, hk, rfl, hI⟩ := hrel
    by_cases hlt : k < n
    · have hb := hI.1
      obtain ⟨b, off, rfl, bw, bc⟩ := hS.int (by omega)
      have q0 := bc k (by omega)
      rw [← hb.cell (p := ⟨b, _, none⟩) bw] at q0
      clear bc
      obtain ⟨cur, hg, hsz⟩ := hI.cur
      have hks : k < cur.size := by omega
      have p0 := blk_cell hg hks
      have f0 := blk_free hg k
      have Hg := Lib.hid hg
      clear hg
      go_wp2_with fail
      go_roundw
      case rel =>
        have R := hI.stores lInt hl hlt (Below.refl _ _) (cs := [.int .i64 l[k]]) rfl (fun _ => ⟨rfl, rfl⟩) (Fresh.nil _)
        rw [Nat.mul_one] at R
        exact ⟨k + 1, by omega, by go_num, R⟩
      case measure => simp [intOf]; omega
    · go_wp2_with fail
      go_returns
      obtain rfl : k = n := by omega
      exact hI.end_ hl
def eqI (a b : Int) : Bool := a == b
set_option maxHeartbeats 800000 in
theorem laws_eqIntS (A B : Option Addr) (n c m d : Nat) (l l' : List Int) (w : World) (hS : Sl 1 RInt w A n l) (hT : Sl 1 RInt w B m l') (hn : n ≤ 1073741824) (hm : m ≤ 1073741824) :
    Calls Try.prog 39 #[.slice A n c, .slice B m d] w fun e w' => e = .returned (.bool (eqL (fun a b => a == b) l l')) ∧ Below w.heap.size w w' := by
  obtain rfl : l.length = n := hS.len
  obtain rfl : l'.length = m := hT.len
  by_cases hlen : l.length = l'.length
  · have g0 : ((l.length : Int) != (l'.length : Int)) = false := by simp; omega
    have HL := Lib.hid hlen
    clear hlen
    go_enter Try.func39, Try.ntmps39
    go_wp2_with fail
    go_loopw [5] (fun i wr => ∃ (k : Nat), k ≤ l.length ∧ i = .int .i64 k ∧ eqTo (fun a b => a == b) l l' k ∧ Below w.heap.size w wr) (fun i _ => l.length - (intOf i).toNat)
    case atStart => exact ⟨0, Nat.zero_le _, rfl, eqTo_zero _ _ _, Below.refl _ _⟩
    case round =>
      obtain ⟨k, hk, rfl, hE, hb⟩ := hrel
      by_cases hlt : k < l.length
      · have hlt' : k < l'.length := by have := HL.out; omega
        have i1 : (k : Int) < (l'.length : Int) := by omega
        have i2 : (k : Int) < (l.length : Int) := by omega
        obtain ⟨b, off, rfl, bw, bc⟩ := hS.int (by omega)
        obtain ⟨b1, off1, rfl, b1w, b1c⟩ := hT.int (by omega)
        have q0 := bc k (by omega)
        have r0 := b1c k (by omega)
        rw [← hb.cell (p := ⟨b, _, none⟩) bw] at q0
        rw [← hb.cell (p := ⟨b1, _, none⟩) b1w] at r0
        clear bc b1c
        by_cases hf : l[k] = l'[k]
        · have hE' := eqTo_succ hE (fun _ _ => by simpa using hf)
          have HE := Lib.hid hE'
          have g1 : (l[k] != l'[k]) = false := by simpa using hf
          clear hf hE hE'
          go_wp2_with fail
          go_quiet (fail)
          go_wp2_with fail
          go_roundw
          case rel => exact ⟨k + 1, by omega, by go_num, HE.out, ex_drewN hb _⟩
          case measure => simp [intOf]; omega
        · have HZ := Lib.hid (eqL_false (f := fun a b : Int => a == b) hlt hlt' (by simpa using hf))
          have g1 : (l[k] != l'[k]) = true := by simpa using hf
          clear hf hE
          go_wp2_with fail
          go_quiet (fail)
          go_wp2_with fail
          go_returns
          exact ⟨ret_bool HZ.out.symm, ex_drewN hb _⟩
      · have HZ := Lib.hid (eqL_true HL.out (fun i h1 h2 => hE i h1 h2 (by omega)))
        clear hE
        go_wp2_with fail
        go_returns
        exact ⟨ret_bool HZ.out.symm, hb⟩
  · have g0 : ((l.length : Int) != (l'.length : Int)) = true := by simp; omega
    have HZ := Lib.hid (eqL_len (f := fun a b : Int => a == b) hlen)
    clear hlen
    go_enter Try.func39, Try.ntmps39
    go_wp2_with fail
    go_returns
    exact ⟨ret_bool HZ.out.symm, by go_grown⟩
theorem laws_eqIntS_same (A B : Option Addr) (n c m d : Nat) (l : List Int) (w : World) (hS : Sl 1 RInt w A n l) (hT : Sl 1 RInt w B m l) (hn : n ≤ 1073741824) (hm : m ≤ 1073741824) :
    Calls Try.prog 39 #[.slice A n c, .slice B m d] w fun e w' => e = .returned (.bool true) ∧ Below w.heap.size w w' := by
  have h := laws_eqIntS A B n c m d l l w hS hT hn hm
  rw [(eqL_iff (fun a b => beq_iff_eq)).2 rfl] at h
  exact h
def Pst.sz (p : Pst) : Int := p.name.size + p.val.str.size + p.ids.length
theorem Pst.sz_nn (p : Pst) : 0 ≤ p.sz := by unfold Pst.sz; omega
def Pst.eqb (a b : Pst) : Bool := (eqS a.name b.name && a.val.eqb b.val) && eqL (fun a b => a == b) a.ids b.ids
theorem Pst.eqb_iff {a b : Pst} : a.eqb b = true ↔ a = b := by
  cases a; cases b; simp [Pst.eqb, eqS_iff, Vl.eqb_iff, eqL_iff (fun (a b : Int) => beq_iff_eq), and_assoc]
abbrev Pst.v (p : Pst) (A : Option Addr) (n c : Nat) : Value := .agg #[.string p.name, .int .i64 p.val.kind, .int .i64 p.val.int, .string p.val.str, .slice A n c]
theorem laws_szPosting (a : Pst) (A : Option Addr) (n c : Nat) (left : Int) (w : World) (hS : Sl 1 RInt w A n a.ids) (hv : a.ok maxLen) (h0 : 0 ≤ left) (h1 : left ≤ 1048576) :
    Calls Try.prog 58 #[a.v A n c, .int .i64 left] w fun e w' => e = .returned (.int .i64 (lefts a.sz left)) ∧ Below w.heap.size w w' := by
  obtain ⟨hn, hs, hi⟩ := hv
  have hlen := hS.len
  rw [hlen] at hi
  have hn' := hn
  unfold maxLen at hn'
  have hsz : a.sz = a.name.size + a.val.sz + n := by unfold Pst.sz Vl.sz; rw [hlen]
  by_cases h : (a.name.size : Int) ≤ left
  · have g0 : 0 ≤ left - (a.name.size : Int) := by omega
    have g1 : left - (a.name.size : Int) ≤ 1048576 := by omega
    have vn := Vl.sz_nn a.val
    by_cases h2 : a.val.sz ≤ left - a.name.size
    · have HC := Lib.hid fun w => laws_szValue_ok a.val (left - a.name.size) w hs g0 g1 h2
      have g2 : 0 ≤ left - (a.name.size : Int) - a.val.sz := by omega
      have D := fun w => laws_szIntS A n c (left - a.name.size - a.val.sz) w hi g2 (by omega)
      by_cases h3 : (n : Int) ≤ left - a.name.size - a.val.sz
      · have HZ := Lib.hid (lefts_ge (show a.sz ≤ left by omega))
        rw [lefts_ge h3] at D
        have HD := Lib.hid D
        have g3 : 0 ≤ left - (a.name.size : Int) - a.val.sz - n := by omega
        have HS := Lib.hid hsz
        clear D hlen hsz
        go_enter Try.func58, Try.ntmps58
        go_wp2_with fail
        refine (HC.out _).mono ?_; rintro e w1 ⟨rfl, hb1⟩
        have hB1 := ex_trans (w := w) (by go_grown) hb1
        obtain ⟨hc1, hf1⟩ := bcell hb1
        have hz1 : w.heap.size < w1.heap.size := by have := hb1.size; simp at this; omega
        go_wp2_with fail
        refine (HD.out _).mono ?_; rintro e w2 ⟨rfl, hb2⟩
        go_wp2_with fail
        go_returns
        exact ⟨ret_int (by rw [HZ.out, HS.out]; omega), ex_trans hB1 hb2⟩
      · have HZ := Lib.hid (lefts_lt (show ¬ a.sz ≤ left by omega))
        rw [lefts_lt h3] at D
        have HD := Lib.hid D
        clear D hlen hsz
        go_enter Try.func58, Try.ntmps58
        go_wp2_with fail
        refine (HC.out _).mono ?_; rintro e w1 ⟨rfl, hb1⟩
        have hB1 := ex_trans (w := w) (by go_grown) hb1
        obtain ⟨hc1, hf1⟩ := bcell hb1
        have hz1 : w.heap.size < w1.heap.size := by have := hb1.size; simp at this; omega
        go_wp2_with fail
        refine (HD.out _).mono ?_; rintro e w2 ⟨rfl, hb2⟩
        go_wp2_with fail
        go_returns
        exact ⟨ret_int HZ.out.symm, ex_trans hB1 hb2⟩
    · have HC := Lib.hid fun w => laws_szValue_no a.val (left - a.name.size) w hs g0 g1 h2
      have HZ := Lib.hid (lefts_lt (show ¬ a.sz ≤ left by omega))
      clear hlen hsz
      go_enter Try.func58, Try.ntmps58
      go_wp2_with fail
      refine (HC.out _).mono ?_; rintro e w1 ⟨rfl, hb1⟩
      go_wp2_with fail
      go_returns
      exact ⟨ret_int HZ.out.symm, ex_trans (by go_grown) hb1⟩
  · have vn := Vl.sz_nn a.val
    have HZ := Lib.hid (lefts_lt (show ¬ a.sz ≤ left by omega))
    have g0 : left - (a.name.size : Int) < 0 := by omega
    clear hlen hsz
    go_enter Try.func58, Try.ntmps58
    go_wp2_with fail
    go_returns
    exact ⟨ret_int HZ.out.symm, by go_grown⟩
set_option maxHeartbeats 800000 in
theorem laws_szPostingS (A : Option Addr) (n c : Nat) (l : List Pst) (left : Int) (w : World) (hS : Sl 5 RPst w A n l) (hn : n ≤ maxLen) (hok : ∀ y ∈ l, y.ok maxLen) (h0 : 0 ≤ left) (h1 : left ≤ 1048576) :
    Calls Try.prog 16 #[.slice A n c, .int .i64 left] w fun e w' => e = .returned (.int .i64 (lefts (szS Pst.sz l) left)) ∧ Below w.heap.size w w' := by
  obtain rfl : l.length = n := hS.len
  unfold maxLen at hn
  by_cases hlen : (l.length : Int) ≤ left
  · have hlen' : ¬ left - (l.length : Int) < 0 := by omega
    go_enter Try.func16, Try.ntmps16
    go_wp2_with fail
    go_loopw [1, 5] (fun lf i wr => ∃ (k : Nat) (r : Int), k ≤ l.length ∧ i = .int .i64 k ∧ lf = .int .i64 r ∧ Hid (r = left - l.length - sumTo Pst.sz l k) ∧ 0 ≤ r ∧ r ≤ 1048576 ∧ Below w.heap.size w wr) (fun _ i _ => l.length - (intOf i).toNat)
    case atStart => exact ⟨0, _, Nat.zero_le _, rfl, rfl, Lib.hid (by rw [sumTo_zero]; omega), by omega, by omega, Below.refl _ _⟩
    case round =>
      obtain ⟨k, r, hk, rfl, rfl, hr, hr0, hr1, hb⟩ := hrel
      by_cases hlt : k < l.length
      · obtain ⟨b, off, rfl, bw, bc⟩ := hS.pst (by omega)
        obtain ⟨qA, qn, qc', q0, q1, q2, q3, q4, qS⟩ := bc k (by omega)
        have qT := qS.mono mInt hb
        rw [← hb.cell (p := ⟨b, _, none⟩) bw] at q0 q1 q2 q3 q4
        clear bc qS
        have hok1 := hok l[k] (List.getElem_mem _)
        by_cases hle : l[k].sz ≤ r
        · have e1 := lefts_ge hle
          have hr' : r - l[k].sz = left - l.length - sumTo Pst.sz l (k + 1) := by rw [sumTo_succ _ hlt]; have := hr.out; omega
          have hnn := Pst.sz_nn l[k]
          have HR := Lib.hid hr'
          have g0 : 0 ≤ r - l[k].sz := by omega
          have C := fun w => laws_szPosting l[k] qA qn qc' r w
          rw [e1] at C
          have HC := Lib.hid C
          clear hr' e1 C hok
          go_wp2_with (go_at_call 58; refine (HC.out _ qT hok1 hr0 hr1).mono ?_; rintro e w1 ⟨rfl, hb1⟩)
          go_roundw
          case rel => exact ⟨k + 1, _, by omega, by go_num, rfl, HR, by omega, by omega, ex_trans hb hb1⟩
          case measure => simp [intOf]; omega
        · have e1 := lefts_lt hle
          have HZ := Lib.hid (szS_more (left := left) Pst.sz_nn hlt (by have := hr.out; omega))
          have C := fun w => laws_szPosting l[k] qA qn qc' r w
          rw [e1] at C
          have HC := Lib.hid C
          clear e1 C hok
          go_wp2_with (go_at_call 58; refine (HC.out _ qT hok1 hr0 hr1).mono ?_; rintro e w1 ⟨rfl, hb1⟩)
          go_returns
          exact ⟨ret_int HZ.out, ex_trans hb hb1⟩
      · have HZ := Lib.hid (szS_all (show k = l.length by omega) hr.out hr0)
        go_wp2_with fail
        go_returns
        exact ⟨ret_int HZ.out, hb⟩
  · have hlen' : left - (l.length : Int) < 0 := by omega
    have HZ := Lib.hid (szS_len (left := left) (l := l) Pst.sz_nn (by omega))
    go_enter Try.func16, Try.ntmps16
    go_wp2_with fail
    go_returns
    exact ⟨ret_int HZ.out, by go_grown⟩
def NewPst (ei : Nat) (w : World) (p : Pst) (en : Ending) (w' : World) : Prop :=
  ∃ A n c bs, en = .returned (p.v A n c) ∧ n ≤ c ∧ OSl ei 1 OInt w' A n p.ids bs ∧ Fresh w bs ∧ Below w.heap.size w w'
theorem laws_toPosting (p : Pst) (A : Option Addr) (n c : Nat) (w : World) (hS : Sl 1 RInt w A n p.ids) (hv : p.ok 1073741824) :
    Calls Try.prog 62 #[p.v A n c] w fun e w' => NewPst 3 w p e w' := by
  have hn : n ≤ 1073741824 := by rw [← hS.len]; exact hv.2.2
  clear hv
  go_enter Try.func62, Try.ntmps62
  go_wp2_with fail
  refine (laws_toValue p.val _).mono ?_; rintro e w1 ⟨rfl, hb1⟩
  have hB1 := ex_trans (w := w) (by go_grown) hb1
  obtain ⟨hc1, hf1⟩ := bcell hb1
  have hz2 : w.heap.size + 2 < w1.heap.size := by (have := hb1.size; simp at this; omega)
  have hz1 : w.heap.size + 1 < w1.heap.size := by omega
  have hz0 : w.heap.size < w1.heap.size := by omega
  go_wp2_with fail
  refine (laws_toIntS A n c p.ids _ (hS.mono mInt (by go_grown)) hn).mono ?_; rintro e w2 hN
  obtain ⟨A2, c2, bs2, rfl, hc2, hO2, hF2, hb2⟩ := hN.out
  have hB2 := ex_trans (w := w) (by go_grown) hb2
  obtain ⟨hcc2, hff2⟩ := bcell hb2
  have hs2 : w1.heap.size ≤ w2.heap.size := by have := hb2.size; simpa [size_set] using this
  have hy2 : w.heap.size + 2 < w2.heap.size := by omega
  have hy1 : w.heap.size + 1 < w2.heap.size := by omega
  have hy0 : w.heap.size < w2.heap.size := by omega
  have HG := Lib.hid (show ∀ b ∈ bs2, w1.heap.size ≤ b from fun b hb => by have := hF2.2 b hb; simpa [size_set] using this)
  go_wp2_with fail
  refine bodyPost_ret (v := p.v A2 p.ids.length c2) (by simp [results, Try.results62, go_sem, hcc2, hc1, hz1]) rfl ⟨A2, p.ids.length, c2, bs2, rfl, hc2, ?_, ⟨hF2.1, fun b hb => by have := HG.out b hb; omega⟩, by go_grown⟩
  refine hO2.loc lInt fun b hb => ?_
  have hn1 : b ≠ w.heap.size + 1 + 1 := by have := HG.out b hb; omega
  have hn2 : b ≠ w.heap.size + 1 := by have := HG.out b hb; omega
  repeat rw [blk_far]
  all_goals first | exact hn1 | exact hn2
theorem info_Posting : (Try.prog.info? 89).map (fun i => (i.zero, i.size, i.bytes)) = some (some (.agg #[.string ByteArray.empty, .int .i64 0, .int .i64 0, .string ByteArray.empty, .slice none 0 0]), 5, 72) := by kernel_rfl
set_option maxHeartbeats 800000 in
theorem laws_toPostingS (A : Option Addr) (n c : Nat) (l : List Pst) (w : World) (hS : Sl 5 RPst w A n l) (hn : n ≤ 1073741824) (hok : ∀ y ∈ l, y.ok 1073741824) :
    Calls Try.prog 19 #[.slice A n c] w fun e w' => NewSl 89 5 (OPst 3) w l e w' := by
  have hmk := mk_full Try.underlying41 info_Posting n (by omega) (by omega)
  have hl : l.length = n := hS.len
  go_enter Try.func19, Try.ntmps19
  go_wp2_with fail
  go_loopw [4] (fun i wr => ∃ k : Nat, k ≤ n ∧ i = .int .i64 k ∧ FillInv 89 5 (OPst 3) w n l k wr) (fun i _ => n - (intOf i).toNat)
  case atStart => exact ⟨0, Nat.zero_le _, rfl, FillInv.start (by simp [size_madeCells])⟩
  case round =>
    obtain ⟨k, hk, rfl, hI⟩ := hrel
    by_cases hlt : k < n
    · have hb := hI.1
      obtain ⟨b, off, rfl, bw, bc⟩ := hS.pst (by omega)
      obtain ⟨qA, qn, qc', q0, q1, q2, q3, q4, qS⟩ := bc k (by omega)
      have qT := qS.mono mInt hb
      rw [← hb.cell (p := ⟨b, _, none⟩) bw] at q0 q1 q2 q3 q4
      clear bc qS
      have hok1 := hok l[k] (List.getElem_mem _)
      clear hok
      obtain ⟨cur, hg, hsz⟩ := hI.cur
      have hg0 := blk_lt hg
      have Hg := Lib.hid hg
      clear hg
      go_wp2_with (go_at_call 62; refine (laws_toPosting l[k] qA qn qc' _ qT hok1).mono ?_; rintro e w1 ⟨A1, n1, c1, bs1, rfl, hnc1, hO1, hF1, hb1⟩; have hg1 := (hb1.block _ hg0).trans Hg.out; have p0 := blk_cell hg1 (j := k * 5) (by omega); have p1 := blk_cell hg1 (j := k * 5 + 1) (by omega); have p2 := blk_cell hg1 (j := k * 5 + 2) (by omega); have p3 := blk_cell hg1 (j := k * 5 + 3) (by omega); have p4 := blk_cell hg1 (j := k * 5 + 4) (by omega); have f0 := blk_free hg1 (k * 5); have f1 := blk_free hg1 (k * 5 + 1); have f2 := blk_free hg1 (k * 5 + 2); have f3 := blk_free hg1 (k * 5 + 3); have f4 := blk_free hg1 (k * 5 + 4); have Hg1 := Lib.hid hg1; clear hg1)
      go_roundw
      case rel => exact ⟨k + 1, by omega, by go_num, hI.stores (lPst _) hl hlt hb1 (cs := [_, _, _, _, _]) rfl (fun _ => ⟨A1, n1, c1, rfl, hnc1, hO1⟩) hF1⟩
      case measure => simp [intOf]; omega
    · go_wp2_with fail
      go_returns
      obtain rfl : k = n := by omega
      exact hI.end_ hl
theorem laws_eqPosting (a b : Pst) (A : Option Addr) (n c : Nat) (B : Option Addr) (m d : Nat) (w : World) (hS : Sl 1 RInt w A n a.ids) (hT : Sl 1 RInt w B m b.ids) (ha : a.ok 1073741824) (hb : b.ok 1073741824) :
    Calls Try.prog 69 #[a.v A n c, b.v B m d] w fun e w' => e = .returned (.bool (a.eqb b)) ∧ Below w.heap.size w w' := by
  have hn : n ≤ 1073741824 := by rw [← hS.len]; exact ha.2.2
  have hm : m ≤ 1073741824 := by rw [← hT.len]; exact hb.2.2
  have HC := Lib.hid fun w' (hb : Below w.heap.size w w') => laws_eqIntS A B n c m d a.ids b.ids w' (hS.mono mInt hb) (hT.mono mInt hb) hn hm
  clear ha hb
  cases h1 : eqS a.name b.name with
  | false =>
    have HZ := Lib.hid (show false = a.eqb b by simp [Pst.eqb, h1])
    unfold eqS at h1
    go_enter Try.func69, Try.ntmps69
    go_wp2_with fail
    go_returns
    exact ⟨ret_bool HZ.out, by go_grown⟩
  | true =>
    cases h2 : a.val.eqb b.val with
    | false =>
      have HZ := Lib.hid (show false = a.eqb b by simp [Pst.eqb, h2])
      have HV := Lib.hid (show ∀ w, Calls Try.prog 119 #[a.val.v, b.val.v] w fun e w' => e = .returned (.bool false) ∧ Below w.heap.size w w' from fun w => by have h := laws_eqValue a.val b.val w; rw [h2] at h; exact h)
      unfold eqS at h1
      clear h2
      go_enter Try.func69, Try.ntmps69
      go_wp2_with fail
      refine (HV.out _).mono ?_; rintro e w1 ⟨rfl, hb1⟩
      go_wp2_with fail
      go_returns
      exact ⟨ret_bool HZ.out, ex_trans (by go_grown) hb1⟩
    | true =>
      have HZ := Lib.hid (show eqL (fun a b => a == b) a.ids b.ids = a.eqb b by simp [Pst.eqb, h1, h2])
      have HV := Lib.hid (show ∀ w, Calls Try.prog 119 #[a.val.v, b.val.v] w fun e w' => e = .returned (.bool true) ∧ Below w.heap.size w w' from fun w => by have h := laws_eqValue a.val b.val w; rw [h2] at h; exact h)
      unfold eqS at h1
      clear h2
      go_enter Try.func69, Try.ntmps69
      go_wp2_with fail
      refine (HV.out _).mono ?_; rintro e w1 ⟨rfl, hb1⟩
      have hB1 := ex_trans (w := w) (by go_grown) hb1
      obtain ⟨hc1, hf1⟩ := bcell hb1
      have hz1 : w.heap.size + 1 < w1.heap.size := by have := hb1.size; simp at this; omega
      have hz0 : w.heap.size < w1.heap.size := by omega
      go_wp2_with fail
      refine (HC.out _ hB1).mono ?_; rintro e w2 ⟨rfl, hb2⟩
      go_wp2_with fail
      all_goals go_returns
      all_goals refine ⟨ret_bool ?_, ex_trans hB1 hb2⟩
      all_goals rw [← HZ.out]
      all_goals go_light
      all_goals simp_all
set_option maxHeartbeats 800000 in
theorem laws_eqPostingS (A B : Option Addr) (n c m d : Nat) (l l' : List Pst) (w : World) (hS : Sl 5 RPst w A n l) (hT : Sl 5 RPst w B m l') (hn : n ≤ 1073741824) (hm : m ≤ 1073741824) (hok : ∀ y ∈ l, y.ok 1073741824) (hok' : ∀ y ∈ l', y.ok 1073741824) :
    Calls Try.prog 22 #[.slice A n c, .slice B m d] w fun e w' => e = .returned (.bool (eqL Pst.eqb l l')) ∧ Below w.heap.size w w' := by
  obtain rfl : l.length = n := hS.len
  obtain rfl : l'.length = m := hT.len
  by_cases hlen : l.length = l'.length
  · have g0 : ((l.length : Int) != (l'.length : Int)) = false := by simp; omega
    have HL := Lib.hid hlen
    clear hlen
    go_enter Try.func22, Try.ntmps22
    go_wp2_with fail
    go_loopw [5] (fun i wr => ∃ (k : Nat), k ≤ l.length ∧ i = .int .i64 k ∧ eqTo Pst.eqb l l' k ∧ Below w.heap.size w wr) (fun i _ => l.length - (intOf i).toNat)
    case atStart => exact ⟨0, Nat.zero_le _, rfl, eqTo_zero _ _ _, Below.refl _ _⟩
    case round =>
      obtain ⟨k, hk, rfl, hE, hb⟩ := hrel
      by_cases hlt : k < l.length
      · have hlt' : k < l'.length := by have := HL.out; omega
        obtain ⟨b, off, rfl, bw, bc⟩ := hS.pst (by omega)
        obtain ⟨qA, qn, qc', q0, q1, q2, q3, q4, qS⟩ := bc k (by omega)
        have qT := qS.mono mInt hb
        rw [← hb.cell (p := ⟨b, _, none⟩) bw] at q0 q1 q2 q3 q4
        clear bc qS
        obtain ⟨b1, off1, rfl, b1w, b1c⟩ := hT.pst (by omega)
        obtain ⟨rA, rn, rc', r0, r1, r2, r3, r4, rS⟩ := b1c k (by omega)
        have rT := rS.mono mInt hb
        rw [← hb.cell (p := ⟨b1, _, none⟩) b1w] at r0 r1 r2 r3 r4
        clear b1c rS
        have hok1 := hok l[k] (List.getElem_mem _)
        have hok2 := hok' l'[k] (List.getElem_mem _)
        clear hok hok'
        cases hf : Pst.eqb l[k] l'[k] with
        | true =>
          have hE' := eqTo_succ hE (fun _ _ => hf)
          have C := fun w => laws_eqPosting l[k] l'[k] qA qn qc' rA rn rc' w
          rw [hf] at C
          have HC := Lib.hid C
          clear hf C hE
          go_wp2_with fail
          refine still_tail 8 (by kernel_rfl) (by kernel_rfl) ?_
          simp only [List.take_succ_cons, List.take_zero, List.drop_succ_cons, List.drop_zero]
          repeat still_step
          refine wpStill_nil ?_
          go_wp2_with (go_at_call 69; refine (HC.out _ (qT.mono mInt (Below.refl _ _).drew) (rT.mono mInt (Below.refl _ _).drew) hok1 hok2).mono ?_; rintro e w1 ⟨rfl, hb1⟩)
          go_roundw
          case rel => exact ⟨k + 1, by omega, by go_num, hE', ex_trans hb.drew hb1⟩
          case measure => simp [intOf]; omega
        | false =>
          have HZ := Lib.hid (eqL_false hlt hlt' hf)
          have C := fun w => laws_eqPosting l[k] l'[k] qA qn qc' rA rn rc' w
          rw [hf] at C
          have HC := Lib.hid C
          clear hf C hE
          go_wp2_with fail
          refine still_tail 8 (by kernel_rfl) (by kernel_rfl) ?_
          simp only [List.take_succ_cons, List.take_zero, List.drop_succ_cons, List.drop_zero]
          repeat still_step
          refine wpStill_nil ?_
          go_wp2_with (go_at_call 69; refine (HC.out _ (qT.mono mInt (Below.refl _ _).drew) (rT.mono mInt (Below.refl _ _).drew) hok1 hok2).mono ?_; rintro e w1 ⟨rfl, hb1⟩)
          go_returns
          exact ⟨ret_bool HZ.out.symm, ex_trans hb.drew hb1⟩
      · have HZ := Lib.hid (eqL_true HL.out (fun i h1 h2 => hE i h1 h2 (by omega)))
        clear hE
        go_wp2_with fail
        go_returns
        exact ⟨ret_bool HZ.out.symm, hb⟩
  · have g0 : ((l.length : Int) != (l'.length : Int)) = true := by simp; omega
    have HZ := Lib.hid (eqL_len (f := Pst.eqb) hlen)
    clear hlen
    go_enter Try.func22, Try.ntmps22
    go_wp2_with fail
    go_returns
    exact ⟨ret_bool HZ.out.symm, by go_grown⟩
theorem laws_eqPostingS_same (A B : Option Addr) (n c m d : Nat) (l : List Pst) (w : World) (hS : Sl 5 RPst w A n l) (hT : Sl 5 RPst w B m l) (hn : n ≤ 1073741824) (hm : m ≤ 1073741824) (hok : ∀ y ∈ l, y.ok 1073741824) :
    Calls Try.prog 22 #[.slice A n c, .slice B m d] w fun e w' => e = .returned (.bool true) ∧ Below w.heap.size w w' := by
  have h := laws_eqPostingS A B n c m d l l w hS hT hn hm hok hok
  rw [(eqL_iff (fun a b => Pst.eqb_iff)).2 rfl] at h
  exact h
theorem laws_szPostingS_ok (A : Option Addr) (n c : Nat) (l : List Pst) (left : Int) (w : World) (hS : Sl 5 RPst w A n l) (hn : n ≤ maxLen) (hok : ∀ y ∈ l, y.ok maxLen) (h0 : 0 ≤ left) (h1 : left ≤ 1048576) (h : szS Pst.sz l ≤ left) :
    Calls Try.prog 16 #[.slice A n c, .int .i64 left] w fun e w' => e = .returned (.int .i64 (left - szS Pst.sz l)) ∧ Below w.heap.size w w' := by
  have h2 := laws_szPostingS A n c l left w hS hn hok h0 h1
  rw [lefts_ge h] at h2
  exact h2
theorem laws_szPostingS_no (A : Option Addr) (n c : Nat) (l : List Pst) (left : Int) (w : World) (hS : Sl 5 RPst w A n l) (hn : n ≤ maxLen) (hok : ∀ y ∈ l, y.ok maxLen) (h0 : 0 ≤ left) (h1 : left ≤ 1048576) (h : ¬ szS Pst.sz l ≤ left) :
    Calls Try.prog 16 #[.slice A n c, .int .i64 left] w fun e w' => e = .returned (.int .i64 (-1)) ∧ Below w.heap.size w w' := by
  have h2 := laws_szPostingS A n c l left w hS hn hok h0 h1
  rw [lefts_lt h] at h2
  exact h2
end Go.Proofs.Ytkjhfblipmagoaa
