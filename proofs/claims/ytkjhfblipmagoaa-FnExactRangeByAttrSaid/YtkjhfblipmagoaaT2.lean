/-
  CONTRACTS: the statements' own conversions (toX), sizes (szX) and comparisons (eqX): attributes.
-/
import Derived.WalkKit
import Derived.WalkSpells
import Derived.WalkLawsBesides
import Derived.Lib.Hide
import Derived.Handy
import Derived.StillTailTactics
import Derived.Deep.Light
import Derived.Test.YtkjhfblipmagoaaLib
import Derived.Test.YtkjhfblipmagoaaOwn
import Derived.Test.YtkjhfblipmagoaaC1
import Derived.Test.YtkjhfblipmagoaaC2
import Derived.Test.YtkjhfblipmagoaaT1
import Derived.Test.YtkjhfblipmagoaaRows
namespace Go.Proofs.Ytkjhfblipmagoaa
open Go.RowKit
set_option linter.unusedVariables false
set_option maxRecDepth 100000
def Atr.sz (a : Atr) : Int := a.name.size + a.val.str.size
theorem Atr.sz_nn (a : Atr) : 0 ≤ a.sz := by unfold Atr.sz; omega
theorem Vl.sz_nn (a : Vl) : 0 ≤ a.sz := by unfold Vl.sz; omega
theorem szS_nn {α : Type} {f : α → Int} (h0 : ∀ x, 0 ≤ f x) (l : List α) : 0 ≤ szS f l := by
  have h2 := sumTo_mono (l := l) h0 l.length 0 (by omega)
  rw [sumTo_zero, Nat.zero_add] at h2
  unfold szS; omega
def Fil.sz (f : Fil) : Int := szS Atr.sz f.attrs
theorem Fil.sz_nn (f : Fil) : 0 ≤ f.sz := szS_nn Atr.sz_nn _
def Sto.sz (s : Sto) : Int := szS Fld.sz s.schema + szS Fil.sz s.files
def Atr.eqb (a b : Atr) : Bool := eqS a.name b.name && a.val.eqb b.val
theorem Atr.eqb_iff {a b : Atr} : a.eqb b = true ↔ a = b := by
  cases a; cases b; simp [Atr.eqb, eqS_iff, Vl.eqb_iff]
def Fil.eqb (a b : Fil) : Bool := (a.id == b.id && a.owner == b.owner && a.shared == b.shared && a.link == b.link) && eqL Atr.eqb a.attrs b.attrs
theorem Fil.eqb_iff {a b : Fil} : a.eqb b = true ↔ a = b := by
  cases a; cases b; simp [Fil.eqb, eqL_iff (fun a b => Atr.eqb_iff), and_assoc]
def Sto.eqb (a b : Sto) : Bool := (eqL Fld.eqb a.schema b.schema && eqL Fil.eqb a.files b.files) && a.next == b.next
theorem Sto.eqb_iff {a b : Sto} : a.eqb b = true ↔ a = b := by
  cases a; cases b; simp [Sto.eqb, eqL_iff (fun a b => Fld.eqb_iff), eqL_iff (fun a b => Fil.eqb_iff), and_assoc]
theorem ok_mono {M N : Nat} (h : M ≤ N) {a : Atr} (ha : a.ok M) : a.ok N := ⟨Nat.le_trans ha.1 h, Nat.le_trans ha.2 h⟩
theorem laws_szAttr (a : Atr) (left : Int) (w : World) (hv : a.ok maxLen) (h0 : 0 ≤ left) (h1 : left ≤ 1048576) :
    Calls Try.prog 114 #[a.v, .int .i64 left] w fun e w' => e = .returned (.int .i64 (lefts a.sz left)) ∧ Below w.heap.size w w' := by
  obtain ⟨hn, hs⟩ := hv
  have hn' := hn
  unfold maxLen at hn'
  by_cases h : (a.name.size : Int) ≤ left
  · have g0 : 0 ≤ left - (a.name.size : Int) := by omega
    have g1 : left - (a.name.size : Int) ≤ 1048576 := by omega
    have C := fun w => laws_szValue a.val (left - a.name.size) w hs g0 g1
    by_cases h2 : a.val.sz ≤ left - a.name.size
    · have HZ := Lib.hid (lefts_ge (show a.sz ≤ left by unfold Atr.sz; unfold Vl.sz at h2; omega))
      have g2 : 0 ≤ left - (a.name.size : Int) - a.val.sz := by omega
      rw [lefts_ge h2] at C
      have HC := Lib.hid C
      clear C
      go_enter Try.func114, Try.ntmps114
      go_wp2_with (go_at_call 112; refine (HC.out _).mono ?_; rintro e w1 ⟨rfl, hb1⟩)
      go_returns
      exact ⟨ret_int (by rw [HZ.out]; unfold Atr.sz Vl.sz; omega), ex_trans (by go_grown) hb1⟩
    · have HZ := Lib.hid (lefts_lt (show ¬ a.sz ≤ left by unfold Atr.sz; unfold Vl.sz at h2; omega))
      rw [lefts_lt h2] at C
      have HC := Lib.hid C
      clear C
      go_enter Try.func114, Try.ntmps114
      go_wp2_with (go_at_call 112; refine (HC.out _).mono ?_; rintro e w1 ⟨rfl, hb1⟩)
      go_returns
      exact ⟨ret_int HZ.out.symm, ex_trans (by go_grown) hb1⟩
  · have HZ := Lib.hid (lefts_lt (show ¬ a.sz ≤ left by unfold Atr.sz; omega))
    have g0 : left - (a.name.size : Int) < 0 := by omega
    go_enter Try.func114, Try.ntmps114
    go_wp2_with fail
    go_returns
    exact ⟨ret_int HZ.out.symm, by go_grown⟩
set_option maxHeartbeats 800000 in
theorem laws_szAttrS (A : Option Addr) (n c : Nat) (l : List Atr) (left : Int) (w : World) (hS : Sl 4 RAtr w A n l) (hn : n ≤ maxLen) (hok : ∀ y ∈ l, y.ok maxLen) (h0 : 0 ≤ left) (h1 : left ≤ 1048576) :
    Calls Try.prog 59 #[.slice A n c, .int .i64 left] w fun e w' => e = .returned (.int .i64 (lefts (szS Atr.sz l) left)) ∧ Below w.heap.size w w' := by
  obtain rfl : l.length = n := hS.len
  unfold maxLen at hn
  by_cases hlen : (l.length : Int) ≤ left
  · have hlen' : ¬ left - (l.length : Int) < 0 := by omega
    go_enter Try.func59, Try.ntmps59
    go_wp2_with fail
    go_loopw [1, 5] (fun lf i wr => ∃ (k : Nat) (r : Int), k ≤ l.length ∧ i = .int .i64 k ∧ lf = .int .i64 r ∧ Hid (r = left - l.length - sumTo Atr.sz l k) ∧ 0 ≤ r ∧ r ≤ 1048576 ∧ Below w.heap.size w wr) (fun _ i _ => l.length - (intOf i).toNat)
    case atStart => exact ⟨0, _, Nat.zero_le _, rfl, rfl, Lib.hid (by rw [sumTo_zero]; omega), by omega, by omega, Below.refl _ _⟩
    case round =>
      obtain ⟨k, r, hk, rfl, rfl, hr, hr0, hr1, hb⟩ := hrel
      by_cases hlt : k < l.length
      · obtain ⟨b, off, rfl, bw, bc⟩ := hS.atr (by omega)
        obtain ⟨q0, q1, q2, q3⟩ := bc k (by omega)
        rw [← hb.cell (p := ⟨b, _, none⟩) bw] at q0 q1 q2 q3
        clear bc
        have hok1 := hok l[k] (List.getElem_mem _)
        by_cases hle : l[k].sz ≤ r
        · have e1 := lefts_ge hle
          have hr' : r - l[k].sz = left - l.length - sumTo Atr.sz l (k + 1) := by rw [sumTo_succ _ hlt]; have := hr.out; omega
          have hnn := Atr.sz_nn l[k]
          have HR := Lib.hid hr'
          have g0 : 0 ≤ r - l[k].sz := by omega
          have C := fun w => laws_szAttr l[k] r w
          rw [e1] at C
          have HC := Lib.hid C
          clear hr' e1 C hok
          go_wp2_with (go_at_call 114; refine (HC.out _ hok1 hr0 hr1).mono ?_; rintro e w1 ⟨rfl, hb1⟩)
          go_roundw
          case rel => exact ⟨k + 1, _, by omega, by go_num, rfl, HR, by omega, by omega, ex_trans hb hb1⟩
          case measure => simp [intOf]; omega
        · have e1 := lefts_lt hle
          have HZ := Lib.hid (szS_more (left := left) Atr.sz_nn hlt (by have := hr.out; omega))
          have C := fun w => laws_szAttr l[k] r w
          rw [e1] at C
          have HC := Lib.hid C
          clear e1 C hok
          go_wp2_with (go_at_call 114; refine (HC.out _ hok1 hr0 hr1).mono ?_; rintro e w1 ⟨rfl, hb1⟩)
          go_returns
          exact ⟨ret_int HZ.out, ex_trans hb hb1⟩
      · have HZ := Lib.hid (szS_all (show k = l.length by omega) hr.out hr0)
        go_wp2_with fail
        go_returns
        exact ⟨ret_int HZ.out, hb⟩
  · have hlen' : left - (l.length : Int) < 0 := by omega
    have HZ := Lib.hid (szS_len (left := left) (l := l) Atr.sz_nn (by omega))
    go_enter Try.func59, Try.ntmps59
    go_wp2_with fail
    go_returns
    exact ⟨ret_int HZ.out, by go_grown⟩
theorem laws_toAttr (a : Atr) (w : World) : Calls Try.prog 117 #[a.v] w fun e w' => e = .returned a.v ∧ Below w.heap.size w w' := by
  go_enter Try.func117, Try.ntmps117
  go_wp2_with fail
  refine (laws_toValue a.val _).mono ?_; rintro e w1 ⟨rfl, hb1⟩
  have hB1 := ex_trans (w := w) (by go_grown) hb1
  obtain ⟨hc1, hf1⟩ := bcell hb1
  have hz2 : w.heap.size + 2 < w1.heap.size := by (have := hb1.size; simp at this; omega)
  have hz1 : w.heap.size + 1 < w1.heap.size := by omega
  have hz0 : w.heap.size < w1.heap.size := by omega
  go_wp2_with fail
  refine bodyPost_ret (v := a.v) (by simp [results, Try.results117, go_sem, hc1]) rfl ⟨rfl, by go_grown⟩
theorem info_Attr : (Try.prog.info? 91).map (fun i => (i.zero, i.size, i.bytes)) = some (some (.agg #[.string ByteArray.empty, .int .i64 0, .int .i64 0, .string ByteArray.empty]), 4, 48) := by kernel_rfl
set_option maxHeartbeats 800000 in
theorem laws_toAttrS (A : Option Addr) (n c : Nat) (l : List Atr) (w : World) (hS : Sl 4 RAtr w A n l) (hn : n ≤ 1073741824) :
    Calls Try.prog 63 #[.slice A n c] w fun e w' => NewSl 91 4 OAtr w l e w' := by
  have hmk := mk_full Try.underlying44 info_Attr n (by omega) (by omega)
  have hl : l.length = n := hS.len
  go_enter Try.func63, Try.ntmps63
  go_wp2_with fail
  go_loopw [4] (fun i wr => ∃ k : Nat, k ≤ n ∧ i = .int .i64 k ∧ FillInv 91 4 OAtr w n l k wr) (fun i _ => n - (intOf i).toNat)
  case atStart => exact ⟨0, Nat.zero_le _, rfl, FillInv.start (by simp [size_madeCells])⟩
  case round =>
    obtain ⟨k, hk, rfl, hI⟩ := hrel
    by_cases hlt : k < n
    · have hb := hI.1
      obtain ⟨b, off, rfl, bw, bc⟩ := hS.atr (by omega)
      obtain ⟨q0, q1, q2, q3⟩ := bc k (by omega)
      rw [← hb.cell (p := ⟨b, _, none⟩) bw] at q0 q1 q2 q3
      clear bc
      obtain ⟨cur, hg, hsz⟩ := hI.cur
      have hg0 := blk_lt hg
      have Hg := Lib.hid hg
      clear hg
      go_wp2_with (go_at_call 117; refine (laws_toAttr l[k] _).mono ?_; rintro e w1 ⟨rfl, hb1⟩; have hg1 := (hb1.block _ hg0).trans Hg.out; have p0 := blk_cell hg1 (j := k * 4) (by omega); have p1 := blk_cell hg1 (j := k * 4 + 1) (by omega); have p2 := blk_cell hg1 (j := k * 4 + 2) (by omega); have p3 := blk_cell hg1 (j := k * 4 + 3) (by omega); have f0 := blk_free hg1 (k * 4); have f1 := blk_free hg1 (k * 4 + 1); have f2 := blk_free hg1 (k * 4 + 2); have f3 := blk_free hg1 (k * 4 + 3); have Hg1 := Lib.hid hg1; clear hg1)
      go_roundw
      case rel => exact ⟨k + 1, by omega, by go_num, hI.stores lAtr hl hlt hb1 (cs := [_, _, _, _]) rfl (fun _ => ⟨rfl, rfl⟩) (Fresh.nil _)⟩
      case measure => simp [intOf]; omega
    · go_wp2_with fail
      go_returns
      obtain rfl : k = n := by omega
      exact hI.end_ hl
theorem laws_eqAttr (a b : Atr) (w : World) : Calls Try.prog 120 #[a.v, b.v] w fun e w' => e = .returned (.bool (a.eqb b)) ∧ Below w.heap.size w w' := by
  go_enter Try.func120, Try.ntmps120
  go_wp2_with (go_at_call 119; refine (laws_eqValue a.val b.val _).mono ?_; rintro e w1 ⟨rfl, hb1⟩; have hB1 := ex_trans (w := w) (by go_grown) hb1)
  all_goals go_returns
  all_goals refine ⟨ret_bool ?_, by go_grown⟩
  all_goals go_light
  all_goals simp_all [Atr.eqb, eqS]
set_option maxHeartbeats 800000 in
theorem laws_eqAttrS (A B : Option Addr) (n c m d : Nat) (l l' : List Atr) (w : World) (hS : Sl 4 RAtr w A n l) (hT : Sl 4 RAtr w B m l') (hn : n ≤ 1073741824) (hm : m ≤ 1073741824) :
    Calls Try.prog 70 #[.slice A n c, .slice B m d] w fun e w' => e = .returned (.bool (eqL Atr.eqb l l')) ∧ Below w.heap.size w w' := by
  obtain rfl : l.length = n := hS.len
  obtain rfl : l'.length = m := hT.len
  by_cases hlen : l.length = l'.length
  · have g0 : ((l.length : Int) != (l'.length : Int)) = false := by simp; omega
    have HL := Lib.hid hlen
    clear hlen
    go_enter Try.func70, Try.ntmps70
    go_wp2_with fail
    go_loopw [5] (fun i wr => ∃ (k : Nat), k ≤ l.length ∧ i = .int .i64 k ∧ eqTo Atr.eqb l l' k ∧ Below w.heap.size w wr) (fun i _ => l.length - (intOf i).toNat)
    case atStart => exact ⟨0, Nat.zero_le _, rfl, eqTo_zero _ _ _, Below.refl _ _⟩
    case round =>
      obtain ⟨k, hk, rfl, hE, hb⟩ := hrel
      by_cases hlt : k < l.length
      · have hlt' : k < l'.length := by have := HL.out; omega
        obtain ⟨b, off, rfl, bw, bc⟩ := hS.atr (by omega)
        obtain ⟨q0, q1, q2, q3⟩ := bc k (by omega)
        rw [← hb.cell (p := ⟨b, _, none⟩) bw] at q0 q1 q2 q3
        clear bc
        obtain ⟨b1, off1, rfl, b1w, b1c⟩ := hT.atr (by omega)
        obtain ⟨r0, r1, r2, r3⟩ := b1c k (by omega)
        rw [← hb.cell (p := ⟨b1, _, none⟩) b1w] at r0 r1 r2 r3
        clear b1c
        cases hf : Atr.eqb l[k] l'[k] with
        | true =>
          have hE' := eqTo_succ hE (fun _ _ => hf)
          have C := fun w => laws_eqAttr l[k] l'[k] w
          rw [hf] at C
          have HC := Lib.hid C
          clear hf C hE
          go_wp2_with fail
          refine still_tail 8 (by kernel_rfl) (by kernel_rfl) ?_
          simp only [List.take_succ_cons, List.take_zero, List.drop_succ_cons, List.drop_zero]
          repeat still_step
          refine wpStill_nil ?_
          go_wp2_with (go_at_call 120; refine (HC.out _).mono ?_; rintro e w1 ⟨rfl, hb1⟩)
          go_roundw
          case rel => exact ⟨k + 1, by omega, by go_num, hE', ex_trans hb.drew hb1⟩
          case measure => simp [intOf]; omega
        | false =>
          have HZ := Lib.hid (eqL_false hlt hlt' hf)
          have C := fun w => laws_eqAttr l[k] l'[k] w
          rw [hf] at C
          have HC := Lib.hid C
          clear hf C hE
          go_wp2_with fail
          refine still_tail 8 (by kernel_rfl) (by kernel_rfl) ?_
          simp only [List.take_succ_cons, List.take_zero, List.drop_succ_cons, List.drop_zero]
          repeat still_step
          refine wpStill_nil ?_
          go_wp2_with (go_at_call 120; refine (HC.out _).mono ?_; rintro e w1 ⟨rfl, hb1⟩)
          go_returns
          exact ⟨ret_bool HZ.out.symm, ex_trans hb.drew hb1⟩
      · have HZ := Lib.hid (eqL_true HL.out (fun i h1 h2 => hE i h1 h2 (by omega)))
        clear hE
        go_wp2_with fail
        go_returns
        exact ⟨ret_bool HZ.out.symm, hb⟩
  · have g0 : ((l.length : Int) != (l'.length : Int)) = true := by simp; omega
    have HZ := Lib.hid (eqL_len (f := Atr.eqb) hlen)
    clear hlen
    go_enter Try.func70, Try.ntmps70
    go_wp2_with fail
    go_returns
    exact ⟨ret_bool HZ.out.symm, by go_grown⟩
theorem laws_eqAttr_same (a : Atr) (w : World) : Calls Try.prog 120 #[a.v, a.v] w fun e w' => e = .returned (.bool true) ∧ Below w.heap.size w w' := by
  have h := laws_eqAttr a a w
  rw [Atr.eqb_iff.2 rfl] at h
  exact h
theorem laws_szAttr_ok (a : Atr) (left : Int) (w : World) (hv : a.ok maxLen) (h0 : 0 ≤ left) (h1 : left ≤ 1048576) (h : a.sz ≤ left) : Calls Try.prog 114 #[a.v, .int .i64 left] w fun e w' => e = .returned (.int .i64 (left - a.sz)) ∧ Below w.heap.size w w' := by
  have h2 := laws_szAttr a left w hv h0 h1
  rw [lefts_ge h] at h2
  exact h2
theorem laws_szAttr_no (a : Atr) (left : Int) (w : World) (hv : a.ok maxLen) (h0 : 0 ≤ left) (h1 : left ≤ 1048576) (h : ¬ a.sz ≤ left) : Calls Try.prog 114 #[a.v, .int .i64 left] w fun e w' => e = .returned (.int .i64 (-1)) ∧ Below w.heap.size w w' := by
  have h2 := laws_szAttr a left w hv h0 h1
  rw [lefts_lt h] at h2
  exact h2
theorem laws_eqAttrS_same (A B : Option Addr) (n c m d : Nat) (l : List Atr) (w : World) (hS : Sl 4 RAtr w A n l) (hT : Sl 4 RAtr w B m l) (hn : n ≤ 1073741824) (hm : m ≤ 1073741824) :
    Calls Try.prog 70 #[.slice A n c, .slice B m d] w fun e w' => e = .returned (.bool true) ∧ Below w.heap.size w w' := by
  have h := laws_eqAttrS A B n c m d l l w hS hT hn hm
  rw [(eqL_iff (fun a b => Atr.eqb_iff)).2 rfl] at h
  exact h
theorem laws_szAttrS_ok (A : Option Addr) (n c : Nat) (l : List Atr) (left : Int) (w : World) (hS : Sl 4 RAtr w A n l) (hn : n ≤ maxLen) (hok : ∀ y ∈ l, y.ok maxLen) (h0 : 0 ≤ left) (h1 : left ≤ 1048576) (h : szS Atr.sz l ≤ left) :
    Calls Try.prog 59 #[.slice A n c, .int .i64 left] w fun e w' => e = .returned (.int .i64 (left - szS Atr.sz l)) ∧ Below w.heap.size w w' := by
  have h2 := laws_szAttrS A n c l left w hS hn hok h0 h1
  rw [lefts_ge h] at h2
  exact h2
theorem laws_szAttrS_no (A : Option Addr) (n c : Nat) (l : List Atr) (left : Int) (w : World) (hS : Sl 4 RAtr w A n l) (hn : n ≤ maxLen) (hok : ∀ y ∈ l, y.ok maxLen) (h0 : 0 ≤ left) (h1 : left ≤ 1048576) (h : ¬ szS Atr.sz l ≤ left) :
    Calls Try.prog 59 #[.slice A n c, .int .i64 left] w fun e w' => e = .returned (.int .i64 (-1)) ∧ Below w.heap.size w w' := by
  have h2 := laws_szAttrS A n c l left w hS hn hok h0 h1
  rw [lefts_lt h] at h2
  exact h2
end Go.Proofs.Ytkjhfblipmagoaa
