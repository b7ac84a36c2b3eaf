/-
  CONTRACTS: the statements' own conversions (toX), sizes (szX) and comparisons (eqX), at fields and slices of fields.
-/
import Derived.WalkKit
import Derived.WalkSpells
import Derived.WalkLawsBesides
import Derived.Lib.Hide
import Derived.Handy
import Derived.StillTailTactics
import Derived.Deep.Light
import Derived.Test.YtkjhfblipmagoaaLib
import Derived.Test.YtkjhfblipmagoaaOwn
import Derived.Test.YtkjhfblipmagoaaC1
import Derived.Test.YtkjhfblipmagoaaC2
import Derived.Test.YtkjhfblipmagoaaRows
namespace Go.Proofs.Ytkjhfblipmagoaa
open Go.RowKit
set_option linter.unusedVariables false
set_option maxRecDepth 100000
def sumTo {α : Type} (f : α → Int) (l : List α) (k : Nat) : Int := ((l.take k).map f).sum
theorem sumTo_zero {α : Type} (f : α → Int) (l : List α) : sumTo f l 0 = 0 := by simp [sumTo]
theorem sumTo_succ {α : Type} (f : α → Int) {l : List α} {k : Nat} (h : k < l.length) : sumTo f l (k + 1) = sumTo f l k + f l[k] := by
  unfold sumTo
  rw [List.take_succ_eq_append_getElem h, List.map_append, List.sum_append_int]
  simp
theorem sumTo_mono {α : Type} {f : α → Int} {l : List α} (h0 : ∀ x, 0 ≤ f x) : ∀ (d k : Nat), k + d ≤ l.length → sumTo f l k ≤ sumTo f l (k + d)
  | 0, _, _ => Int.le_refl _
  | d + 1, k, h => by
    have h1 := sumTo_mono (l := l) h0 d k (by omega)
    have h2 := sumTo_succ f (l := l) (k := k + d) (by omega)
    have h3 := h0 (l[k + d]'(by omega))
    rw [← Nat.add_assoc]; omega
def szS {α : Type} (f : α → Int) (l : List α) : Int := l.length + sumTo f l l.length
theorem szS_more {α : Type} {f : α → Int} {l : List α} {k : Nat} {left : Int} (h0 : ∀ x, 0 ≤ f x) (hk : k < l.length) (h : left - l.length - sumTo f l k < f l[k]) : -1 = lefts (szS f l) left := by
  have h1 := sumTo_succ f hk
  have h2 := sumTo_mono (l := l) h0 (l.length - (k + 1)) (k + 1) (by omega)
  rw [show k + 1 + (l.length - (k + 1)) = l.length from by omega] at h2
  rw [lefts_lt (by unfold szS; omega)]
theorem szS_len {α : Type} {f : α → Int} {l : List α} {left : Int} (h0 : ∀ x, 0 ≤ f x) (h : left < l.length) : -1 = lefts (szS f l) left := by
  have h2 := sumTo_mono (l := l) h0 l.length 0 (by omega)
  rw [sumTo_zero, Nat.zero_add] at h2
  rw [lefts_lt (by unfold szS; omega)]
theorem szS_all {α : Type} {f : α → Int} {l : List α} {k : Nat} {left r : Int} (hk : k = l.length) (hr : r = left - l.length - sumTo f l k) (h : 0 ≤ r) : r = lefts (szS f l) left := by
  subst hk
  rw [lefts_ge (by unfold szS; omega)]
  unfold szS; omega
/-- two lists agree, by the elements' own comparison -/
def eqL {α : Type} (f : α → α → Bool) : List α → List α → Bool
  | [], [] => true
  | a :: l, b :: m => f a b && eqL f l m
  | _, _ => false
theorem eqL_len {α : Type} {f : α → α → Bool} : ∀ {l m : List α}, l.length ≠ m.length → eqL f l m = false
  | [], [], h => absurd rfl h
  | [], _ :: _, _ => rfl
  | _ :: _, [], _ => rfl
  | a :: l, b :: m, h => by simp only [eqL]; rw [eqL_len (by simpa using h)]; simp
theorem eqL_false {α : Type} {f : α → α → Bool} : ∀ {l m : List α} {k : Nat} (h1 : k < l.length) (h2 : k < m.length), f l[k] m[k] = false → eqL f l m = false
  | a :: l, b :: m, 0, _, _, h => by simp only [eqL]; rw [show f a b = false from h]; rfl
  | a :: l, b :: m, k + 1, h1, h2, h => by simp only [eqL]; rw [eqL_false (k := k) (by simpa using h1) (by simpa using h2) (by simpa using h)]; simp
theorem eqL_true {α : Type} {f : α → α → Bool} : ∀ {l m : List α}, l.length = m.length → (∀ k (h1 : k < l.length) (h2 : k < m.length), f l[k] m[k] = true) → eqL f l m = true
  | [], [], _, _ => rfl
  | a :: l, b :: m, h, hk => by
    simp only [eqL]
    rw [show f a b = true from hk 0 (by simp) (by simp), eqL_true (by simpa using h) (fun k h1 h2 => hk (k + 1) (by simpa using h1) (by simpa using h2))]
    rfl
theorem eqL_iff {α : Type} {f : α → α → Bool} (hf : ∀ a b, f a b = true ↔ a = b) : ∀ {l m : List α}, eqL f l m = true ↔ l = m
  | [], [] => by simp [eqL]
  | [], _ :: _ => by simp [eqL]
  | _ :: _, [] => by simp [eqL]
  | a :: l, b :: m => by simp only [eqL, Bool.and_eq_true, hf, eqL_iff hf, List.cons.injEq]
/-- as far as k -/
def eqTo {α : Type} (f : α → α → Bool) (l m : List α) (k : Nat) : Prop := ∀ i (h1 : i < l.length) (h2 : i < m.length), i < k → f l[i] m[i] = true
theorem eqTo_zero {α : Type} (f : α → α → Bool) (l m : List α) : eqTo f l m 0 := fun i _ _ h => absurd h (by omega)
theorem eqTo_succ {α : Type} {f : α → α → Bool} {l m : List α} {k : Nat} (h : eqTo f l m k) (hf : ∀ (h1 : k < l.length) (h2 : k < m.length), f l[k] m[k] = true) : eqTo f l m (k + 1) := by
  intro i h1 h2 hk
  by_cases e : i = k
  · subst e; exact hf h1 h2
  · exact h i h1 h2 (by omega)
theorem Fld.sz_nn (f : Fld) : 0 ≤ f.sz := by unfold Fld.sz; omega
theorem laws_szField (f : Fld) (left : Int) (w : World) (hv : f.ok maxLen) (h0 : 0 ≤ left) (h1 : left ≤ 1048576) :
    Calls Try.prog 99 #[f.v, .int .i64 left] w fun e w' => e = .returned (.int .i64 (lefts f.sz left)) ∧ Below w.heap.size w w' := by
  unfold Fld.ok maxLen at hv
  by_cases h : f.sz ≤ left
  · have HZ := Lib.hid (lefts_ge h)
    unfold Fld.sz at *
    go_enter Try.func99, Try.ntmps99
    go_wp2
    go_returns
    refine ⟨ret_int ?_, by go_grown⟩
    rw [HZ.out]
  · have HZ := Lib.hid (lefts_lt h)
    unfold Fld.sz at *
    have h' : left - (f.name.size : Int) < 0 := by omega
    go_enter Try.func99, Try.ntmps99
    go_wp2
    go_returns
    refine ⟨ret_int ?_, by go_grown⟩
    rw [HZ.out]
set_option maxHeartbeats 800000 in
theorem laws_szFieldS (A : Option Addr) (n c : Nat) (l : List Fld) (left : Int) (w : World) (hS : Sl 2 RFld w A n l) (hn : n ≤ maxLen) (hok : ∀ y ∈ l, y.ok maxLen) (h0 : 0 ≤ left) (h1 : left ≤ 1048576) :
    Calls Try.prog 46 #[.slice A n c, .int .i64 left] w fun e w' => e = .returned (.int .i64 (lefts (szS Fld.sz l) left)) ∧ Below w.heap.size w w' := by
  obtain rfl : l.length = n := hS.len
  unfold maxLen at hn
  by_cases hlen : (l.length : Int) ≤ left
  · have hlen' : ¬ left - (l.length : Int) < 0 := by omega
    go_enter Try.func46, Try.ntmps46
    go_wp2_with fail
    go_loopw [1, 5] (fun lf i wr => ∃ (k : Nat) (r : Int), k ≤ l.length ∧ i = .int .i64 k ∧ lf = .int .i64 r ∧ Hid (r = left - l.length - sumTo Fld.sz l k) ∧ 0 ≤ r ∧ r ≤ 1048576 ∧ Below w.heap.size w wr) (fun _ i _ => l.length - (intOf i).toNat)
    case atStart => exact ⟨0, _, Nat.zero_le _, rfl, rfl, Lib.hid (by rw [sumTo_zero]; omega), by omega, by omega, Below.refl _ _⟩
    case round =>
      obtain ⟨k, r, hk, rfl, rfl, hr, hr0, hr1, hb⟩ := hrel
      by_cases hlt : k < l.length
      · obtain ⟨b, off, rfl, bw, bc⟩ := hS.fld (by omega)
        obtain ⟨q0, q1⟩ := bc k (by omega)
        rw [← hb.cell (p := ⟨b, _, none⟩) bw] at q0 q1
        clear bc
        have hok1 := hok l[k] (List.getElem_mem _)
        by_cases hle : l[k].sz ≤ r
        · have e1 := lefts_ge hle
          have hr' : r - l[k].sz = left - l.length - sumTo Fld.sz l (k + 1) := by rw [sumTo_succ _ hlt]; have := hr.out; omega
          have hnn := Fld.sz_nn l[k]
          have HR := Lib.hid hr'
          have g0 : 0 ≤ r - l[k].sz := by omega
          have C := fun w => laws_szField l[k] r w
          rw [e1] at C
          have HC := Lib.hid C
          clear hr' e1 C hok
          go_wp2_with (go_at_call 99; refine (HC.out _ hok1 hr0 hr1).mono ?_; rintro e w1 ⟨rfl, hb1⟩)
          go_roundw
          case rel => exact ⟨k + 1, _, by omega, by go_num, rfl, HR, by omega, by omega, ex_trans hb hb1⟩
          case measure => simp [intOf]; omega
        · have e1 := lefts_lt hle
          have HZ := Lib.hid (szS_more (left := left) Fld.sz_nn hlt (by have := hr.out; omega))
          have C := fun w => laws_szField l[k] r w
          rw [e1] at C
          have HC := Lib.hid C
          clear e1 C hok
          go_wp2_with (go_at_call 99; refine (HC.out _ hok1 hr0 hr1).mono ?_; rintro e w1 ⟨rfl, hb1⟩)
          go_returns
          exact ⟨ret_int HZ.out, ex_trans hb hb1⟩
      · have HZ := Lib.hid (szS_all (show k = l.length by omega) hr.out hr0)
        go_wp2_with fail
        go_returns
        exact ⟨ret_int HZ.out, hb⟩
  · have hlen' : left - (l.length : Int) < 0 := by omega
    have HZ := Lib.hid (szS_len (left := left) (l := l) Fld.sz_nn (by omega))
    go_enter Try.func46, Try.ntmps46
    go_wp2_with fail
    go_returns
    exact ⟨ret_int HZ.out, by go_grown⟩
theorem laws_toField (a : Fld) (w : World) : Calls Try.prog 105 #[a.v] w fun e w' => e = .returned a.v ∧ Below w.heap.size w w' := by
  go_enter Try.func105, Try.ntmps105
  go_wp2
  go_returns
  exact ⟨rfl, by go_grown⟩
theorem info_Field : (Try.prog.info? 77).map (fun i => (i.zero, i.size, i.bytes)) = some (some (.agg #[.string ByteArray.empty, .int .i64 0]), 2, 24) := by kernel_rfl
set_option maxHeartbeats 800000 in
theorem laws_toFieldS (A : Option Addr) (n c : Nat) (l : List Fld) (w : World) (hS : Sl 2 RFld w A n l) (hn : n ≤ 1073741824) :
    Calls Try.prog 50 #[.slice A n c] w fun e w' => NewSl 77 2 OFld w l e w' := by
  have hmk := mk_full Try.underlying28 info_Field n (by omega) (by omega)
  have hl : l.length = n := hS.len
  go_enter Try.func50, Try.ntmps50
  go_wp2_with fail
  go_loopw [4] (fun i wr => ∃ k : Nat, k ≤ n ∧ i = .int .i64 k ∧ FillInv 77 2 OFld w n l k wr) (fun i _ => n - (intOf i).toNat)
  case atStart => exact ⟨0, Nat.zero_le _, rfl, FillInv.start (by simp [size_madeCells])⟩
  case round =>
    obtain ⟨k, hk, rfl, hI⟩ := hrel
    by_cases hlt : k < n
    · have hb := hI.1
      obtain ⟨b, off, rfl, bw, bc⟩ := hS.fld (by omega)
      obtain ⟨q0, q1⟩ := bc k (by omega)
      rw [← hb.cell (p := ⟨b, _, none⟩) bw] at q0 q1
      clear bc
      obtain ⟨cur, hg, hsz⟩ := hI.cur
      have hg0 := blk_lt hg
      have Hg := Lib.hid hg
      clear hg
      go_wp2_with (go_at_call 105; refine (laws_toField l[k] _).mono ?_; rintro e w1 ⟨rfl, hb1⟩; have hg1 := (hb1.block _ hg0).trans Hg.out; have p0 := blk_cell hg1 (j := k * 2) (by omega); have p1 := blk_cell hg1 (j := k * 2 + 1) (by omega); have f0 := blk_free hg1 (k * 2); have f1 := blk_free hg1 (k * 2 + 1); have Hg1 := Lib.hid hg1; clear hg1)
      go_roundw
      case rel => exact ⟨k + 1, by omega, by go_num, hI.stores lFld hl hlt hb1 (cs := [_, _]) rfl (fun _ => ⟨rfl, rfl⟩) (Fresh.nil _)⟩
      case measure => simp [intOf]; omega
    · go_wp2_with fail
      go_returns
      obtain rfl : k = n := by omega
      exact hI.end_ hl
theorem laws_eqField (a b : Fld) (w : World) : Calls Try.prog 111 #[a.v, b.v] w fun e w' => e = .returned (.bool (a.eqb b)) ∧ Below w.heap.size w w' := by
  go_enter Try.func111, Try.ntmps111
  go_wp2
  all_goals go_returns
  all_goals refine ⟨ret_bool ?_, by go_grown⟩
  all_goals go_light
  all_goals simp_all [Fld.eqb, eqS]
set_option maxHeartbeats 800000 in
theorem laws_eqFieldS (A B : Option Addr) (n c m d : Nat) (l l' : List Fld) (w : World) (hS : Sl 2 RFld w A n l) (hT : Sl 2 RFld w B m l') (hn : n ≤ 1073741824) (hm : m ≤ 1073741824) :
    Calls Try.prog 56 #[.slice A n c, .slice B m d] w fun e w' => e = .returned (.bool (eqL Fld.eqb l l')) ∧ Below w.heap.size w w' := by
  obtain rfl : l.length = n := hS.len
  obtain rfl : l'.length = m := hT.len
  by_cases hlen : l.length = l'.length
  · have g0 : ((l.length : Int) != (l'.length : Int)) = false := by simp; omega
    have HL := Lib.hid hlen
    clear hlen
    go_enter Try.func56, Try.ntmps56
    go_wp2_with fail
    go_loopw [5] (fun i wr => ∃ (k : Nat), k ≤ l.length ∧ i = .int .i64 k ∧ eqTo Fld.eqb l l' k ∧ Below w.heap.size w wr) (fun i _ => l.length - (intOf i).toNat)
    case atStart => exact ⟨0, Nat.zero_le _, rfl, eqTo_zero _ _ _, Below.refl _ _⟩
    case round =>
      obtain ⟨k, hk, rfl, hE, hb⟩ := hrel
      by_cases hlt : k < l.length
      · have hlt' : k < l'.length := by have := HL.out; omega
        obtain ⟨b, off, rfl, bw, bc⟩ := hS.fld (by omega)
        obtain ⟨q0, q1⟩ := bc k (by omega)
        rw [← hb.cell (p := ⟨b, _, none⟩) bw] at q0 q1
        clear bc
        obtain ⟨b1, off1, rfl, b1w, b1c⟩ := hT.fld (by omega)
        obtain ⟨r0, r1⟩ := b1c k (by omega)
        rw [← hb.cell (p := ⟨b1, _, none⟩) b1w] at r0 r1
        clear b1c
        cases hf : Fld.eqb l[k] l'[k] with
        | true =>
          have hE' := eqTo_succ hE (fun _ _ => hf)
          have C := fun w => laws_eqField l[k] l'[k] w
          rw [hf] at C
          have HC := Lib.hid C
          clear hf C hE
          go_wp2_with fail
          refine still_tail 8 (by kernel_rfl) (by kernel_rfl) ?_
          simp only [List.take_succ_cons, List.take_zero, List.drop_succ_cons, List.drop_zero]
          repeat still_step
          refine wpStill_nil ?_
          go_wp2_with (go_at_call 111; refine (HC.out _).mono ?_; rintro e w1 ⟨rfl, hb1⟩)
          go_roundw
          case rel => exact ⟨k + 1, by omega, by go_num, hE', ex_trans hb.drew hb1⟩
          case measure => simp [intOf]; omega
        | false =>
          have HZ := Lib.hid (eqL_false hlt hlt' hf)
          have C := fun w => laws_eqField l[k] l'[k] w
          rw [hf] at C
          have HC := Lib.hid C
          clear hf C hE
          go_wp2_with fail
          refine still_tail 8 (by kernel_rfl) (by kernel_rfl) ?_
          simp only [List.take_succ_cons, List.take_zero, List.drop_succ_cons, List.drop_zero]
          repeat still_step
          refine wpStill_nil ?_
          go_wp2_with (go_at_call 111; refine (HC.out _).mono ?_; rintro e w1 ⟨rfl, hb1⟩)
          go_returns
          exact ⟨ret_bool HZ.out.symm, ex_trans hb.drew hb1⟩
      · have HZ := Lib.hid (eqL_true HL.out (fun i h1 h2 => hE i h1 h2 (by omega)))
        clear hE
        go_wp2_with fail
        go_returns
        exact ⟨ret_bool HZ.out.symm, hb⟩
  · have g0 : ((l.length : Int) != (l'.length : Int)) = true := by simp; omega
    have HZ := Lib.hid (eqL_len (f := Fld.eqb) hlen)
    clear hlen
    go_enter Try.func56, Try.ntmps56
    go_wp2_with fail
    go_returns
    exact ⟨ret_bool HZ.out.symm, by go_grown⟩
theorem laws_eqField_same (a : Fld) (w : World) : Calls Try.prog 111 #[a.v, a.v] w fun e w' => e = .returned (.bool true) ∧ Below w.heap.size w w' := by
  have h := laws_eqField a a w
  rw [Fld.eqb_iff.2 rfl] at h
  exact h
theorem laws_szField_ok (a : Fld) (left : Int) (w : World) (hv : a.ok maxLen) (h0 : 0 ≤ left) (h1 : left ≤ 1048576) (h : a.sz ≤ left) : Calls Try.prog 99 #[a.v, .int .i64 left] w fun e w' => e = .returned (.int .i64 (left - a.sz)) ∧ Below w.heap.size w w' := by
  have h2 := laws_szField a left w hv h0 h1
  rw [lefts_ge h] at h2
  exact h2
theorem laws_szField_no (a : Fld) (left : Int) (w : World) (hv : a.ok maxLen) (h0 : 0 ≤ left) (h1 : left ≤ 1048576) (h : ¬ a.sz ≤ left) : Calls Try.prog 99 #[a.v, .int .i64 left] w fun e w' => e = .returned (.int .i64 (-1)) ∧ Below w.heap.size w w' := by
  have h2 := laws_szField a left w hv h0 h1
  rw [lefts_lt h] at h2
  exact h2
theorem laws_eqFieldS_same (A B : Option Addr) (n c m d : Nat) (l : List Fld) (w : World) (hS : Sl 2 RFld w A n l) (hT : Sl 2 RFld w B m l) (hn : n ≤ 1073741824) (hm : m ≤ 1073741824) :
    Calls Try.prog 56 #[.slice A n c, .slice B m d] w fun e w' => e = .returned (.bool true) ∧ Below w.heap.size w w' := by
  have h := laws_eqFieldS A B n c m d l l w hS hT hn hm
  rw [(eqL_iff (fun a b => Fld.eqb_iff)).2 rfl] at h
  exact h
theorem laws_szFieldS_ok (A : Option Addr) (n c : Nat) (l : List Fld) (left : Int) (w : World) (hS : Sl 2 RFld w A n l) (hn : n ≤ maxLen) (hok : ∀ y ∈ l, y.ok maxLen) (h0 : 0 ≤ left) (h1 : left ≤ 1048576) (h : szS Fld.sz l ≤ left) :
    Calls Try.prog 46 #[.slice A n c, .int .i64 left] w fun e w' => e = .returned (.int .i64 (left - szS Fld.sz l)) ∧ Below w.heap.size w w' := by
  have h2 := laws_szFieldS A n c l left w hS hn hok h0 h1
  rw [lefts_ge h] at h2
  exact h2
theorem laws_szFieldS_no (A : Option Addr) (n c : Nat) (l : List Fld) (left : Int) (w : World) (hS : Sl 2 RFld w A n l) (hn : n ≤ maxLen) (hok : ∀ y ∈ l, y.ok maxLen) (h0 : 0 ≤ left) (h1 : left ≤ 1048576) (h : ¬ szS Fld.sz l ≤ left) :
    Calls Try.prog 46 #[.slice A n c, .int .i64 left] w fun e w' => e = .returned (.int .i64 (-1)) ∧ Below w.heap.size w w' := by
  have h2 := laws_szFieldS A n c l left w hS hn hok h0 h1
  rw [lefts_lt h] at h2
  exact h2
theorem laws_eqValue_same (a : Vl) (w : World) : Calls Try.prog 119 #[a.v, a.v] w fun e w' => e = .returned (.bool true) ∧ Below w.heap.size w w' := by
  have h := laws_eqValue a a w
  rw [Vl.eqb_iff.2 rfl] at h
  exact h
theorem laws_szValue_ok (a : Vl) (left : Int) (w : World) (hv : a.ok maxLen) (h0 : 0 ≤ left) (h1 : left ≤ 1048576) (h : a.sz ≤ left) : Calls Try.prog 112 #[a.v, .int .i64 left] w fun e w' => e = .returned (.int .i64 (left - a.sz)) ∧ Below w.heap.size w w' := by
  have h2 := laws_szValue a left w hv h0 h1
  rw [lefts_ge h] at h2
  exact h2
theorem laws_szValue_no (a : Vl) (left : Int) (w : World) (hv : a.ok maxLen) (h0 : 0 ≤ left) (h1 : left ≤ 1048576) (h : ¬ a.sz ≤ left) : Calls Try.prog 112 #[a.v, .int .i64 left] w fun e w' => e = .returned (.int .i64 (-1)) ∧ Below w.heap.size w w' := by
  have h2 := laws_szValue a left w hv h0 h1
  rw [lefts_lt h] at h2
  exact h2
end Go.Proofs.Ytkjhfblipmagoaa
