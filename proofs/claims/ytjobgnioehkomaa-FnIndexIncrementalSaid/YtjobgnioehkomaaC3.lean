/-
  CONTRACTS: schemas (layer 3): looking up the first element that fits.
-/
import Derived.WalkKit
import Derived.WalkSpells
import Derived.WalkLawsBesides
import Derived.Lib.Hide
import Derived.Handy
import Derived.StillTailTactics
import Derived.Deep.Light
import Derived.Deep.QuietTactic
import Derived.BigQuiet
import Derived.Test.YtjobgnioehkomaaLib
import Derived.Test.YtjobgnioehkomaaOwn
import Derived.Test.YtjobgnioehkomaaC1
import Derived.Test.YtjobgnioehkomaaC2
import Derived.Test.YtjobgnioehkomaaT1
import Derived.Test.YtjobgnioehkomaaRows
namespace Go.Proofs.Ytjobgnioehkomaa
open Go.RowKit
set_option linter.unusedVariables false
set_option maxRecDepth 100000
/-- no element ahead of place k fits -/
def noneTo {α : Type} (p : α → Bool) (l : List α) (k : Nat) : Prop := ∀ i (h : i < l.length), i < k → p l[i] = false
theorem noneTo_zero {α : Type} (p : α → Bool) (l : List α) : noneTo p l 0 := fun i _ h => absurd h (by omega)
theorem noneTo_succ {α : Type} {p : α → Bool} {l : List α} {k : Nat} (h : noneTo p l k) (hk : ∀ h : k < l.length, p l[k] = false) : noneTo p l (k + 1) := by
  intro i hi hik
  by_cases e : i = k
  · subst e; exact hk hi
  · exact h i hi (by omega)
theorem find_at {α : Type} {p : α → Bool} : ∀ {l : List α} {k : Nat} (hk : k < l.length), noneTo p l k → p l[k] = true → l.find? p = some l[k]
  | a :: l, 0, _, _, h => by simp only [List.find?_cons]; rw [show p a = true from h]; rfl
  | a :: l, k + 1, hk, hn, h => by
    simp only [List.find?_cons]
    rw [show p a = false from hn 0 (by simp) (by omega)]
    exact find_at (by simpa using hk) (fun i hi hik => hn (i + 1) (by simpa using hi) (by omega)) h
theorem find_none {α : Type} {p : α → Bool} {l : List α} {k : Nat} (hk : l.length ≤ k) (h : noneTo p l k) : l.find? p = none := by
  rw [List.find?_eq_none]
  intro x hx
  obtain ⟨i, hi, rfl⟩ := List.getElem_of_mem hx
  rw [h i hi (by omega)]; simp
def fldKind (l : List Fld) (nm : ByteArray) : Int := ((l.find? fun f => eqS f.name nm).map (·.kind)).getD 0
theorem fldKind_at {l : List Fld} {nm : ByteArray} {k : Nat} (hk : k < l.length) (hn : noneTo (fun f : Fld => eqS f.name nm) l k) (h : eqS l[k].name nm = true) : fldKind l nm = l[k].kind := by
  unfold fldKind; rw [find_at hk hn h]; rfl
theorem fldKind_none {l : List Fld} {nm : ByteArray} {k : Nat} (hk : l.length ≤ k) (hn : noneTo (fun f : Fld => eqS f.name nm) l k) : fldKind l nm = 0 := by
  unfold fldKind; rw [find_none hk hn]; rfl
set_option maxHeartbeats 400000 in
theorem impl_FieldKind (A : Option Addr) (n c : Nat) (l : List Fld) (nm : ByteArray) (w : World) (hS : Sl 2 RFld w A n l) (hn : n ≤ 1073741824) :
    Calls Try.prog 133 #[.slice A n c, .string nm] w fun e w' => e = .returned (.int .i64 (fldKind l nm)) ∧ Below w.heap.size w w' := by
  obtain rfl : l.length = n := hS.len
  go_enter Try.func133, Try.ntmps133
  go_wp2_with fail
  go_loopw [9] (fun i wr => ∃ k : Nat, k ≤ l.length ∧ i = .int .i64 k ∧ noneTo (fun f : Fld => eqS f.name nm) l k ∧ Below w.heap.size w wr) (fun i _ => l.length - (intOf i).toNat)
  case atStart => exact ⟨0, Nat.zero_le _, rfl, noneTo_zero _ _, Below.refl _ _⟩
  case round =>
    obtain ⟨k, hk, rfl, hN, hb⟩ := hrel
    by_cases hlt : k < l.length
    · obtain ⟨b, off, rfl, bw, bc⟩ := hS.fld (by omega)
      obtain ⟨q0, q1⟩ := bc k (by omega)
      rw [← hb.cell (p := ⟨b, _, none⟩) bw] at q0 q1
      clear bc
      cases hf : eqS l[k].name nm with
      | true =>
        have HZ := Lib.hid (fldKind_at hlt hN hf)
        unfold eqS at hf
        clear hN
        go_wp2_with fail
        go_returns
        exact ⟨ret_int HZ.out.symm, ex_alloc hb _⟩
      | false =>
        have hN' := noneTo_succ hN (fun _ => hf)
        unfold eqS at hf
        have HN := Lib.hid hN'
        clear hN hN'
        go_wp2_with fail
        go_roundw
        case rel => exact ⟨k + 1, by omega, by go_num, HN.out, ex_alloc hb _⟩
        case measure => simp [intOf]; omega
    · have HZ := Lib.hid (fldKind_none (by omega) hN)
      clear hN
      go_wp2_with fail
      go_returns
      exact ⟨ret_int HZ.out.symm, hb⟩
set_option maxHeartbeats 400000 in
theorem spec_FieldKind (A : Option Addr) (n c : Nat) (l : List Fld) (nm : ByteArray) (w : World) (hS : Sl 2 RFld w A n l) (hn : n ≤ 1073741824) :
    Calls Try.prog 136 #[.slice A n c, .string nm] w fun e w' => e = .returned (.int .i64 (fldKind l nm)) ∧ w = w' := by
  obtain rfl : l.length = n := hS.len
  go_enter Try.func136, Try.ntmps136
  go_wp2_with fail
  go_loop [5] (fun i => ∃ k : Nat, k ≤ l.length ∧ i = .int .i64 k ∧ noneTo (fun f : Fld => eqS f.name nm) l k) (fun i => l.length - (intOf i).toNat)
  case atStart => exact ⟨0, Nat.zero_le _, rfl, noneTo_zero _ _⟩
  case round =>
    obtain ⟨k, hk, rfl, hN⟩ := hrel
    by_cases hlt : k < l.length
    · obtain ⟨b, off, rfl, bw, bc⟩ := hS.fld (by omega)
      obtain ⟨q0, q1⟩ := bc k (by omega)
      clear bc
      cases hf : eqS l[k].name nm with
      | true =>
        have HZ := Lib.hid (fldKind_at hlt hN hf)
        unfold eqS at hf
        clear hN
        go_wp2_with fail
        go_returns
        exact ⟨ret_int HZ.out.symm, rfl⟩
      | false =>
        have hN' := noneTo_succ hN (fun _ => hf)
        unfold eqS at hf
        have HN := Lib.hid hN'
        clear hN hN'
        go_wp2_with fail
        go_round
        case rel => exact ⟨k + 1, by omega, by go_num, HN.out⟩
        case measure => simp [intOf]; omega
    · have HZ := Lib.hid (fldKind_none (by omega) hN)
      clear hN
      go_wp2_with fail
      go_returns
      exact ⟨ret_int HZ.out.symm, rfl⟩
/-- what makes the element at place i of a schema a bad one -/
noncomputable def badAt (l : List Fld) : Nat → Bool
  | 0 => match l[0]? with
    | none => false
    | some f => !txt f.name 1 || (f.kind != 1 && f.kind != 2)
  | j + 1 => match l[j]?, l[j + 1]? with
    | some g, some f => !txt f.name 1 || (f.kind != 1 && f.kind != 2) || !Op.bytesLess g.name.toList f.name.toList
    | _, _ => false
open Classical in
noncomputable def okSchema (l : List Fld) : Bool := if ∀ i, i < l.length → badAt l i = false then decide (l.length ≤ 5) else false
def goodTo (l : List Fld) (k : Nat) : Prop := ∀ i, i < k → badAt l i = false
theorem goodTo_zero (l : List Fld) : goodTo l 0 := fun i h => absurd h (by omega)
theorem goodTo_succ {l : List Fld} {k : Nat} (h : goodTo l k) (hk : badAt l k = false) : goodTo l (k + 1) := fun i hi => by
  by_cases e : i = k
  · rw [e]; exact hk
  · exact h i (by omega)
theorem okSchema_bad {l : List Fld} {k : Nat} (hk : k < l.length) (h : badAt l k = true) : false = okSchema l := by
  unfold okSchema
  rw [if_neg]
  intro hall
  rw [hall k hk] at h; cases h
theorem okSchema_all {l : List Fld} (h : goodTo l l.length) : decide ((l.length : Int) ≤ 5) = okSchema l := by
  unfold okSchema
  rw [if_pos (show ∀ i, i < l.length → badAt l i = false from h)]
  congr 1; simp; omega
theorem badAt_zero {l : List Fld} (h : 0 < l.length) : badAt l 0 = (!txt l[0].name 1 || (l[0].kind != 1 && l[0].kind != 2)) := by
  simp [badAt, List.getElem?_eq_getElem h]
theorem badAt_pos {l : List Fld} {k : Nat} (h0 : 0 < k) (h : k < l.length) : badAt l k = (!txt l[k].name 1 || (l[k].kind != 1 && l[k].kind != 2) || !Op.bytesLess (l[k - 1]'(by omega)).name.toList l[k].name.toList) := by
  obtain ⟨j, rfl⟩ : ∃ j, k = j + 1 := ⟨k - 1, by omega⟩
  simp [badAt, List.getElem?_eq_getElem h, List.getElem?_eq_getElem (show j < l.length by omega)]
theorem badAt_succ {l : List Fld} {j : Nat} (h : j + 1 < l.length) : badAt l (j + 1) = (!txt l[j + 1].name 1 || (l[j + 1].kind != 1 && l[j + 1].kind != 2) || !Op.bytesLess l[j].name.toList l[j + 1].name.toList) := by
  simp [badAt, List.getElem?_eq_getElem h, List.getElem?_eq_getElem (show j < l.length by omega)]
set_option maxHeartbeats 1000000 in
theorem impl_IsValidSchema (A : Option Addr) (n c : Nat) (l : List Fld) (w : World) (hS : Sl 2 RFld w A n l) (hn : n ≤ 1073741824) (hok : ∀ y ∈ l, y.ok 1073741824) :
    Calls Try.prog 83 #[.slice A n c] w fun e w' => e = .returned (.bool (okSchema l)) ∧ Below w.heap.size w w' := by
  obtain rfl : l.length = n := hS.len
  go_enter Try.func83, Try.ntmps83
  go_wp2_with fail
  go_loopw [7] (fun i wr => ∃ k : Nat, k ≤ l.length ∧ i = .int .i64 k ∧ goodTo l k ∧ Below w.heap.size w wr) (fun i _ => l.length - (intOf i).toNat)
  case atStart => exact ⟨0, Nat.zero_le _, rfl, goodTo_zero _, Below.refl _ _⟩
  case round =>
    obtain ⟨k, hk, rfl, hG, hb⟩ := hrel
    by_cases hlt : k < l.length
    · obtain ⟨b, off, rfl, bw, bc⟩ := hS.fld (by omega)
      have hokk : l[k].name.size ≤ 1073741824 := hok l[k] (List.getElem_mem _)
      clear hok
      obtain ⟨q0, q1⟩ := bc k (by omega)
      rw [← hb.cell (p := ⟨b, _, none⟩) bw] at q0 q1
      have C := fun w => impl_IsValidAttrName l[k].name w hokk
      cases ht : txt l[k].name 1 with
      | false =>
        have hbad : badAt l k = true := by cases k with
          | zero => rw [badAt_zero hlt, ht]; rfl
          | succ j => rw [badAt_succ hlt, ht]; rfl
        have HZ := Lib.hid (okSchema_bad hlt hbad)
        rw [ht] at C
        have HC := Lib.hid C
        clear C bc hG hbad ht
        go_wp2_with fail
        go_quiet ((go_at_call 134; exact Calls.quiet_of_same (still_of (HC.out _))))
        go_wp2_with fail
        go_returns
        exact ⟨ret_bool HZ.out, ex_drewN (ex_alloc hb _) _⟩
      | true =>
        rw [ht] at C
        have HC := Lib.hid C
        clear C
        by_cases hk12 : l[k].kind = 1 ∨ l[k].kind = 2
        · have hkk : (l[k].kind != 1 && l[k].kind != 2) = false := by rcases hk12 with e | e <;> rw [e] <;> rfl
          by_cases h0 : 0 < k
          · obtain ⟨p0, p1⟩ := bc (k - 1) (by omega)
            rw [← hb.cell (p := ⟨b, _, none⟩) bw] at p0 p1
            have bwr : b < wr.heap.size := Nat.lt_of_lt_of_le bw hb.size
            have h0' : (0 : Int) < (k : Int) := by omega
            have s1 : IntKind.i64.wrap ((k : Int) - 1) = (k : Int) - 1 := IntWalk.i64_in _ (by omega)
            have s2 : 0 ≤ (k : Int) - 1 := by omega
            have s2' : 1 ≤ (k : Int) := by omega
            have s3 : ((k : Int) - 1).toNat = k - 1 := by omega
            have s4 : (k : Int) - 1 < (l.length : Int) := by omega
            cases hless : Op.bytesLess (l[k - 1]'(by omega)).name.toList l[k].name.toList with
            | true =>
              have HG := Lib.hid (goodTo_succ hG (by rw [badAt_pos h0 hlt, ht, hkk, hless]; rfl))
              clear hG ht hkk bc
              rcases hk12 with e | e
              · have g1 : (l[k].kind != 1) = false := by rw [e]; rfl
                clear e
                go_wp2_with fail
                go_quiet ((go_at_call 134; exact Calls.quiet_of_same (still_of (HC.out _))))
                go_wp2_with fail
                go_roundw
                case rel => exact ⟨k + 1, by omega, by go_num, HG.out, ex_drewN (ex_alloc hb _) _⟩
                case measure => simp [intOf]; omega
              · have g1 : (l[k].kind != 1) = true := by rw [e]; rfl
                have g2 : (l[k].kind != 2) = false := by rw [e]; rfl
                clear e
                go_wp2_with fail
                go_quiet ((go_at_call 134; exact Calls.quiet_of_same (still_of (HC.out _))))
                go_wp2_with fail
                go_roundw
                case rel => exact ⟨k + 1, by omega, by go_num, HG.out, ex_drewN (ex_alloc hb _) _⟩
                case measure => simp [intOf]; omega
            | false =>
              have HZ := Lib.hid (okSchema_bad hlt (by rw [badAt_pos h0 hlt, ht, hkk, hless]; rfl))
              clear hG ht hkk bc
              rcases hk12 with e | e
              · have g1 : (l[k].kind != 1) = false := by rw [e]; rfl
                clear e
                go_wp2_with fail
                go_quiet ((go_at_call 134; exact Calls.quiet_of_same (still_of (HC.out _))))
                go_wp2_with fail
                go_returns
                exact ⟨ret_bool HZ.out, ex_drewN (ex_alloc hb _) _⟩
              · have g1 : (l[k].kind != 1) = true := by rw [e]; rfl
                have g2 : (l[k].kind != 2) = false := by rw [e]; rfl
                clear e
                go_wp2_with fail
                go_quiet ((go_at_call 134; exact Calls.quiet_of_same (still_of (HC.out _))))
                go_wp2_with fail
                go_returns
                exact ⟨ret_bool HZ.out, ex_drewN (ex_alloc hb _) _⟩
          · obtain rfl : k = 0 := by omega
            simp only [Nat.zero_mul, Nat.add_zero] at q0 q1
            have HG := Lib.hid (goodTo_succ hG (by rw [badAt_zero hlt, ht, hkk]; rfl))
            clear hG ht hkk bc
            rcases hk12 with e | e
            · have g1 : (l[0].kind != 1) = false := by rw [e]; rfl
              clear e
              go_wp2_with fail
              go_quiet ((go_at_call 134; exact Calls.quiet_of_same (still_of (HC.out _))))
              go_wp2_with fail
              go_roundw
              case rel => exact ⟨0 + 1, by omega, by go_num, HG.out, ex_drewN (ex_alloc hb _) _⟩
              case measure => simp [intOf]; omega
            · have g1 : (l[0].kind != 1) = true := by rw [e]; rfl
              have g2 : (l[0].kind != 2) = false := by rw [e]; rfl
              clear e
              go_wp2_with fail
              go_quiet ((go_at_call 134; exact Calls.quiet_of_same (still_of (HC.out _))))
              go_wp2_with fail
              go_roundw
              case rel => exact ⟨0 + 1, by omega, by go_num, HG.out, ex_drewN (ex_alloc hb _) _⟩
              case measure => simp [intOf]; omega
        · have g1 : (l[k].kind != 1) = true := by simp; omega
          have g2 : (l[k].kind != 2) = true := by simp; omega
          have hbad : badAt l k = true := by cases k with
            | zero => rw [badAt_zero hlt, ht, g1, g2]; rfl
            | succ j => rw [badAt_succ hlt, ht, g1, g2]; rfl
          have HZ := Lib.hid (okSchema_bad hlt hbad)
          clear hG hbad ht bc hk12
          go_wp2_with fail
          go_quiet ((go_at_call 134; exact Calls.quiet_of_same (still_of (HC.out _))))
          go_wp2_with fail
          go_returns
          exact ⟨ret_bool HZ.out, ex_drewN (ex_alloc hb _) _⟩
    · have HZ := Lib.hid (okSchema_all (show goodTo l l.length from by rw [show l.length = k from by omega]; exact hG))
      clear hG
      go_wp2_with fail
      go_returns
      exact ⟨ret_bool HZ.out, hb⟩
set_option maxHeartbeats 1000000 in
theorem spec_IsValidSchema (A : Option Addr) (n c : Nat) (l : List Fld) (w : World) (hS : Sl 2 RFld w A n l) (hn : n ≤ 1073741824) (hok : ∀ y ∈ l, y.ok 1073741824) :
    Calls Try.prog 71 #[.slice A n c] w fun e w' => e = .returned (.bool (okSchema l)) ∧ Below w.heap.size w w' := by
  obtain rfl : l.length = n := hS.len
  go_enter Try.func71, Try.ntmps71
  go_wp2_with fail
  go_loopw [3] (fun i wr => ∃ k : Nat, k ≤ l.length ∧ i = .int .i64 k ∧ goodTo l k ∧ Below w.heap.size w wr) (fun i _ => l.length - (intOf i).toNat)
  case atStart => exact ⟨0, Nat.zero_le _, rfl, goodTo_zero _, Below.refl _ _⟩
  case round =>
    obtain ⟨k, hk, rfl, hG, hb⟩ := hrel
    by_cases hlt : k < l.length
    · obtain ⟨b, off, rfl, bw, bc⟩ := hS.fld (by omega)
      have hokk : l[k].name.size ≤ 1073741824 := hok l[k] (List.getElem_mem _)
      clear hok
      obtain ⟨q0, q1⟩ := bc k (by omega)
      rw [← hb.cell (p := ⟨b, _, none⟩) bw] at q0 q1
      have C := fun w => spec_IsValidAttrName l[k].name w hokk
      cases ht : txt l[k].name 1 with
      | false =>
        have hbad : badAt l k = true := by cases k with
          | zero => rw [badAt_zero hlt, ht]; rfl
          | succ j => rw [badAt_succ hlt, ht]; rfl
        have HZ := Lib.hid (okSchema_bad hlt hbad)
        rw [ht] at C
        have HC := Lib.hid C
        clear C bc hG hbad ht
        go_wp2_with fail
        go_quiet ((first | (go_at_call 128; exact Calls.quiet_of_same (still_of (HC.out _))) | (go_at_call 72; exact Calls.quiet_of_same (still_of (HI.out _)))))
        go_wp2_with fail
        go_returns
        exact ⟨ret_bool HZ.out, ex_drewN hb _⟩
      | true =>
        rw [ht] at C
        have HC := Lib.hid C
        clear C
        by_cases hk12 : l[k].kind = 1 ∨ l[k].kind = 2
        · have hkk : (l[k].kind != 1 && l[k].kind != 2) = false := by rcases hk12 with e | e <;> rw [e] <;> rfl
          by_cases h0 : 0 < k
          · obtain ⟨p0, p1⟩ := bc (k - 1) (by omega)
            rw [← hb.cell (p := ⟨b, _, none⟩) bw] at p0 p1
            have bwr : b < wr.heap.size := Nat.lt_of_lt_of_le bw hb.size
            have h0' : (0 : Int) < (k : Int) := by omega
            have s1 : IntKind.i64.wrap ((k : Int) - 1) = (k : Int) - 1 := IntWalk.i64_in _ (by omega)
            have s2 : 0 ≤ (k : Int) - 1 := by omega
            have s2' : 1 ≤ (k : Int) := by omega
            have s3 : ((k : Int) - 1).toNat = k - 1 := by omega
            have s4 : (k : Int) - 1 < (l.length : Int) := by omega
            cases hless : Op.bytesLess (l[k - 1]'(by omega)).name.toList l[k].name.toList with
            | true =>
              have HG := Lib.hid (goodTo_succ hG (by rw [badAt_pos h0 hlt, ht, hkk, hless]; rfl))
              clear hG ht hkk bc
              have I := fun w => spec_l01In l[k].kind 1 2 w
              rw [inB_true (show (1 : Int) ≤ l[k].kind by omega) (show l[k].kind ≤ (2 : Int) by omega)] at I
              have HI := Lib.hid I
              clear I hk12
              go_wp2_with fail
              go_quiet ((first | (go_at_call 128; exact Calls.quiet_of_same (still_of (HC.out _))) | (go_at_call 72; exact Calls.quiet_of_same (still_of (HI.out _)))))
              go_wp2_with fail
              go_roundw
              case rel => exact ⟨k + 1, by omega, by go_num, HG.out, ex_drewN hb _⟩
              case measure => simp [intOf]; omega
            | false =>
              have HZ := Lib.hid (okSchema_bad hlt (by rw [badAt_pos h0 hlt, ht, hkk, hless]; rfl))
              clear hG ht hkk bc
              have I := fun w => spec_l01In l[k].kind 1 2 w
              rw [inB_true (show (1 : Int) ≤ l[k].kind by omega) (show l[k].kind ≤ (2 : Int) by omega)] at I
              have HI := Lib.hid I
              clear I hk12
              go_wp2_with fail
              go_quiet ((first | (go_at_call 128; exact Calls.quiet_of_same (still_of (HC.out _))) | (go_at_call 72; exact Calls.quiet_of_same (still_of (HI.out _)))))
              go_wp2_with fail
              go_returns
              exact ⟨ret_bool HZ.out, ex_drewN hb _⟩
          · obtain rfl : k = 0 := by omega
            simp only [Nat.zero_mul, Nat.add_zero] at q0 q1
            have HG := Lib.hid (goodTo_succ hG (by rw [badAt_zero hlt, ht, hkk]; rfl))
            clear hG ht hkk bc
            have I := fun w => spec_l01In l[0].kind 1 2 w
            rw [inB_true (show (1 : Int) ≤ l[0].kind by omega) (show l[0].kind ≤ (2 : Int) by omega)] at I
            have HI := Lib.hid I
            clear I hk12
            go_wp2_with fail
            go_quiet ((first | (go_at_call 128; exact Calls.quiet_of_same (still_of (HC.out _))) | (go_at_call 72; exact Calls.quiet_of_same (still_of (HI.out _)))))
            go_wp2_with fail
            go_roundw
            case rel => exact ⟨0 + 1, by omega, by go_num, HG.out, ex_drewN hb _⟩
            case measure => simp [intOf]; omega
        · have g1 : (l[k].kind != 1) = true := by simp; omega
          have g2 : (l[k].kind != 2) = true := by simp; omega
          have hbad : badAt l k = true := by cases k with
            | zero => rw [badAt_zero hlt, ht, g1, g2]; rfl
            | succ j => rw [badAt_succ hlt, ht, g1, g2]; rfl
          have HZ := Lib.hid (okSchema_bad hlt hbad)
          have I := fun w => spec_l01In l[k].kind 1 2 w
          rw [inB_false (show l[k].kind < 1 ∨ 2 < l[k].kind by omega)] at I
          have HI := Lib.hid I
          clear hG hbad ht bc hk12 I
          go_wp2_with fail
          go_quiet ((first | (go_at_call 128; exact Calls.quiet_of_same (still_of (HC.out _))) | (go_at_call 72; exact Calls.quiet_of_same (still_of (HI.out _)))))
          go_wp2_with fail
          go_returns
          exact ⟨ret_bool HZ.out, ex_drewN hb _⟩
    · have HZ := Lib.hid (okSchema_all (show goodTo l l.length from by rw [show l.length = k from by omega]; exact hG))
      clear hG
      go_wp2_with fail
      go_returns
      exact ⟨ret_bool HZ.out, hb⟩
end Go.Proofs.Ytjobgnioehkomaa
