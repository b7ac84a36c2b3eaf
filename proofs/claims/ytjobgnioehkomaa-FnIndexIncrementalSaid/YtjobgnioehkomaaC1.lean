/-
  CONTRACTS, first part: functions of numbers and strings; values.
-/
import Derived.WalkKit
import Derived.WalkSpells
import Derived.WalkLawsBesides
import Derived.Lib.Hide
import Derived.Handy
import Derived.Test.YtjobgnioehkomaaLib
import Derived.Test.YtjobgnioehkomaaRows
namespace Go.Proofs.Ytjobgnioehkomaa
open Go.RowKit
set_option linter.unusedVariables false
set_option maxRecDepth 100000

def inB (n lo hi : Int) : Bool := decide (lo ≤ n) && decide (n ≤ hi)
theorem inB_true {n lo hi : Int} (h1 : lo ≤ n) (h2 : n ≤ hi) : inB n lo hi = true := by simp [inB, h1, h2]
theorem inB_false {n lo hi : Int} (h : n < lo ∨ hi < n) : inB n lo hi = false := by
  unfold inB; rcases h with h | h
  · rw [decide_eq_false (by omega)]; rfl
  · rw [decide_eq_false (p := n ≤ hi) (by omega)]; simp
theorem inB_iff {n lo hi : Int} : inB n lo hi = true ↔ lo ≤ n ∧ n ≤ hi := by simp [inB]
theorem impl_within (n lo hi : Int) (w : World) : Calls Try.prog 82 #[.int .i64 n, .int .i64 lo, .int .i64 hi] w fun e w' => e = .returned (.bool (inB n lo hi)) ∧ w = w' := by
  by_cases h1 : lo ≤ n
  · by_cases h2 : n ≤ hi
    · go_enter Try.func82, Try.ntmps82
      go_wp2
      go_ret
      exact ⟨ret_bool (inB_true h1 h2).symm, rfl⟩
    · have h3 : hi < n := by omega
      go_enter Try.func82, Try.ntmps82
      go_wp2
      go_ret
      exact ⟨ret_bool (inB_false (.inr h3)).symm, rfl⟩
  · have h3 : n < lo := by omega
    go_enter Try.func82, Try.ntmps82
    go_wp2
    go_ret
    exact ⟨ret_bool (inB_false (.inl h3)).symm, rfl⟩
theorem spec_l01In (n lo hi : Int) (w : World) : Calls Try.prog 72 #[.int .i64 n, .int .i64 lo, .int .i64 hi] w fun e w' => e = .returned (.bool (inB n lo hi)) ∧ w = w' := by
  by_cases h1 : lo ≤ n
  · by_cases h2 : n ≤ hi
    · go_enter Try.func72, Try.ntmps72
      go_wp2
      go_ret
      exact ⟨ret_bool (inB_true h1 h2).symm, rfl⟩
    · have h3 : hi < n := by omega
      go_enter Try.func72, Try.ntmps72
      go_wp2
      go_ret
      exact ⟨ret_bool (inB_false (.inr h3)).symm, rfl⟩
  · have h3 : n < lo := by omega
    go_enter Try.func72, Try.ntmps72
    go_wp2
    go_ret
    exact ⟨ret_bool (inB_false (.inl h3)).symm, rfl⟩

/-- lower-case letters alone -/
def low (s : ByteArray) : Prop := ∀ i (h : i < s.size), 97 ≤ (s[i].toNat : Int) ∧ (s[i].toNat : Int) ≤ 122
def lowTo (s : ByteArray) (k : Nat) : Prop := ∀ i (h : i < s.size), i < k → 97 ≤ (s[i].toNat : Int) ∧ (s[i].toNat : Int) ≤ 122
theorem lowTo_zero (s : ByteArray) : lowTo s 0 := fun i _ h => absurd h (by omega)
theorem lowTo_succ {s : ByteArray} {k : Nat} (h : lowTo s k) (hk : k < s.size) (h1 : 97 ≤ (s[k].toNat : Int)) (h2 : (s[k].toNat : Int) ≤ 122) : lowTo s (k + 1) := by
  intro i hi hik
  by_cases e : i = k
  · subst e; exact ⟨h1, h2⟩
  · exact h i hi (by omega)
theorem lowTo_all {s : ByteArray} (h : lowTo s s.size) : low s := fun i hi => h i hi hi
open Classical in
noncomputable def txt (s : ByteArray) (most : Int) : Bool := if low s then inB s.size 1 most else false
theorem txt_low {s : ByteArray} {m : Int} (h : low s) : inB s.size 1 m = txt s m := by unfold txt; rw [if_pos h]
theorem txt_not {s : ByteArray} {m : Int} {k : Nat} (hk : k < s.size) (h : (s[k].toNat : Int) < 97 ∨ 122 < (s[k].toNat : Int)) : false = txt s m := by
  unfold txt
  rw [if_neg]
  intro hl
  have := hl k hk
  omega
set_option maxHeartbeats 400000 in
theorem impl_IsValidString (s : ByteArray) (w : World) (hs : s.size ≤ 1073741824) : Calls Try.prog 155 #[.string s] w fun e w' => e = .returned (.bool (txt s 6)) ∧ w = w' := by
  go_enter Try.func155, Try.ntmps155
  go_wp2
  go_loop [6] (fun i => ∃ k : Nat, k ≤ s.size ∧ i = .int .i64 k ∧ lowTo s k) (fun i => s.size - (intOf i).toNat)
  case atStart => exact ⟨0, Nat.zero_le _, rfl, lowTo_zero s⟩
  case round =>
    obtain ⟨k, hk, rfl, hlow⟩ := hrel
    by_cases hlt : k < s.size
    · by_cases h1 : (s[k].toNat : Int) < 97 ∨ 122 < (s[k].toNat : Int)
      · have hz := txt_not (m := 6) hlt h1
        have HZ := Lib.hid hz
        clear hz
        rcases h1 with h1 | h1
        · go_wp2
          go_ret
          exact ⟨ret_bool HZ.out, rfl⟩
        · have h2 : 97 ≤ (s[k].toNat : Int) := by omega
          go_wp2
          go_ret
          exact ⟨ret_bool HZ.out, rfl⟩
      · have h2 : 97 ≤ (s[k].toNat : Int) := by omega
        have h3 : (s[k].toNat : Int) ≤ 122 := by omega
        have hs' := lowTo_succ hlow hlt h2 h3
        clear h1
        go_wp2
        go_round
        case rel => exact ⟨k + 1, by omega, by go_num, hs'⟩
        case measure => simp [intOf]; omega
    · have hz := txt_low (m := 6) (lowTo_all (show lowTo s s.size from by rw [show s.size = k from by omega]; exact hlow))
      have HZ := Lib.hid hz
      clear hz
      go_wp2_with (go_at_call 82; refine (impl_within _ _ _ _).mono ?_; rintro e w' ⟨rfl, rfl⟩)
      go_ret
      exact ⟨ret_bool HZ.out, rfl⟩
set_option maxHeartbeats 400000 in
theorem spec_l02Text (s : ByteArray) (m : Int) (w : World) (hs : s.size ≤ 1073741824) : Calls Try.prog 154 #[.string s, .int .i64 m] w fun e w' => e = .returned (.bool (txt s m)) ∧ w = w' := by
  go_enter Try.func154, Try.ntmps154
  go_wp2
  go_loop [5] (fun i => ∃ k : Nat, k ≤ s.size ∧ i = .int .i64 k ∧ lowTo s k) (fun i => s.size - (intOf i).toNat)
  case atStart => exact ⟨0, Nat.zero_le _, rfl, lowTo_zero s⟩
  case round =>
    obtain ⟨k, hk, rfl, hlow⟩ := hrel
    by_cases hlt : k < s.size
    · by_cases h1 : (s[k].toNat : Int) < 97 ∨ 122 < (s[k].toNat : Int)
      · have hz := txt_not (m := m) hlt h1
        have HZ := Lib.hid hz
        clear hz
        rcases h1 with h1 | h1
        · go_wp2
          go_ret
          exact ⟨ret_bool HZ.out, rfl⟩
        · have h2 : 97 ≤ (s[k].toNat : Int) := by omega
          go_wp2
          go_ret
          exact ⟨ret_bool HZ.out, rfl⟩
      · have h2 : 97 ≤ (s[k].toNat : Int) := by omega
        have h3 : (s[k].toNat : Int) ≤ 122 := by omega
        have hs' := lowTo_succ hlow hlt h2 h3
        clear h1
        go_wp2
        go_round
        case rel => exact ⟨k + 1, by omega, by go_num, hs'⟩
        case measure => simp [intOf]; omega
    · have hz := txt_low (m := m) (lowTo_all (show lowTo s s.size from by rw [show s.size = k from by omega]; exact hlow))
      have HZ := Lib.hid hz
      clear hz
      go_wp2_with (go_at_call 72; refine (spec_l01In _ _ _ _).mono ?_; rintro e w' ⟨rfl, rfl⟩)
      go_ret
      exact ⟨ret_bool HZ.out, rfl⟩
theorem spec_IsValidString (s : ByteArray) (w : World) (hs : s.size ≤ 1073741824) : Calls Try.prog 156 #[.string s] w fun e w' => e = .returned (.bool (txt s 6)) ∧ w = w' := by
  go_enter Try.func156, Try.ntmps156
  go_wp2_with (go_at_call 154; refine (spec_l02Text _ _ _ hs).mono ?_; rintro e w' ⟨rfl, rfl⟩)
  go_ret
  exact ⟨rfl, rfl⟩
theorem spec_IsValidAttrName (s : ByteArray) (w : World) (hs : s.size ≤ 1073741824) : Calls Try.prog 128 #[.string s] w fun e w' => e = .returned (.bool (txt s 1)) ∧ w = w' := by
  go_enter Try.func128, Try.ntmps128
  go_wp2_with (go_at_call 154; refine (spec_l02Text _ _ _ hs).mono ?_; rintro e w' ⟨rfl, rfl⟩)
  go_ret
  exact ⟨rfl, rfl⟩
theorem txt_one {s : ByteArray} (h1 : s.size = 1) (h2 : 97 ≤ (s[0].toNat : Int)) (h3 : (s[0].toNat : Int) ≤ 122) : true = txt s 1 := by
  unfold txt
  rw [if_pos, h1]; rfl
  intro i hi
  obtain rfl : i = 0 := by omega
  exact ⟨h2, h3⟩
theorem txt_len {s : ByteArray} (h1 : s.size ≠ 1) : false = txt s 1 := by
  unfold txt
  split
  · exact (inB_false (by omega)).symm
  · rfl
theorem impl_IsValidAttrName (s : ByteArray) (w : World) (hs : s.size ≤ 1073741824) : Calls Try.prog 134 #[.string s] w fun e w' => e = .returned (.bool (txt s 1)) ∧ w = w' := by
  by_cases h1 : s.size = 1
  · have h0 : 0 < s.size := by omega
    have g1 : ((s.size : Int) == 1) = true := by rw [h1]; rfl
    by_cases h2 : 97 ≤ (s[0].toNat : Int)
    · by_cases h3 : (s[0].toNat : Int) ≤ 122
      · have HZ := Lib.hid (txt_one h1 h2 h3)
        clear h1
        go_enter Try.func134, Try.ntmps134
        go_wp2
        go_ret
        exact ⟨ret_bool HZ.out, rfl⟩
      · have h4 : 122 < (s[0].toNat : Int) := by omega
        have HZ := Lib.hid (txt_not (m := 1) h0 (.inr h4))
        clear h1 h3
        go_enter Try.func134, Try.ntmps134
        go_wp2
        go_ret
        exact ⟨ret_bool (by rw [decide_eq_false (by omega)]; exact HZ.out), rfl⟩
    · have h4 : (s[0].toNat : Int) < 97 := by omega
      have HZ := Lib.hid (txt_not (m := 1) h0 (.inl h4))
      clear h1 h2
      go_enter Try.func134, Try.ntmps134
      go_wp2
      go_ret
      exact ⟨ret_bool HZ.out, rfl⟩
  · have g1 : ((s.size : Int) == 1) = false := by simp; omega
    have HZ := Lib.hid (txt_len h1)
    clear h1
    go_enter Try.func134, Try.ntmps134
    go_wp2
    go_ret
    exact ⟨ret_bool HZ.out, rfl⟩

abbrev Vl.v (v : Vl) : Value := .agg #[.int .i64 v.kind, .int .i64 v.int, .string v.str]
abbrev Fld.v (f : Fld) : Value := .agg #[.string f.name, .int .i64 f.kind]
abbrev Atr.v (a : Atr) : Value := .agg #[.string a.name, .int .i64 a.val.kind, .int .i64 a.val.int, .string a.val.str]
def intV (n : Int) : Vl := ⟨1, n, ByteArray.empty⟩
def strV (s : ByteArray) : Vl := ⟨2, 0, s⟩
theorem spec_IntValue (n : Int) (w : World) : Calls Try.prog 11 #[.int .i64 n] w fun e w' => e = .returned (intV n).v ∧ Below w.heap.size w w' := by
  go_enter Try.func11, Try.ntmps11
  go_wp2
  go_returns
  exact ⟨rfl, by go_grown⟩
theorem spec_StringValue (s : ByteArray) (w : World) : Calls Try.prog 129 #[.string s] w fun e w' => e = .returned (strV s).v ∧ Below w.heap.size w w' := by
  go_enter Try.func129, Try.ntmps129
  go_wp2
  go_returns
  exact ⟨rfl, by go_grown⟩
end Go.Proofs.Ytjobgnioehkomaa
