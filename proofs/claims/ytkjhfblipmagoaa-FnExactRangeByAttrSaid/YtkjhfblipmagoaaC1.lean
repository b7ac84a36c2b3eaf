/-
  CONTRACTS, first part: functions of numbers and strings; values.
-/
import Derived.WalkKit
import Derived.WalkSpells
import Derived.WalkLawsBesides
import Derived.Lib.Hide
import Derived.Handy
import Derived.Test.YtkjhfblipmagoaaLib
import Derived.Test.YtkjhfblipmagoaaRows
namespace Go.Proofs.Ytkjhfblipmagoaa
open Go.RowKit
set_option linter.unusedVariables false
set_option maxRecDepth 100000

def inB (n lo hi : Int) : Bool := decide (lo ≤ n) && decide (n ≤ hi)
theorem inB_true {n lo hi : Int} (h1 : lo ≤ n) (h2 : n ≤ hi) : inB n lo hi = true := by simp [inB, h1, h2]
theorem inB_false {n lo hi : Int} (h : n < lo ∨ hi < n) : inB n lo hi = false := by
  unfold inB; rcases h with h | h
  · rw [decide_eq_false (by omega)]; rfl
  · rw [decide_eq_false (p := n ≤ hi) (by omega)]; simp
theorem inB_iff {n lo hi : Int} : inB n lo hi = true ↔ lo ≤ n ∧ n ≤ hi := by simp [inB]
theorem impl_within (n lo hi : Int) (w : World) : Calls Try.prog 98 #[.int .i64 n, .int .i64 lo, .int .i64 hi] w fun e w' => e = .returned (.bool (inB n lo hi)) ∧ w = w' := by
  by_cases h1 : lo ≤ n
  · by_cases h2 : n ≤ hi
    · go_enter Try.func98, Try.ntmps98
      go_wp2
      go_ret
      exact ⟨ret_bool (inB_true h1 h2).symm, rfl⟩
    · have h3 : hi < n := by omega
      go_enter Try.func98, Try.ntmps98
      go_wp2
      go_ret
      exact ⟨ret_bool (inB_false (.inr h3)).symm, rfl⟩
  · have h3 : n < lo := by omega
    go_enter Try.func98, Try.ntmps98
    go_wp2
    go_ret
    exact ⟨ret_bool (inB_false (.inl h3)).symm, rfl⟩
theorem spec_l01In (n lo hi : Int) (w : World) : Calls Try.prog 95 #[.int .i64 n, .int .i64 lo, .int .i64 hi] w fun e w' => e = .returned (.bool (inB n lo hi)) ∧ w = w' := by
  by_cases h1 : lo ≤ n
  · by_cases h2 : n ≤ hi
    · go_enter Try.func95, Try.ntmps95
      go_wp2
      go_ret
      exact ⟨ret_bool (inB_true h1 h2).symm, rfl⟩
    · have h3 : hi < n := by omega
      go_enter Try.func95, Try.ntmps95
      go_wp2
      go_ret
      exact ⟨ret_bool (inB_false (.inr h3)).symm, rfl⟩
  · have h3 : n < lo := by omega
    go_enter Try.func95, Try.ntmps95
    go_wp2
    go_ret
    exact ⟨ret_bool (inB_false (.inl h3)).symm, rfl⟩

/-- lower-case letters alone -/
def low (s : ByteArray) : Prop := ∀ i (h : i < s.size), 97 ≤ (s[i].toNat : Int) ∧ (s[i].toNat : Int) ≤ 122
def lowTo (s : ByteArray) (k : Nat) : Prop := ∀ i (h : i < s.size), i < k → 97 ≤ (s[i].toNat : Int) ∧ (s[i].toNat : Int) ≤ 122
theorem lowTo_zero (s : ByteArray) : lowTo s 0 := fun i _ h => absurd h (by omega)
theorem lowTo_succ {s : ByteArray} {k : Nat} (h : lowTo s k) (hk : k < s.size) (h1 : 97 ≤ (s[k].toNat : Int)) (h2 : (s[k].toNat : Int) ≤ 122) : lowTo s (k + 1) := by
  intro i hi hik
  by_cases e : i = k
  · subst e; exact ⟨h1, h2⟩
  · exact h i hi (by omega)
theorem lowTo_all {s : ByteArray} (h : lowTo s s.size) : low s := fun i hi => h i hi hi
open Classical in
noncomputable def txt (s : ByteArray) (most : Int) : Bool := if low s then inB s.size 1 most else false
theorem txt_low {s : ByteArray} {m : Int} (h : low s) : inB s.size 1 m = txt s m := by unfold txt; rw [if_pos h]
theorem txt_not {s : ByteArray} {m : Int} {k : Nat} (hk : k < s.size) (h : (s[k].toNat : Int) < 97 ∨ 122 < (s[k].toNat : Int)) : false = txt s m := by
  unfold txt
  rw [if_neg]
  intro hl
  have := hl k hk
  omega
abbrev Vl.v (v : Vl) : Value := .agg #[.int .i64 v.kind, .int .i64 v.int, .string v.str]
abbrev Fld.v (f : Fld) : Value := .agg #[.string f.name, .int .i64 f.kind]
abbrev Atr.v (a : Atr) : Value := .agg #[.string a.name, .int .i64 a.val.kind, .int .i64 a.val.int, .string a.val.str]
def intV (n : Int) : Vl := ⟨1, n, ByteArray.empty⟩
def strV (s : ByteArray) : Vl := ⟨2, 0, s⟩
end Go.Proofs.Ytkjhfblipmagoaa
