/-
  CONTRACTS: the statements' own conversions (toX), sizes (szX) and comparisons (eqX), at fields and slices of fields.
-/
import Derived.WalkKit
import Derived.WalkSpells
import Derived.WalkLawsBesides
import Derived.Lib.Hide
import Derived.Handy
import Derived.StillTailTactics
import Derived.Deep.Light
import Derived.Test.YtjobgnioehkomaaLib
import Derived.Test.YtjobgnioehkomaaOwn
import Derived.Test.YtjobgnioehkomaaC1
import Derived.Test.YtjobgnioehkomaaC2
import Derived.Test.YtjobgnioehkomaaRows
namespace Go.Proofs.Ytjobgnioehkomaa
open Go.RowKit
set_option linter.unusedVariables false
set_option maxRecDepth 100000
def sumTo {α : Type} (f : α → Int) (l : List α) (k : Nat) : Int := ((l.take k).map f).sum
theorem sumTo_zero {α : Type} (f : α → Int) (l : List α) : sumTo f l 0 = 0 := by simp [sumTo]
theorem sumTo_succ {α : Type} (f : α → Int) {l : List α} {k : Nat} (h : k < l.length) : sumTo f l (k + 1) = sumTo f l k + f l[k] := by
  unfold sumTo
  rw [List.take_succ_eq_append_getElem h, List.map_append, List.sum_append_int]
  simp
theorem sumTo_mono {α : Type} {f : α → Int} {l : List α} (h0 : ∀ x, 0 ≤ f x) : ∀ (d k : Nat), k + d ≤ l.length → sumTo f l k ≤ sumTo f l (k + d)
  | 0, _, _ => Int.le_refl _
  | d + 1, k, h => by
    have h1 := sumTo_mono (l := l) h0 d k (by omega)
    have h2 := sumTo_succ f (l := l) (k := k + d) (by omega)
    have h3 := h0 (l[k + d]'(by omega))
    rw [← Nat.add_assoc]; omega
def szS {α : Type} (f : α → Int) (l : List α) : Int := l.length + sumTo f l l.length
theorem szS_more {α : Type} {f : α → Int} {l : List α} {k : Nat} {left : Int} (h0 : ∀ x, 0 ≤ f x) (hk : k < l.length) (h : left - l.length - sumTo f l k < f l[k]) : -1 = lefts (szS f l) left := by
  have h1 := sumTo_succ f hk
  have h2 := sumTo_mono (l := l) h0 (l.length - (k + 1)) (k + 1) (by omega)
  rw [show k + 1 + (l.length - (k + 1)) = l.length from by omega] at h2
  rw [lefts_lt (by unfold szS; omega)]
theorem szS_len {α : Type} {f : α → Int} {l : List α} {left : Int} (h0 : ∀ x, 0 ≤ f x) (h : left < l.length) : -1 = lefts (szS f l) left := by
  have h2 := sumTo_mono (l := l) h0 l.length 0 (by omega)
  rw [sumTo_zero, Nat.zero_add] at h2
  rw [lefts_lt (by unfold szS; omega)]
theorem szS_all {α : Type} {f : α → Int} {l : List α} {k : Nat} {left r : Int} (hk : k = l.length) (hr : r = left - l.length - sumTo f l k) (h : 0 ≤ r) : r = lefts (szS f l) left := by
  subst hk
  rw [lefts_ge (by unfold szS; omega)]
  unfold szS; omega
/-- two lists agree, by the elements' own comparison -/
def eqL {α : Type} (f : α → α → Bool) : List α → List α → Bool
  | [], [] => true
  | a :: l, b :: m => f a b && eqL f l m
  | _, _ => false
theorem eqL_len {α : Type} {f : α → α → Bool} : ∀ {l m : List α}, l.length ≠ m.length → eqL f l m = false
  | [], [], h => absurd rfl h
  | [], _ :: _, _ => rfl
  | _ :: _, [], _ => rfl
  | a :: l, b :: m, h => by simp only [eqL]; rw [eqL_len (by simpa using h)]; simp
theorem eqL_false {α : Type} {f : α → α → Bool} : ∀ {l m : List α} {k : Nat} (h1 : k < l.length) (h2 : k < m.length), f l[k] m[k] = false → eqL f l m = false
  | a :: l, b :: m, 0, _, _, h => by simp only [eqL]; rw [show f a b = false from h]; rfl
  | a :: l, b :: m, k + 1, h1, h2, h => by simp only [eqL]; rw [eqL_false (k := k) (by simpa using h1) (by simpa using h2) (by simpa using h)]; simp
theorem eqL_true {α : Type} {f : α → α → Bool} : ∀ {l m : List α}, l.length = m.length → (∀ k (h1 : k < l.length) (h2 : k < m.length), f l[k] m[k] = true) → eqL f l m = true
  | [], [], _, _ => rfl
  | a :: l, b :: m, h, hk => by
    simp only [eqL]
    rw [show f a b = true from hk 0 (by simp) (by simp), eqL_true (by simpa using h) (fun k h1 h2 => hk (k + 1) (by simpa using h1) (by simpa using h2))]
    rfl
theorem eqL_iff {α : Type} {f : α → α → Bool} (hf : ∀ a b, f a b = true ↔ a = b) : ∀ {l m : List α}, eqL f l m = true ↔ l = m
  | [], [] => by simp [eqL]
  | [], _ :: _ => by simp [eqL]
  | _ :: _, [] => by simp [eqL]
  | a :: l, b :: m => by simp only [eqL, Bool.and_eq_true, hf, eqL_iff hf, List.cons.injEq]
/-- as far as k -/
def eqTo {α : Type} (f : α → α → Bool) (l m : List α) (k : Nat) : Prop := ∀ i (h1 : i < l.length) (h2 : i < m.length), i < k → f l[i] m[i] = true
theorem eqTo_zero {α : Type} (f : α → α → Bool) (l m : List α) : eqTo f l m 0 := fun i _ _ h => absurd h (by omega)
theorem eqTo_succ {α : Type} {f : α → α → Bool} {l m : List α} {k : Nat} (h : eqTo f l m k) (hf : ∀ (h1 : k < l.length) (h2 : k < m.length), f l[k] m[k] = true) : eqTo f l m (k + 1) := by
  intro i h1 h2 hk
  by_cases e : i = k
  · subst e; exact hf h1 h2
  · exact h i h1 h2 (by omega)
theorem Fld.sz_nn (f : Fld) : 0 ≤ f.sz := by unfold Fld.sz; omega
theorem info_Field : (Try.prog.info? 138).map (fun i => (i.zero, i.size, i.bytes)) = some (some (.agg #[.string ByteArray.empty, .int .i64 0]), 2, 24) := by kernel_rfl
end Go.Proofs.Ytjobgnioehkomaa
