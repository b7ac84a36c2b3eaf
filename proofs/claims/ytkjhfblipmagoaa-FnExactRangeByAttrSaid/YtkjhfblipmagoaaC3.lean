/-
  CONTRACTS: schemas (layer 3): looking up the first element that fits.
-/
import Derived.WalkKit
import Derived.WalkSpells
import Derived.WalkLawsBesides
import Derived.Lib.Hide
import Derived.Handy
import Derived.StillTailTactics
import Derived.Deep.Light
import Derived.Deep.QuietTactic
import Derived.BigQuiet
import Derived.Test.YtkjhfblipmagoaaLib
import Derived.Test.YtkjhfblipmagoaaOwn
import Derived.Test.YtkjhfblipmagoaaC1
import Derived.Test.YtkjhfblipmagoaaC2
import Derived.Test.YtkjhfblipmagoaaT1
import Derived.Test.YtkjhfblipmagoaaRows
namespace Go.Proofs.Ytkjhfblipmagoaa
open Go.RowKit
set_option linter.unusedVariables false
set_option maxRecDepth 100000
/-- no element ahead of place k fits -/
def noneTo {α : Type} (p : α → Bool) (l : List α) (k : Nat) : Prop := ∀ i (h : i < l.length), i < k → p l[i] = false
theorem noneTo_zero {α : Type} (p : α → Bool) (l : List α) : noneTo p l 0 := fun i _ h => absurd h (by omega)
theorem noneTo_succ {α : Type} {p : α → Bool} {l : List α} {k : Nat} (h : noneTo p l k) (hk : ∀ h : k < l.length, p l[k] = false) : noneTo p l (k + 1) := by
  intro i hi hik
  by_cases e : i = k
  · subst e; exact hk hi
  · exact h i hi (by omega)
theorem find_at {α : Type} {p : α → Bool} : ∀ {l : List α} {k : Nat} (hk : k < l.length), noneTo p l k → p l[k] = true → l.find? p = some l[k]
  | a :: l, 0, _, _, h => by simp only [List.find?_cons]; rw [show p a = true from h]; rfl
  | a :: l, k + 1, hk, hn, h => by
    simp only [List.find?_cons]
    rw [show p a = false from hn 0 (by simp) (by omega)]
    exact find_at (by simpa using hk) (fun i hi hik => hn (i + 1) (by simpa using hi) (by omega)) h
theorem find_none {α : Type} {p : α → Bool} {l : List α} {k : Nat} (hk : l.length ≤ k) (h : noneTo p l k) : l.find? p = none := by
  rw [List.find?_eq_none]
  intro x hx
  obtain ⟨i, hi, rfl⟩ := List.getElem_of_mem hx
  rw [h i hi (by omega)]; simp
def fldKind (l : List Fld) (nm : ByteArray) : Int := ((l.find? fun f => eqS f.name nm).map (·.kind)).getD 0
theorem fldKind_at {l : List Fld} {nm : ByteArray} {k : Nat} (hk : k < l.length) (hn : noneTo (fun f : Fld => eqS f.name nm) l k) (h : eqS l[k].name nm = true) : fldKind l nm = l[k].kind := by
  unfold fldKind; rw [find_at hk hn h]; rfl
theorem fldKind_none {l : List Fld} {nm : ByteArray} {k : Nat} (hk : l.length ≤ k) (hn : noneTo (fun f : Fld => eqS f.name nm) l k) : fldKind l nm = 0 := by
  unfold fldKind; rw [find_none hk hn]; rfl
/-- what makes the element at place i of a schema a bad one -/
noncomputable def badAt (l : List Fld) : Nat → Bool
  | 0 => match l[0]? with
    | none => false
    | some f => !txt f.name 1 || (f.kind != 1 && f.kind != 2)
  | j + 1 => match l[j]?, l[j + 1]? with
    | some g, some f => !txt f.name 1 || (f.kind != 1 && f.kind != 2) || !Op.bytesLess g.name.toList f.name.toList
    | _, _ => false
open Classical in
noncomputable def okSchema (l : List Fld) : Bool := if ∀ i, i < l.length → badAt l i = false then decide (l.length ≤ 5) else false
def goodTo (l : List Fld) (k : Nat) : Prop := ∀ i, i < k → badAt l i = false
theorem goodTo_zero (l : List Fld) : goodTo l 0 := fun i h => absurd h (by omega)
theorem goodTo_succ {l : List Fld} {k : Nat} (h : goodTo l k) (hk : badAt l k = false) : goodTo l (k + 1) := fun i hi => by
  by_cases e : i = k
  · rw [e]; exact hk
  · exact h i (by omega)
theorem okSchema_bad {l : List Fld} {k : Nat} (hk : k < l.length) (h : badAt l k = true) : false = okSchema l := by
  unfold okSchema
  rw [if_neg]
  intro hall
  rw [hall k hk] at h; cases h
theorem okSchema_all {l : List Fld} (h : goodTo l l.length) : decide ((l.length : Int) ≤ 5) = okSchema l := by
  unfold okSchema
  rw [if_pos (show ∀ i, i < l.length → badAt l i = false from h)]
  congr 1; simp; omega
theorem badAt_zero {l : List Fld} (h : 0 < l.length) : badAt l 0 = (!txt l[0].name 1 || (l[0].kind != 1 && l[0].kind != 2)) := by
  simp [badAt, List.getElem?_eq_getElem h]
theorem badAt_pos {l : List Fld} {k : Nat} (h0 : 0 < k) (h : k < l.length) : badAt l k = (!txt l[k].name 1 || (l[k].kind != 1 && l[k].kind != 2) || !Op.bytesLess (l[k - 1]'(by omega)).name.toList l[k].name.toList) := by
  obtain ⟨j, rfl⟩ : ∃ j, k = j + 1 := ⟨k - 1, by omega⟩
  simp [badAt, List.getElem?_eq_getElem h, List.getElem?_eq_getElem (show j < l.length by omega)]
theorem badAt_succ {l : List Fld} {j : Nat} (h : j + 1 < l.length) : badAt l (j + 1) = (!txt l[j + 1].name 1 || (l[j + 1].kind != 1 && l[j + 1].kind != 2) || !Op.bytesLess l[j].name.toList l[j + 1].name.toList) := by
  simp [badAt, List.getElem?_eq_getElem h, List.getElem?_eq_getElem (show j < l.length by omega)]
end Go.Proofs.Ytkjhfblipmagoaa
