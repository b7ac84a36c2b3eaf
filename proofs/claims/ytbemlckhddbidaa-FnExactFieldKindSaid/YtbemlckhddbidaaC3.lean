/-
  CONTRACTS: schemas (layer 3): looking up the first element that fits.
-/
import Derived.WalkKit
import Derived.WalkSpells
import Derived.WalkLawsBesides
import Derived.Lib.Hide
import Derived.Handy
import Derived.StillTailTactics
import Derived.Deep.Light
import Derived.Test.YtbemlckhddbidaaLib
import Derived.Test.YtbemlckhddbidaaOwn
import Derived.Test.YtbemlckhddbidaaC1
import Derived.Test.YtbemlckhddbidaaC2
import Derived.Test.YtbemlckhddbidaaT1
import Derived.Test.YtbemlckhddbidaaRows
namespace Go.Proofs.Ytbemlckhddbidaa
open Go.RowKit
set_option linter.unusedVariables false
/-- no element ahead of place k fits -/
def noneTo {α : Type} (p : α → Bool) (l : List α) (k : Nat) : Prop := ∀ i (h : i < l.length), i < k → p l[i] = false
theorem noneTo_zero {α : Type} (p : α → Bool) (l : List α) : noneTo p l 0 := fun i _ h => absurd h (by omega)
theorem noneTo_succ {α : Type} {p : α → Bool} {l : List α} {k : Nat} (h : noneTo p l k) (hk : ∀ h : k < l.length, p l[k] = false) : noneTo p l (k + 1) := by
  intro i hi hik
  by_cases e : i = k
  · subst e; exact hk hi
  · exact h i hi (by omega)
theorem find_at {α : Type} {p : α → Bool} : ∀ {l : List α} {k : Nat} (hk : k < l.length), noneTo p l k → p l[k] = true → l.find? p = some l[k]
  | a :: l, 0, _, _, h => by simp only [List.find?_cons]; rw [show p a = true from h]; rfl
  | a :: l, k + 1, hk, hn, h => by
    simp only [List.find?_cons]
    rw [show p a = false from hn 0 (by simp) (by omega)]
    exact find_at (by simpa using hk) (fun i hi hik => hn (i + 1) (by simpa using hi) (by omega)) h
theorem find_none {α : Type} {p : α → Bool} {l : List α} {k : Nat} (hk : l.length ≤ k) (h : noneTo p l k) : l.find? p = none := by
  rw [List.find?_eq_none]
  intro x hx
  obtain ⟨i, hi, rfl⟩ := List.getElem_of_mem hx
  rw [h i hi (by omega)]; simp
def fldKind (l : List Fld) (nm : ByteArray) : Int := ((l.find? fun f => eqS f.name nm).map (·.kind)).getD 0
theorem fldKind_at {l : List Fld} {nm : ByteArray} {k : Nat} (hk : k < l.length) (hn : noneTo (fun f : Fld => eqS f.name nm) l k) (h : eqS l[k].name nm = true) : fldKind l nm = l[k].kind := by
  unfold fldKind; rw [find_at hk hn h]; rfl
theorem fldKind_none {l : List Fld} {nm : ByteArray} {k : Nat} (hk : l.length ≤ k) (hn : noneTo (fun f : Fld => eqS f.name nm) l k) : fldKind l nm = 0 := by
  unfold fldKind; rw [find_none hk hn]; rfl
set_option maxHeartbeats 400000 in
theorem impl_FieldKind (A : Option Addr) (n c : Nat) (l : List Fld) (nm : ByteArray) (w : World) (hS : Sl 2 RFld w A n l) (hn : n ≤ 1073741824) :
    Calls Try.prog 35 #[.slice A n c, .string nm] w fun e w' => e = .returned (.int .i64 (fldKind l nm)) ∧ Below w.heap.size w w' := by
  obtain rfl : l.length = n := hS.len
  go_enter Try.func35, Try.ntmps35
  go_wp2_with fail
  go_loopw [9] (fun i wr => ∃ k : Nat, k ≤ l.length ∧ i = .int .i64 k ∧ noneTo (fun f : Fld => eqS f.name nm) l k ∧ Below w.heap.size w wr) (fun i _ => l.length - (intOf i).toNat)
  case atStart => exact ⟨0, Nat.zero_le _, rfl, noneTo_zero _ _, Below.refl _ _⟩
  case round =>
    obtain ⟨k, hk, rfl, hN, hb⟩ := hrel
    by_cases hlt : k < l.length
    · obtain ⟨b, off, rfl, bw, bc⟩ := hS.fld (by omega)
      obtain ⟨q0, q1⟩ := bc k (by omega)
      rw [← hb.cell (p := ⟨b, _, none⟩) bw] at q0 q1
      clear bc
      cases hf : eqS l[k].name nm with
      | true =>
        have HZ := Lib.hid (fldKind_at hlt hN hf)
        unfold eqS at hf
        clear hN
        go_wp2_with fail
        go_returns
        exact ⟨ret_int HZ.out.symm, ex_alloc hb _⟩
      | false =>
        have hN' := noneTo_succ hN (fun _ => hf)
        unfold eqS at hf
        have HN := Lib.hid hN'
        clear hN hN'
        go_wp2_with fail
        go_roundw
        case rel => exact ⟨k + 1, by omega, by go_num, HN.out, ex_alloc hb _⟩
        case measure => simp [intOf]; omega
    · have HZ := Lib.hid (fldKind_none (by omega) hN)
      clear hN
      go_wp2_with fail
      go_returns
      exact ⟨ret_int HZ.out.symm, hb⟩
set_option maxHeartbeats 400000 in
theorem spec_FieldKind (A : Option Addr) (n c : Nat) (l : List Fld) (nm : ByteArray) (w : World) (hS : Sl 2 RFld w A n l) (hn : n ≤ 1073741824) :
    Calls Try.prog 33 #[.slice A n c, .string nm] w fun e w' => e = .returned (.int .i64 (fldKind l nm)) ∧ w = w' := by
  obtain rfl : l.length = n := hS.len
  go_enter Try.func33, Try.ntmps33
  go_wp2_with fail
  go_loop [5] (fun i => ∃ k : Nat, k ≤ l.length ∧ i = .int .i64 k ∧ noneTo (fun f : Fld => eqS f.name nm) l k) (fun i => l.length - (intOf i).toNat)
  case atStart => exact ⟨0, Nat.zero_le _, rfl, noneTo_zero _ _⟩
  case round =>
    obtain ⟨k, hk, rfl, hN⟩ := hrel
    by_cases hlt : k < l.length
    · obtain ⟨b, off, rfl, bw, bc⟩ := hS.fld (by omega)
      obtain ⟨q0, q1⟩ := bc k (by omega)
      clear bc
      cases hf : eqS l[k].name nm with
      | true =>
        have HZ := Lib.hid (fldKind_at hlt hN hf)
        unfold eqS at hf
        clear hN
        go_wp2_with fail
        go_returns
        exact ⟨ret_int HZ.out.symm, rfl⟩
      | false =>
        have hN' := noneTo_succ hN (fun _ => hf)
        unfold eqS at hf
        have HN := Lib.hid hN'
        clear hN hN'
        go_wp2_with fail
        go_round
        case rel => exact ⟨k + 1, by omega, by go_num, HN.out⟩
        case measure => simp [intOf]; omega
    · have HZ := Lib.hid (fldKind_none (by omega) hN)
      clear hN
      go_wp2_with fail
      go_returns
      exact ⟨ret_int HZ.out.symm, rfl⟩
end Go.Proofs.Ytbemlckhddbidaa
