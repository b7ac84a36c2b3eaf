/-
  CONTRACTS: the library's functions on slices of flat elements; functions that append to a slice of their own.
-/
import Derived.WalkKit
import Derived.WalkSpells
import Derived.WalkLawsBesides
import Derived.Lib.Hide
import Derived.Handy
import Derived.StillTailTactics
import Derived.Deep.Light
import Derived.Deep.QuietTactic
import Derived.BigQuiet
import Derived.Deep.RegionHeld3
import Derived.Test.YtkoagijliokhlaaDoorLib
import Derived.Test.YtkoagijliokhlaaDoorOwn
import Derived.Test.YtkoagijliokhlaaDoorRow
import Derived.Test.YtkoagijliokhlaaDoorHld
import Derived.Test.YtkoagijliokhlaaDoorC1
import Derived.Test.YtkoagijliokhlaaDoorC2
import Derived.Test.YtkoagijliokhlaaDoorT1
import Derived.Test.YtkoagijliokhlaaDoorT2
import Derived.Test.YtkoagijliokhlaaDoorT4
import Derived.Test.YtkoagijliokhlaaDoorC3
import Derived.Test.YtkoagijliokhlaaDoorC4
import Derived.Test.YtkoagijliokhlaaDoorRows
namespace Go.Proofs.YtkoagijliokhlaaDoor
open Go.RowKit
set_option linter.unusedVariables false
set_option maxRecDepth 100000
theorem info_string : (Tryd.prog.info? 9).map (fun i => (i.zero, i.size, i.bytes)) = some (some (.string ByteArray.empty), 1, 16) := by kernel_rfl
theorem src1 {α : Type} {size : Nat} {enc : α → List Value} (hE : Enc size enc) (w : World) (x : α) (e : TypeId) {g : Nat} (hg : g = w.heap.size) {cs : Array Value} (hcs : cs.toList = enc x) : Src size enc (w.alloc (.cells cs e)) (some ⟨g, 0, none⟩) 1 [x] := by
  subst hg
  refine Src.of_cells (by simp) fun j u hu => ?_
  rw [Addr.add_lit, Nat.zero_add, blk_cell? (blk_new w _), ← Array.getElem?_toList, hcs]
  exact hu
theorem take_map_succ {α β : Type} (f : α → β) (l : List α) {k : Nat} (h : k < l.length) : (l.take (k + 1)).map f = (l.take k).map f ++ [f l[k]] := by
  rw [List.take_succ_eq_append_getElem h, List.map_append]; rfl
theorem take_filter_succ {α : Type} (p : α → Bool) (l : List α) {k : Nat} (h : k < l.length) : (l.take (k + 1)).filter p = (l.take k).filter p ++ (if p l[k] then [l[k]] else []) := by
  rw [List.take_succ_eq_append_getElem h, List.filter_append]
  cases hp : p l[k] <;> simp [hp]
/-- the round's relation of a loop that appends to a row of the call's own -/
def App {α : Type} (e size : Nat) (enc : α → List Value) (w : World) (n : Nat) (l : List α) (v : Value) (wr : World) : Prop :=
  ∃ A c, v = .slice A n c ∧ FRow e size enc wr w.heap.size A n c l ∧ Below w.heap.size w wr
def AppB {α : Type} (e size : Nat) (enc : α → List Value) (w : World) (B n : Nat) (l : List α) (v : Value) (wr : World) : Prop :=
  ∃ A c, v = .slice A n c ∧ FRow e size enc wr B A n c l ∧ Below w.heap.size w wr
theorem keep_at {w w' : World} {B : Nat} (hb : Below B w w') {a : Addr} {v : Value} (ha : a.block < B) (h : w.cell? a = some v) : w'.cell? a = some v := (hb.cell ha).trans h
/-- what a function value that is asked of elements answers, wherever nothing below B has changed -/
def Pred {α : Type} (P : Program) (kf : Nat) (caps : Array Value) (v : α → Value) (p : α → Bool) (l : List α) (B : Nat) (w : World) : Prop :=
  ∀ w', Below B w w' → ∀ x ∈ l, Calls P kf (#[v x] ++ caps) w' fun e w2 => e = .returned (.bool (p x)) ∧ Below w'.heap.size w' w2
def idxI {α : Type} (p : α → Bool) (l : List α) : Int := match l.findIdx? p with | some i => i | none => -1
theorem idxI_at {α : Type} {p : α → Bool} {l : List α} {k : Nat} (hk : k < l.length) (hn : noneTo p l k) (h : p l[k] = true) : idxI p l = k := by
  unfold idxI
  rw [List.findIdx?_eq_some_iff_getElem.2 ⟨hk, h, fun j hj => by rw [hn j (by omega) hj]; simp⟩]
theorem idxI_none {α : Type} {p : α → Bool} {l : List α} {k : Nat} (hk : l.length ≤ k) (hn : noneTo p l k) : idxI p l = -1 := by
  unfold idxI
  rw [List.findIdx?_eq_none_iff.2 fun x hx => by obtain ⟨i, hi, rfl⟩ := List.getElem_of_mem hx; exact hn i hi (by omega)]
theorem idxI_nonneg {α : Type} (p : α → Bool) (l : List α) : decide (0 ≤ idxI p l) = l.any p := by
  unfold idxI
  cases h : l.findIdx? p with
  | none =>
    have h2 := List.findIdx?_eq_none_iff.1 h
    have h3 : l.any p = false := by rw [List.any_eq_false]; exact fun x hx => by rw [h2 x hx]; simp
    rw [h3]; rfl
  | some i =>
    obtain ⟨h1, h2, _⟩ := List.findIdx?_eq_some_iff_getElem.1 h
    have h3 : l.any p = true := List.any_eq_true.2 ⟨_, List.getElem_mem h1, h2⟩
    rw [h3]; exact decide_eq_true (show (0 : Int) ≤ (i : Int) by omega)
theorem noneTo_fun {α : Type} {p : α → Bool} {l : List α} {k : Nat} (h : noneTo p l k) : ∀ i (hi : i < l.length), i < k → p l[i] = false := fun i hi hk => h i hi hk
end Go.Proofs.YtkoagijliokhlaaDoor
