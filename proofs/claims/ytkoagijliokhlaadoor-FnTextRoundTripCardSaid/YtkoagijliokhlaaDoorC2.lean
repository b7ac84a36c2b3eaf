/-
  CONTRACTS, second part: the plain conversions, sizes and comparisons of the statements' own text (laws.toX, laws.szX, laws.eqX), at values and fields.
-/
import Derived.WalkKit
import Derived.WalkSpells
import Derived.WalkLawsBesides
import Derived.Lib.Hide
import Derived.Handy
import Derived.Deep.Light
import Derived.StillTailTactics
import Derived.Test.YtkoagijliokhlaaDoorLib
import Derived.Test.YtkoagijliokhlaaDoorC1
import Derived.Test.YtkoagijliokhlaaDoorRows
namespace Go.Proofs.YtkoagijliokhlaaDoor
open Go.RowKit
set_option linter.unusedVariables false
set_option maxRecDepth 100000

/-- what is left of a budget -/
def lefts (tot left : Int) : Int := if tot ≤ left then left - tot else -1
theorem lefts_ge {tot left : Int} (h : tot ≤ left) : lefts tot left = left - tot := if_pos h
theorem lefts_lt {tot left : Int} (h : ¬ tot ≤ left) : lefts tot left = -1 := if_neg h
def Vl.sz (v : Vl) : Int := v.str.size
def Fld.sz (f : Fld) : Int := f.name.size
def Vl.eqb (a b : Vl) : Bool := (a.kind == b.kind && a.int == b.int) && eqS a.str b.str
def Fld.eqb (a b : Fld) : Bool := eqS a.name b.name && a.kind == b.kind
theorem Vl.eqb_iff {a b : Vl} : a.eqb b = true ↔ a = b := by
  cases a; cases b; simp [Vl.eqb, eqS_iff, and_assoc]
theorem Fld.eqb_iff {a b : Fld} : a.eqb b = true ↔ a = b := by
  cases a; cases b; simp [Fld.eqb, eqS_iff]
theorem laws_szValue (v : Vl) (left : Int) (w : World) (hv : v.str.size ≤ maxLen) (h0 : 0 ≤ left) (h1 : left ≤ 1048576) :
    Calls Tryd.prog 32 #[v.v, .int .i64 left] w fun e w' => e = .returned (.int .i64 (lefts v.sz left)) ∧ Below w.heap.size w w' := by
  unfold maxLen at hv
  by_cases h : v.sz ≤ left
  · have HZ := Lib.hid (lefts_ge h)
    unfold Vl.sz at *
    go_enter Tryd.func32, Tryd.ntmps32
    go_wp2
    go_returns
    refine ⟨ret_int ?_, by go_grown⟩
    rw [HZ.out]
  · have HZ := Lib.hid (lefts_lt h)
    unfold Vl.sz at *
    have h' : left - (v.str.size : Int) < 0 := by omega
    go_enter Tryd.func32, Tryd.ntmps32
    go_wp2
    go_returns
    refine ⟨ret_int ?_, by go_grown⟩
    rw [HZ.out]
theorem laws_eqValue (a b : Vl) (w : World) : Calls Tryd.prog 14 #[a.v, b.v] w fun e w' => e = .returned (.bool (a.eqb b)) ∧ Below w.heap.size w w' := by
  go_enter Tryd.func14, Tryd.ntmps14
  go_wp2
  all_goals go_returns
  all_goals refine ⟨ret_bool ?_, by go_grown⟩
  all_goals go_light
  all_goals simp_all [Vl.eqb, eqS]
theorem laws_toValue (a : Vl) (w : World) : Calls Tryd.prog 33 #[a.v] w fun e w' => e = .returned a.v ∧ Below w.heap.size w w' := by
  go_enter Tryd.func33, Tryd.ntmps33
  go_wp2
  go_returns
  exact ⟨rfl, by go_grown⟩
noncomputable def okVl (v : Vl) : Bool :=
  if v.kind == 0 then v.int == 0 && v.str.toList.isEmpty else if v.kind == 1 then inB v.int 0 999 && v.str.toList.isEmpty else if v.kind == 2 then txt v.str 6 && v.int == 0 else false
theorem impl_IsValidValue (v : Vl) (w : World) (hv : v.str.size ≤ 1073741824) : Calls Tryd.prog 43 #[v.v] w fun e w' => e = .returned (.bool (okVl v)) ∧ Below w.heap.size w w' := by
  go_enter Tryd.func43, Tryd.ntmps43
  go_wp2_with (first | (go_at_call 55; refine (impl_within _ _ _ _).mono ?_; rintro e w' ⟨rfl, rfl⟩) | (go_at_call 61; refine (impl_IsValidString _ _ hv).mono ?_; rintro e w' ⟨rfl, rfl⟩))
  all_goals go_returns
  all_goals refine ⟨ret_bool ?_, by go_grown⟩
  all_goals go_light
  all_goals simp_all [okVl]
theorem spec_IsValidValue (v : Vl) (w : World) (hv : v.str.size ≤ 1073741824) : Calls Tryd.prog 22 #[v.v] w fun e w' => e = .returned (.bool (okVl v)) ∧ Below w.heap.size w w' := by
  go_enter Tryd.func22, Tryd.ntmps22
  go_wp2_with (first | (go_at_call 51; refine (spec_l01In _ _ _ _).mono ?_; rintro e w' ⟨rfl, rfl⟩) | (go_at_call 52; refine (spec_IsValidString _ _ hv).mono ?_; rintro e w' ⟨rfl, rfl⟩))
  all_goals go_returns
  all_goals refine ⟨ret_bool ?_, by go_grown⟩
  all_goals go_light
  all_goals simp_all [okVl]

def cmpI (a b : Int) : Int := if a < b then -1 else if b < a then 1 else 0
theorem bless_gt : ∀ x y : List UInt8, Op.bytesLess y x = !(Op.bytesLess x y || x == y)
  | [], [] => rfl
  | [], _ :: _ => rfl
  | _ :: _, [] => rfl
  | a :: x, b :: y => by
    have ih := bless_gt x y
    simp only [Op.bytesLess, List.cons_beq_cons]
    by_cases h : a = b
    · subst h
      simp [ih]
    · have h1 : (a == b) = false := by simpa using h
      have h2 : (b == a) = false := by simpa using fun e => h e.symm
      rw [h1, h2]
      simp only [Bool.false_and, Bool.or_false]
      by_cases hlt : a < b
      · have : ¬ b < a := fun e => UInt8.lt_asymm hlt e
        simp [hlt, this]
      · have : b < a := by
          rcases UInt8.lt_or_lt_of_ne h with e | e
          · exact absurd e hlt
          · exact e
        simp [hlt, this]
theorem bless_irrefl (x : List UInt8) : Op.bytesLess x x = false := by
  have := bless_gt x x
  cases h : Op.bytesLess x x <;> simp_all
def cmpS (a b : ByteArray) : Int := if Op.bytesLess a.toList b.toList then -1 else if Op.bytesLess b.toList a.toList then 1 else 0
def orI (a b : Int) : Int := if a = 0 then b else a
def cmpV (a b : Vl) : Int := orI (cmpI a.kind b.kind) (orI (cmpI a.int b.int) (cmpS a.str b.str))
theorem still_tail {P : Program} {id : Nat} {Q : Exit → Act → World → Prop} {a : Act} {w : World} {l : List Oper} (n : Nat) (hm : P.follows .mixedOrders = true) (hB : Region.lexTailB .any l.toArray n = true)
    (h : wpStill P l.toArray w.drew (fun a' => wpList P l.toArray Q (l.drop n) a' w.drew) (l.take n) a) : (Code.region id l.toArray true).wp P Q a w :=
  wp_region_still_tail n hm hB h
theorem still_of {P : Program} {f : FuncId} {args : Array Value} {w : World} {v : Value} (h : Calls P f args w fun e w' => e = .returned v ∧ w = w') : Calls P f args w fun e w' => e = .returned v ∧ w' = w := h.mono fun _ _ ⟨h1, h2⟩ => ⟨h1, h2.symm⟩
end Go.Proofs.YtkoagijliokhlaaDoor
