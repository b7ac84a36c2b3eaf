/-
  CONTRACTS, second part: the plain conversions, sizes and comparisons of the statements' own text (laws.toX, laws.szX, laws.eqX), at values and fields.
-/
import Derived.WalkKit
import Derived.WalkSpells
import Derived.WalkLawsBesides
import Derived.Lib.Hide
import Derived.Handy
import Derived.Deep.Light
import Derived.StillTailTactics
import Derived.Test.YtjobgnioehkomaaLib
import Derived.Test.YtjobgnioehkomaaC1
import Derived.Test.YtjobgnioehkomaaRows
namespace Go.Proofs.Ytjobgnioehkomaa
open Go.RowKit
set_option linter.unusedVariables false
set_option maxRecDepth 100000

/-- what is left of a budget -/
def lefts (tot left : Int) : Int := if tot ≤ left then left - tot else -1
theorem lefts_ge {tot left : Int} (h : tot ≤ left) : lefts tot left = left - tot := if_pos h
theorem lefts_lt {tot left : Int} (h : ¬ tot ≤ left) : lefts tot left = -1 := if_neg h
def Vl.sz (v : Vl) : Int := v.str.size
def Fld.sz (f : Fld) : Int := f.name.size
def Vl.eqb (a b : Vl) : Bool := (a.kind == b.kind && a.int == b.int) && eqS a.str b.str
def Fld.eqb (a b : Fld) : Bool := eqS a.name b.name && a.kind == b.kind
theorem Vl.eqb_iff {a b : Vl} : a.eqb b = true ↔ a = b := by
  cases a; cases b; simp [Vl.eqb, eqS_iff, and_assoc]
theorem Fld.eqb_iff {a b : Fld} : a.eqb b = true ↔ a = b := by
  cases a; cases b; simp [Fld.eqb, eqS_iff]
noncomputable def okVl (v : Vl) : Bool :=
  if v.kind == 0 then v.int == 0 && v.str.toList.isEmpty else if v.kind == 1 then inB v.int 0 999 && v.str.toList.isEmpty else if v.kind == 2 then txt v.str 6 && v.int == 0 else false
theorem impl_IsValidValue (v : Vl) (w : World) (hv : v.str.size ≤ 1073741824) : Calls Try.prog 132 #[v.v] w fun e w' => e = .returned (.bool (okVl v)) ∧ Below w.heap.size w w' := by
  go_enter Try.func132, Try.ntmps132
  go_wp2_with (first | (go_at_call 82; refine (impl_within _ _ _ _).mono ?_; rintro e w' ⟨rfl, rfl⟩) | (go_at_call 155; refine (impl_IsValidString _ _ hv).mono ?_; rintro e w' ⟨rfl, rfl⟩))
  all_goals go_returns
  all_goals refine ⟨ret_bool ?_, by go_grown⟩
  all_goals go_light
  all_goals simp_all [okVl]
theorem spec_IsValidValue (v : Vl) (w : World) (hv : v.str.size ≤ 1073741824) : Calls Try.prog 135 #[v.v] w fun e w' => e = .returned (.bool (okVl v)) ∧ Below w.heap.size w w' := by
  go_enter Try.func135, Try.ntmps135
  go_wp2_with (first | (go_at_call 72; refine (spec_l01In _ _ _ _).mono ?_; rintro e w' ⟨rfl, rfl⟩) | (go_at_call 156; refine (spec_IsValidString _ _ hv).mono ?_; rintro e w' ⟨rfl, rfl⟩))
  all_goals go_returns
  all_goals refine ⟨ret_bool ?_, by go_grown⟩
  all_goals go_light
  all_goals simp_all [okVl]

def cmpI (a b : Int) : Int := if a < b then -1 else if b < a then 1 else 0
theorem bless_gt : ∀ x y : List UInt8, Op.bytesLess y x = !(Op.bytesLess x y || x == y)
  | [], [] => rfl
  | [], _ :: _ => rfl
  | _ :: _, [] => rfl
  | a :: x, b :: y => by
    have ih := bless_gt x y
    simp only [Op.bytesLess, List.cons_beq_cons]
    by_cases h : a = b
    · subst h
      simp [ih]
    · have h1 : (a == b) = false := by simpa using h
      have h2 : (b == a) = false := by simpa using fun e => h e.symm
      rw [h1, h2]
      simp only [Bool.false_and, Bool.or_false]
      by_cases hlt : a < b
      · have : ¬ b < a := fun e => UInt8.lt_asymm hlt e
        simp [hlt, this]
      · have : b < a := by
          rcases UInt8.lt_or_lt_of_ne h with e | e
          · exact absurd e hlt
          · exact e
        simp [hlt, this]
theorem bless_irrefl (x : List UInt8) : Op.bytesLess x x = false := by
  have := bless_gt x x
  cases h : Op.bytesLess x x <;> simp_all
def cmpS (a b : ByteArray) : Int := if Op.bytesLess a.toList b.toList then -1 else if Op.bytesLess b.toList a.toList then 1 else 0
def orI (a b : Int) : Int := if a = 0 then b else a
def cmpV (a b : Vl) : Int := orI (cmpI a.kind b.kind) (orI (cmpI a.int b.int) (cmpS a.str b.str))
theorem cmp_isNaN_int (a : Int) (w : World) : Calls Try.prog 159 #[.int .i64 a] w fun e w' => e = .returned (.bool false) ∧ w = w' := by
  go_enter Try.func159, Try.ntmps159
  go_wp2
  go_returns
  exact ⟨ret_bool (by simp), rfl⟩
theorem cmp_isNaN_str (a : ByteArray) (w : World) : Calls Try.prog 144 #[.string a] w fun e w' => e = .returned (.bool false) ∧ w = w' := by
  go_enter Try.func144, Try.ntmps144
  go_wp2
  go_returns
  exact ⟨ret_bool (by simp), rfl⟩
theorem cmp_Compare_int (a b : Int) (w : World) : Calls Try.prog 145 #[.int .i64 a, .int .i64 b] w fun e w' => e = .returned (.int .i64 (cmpI a b)) ∧ w = w' := by
  go_enter Try.func145, Try.ntmps145
  go_wp2_with (go_at_call 159; refine (cmp_isNaN_int _ _).mono ?_; rintro e w' ⟨rfl, rfl⟩)
  all_goals go_returns
  all_goals refine ⟨ret_int ?_, rfl⟩
  all_goals go_light
  all_goals (unfold cmpI; repeat' split)
  all_goals omega
theorem cmp_Compare_str (a b : ByteArray) (w : World) : Calls Try.prog 98 #[.string a, .string b] w fun e w' => e = .returned (.int .i64 (cmpS a b)) ∧ w = w' := by
  go_enter Try.func98, Try.ntmps98
  go_wp2_with (go_at_call 144; refine (cmp_isNaN_str _ _).mono ?_; rintro e w' ⟨rfl, rfl⟩)
  all_goals go_returns
  all_goals refine ⟨ret_int ?_, rfl⟩
  all_goals go_light
  all_goals simp_all [cmpS, bless_gt a.toList b.toList, bless_irrefl]
set_option maxHeartbeats 400000 in
theorem spec_CompareValues (a b : Vl) (w : World) : Calls Try.prog 150 #[a.v, b.v] w fun e w' => e = .returned (.int .i64 (cmpV a b)) ∧ Below w.heap.size w w' := by
  go_enter Try.func150, Try.ntmps150
  go_wp2
  all_goals go_returns
  all_goals refine ⟨ret_int ?_, by go_grown⟩
  all_goals go_light
  all_goals simp only [cmpV, orI, cmpI, cmpS]
  all_goals first | (repeat' split) <;> first | rfl | omega | (simp_all [bless_gt a.str.toList b.str.toList, bless_irrefl]; done)
set_option maxHeartbeats 400000 in
theorem cmp_Or (a b c : Int) (g : Nat) (w : World) (h0 : w.cell? ⟨g, 0, none⟩ = some (.int .i64 a)) (h1 : w.cell? ⟨g, 1, none⟩ = some (.int .i64 b)) (h2 : w.cell? ⟨g, 2, none⟩ = some (.int .i64 c)) :
    Calls Try.prog 97 #[.slice (some ⟨g, 0, none⟩) 3 3] w fun e w' => e = .returned (.int .i64 (orI a (orI b c))) ∧ w = w' := by
  go_enter Try.func97, Try.ntmps97
  go_wp2
  go_rounds 4
  all_goals go_returns
  all_goals refine ⟨ret_int ?_, rfl⟩
  all_goals go_light
  all_goals simp_all [orI]
theorem still_tail {P : Program} {id : Nat} {Q : Exit → Act → World → Prop} {a : Act} {w : World} {l : List Oper} (n : Nat) (hm : P.follows .mixedOrders = true) (hB : Region.lexTailB .any l.toArray n = true)
    (h : wpStill P l.toArray w.drew (fun a' => wpList P l.toArray Q (l.drop n) a' w.drew) (l.take n) a) : (Code.region id l.toArray true).wp P Q a w :=
  wp_region_still_tail n hm hB h
theorem still_of {P : Program} {f : FuncId} {args : Array Value} {w : World} {v : Value} (h : Calls P f args w fun e w' => e = .returned v ∧ w = w') : Calls P f args w fun e w' => e = .returned v ∧ w' = w := h.mono fun _ _ ⟨h1, h2⟩ => ⟨h1, h2.symm⟩
set_option maxHeartbeats 400000 in
theorem impl_CompareValues (a b : Vl) (w : World) : Calls Try.prog 99 #[a.v, b.v] w fun e w' => e = .returned (.int .i64 (cmpV a b)) ∧ Below w.heap.size w w' := by
  go_enter Try.func99, Try.ntmps99
  go_wp2_with fail
  refine still_tail 15 (by kernel_rfl) (by kernel_rfl) ?_
  simp only [List.take_succ_cons, List.take_zero, List.drop_succ_cons, List.drop_zero]
  repeat still_step
  still_call (still_of (cmp_Compare_int _ _ _))
  repeat still_step
  still_call (still_of (cmp_Compare_int _ _ _))
  repeat still_step
  still_call (still_of (cmp_Compare_str _ _ _))
  refine wpStill_nil ?_
  go_wp2_with fail
  refine (cmp_Or (cmpI a.kind b.kind) (cmpI a.int b.int) (cmpS a.str b.str) _ _ ?h0 ?h1 ?h2).mono ?_
  case h0 => go_simp
  case h1 => go_simp
  case h2 => go_simp
  rintro e w' ⟨rfl, rfl⟩
  go_wp2
  go_returns
  exact ⟨rfl, by go_grown⟩
end Go.Proofs.Ytjobgnioehkomaa
