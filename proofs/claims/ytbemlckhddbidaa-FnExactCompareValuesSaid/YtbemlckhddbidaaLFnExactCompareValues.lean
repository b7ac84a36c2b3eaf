/-
  FnExactCompareValues RETURNS true AND LEAVES ITS ARGUMENTS AS THEY WERE, FOR EVERY INPUT THAT THE STATEMENT SPEAKS OF. No condition.
-/
import Derived.WalkKit
import Derived.ProofKit
import Derived.OpenShut
import Derived.Handy
import Derived.Lib.Hide
import Derived.Deep.QuietTactic
import Derived.BigQuiet
import Derived.Deep.RegionHeld3
import Derived.Test.YtbemlckhddbidaaLib
import Derived.Test.YtbemlckhddbidaaOp
import Derived.Test.YtbemlckhddbidaaC1
import Derived.Test.YtbemlckhddbidaaC2
import Derived.Test.YtbemlckhddbidaaRows
namespace Go.Proofs.Ytbemlckhddbidaa
open Go.RowKit Go.ChangeShapes Go.WideShapes Go.ChangeAt Go.ChangeMaps
set_option linter.unusedVariables false

theorem walk_FnExactCompareValues (v0 : Vl) (hv0 : v0.ok maxLen) (v1 : Vl) (hv1 : v1.ok maxLen) (W : World) : Calls Try.prog 11 #[.agg #[.int .i64 v0.kind, .int .i64 v0.int, .string v0.str], .agg #[.int .i64 v1.kind, .int .i64 v1.int, .string v1.str]] W fun e w' => e = .returned (.bool true) ∧ Below W.heap.size W w' := by
  have C := laws_szValue v0 1048576
  by_cases h : v0.sz ≤ 1048576
  · have D := laws_szValue v1 (1048576 - v0.sz)
    have hs0 : v0.sz = v0.str.size := rfl
    have h0 : 0 ≤ 1048576 - v0.sz := by omega
    have h1 : 1048576 - v0.sz ≤ 1048576 := by omega
    rw [lefts_ge h] at C
    have HC := Lib.hid C
    clear C hs0
    by_cases h' : v1.sz ≤ 1048576 - v0.sz
    · have h2 : 0 ≤ 1048576 - v0.sz - v1.sz := by omega
      rw [lefts_ge h'] at D
      have HD := Lib.hid D
      clear D
      go_enter Try.func11, Try.ntmps11
      go_wp2_with fail
      refine (HC.out _ hv0 (by omega) (by omega)).mono ?_; rintro e w1 ⟨rfl, hb1⟩
      obtain ⟨hc1, hf1⟩ := bcell hb1
      have hz1 : W.heap.size + 1 < w1.heap.size := by have := hb1.size; simp at this; omega
      have hz1' : W.heap.size < w1.heap.size := by omega
      go_wp2_with fail
      refine (HD.out _ hv1 h0 h1).mono ?_; rintro e w2 ⟨rfl, hb2⟩
      obtain ⟨hc2, hf2⟩ := bcell hb2
      have hz2 : W.heap.size + 1 < w2.heap.size := by have := hb2.size; omega
      have hz2' : W.heap.size < w2.heap.size := by omega
      go_wp2_with fail
      have hB2 : Below W.heap.size W w2 := ex_trans (ex_trans (by go_grown) hb1) hb2
      have hB : Below W.heap.size W w2 := hB2
      have a0 : w2.cell? ⟨W.heap.size, 0, none⟩ = some (.int .i64 v0.kind) := by go_simp
      have a1 : w2.cell? ⟨W.heap.size, 1, none⟩ = some (.int .i64 v0.int) := by go_simp
      have a2 : w2.cell? ⟨W.heap.size, 2, none⟩ = some (.string v0.str) := by go_simp
      have b0 : w2.cell? ⟨W.heap.size + 1, 0, none⟩ = some (.int .i64 v1.kind) := by go_simp
      have b1 : w2.cell? ⟨W.heap.size + 1, 1, none⟩ = some (.int .i64 v1.int) := by go_simp
      have b2 : w2.cell? ⟨W.heap.size + 1, 2, none⟩ = some (.string v1.str) := by go_simp
      have z1 := hz2
      have z2 := hz2'
      clear hB2 hc1 hf1 hc2 hf2 hb1 hb2 hz1 hz1' hz2 hz2'
      go_region_held3 (fun w' => (w'.cell? ⟨W.heap.size, 0, none⟩ = some (.int .i64 v0.kind) ∧ w'.cell? ⟨W.heap.size, 1, none⟩ = some (.int .i64 v0.int) ∧ w'.cell? ⟨W.heap.size, 2, none⟩ = some (.string v0.str)) ∧
          (w'.cell? ⟨W.heap.size + 1, 0, none⟩ = some (.int .i64 v1.kind) ∧ w'.cell? ⟨W.heap.size + 1, 1, none⟩ = some (.int .i64 v1.int) ∧ w'.cell? ⟨W.heap.size + 1, 2, none⟩ = some (.string v1.str)) ∧ Below W.heap.size W w' ∧ W.heap.size + 1 < w'.heap.size ∧ W.heap.size < w'.heap.size)
        (first | exact ⟨⟨a0, a1, a2⟩, ⟨b0, b1, b2⟩, hB.drew, z1, z2⟩ | (have hh := ‹(_ ∧ _ ∧ _) ∧ (_ ∧ _ ∧ _) ∧ Below W.heap.size W _ ∧ _ ∧ _›; exact ⟨⟨keep_cell ‹_› hh.1.1, keep_cell ‹_› hh.1.2.1, keep_cell ‹_› hh.1.2.2⟩, ⟨keep_cell ‹_› hh.2.1.1, keep_cell ‹_› hh.2.1.2.1, keep_cell ‹_› hh.2.1.2.2⟩, ex_trans hh.2.2.1 ‹_›, keep_lt ‹_› hh.2.2.2.1, keep_lt ‹_› hh.2.2.2.2⟩))
        (first | (go_at_call 28; refine (laws_toValue _ _).mono ?_; rintro e w3 ⟨rfl, hb3⟩) | (go_at_call 30; refine (spec_CompareValues _ _ _).mono ?_; rintro e w3 ⟨rfl, hb3⟩))
      obtain ⟨⟨a0, a1, a2⟩, ⟨b0, b1, b2⟩, hB, z1, z2⟩ := ‹(_ ∧ _ ∧ _) ∧ (_ ∧ _ ∧ _) ∧ Below W.heap.size W _ ∧ _ ∧ _›
      go_wp2_with fail
      go_region_held3 (fun w' => (w'.cell? ⟨W.heap.size, 0, none⟩ = some (.int .i64 v0.kind) ∧ w'.cell? ⟨W.heap.size, 1, none⟩ = some (.int .i64 v0.int) ∧ w'.cell? ⟨W.heap.size, 2, none⟩ = some (.string v0.str)) ∧
          (w'.cell? ⟨W.heap.size + 1, 0, none⟩ = some (.int .i64 v1.kind) ∧ w'.cell? ⟨W.heap.size + 1, 1, none⟩ = some (.int .i64 v1.int) ∧ w'.cell? ⟨W.heap.size + 1, 2, none⟩ = some (.string v1.str)) ∧ Below W.heap.size W w' ∧ W.heap.size + 1 < w'.heap.size ∧ W.heap.size < w'.heap.size)
        (first | exact ⟨⟨a0, a1, a2⟩, ⟨b0, b1, b2⟩, hB.drew, z1, z2⟩ | (have hh := ‹(_ ∧ _ ∧ _) ∧ (_ ∧ _ ∧ _) ∧ Below W.heap.size W _ ∧ _ ∧ _›; exact ⟨⟨keep_cell ‹_› hh.1.1, keep_cell ‹_› hh.1.2.1, keep_cell ‹_› hh.1.2.2⟩, ⟨keep_cell ‹_› hh.2.1.1, keep_cell ‹_› hh.2.1.2.1, keep_cell ‹_› hh.2.1.2.2⟩, ex_trans hh.2.2.1 ‹_›, keep_lt ‹_› hh.2.2.2.1, keep_lt ‹_› hh.2.2.2.2⟩))
        (first | (go_at_call 28; refine (laws_toValue _ _).mono ?_; rintro e w3 ⟨rfl, hb3⟩) | (go_at_call 31; refine (impl_CompareValues _ _ _).mono ?_; rintro e w3 ⟨rfl, hb3⟩))
      obtain ⟨⟨a0, a1, a2⟩, ⟨b0, b1, b2⟩, hB, z1, z2⟩ := ‹(_ ∧ _ ∧ _) ∧ (_ ∧ _ ∧ _) ∧ Below W.heap.size W _ ∧ _ ∧ _›
      go_wp2_with fail
      go_returns
      exact ⟨rfl, hB⟩
    · rw [lefts_lt h'] at D
      have HD := Lib.hid D
      clear D
      go_enter Try.func11, Try.ntmps11
      go_wp2_with fail
      refine (HC.out _ hv0 (by omega) (by omega)).mono ?_; rintro e w1 ⟨rfl, hb1⟩
      obtain ⟨hc1, hf1⟩ := bcell hb1
      have hz1 : W.heap.size + 1 < w1.heap.size := by have := hb1.size; simp at this; omega
      have hz1' : W.heap.size < w1.heap.size := by omega
      go_wp2_with fail
      refine (HD.out _ hv1 h0 h1).mono ?_; rintro e w2 ⟨rfl, hb2⟩
      go_wp2_with fail
      go_returns
      exact ⟨rfl, ex_trans (ex_trans (by go_grown) hb1) hb2⟩
  · rw [lefts_lt h] at C
    go_enter Try.func11, Try.ntmps11
    go_wp2_with fail
    refine (C _ hv0 (by omega) (by omega)).mono ?_; rintro e w1 ⟨rfl, hb1⟩
    clear C
    go_wp2_with fail
    go_returns
    exact ⟨rfl, ex_trans (by go_grown) hb1⟩
theorem core_FnExactCompareValues {H : Type} (enc : TypeId × Value → H) (W : World) (base : Nat) (args : Array Value) (ds : List (DataW H)) (p : List MemPlace)
    (hA : DataW.TrodAll enc Try.prog W 0 (fun _ => true) true Try.f11.params.toList args.toList ds p)
    (hval : ∀ (j : Nat) t v, Try.f11.params[j]? = some t → args[j]? = some v → Value.okWide Try.prog W .any base t v) :
    Calls Try.prog 11 args W fun e W' => e = .returned (.bool true) ∧ Below W.heap.size W W' := by
  rw [Try.params11] at hA hval
  obtain ⟨u0, vs0, d0, ds0, p0, q0, hargs, rfl, rfl, h0, r0⟩ := trodAll_cons hA
  obtain ⟨u1, vs1, d1, ds1, p1, q1, rfl, rfl, rfl, h1, r1⟩ := trodAll_cons r0
  obtain ⟨rfl, rfl, rfl⟩ := trodAll_nil r1
  obtain rfl : args = #[u0, u1] := by cases args; simp_all
  obtain ⟨fu0, g0⟩ := h0
  obtain ⟨x0, e0, ok0⟩ := Op_Value.2 _ _ _ g0
  have z0 := agg_of Try.underlying34 (hval 0 34 u0 rfl rfl)
  have y0 : u0 = .agg ⟨_⟩ := z0.trans (congrArg (fun l => Value.agg ⟨l⟩) e0)
  subst y0
  obtain ⟨fu1, g1⟩ := h1
  obtain ⟨x1, e1, ok1⟩ := Op_Value.2 _ _ _ g1
  have z1 := agg_of Try.underlying34 (hval 1 34 u1 rfl rfl)
  have y1 : u1 = .agg ⟨_⟩ := z1.trans (congrArg (fun l => Value.agg ⟨l⟩) e1)
  subst y1
  exact walk_FnExactCompareValues x0 ok0 x1 ok1 W
set_option maxRecDepth 100000 in
theorem lifted_FnExactCompareValues (os : Os) (started : os.Started) (H : Type) (enc : TypeId × Value → H) :
    ReturnsInHanded {} Try.checked os 11 .any (Rows.fnExactCompareValuesSpec.pre6 enc Try.prog Try.f11 Rows.fnExactCompareValuesRow.domain false) (Rows.fnExactCompareValuesSpec.post enc Try.prog Try.f11 false true false false) :=
  law_lifted (C := Try.checked) (tb := 4) (n := 2) own started (by kernel_rfl) Try.func11 rfl (by kernel_rfl) Try.underlying4 (by kernel_rfl)
    (fun ds h => by match ds, h with | [_, _], _ => rfl) laidOut' (by kernel_rfl)
    (ChangeSpec.witness6 (enc := enc) (C := Try.checked) false ⟨#[], #[.agg #[.int .i64 0, .int .i64 0, .string ByteArray.empty], .agg #[.int .i64 0, .int .i64 0, .string ByteArray.empty]], []⟩ 8 (by kernel_rfl) (by kernel_rfl) (by kernel_rfl) (by kernel_rfl))
    (fun W base args ds p hA hval => core_FnExactCompareValues enc W base args ds p hA hval)
theorem holds_FnExactCompareValues : Rows.FnExactCompareValuesSaid :=
  OpenClaim.holds_of_wide 11 Try.f11 rfl rfl rfl rfl rfl rfl rfl ⟨rfl, rfl, rfl, rfl, rfl⟩ rfl rfl rfl rfl rfl (by kernel_rfl) Try.func11 (by kernel_rfl)
    (of_decide_eq_true (by kernel_rfl)) (by unfold Func.isWrapper; first | (rw [if_pos (by decide +kernel)]; kernel_rfl) | (rw [if_neg (by decide +kernel)]; exact ⟨rfl, rfl⟩))
    (fun os started H enc _ => lifted_FnExactCompareValues os started H enc)
end Go.Proofs.Ytbemlckhddbidaa
