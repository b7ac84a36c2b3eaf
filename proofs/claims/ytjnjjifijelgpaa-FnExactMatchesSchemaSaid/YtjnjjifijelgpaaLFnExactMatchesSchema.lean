/-
  FnExactMatchesSchema RETURNS true AND LEAVES ITS ARGUMENTS AS THEY WERE, FOR EVERY INPUT THAT THE STATEMENT SPEAKS OF. No condition.
-/
import Derived.WalkKit
import Derived.ProofKit
import Derived.OpenShut
import Derived.Handy
import Derived.Lib.Hide
import Derived.Deep.QuietTactic
import Derived.BigQuiet
import Derived.Deep.RegionHeld3
import Derived.Test.YtjnjjifijelgpaaLib
import Derived.Test.YtjnjjifijelgpaaOp
import Derived.Test.YtjnjjifijelgpaaC1
import Derived.Test.YtjnjjifijelgpaaC2
import Derived.Test.YtjnjjifijelgpaaOwn
import Derived.Test.YtjnjjifijelgpaaT1
import Derived.Test.YtjnjjifijelgpaaSz
import Derived.Test.YtjnjjifijelgpaaC3
import Derived.Test.YtjnjjifijelgpaaC5
import Derived.Test.YtjnjjifijelgpaaRows
namespace Go.Proofs.Ytjnjjifijelgpaa
open Go.RowKit Go.ChangeShapes Go.WideShapes Go.ChangeAt Go.ChangeMaps
set_option linter.unusedVariables false
set_option maxRecDepth 100000

theorem walk_FnExactMatchesSchema (W : World) (A0 : Option Addr) (n0 c0 : Nat) (l0 : List Fld) (hS0 : Sl 2 RFld W A0 n0 l0) (hn0 : n0 ≤ maxLen) (hl0 : ∀ y ∈ l0, Fld.ok maxLen y) (s1 : ByteArray) (hs1 : s1.size ≤ maxLen) (v2 : Vl) (hv2 : v2.ok maxLen) : Calls Try.prog 9 #[.slice A0 n0 c0, .string s1, .agg #[.int .i64 v2.kind, .int .i64 v2.int, .string v2.str]] W fun e w' => e = .returned (.bool true) ∧ Below W.heap.size W w' := by
  obtain rfl : l0.length = n0 := hS0.len
  unfold maxLen at hs1
  by_cases hc1 : s1.size ≤ 1048576
  · have hd1 : (s1.size : Int) ≤ 1048576 := by omega
    have nn0 := szS_nn Fld.sz_nn l0
    by_cases hc0 : szS Fld.sz l0 ≤ 1048576
    · obtain ⟨hm0, hk0⟩ := flds_okB (show szS Fld.sz l0 ≤ 1048576 by omega)
      have g0 : 0 ≤ 1048576 - szS Fld.sz l0 := by omega
      have nn2 := Vl.sz_nn v2
      by_cases hc2 : v2.sz ≤ 1048576 - szS Fld.sz l0
      · have hk2 := Vl.okB (show v2.sz ≤ 1048576 by omega)
        have g2 : 0 ≤ 1048576 - szS Fld.sz l0 - v2.sz := by omega
        go_enter Try.func9, Try.ntmps9
        go_wp2_with fail
        refine (laws_szFieldS_ok A0 l0.length c0 l0 1048576 _ (hS0.mono mFld (by go_grown)) hn0 hl0 (by omega) (by omega) (by omega)).mono ?_; rintro e w1 ⟨rfl, hb1⟩
        have hx1 : Below W.heap.size W w1 := ex_trans (by go_grown) hb1
        have x0_0 : w1.cell? ⟨W.heap.size, 0, none⟩ = some (.int .i64 v2.kind) := keep_cell hb1 (by go_simp)
        have x0_1 : w1.cell? ⟨W.heap.size, 1, none⟩ = some (.int .i64 v2.int) := keep_cell hb1 (by go_simp)
        have x0_2 : w1.cell? ⟨W.heap.size, 2, none⟩ = some (.string v2.str) := keep_cell hb1 (by go_simp)
        have z0 : W.heap.size < w1.heap.size := keep_lt hb1 (by simp)
        replace hS0 := hS0.mono mFld hx1
        have hB : Below W.heap.size W w1 := hx1
        go_wp2_with fail
        refine (laws_szValue_ok v2 (1048576 - szS Fld.sz l0) _ hv2 (by omega) (by omega) (by omega)).mono ?_; rintro e w2 ⟨rfl, hb2⟩
        have hx2 : Below w1.heap.size w1 w2 := ex_trans (by go_grown) hb2
        replace x0_0 := keep_cell hx2 x0_0
        replace x0_1 := keep_cell hx2 x0_1
        replace x0_2 := keep_cell hx2 x0_2
        replace z0 := keep_lt hx2 z0
        replace hS0 := hS0.mono mFld hx2
        replace hB := ex_trans hB hx2
        go_wp2_with fail
        go_region_held3 (fun w' => Tok w' ∧ w'.cell? ⟨W.heap.size, 0, none⟩ = some (.int .i64 v2.kind) ∧ w'.cell? ⟨W.heap.size, 1, none⟩ = some (.int .i64 v2.int) ∧ w'.cell? ⟨W.heap.size, 2, none⟩ = some (.string v2.str) ∧ W.heap.size < w'.heap.size ∧ Sl 2 RFld w' A0 l0.length l0 ∧ Below W.heap.size W w')
          (first | exact ⟨trivial, x0_0, x0_1, x0_2, z0, hS0.mono mFld (Below.refl _ _).drew, hB.drew⟩ | exact ‹Tok _ ∧ _› | (have hh := ‹Tok _ ∧ _›; exact ⟨trivial, keep_cell ‹_› hh.2.1, keep_cell ‹_› hh.2.2.1, keep_cell ‹_› hh.2.2.2.1, keep_lt ‹_› hh.2.2.2.2.1, hh.2.2.2.2.2.1.mono mFld ‹_›, ex_trans hh.2.2.2.2.2.2 ‹_›⟩))
          (first | (go_at_call 16; obtain ⟨_, x0_0, x0_1, x0_2, z0, hS0, hB⟩ := ‹Tok _ ∧ _›; (with_reducible refine (laws_toFieldS A0 l0.length c0 l0 _ hS0 (by omega)).mono ?_); rintro e w3 hN3; obtain ⟨A'3, c'3, bs3, rfl, hcc3, hW3, hF3, hb3⟩ := hN3.out; have hO3 : Sl 2 RFld w3 A'3 l0.length l0 := hW3.sl (fun h => h.1)) | (go_at_call 47; obtain ⟨_, x0_0, x0_1, x0_2, z0, hS0, hB⟩ := ‹Tok _ ∧ _›; (with_reducible refine (laws_toValue v2 _).mono ?_); rintro e w4 ⟨rfl, hb4⟩; replace hO3 := hO3.mono mFld hb4) | (go_at_call 46; obtain ⟨_, x0_0, x0_1, x0_2, z0, hS0, hB⟩ := ‹Tok _ ∧ _›; (with_reducible refine (spec_MatchesSchema A'3 l0.length c'3 l0 s1 v2 _ hO3 (by omega) hk2).mono ?_); rintro e w5 ⟨rfl, hb5⟩; replace hO3 := hO3.mono mFld hb5))
        obtain ⟨_, x0_0, x0_1, x0_2, z0, hS0, hB⟩ := ‹Tok _ ∧ _›
        go_wp2_with fail
        refine (laws_toFieldS A0 l0.length c0 l0 _ (hS0.mono mFld (by go_grown)) (by omega)).mono ?_; rintro e w6 hN6
        obtain ⟨A'6, c'6, bs6, rfl, hcc6, hW6, hF6, hb6⟩ := hN6.out
        have hO6 : Sl 2 RFld w6 A'6 l0.length l0 := hW6.sl (fun h => h.1)
        have hx6 : Below w5.heap.size w5 w6 := ex_trans (by go_grown) hb6
        replace x0_0 := keep_cell hx6 x0_0
        replace x0_1 := keep_cell hx6 x0_1
        replace x0_2 := keep_cell hx6 x0_2
        replace z0 := keep_lt hx6 z0
        replace hS0 := hS0.mono mFld hx6
        replace hO3 := hO3.mono mFld hx6
        replace hB := ex_trans hB hx6
        go_wp2_with fail
        refine (laws_toValue v2 _).mono ?_; rintro e w7 ⟨rfl, hb7⟩
        have hx7 : Below w6.heap.size w6 w7 := ex_trans (by go_grown) hb7
        replace x0_0 := keep_cell hx7 x0_0
        replace x0_1 := keep_cell hx7 x0_1
        replace x0_2 := keep_cell hx7 x0_2
        replace z0 := keep_lt hx7 z0
        replace hS0 := hS0.mono mFld hx7
        replace hO3 := hO3.mono mFld hx7
        replace hO6 := hO6.mono mFld hx7
        replace hB := ex_trans hB hx7
        go_wp2_with fail
        refine (impl_MatchesSchema A'6 l0.length c'6 l0 s1 v2 _ (hO6.mono mFld (by go_grown)) (by omega) hk2).mono ?_; rintro e w8 ⟨rfl, hb8⟩
        have hx8 : Below w7.heap.size w7 w8 := ex_trans (by go_grown) hb8
        replace x0_0 := keep_cell hx8 x0_0
        replace x0_1 := keep_cell hx8 x0_1
        replace x0_2 := keep_cell hx8 x0_2
        replace z0 := keep_lt hx8 z0
        replace hS0 := hS0.mono mFld hx8
        replace hO3 := hO3.mono mFld hx8
        replace hO6 := hO6.mono mFld hx8
        replace hB := ex_trans hB hx8
        go_wp2_with fail
        refine (laws_toFieldS A0 l0.length c0 l0 _ (hS0.mono mFld (by go_grown)) (by omega)).mono ?_; rintro e w9 hN9
        obtain ⟨A'9, c'9, bs9, rfl, hcc9, hW9, hF9, hb9⟩ := hN9.out
        have hO9 : Sl 2 RFld w9 A'9 l0.length l0 := hW9.sl (fun h => h.1)
        have hx9 : Below w8.heap.size w8 w9 := ex_trans (by go_grown) hb9
        replace x0_0 := keep_cell hx9 x0_0
        replace x0_1 := keep_cell hx9 x0_1
        replace x0_2 := keep_cell hx9 x0_2
        replace z0 := keep_lt hx9 z0
        replace hS0 := hS0.mono mFld hx9
        replace hO3 := hO3.mono mFld hx9
        replace hO6 := hO6.mono mFld hx9
        replace hB := ex_trans hB hx9
        go_wp2_with fail
        refine (laws_eqFieldS_same A'6 A'9 l0.length c'6 l0.length c'9 l0 _ (hO6.mono mFld (by go_grown)) (hO9.mono mFld (by go_grown)) (by omega) (by omega)).mono ?_; rintro e w10 ⟨rfl, hb10⟩
        have hx10 : Below w9.heap.size w9 w10 := ex_trans (by go_grown) hb10
        replace x0_0 := keep_cell hx10 x0_0
        replace x0_1 := keep_cell hx10 x0_1
        replace x0_2 := keep_cell hx10 x0_2
        replace z0 := keep_lt hx10 z0
        replace hS0 := hS0.mono mFld hx10
        replace hO3 := hO3.mono mFld hx10
        replace hO6 := hO6.mono mFld hx10
        replace hO9 := hO9.mono mFld hx10
        replace hB := ex_trans hB hx10
        go_wp2_with fail
        go_returns
        exact ⟨rfl, hB⟩
      · have g2 : (-1 : Int) < 0 := by omega
        go_enter Try.func9, Try.ntmps9
        go_wp2_with fail
        refine (laws_szFieldS_ok A0 l0.length c0 l0 1048576 _ (hS0.mono mFld (by go_grown)) hn0 hl0 (by omega) (by omega) (by omega)).mono ?_; rintro e w1 ⟨rfl, hb1⟩
        have hx1 : Below W.heap.size W w1 := ex_trans (by go_grown) hb1
        have x0_0 : w1.cell? ⟨W.heap.size, 0, none⟩ = some (.int .i64 v2.kind) := keep_cell hb1 (by go_simp)
        have x0_1 : w1.cell? ⟨W.heap.size, 1, none⟩ = some (.int .i64 v2.int) := keep_cell hb1 (by go_simp)
        have x0_2 : w1.cell? ⟨W.heap.size, 2, none⟩ = some (.string v2.str) := keep_cell hb1 (by go_simp)
        have z0 : W.heap.size < w1.heap.size := keep_lt hb1 (by simp)
        replace hS0 := hS0.mono mFld hx1
        have hB : Below W.heap.size W w1 := hx1
        go_wp2_with fail
        refine (laws_szValue_no v2 (1048576 - szS Fld.sz l0) _ hv2 (by omega) (by omega) (by omega)).mono ?_; rintro e w2 ⟨rfl, hb2⟩
        have hx2 : Below w1.heap.size w1 w2 := ex_trans (by go_grown) hb2
        replace x0_0 := keep_cell hx2 x0_0
        replace x0_1 := keep_cell hx2 x0_1
        replace x0_2 := keep_cell hx2 x0_2
        replace z0 := keep_lt hx2 z0
        replace hS0 := hS0.mono mFld hx2
        replace hB := ex_trans hB hx2
        go_wp2_with fail
        go_returns
        exact ⟨rfl, hB⟩
    · have g0 : (-1 : Int) < 0 := by omega
      go_enter Try.func9, Try.ntmps9
      go_wp2_with fail
      refine (laws_szFieldS_no A0 l0.length c0 l0 1048576 _ (hS0.mono mFld (by go_grown)) hn0 hl0 (by omega) (by omega) (by omega)).mono ?_; rintro e w1 ⟨rfl, hb1⟩
      have hx1 : Below W.heap.size W w1 := ex_trans (by go_grown) hb1
      have x0_0 : w1.cell? ⟨W.heap.size, 0, none⟩ = some (.int .i64 v2.kind) := keep_cell hb1 (by go_simp)
      have x0_1 : w1.cell? ⟨W.heap.size, 1, none⟩ = some (.int .i64 v2.int) := keep_cell hb1 (by go_simp)
      have x0_2 : w1.cell? ⟨W.heap.size, 2, none⟩ = some (.string v2.str) := keep_cell hb1 (by go_simp)
      have z0 : W.heap.size < w1.heap.size := keep_lt hb1 (by simp)
      replace hS0 := hS0.mono mFld hx1
      have hB : Below W.heap.size W w1 := hx1
      go_wp2_with fail
      go_returns
      exact ⟨rfl, hB⟩
  · have hd1 : (1048576 : Int) < (s1.size : Int) := by omega
    go_enter Try.func9, Try.ntmps9
    go_wp2_with fail
    go_returns
    exact ⟨rfl, by go_grown⟩
theorem core_FnExactMatchesSchema {H : Type} (enc : TypeId × Value → H) (W : World) (base : Nat) (args : Array Value) (ds : List (DataW H)) (p : List MemPlace)
    (hA : DataW.TrodAll enc Try.prog W 0 (fun _ => true) true Try.f9.params.toList args.toList ds p)
    (hval : ∀ (j : Nat) t v, Try.f9.params[j]? = some t → args[j]? = some v → Value.okWide Try.prog W .any base t v) :
    Calls Try.prog 9 args W fun e W' => e = .returned (.bool true) ∧ Below W.heap.size W W' := by
  rw [Try.params9] at hA hval
  obtain ⟨u0, vs0, d0, ds0, p0, q0, hargs, rfl, rfl, h0, r0⟩ := trodAll_cons hA
  obtain ⟨u1, vs1, d1, ds1, p1, q1, rfl, rfl, rfl, h1, r1⟩ := trodAll_cons r0
  obtain ⟨u2, vs2, d2, ds2, p2, q2, rfl, rfl, rfl, h2, r2⟩ := trodAll_cons r1
  obtain ⟨rfl, rfl, rfl⟩ := trodAll_nil r2
  obtain rfl : args = #[u0, u1, u2] := by cases args; simp_all
  obtain ⟨ad0, ln0, cp0, rfl⟩ := okWide_slice Try.underlying22 (hval 0 22 u0 rfl rfl)
  obtain ⟨fu0, g0⟩ := h0
  obtain ⟨A0, n0, c0, l0, e0, hn0, _, hS0, hl0⟩ := opens_slice Try.underlying22 (by omega) Op_Field g0
  simp only [Value.cells, List.cons.injEq, Value.slice.injEq, and_true] at e0
  obtain ⟨rfl, rfl, rfl⟩ := e0
  obtain ⟨s1, rfl, _, _, hs1⟩ := open_string Try.underlying9 (hval 1 9 u1 rfl rfl) h1
  obtain ⟨fu2, g2⟩ := h2
  obtain ⟨x2, e2, ok2⟩ := Op_Value.2 _ _ _ g2
  have z2 := agg_of Try.underlying69 (hval 2 69 u2 rfl rfl)
  have y2 : u2 = .agg ⟨_⟩ := z2.trans (congrArg (fun l => Value.agg ⟨l⟩) e2)
  subst y2
  exact walk_FnExactMatchesSchema W ad0 ln0 cp0 l0 hS0 hn0 hl0 s1 hs1 x2 ok2
set_option maxRecDepth 100000 in
theorem lifted_FnExactMatchesSchema (os : Os) (started : os.Started) (H : Type) (enc : TypeId × Value → H) :
    ReturnsInHanded {} Try.checked os 9 .any (Rows.fnExactMatchesSchemaSpec.pre6 enc Try.prog Try.f9 Rows.fnExactMatchesSchemaRow.domain false) (Rows.fnExactMatchesSchemaSpec.post enc Try.prog Try.f9 false true false false) :=
  law_lifted (C := Try.checked) (tb := 4) (n := 3) own started (by kernel_rfl) Try.func9 rfl (by kernel_rfl) Try.underlying4 (by kernel_rfl)
    (fun ds h => by match ds, h with | [_, _, _], _ => rfl) laidOut' (by kernel_rfl)
    (ChangeSpec.witness6 (enc := enc) (C := Try.checked) false ⟨#[], #[.slice none 0 0, .string ByteArray.empty, .agg #[.int .i64 0, .int .i64 0, .string ByteArray.empty]], []⟩ 8 (by kernel_rfl) (by kernel_rfl) (by kernel_rfl) (by kernel_rfl))
    (fun W base args ds p hA hval => core_FnExactMatchesSchema enc W base args ds p hA hval)
theorem holds_FnExactMatchesSchema : Rows.FnExactMatchesSchemaSaid :=
  OpenClaim.holds_of_wide 9 Try.f9 rfl rfl rfl rfl rfl rfl rfl ⟨rfl, rfl, rfl, rfl, rfl⟩ rfl rfl rfl rfl rfl (by kernel_rfl) Try.func9 (by kernel_rfl)
    (of_decide_eq_true (by kernel_rfl)) (by unfold Func.isWrapper; first | (rw [if_pos (by decide +kernel)]; kernel_rfl) | (rw [if_neg (by decide +kernel)]; exact ⟨rfl, rfl⟩))
    (fun os started H enc _ => lifted_FnExactMatchesSchema os started H enc)
end Go.Proofs.Ytjnjjifijelgpaa
