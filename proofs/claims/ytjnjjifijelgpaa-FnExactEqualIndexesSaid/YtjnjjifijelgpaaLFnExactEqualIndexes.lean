/-
  FnExactEqualIndexes RETURNS true AND LEAVES ITS ARGUMENTS AS THEY WERE, FOR EVERY INPUT THAT THE STATEMENT SPEAKS OF. No condition.
-/
import Derived.WalkKit
import Derived.ProofKit
import Derived.OpenShut
import Derived.Handy
import Derived.Lib.Hide
import Derived.Deep.QuietTactic
import Derived.BigQuiet
import Derived.Deep.RegionHeld3
import Derived.Test.YtjnjjifijelgpaaLib
import Derived.Test.YtjnjjifijelgpaaOp
import Derived.Test.YtjnjjifijelgpaaC1
import Derived.Test.YtjnjjifijelgpaaC2
import Derived.Test.YtjnjjifijelgpaaOwn
import Derived.Test.YtjnjjifijelgpaaT1
import Derived.Test.YtjnjjifijelgpaaSz
import Derived.Test.YtjnjjifijelgpaaT4
import Derived.Test.YtjnjjifijelgpaaC5
import Derived.Test.YtjnjjifijelgpaaC6
import Derived.Test.YtjnjjifijelgpaaC7
import Derived.Test.YtjnjjifijelgpaaRows
namespace Go.Proofs.Ytjnjjifijelgpaa
open Go.RowKit Go.ChangeShapes Go.WideShapes Go.ChangeAt Go.ChangeMaps
set_option linter.unusedVariables false
set_option maxRecDepth 100000

theorem walk_FnExactEqualIndexes (W : World) (A0 : Option Addr) (n0 c0 : Nat) (l0 : List Pst) (hS0 : Sl 5 RPst W A0 n0 l0) (hn0 : n0 ≤ maxLen) (hl0 : ∀ y ∈ l0, Pst.ok maxLen y) (A1 : Option Addr) (n1 c1 : Nat) (l1 : List Pst) (hS1 : Sl 5 RPst W A1 n1 l1) (hn1 : n1 ≤ maxLen) (hl1 : ∀ y ∈ l1, Pst.ok maxLen y) : Calls Try.prog 13 #[.slice A0 n0 c0, .slice A1 n1 c1] W fun e w' => e = .returned (.bool true) ∧ Below W.heap.size W w' := by
  obtain rfl : l0.length = n0 := hS0.len
  obtain rfl : l1.length = n1 := hS1.len
  have nn0 := szS_nn Pst.sz_nn l0
  by_cases hc0 : szS Pst.sz l0 ≤ 1048576
  · obtain ⟨hm0, hk0⟩ := psts_okB (show szS Pst.sz l0 ≤ 1048576 by omega)
    have g0 : 0 ≤ 1048576 - szS Pst.sz l0 := by omega
    have nn1 := szS_nn Pst.sz_nn l1
    by_cases hc1 : szS Pst.sz l1 ≤ 1048576 - szS Pst.sz l0
    · obtain ⟨hm1, hk1⟩ := psts_okB (show szS Pst.sz l1 ≤ 1048576 by omega)
      have g1 : 0 ≤ 1048576 - szS Pst.sz l0 - szS Pst.sz l1 := by omega
      go_enter Try.func13, Try.ntmps13
      go_wp2_with fail
      refine (laws_szPostingS_ok A0 l0.length c0 l0 1048576 _ (hS0.mono mPst (by go_grown)) hn0 hl0 (by omega) (by omega) (by omega)).mono ?_; rintro e w1 ⟨rfl, hb1⟩
      have hx1 : Below W.heap.size W w1 := ex_trans (by go_grown) hb1
      replace hS0 := hS0.mono mPst hx1
      replace hS1 := hS1.mono mPst hx1
      have hB : Below W.heap.size W w1 := hx1
      go_wp2_with fail
      refine (laws_szPostingS_ok A1 l1.length c1 l1 (1048576 - szS Pst.sz l0) _ (hS1.mono mPst (by go_grown)) hn1 hl1 (by omega) (by omega) (by omega)).mono ?_; rintro e w2 ⟨rfl, hb2⟩
      have hx2 : Below w1.heap.size w1 w2 := ex_trans (by go_grown) hb2
      replace hS0 := hS0.mono mPst hx2
      replace hS1 := hS1.mono mPst hx2
      replace hB := ex_trans hB hx2
      go_wp2_with fail
      refine (laws_toPostingS A0 l0.length c0 l0 _ (hS0.mono mPst (by go_grown)) (by omega) hk0).mono ?_; rintro e w3 hN3
      obtain ⟨A'3, c'3, bs3, rfl, hcc3, hW3, hF3, hb3⟩ := hN3.out
      have hO3 : Sl 5 RPst w3 A'3 l0.length l0 := hW3.sl (fun h => h.r)
      have hx3 : Below w2.heap.size w2 w3 := ex_trans (by go_grown) hb3
      replace hS0 := hS0.mono mPst hx3
      replace hS1 := hS1.mono mPst hx3
      replace hB := ex_trans hB hx3
      go_wp2_with fail
      refine (laws_toPostingS A1 l1.length c1 l1 _ (hS1.mono mPst (by go_grown)) (by omega) hk1).mono ?_; rintro e w4 hN4
      obtain ⟨A'4, c'4, bs4, rfl, hcc4, hW4, hF4, hb4⟩ := hN4.out
      have hO4 : Sl 5 RPst w4 A'4 l1.length l1 := hW4.sl (fun h => h.r)
      have hx4 : Below w3.heap.size w3 w4 := ex_trans (by go_grown) hb4
      replace hS0 := hS0.mono mPst hx4
      replace hS1 := hS1.mono mPst hx4
      replace hO3 := hO3.mono mPst hx4
      replace hB := ex_trans hB hx4
      go_wp2_with fail
      refine (spec_EqualIndexes A'3 l0.length c'3 l0 A'4 l1.length c'4 l1 _ (hO3.mono mPst (by go_grown)) (hO4.mono mPst (by go_grown)) (by omega) (by omega) hk0 hk1).mono ?_; rintro e w5 ⟨rfl, hb5⟩
      have hx5 : Below w4.heap.size w4 w5 := ex_trans (by go_grown) hb5
      replace hS0 := hS0.mono mPst hx5
      replace hS1 := hS1.mono mPst hx5
      replace hO3 := hO3.mono mPst hx5
      replace hO4 := hO4.mono mPst hx5
      replace hB := ex_trans hB hx5
      go_wp2_with fail
      refine (laws_toPostingS A0 l0.length c0 l0 _ (hS0.mono mPst (by go_grown)) (by omega) hk0).mono ?_; rintro e w6 hN6
      obtain ⟨A'6, c'6, bs6, rfl, hcc6, hW6, hF6, hb6⟩ := hN6.out
      have hO6 : Sl 5 RPst w6 A'6 l0.length l0 := hW6.sl (fun h => h.r)
      have hx6 : Below w5.heap.size w5 w6 := ex_trans (by go_grown) hb6
      replace hS0 := hS0.mono mPst hx6
      replace hS1 := hS1.mono mPst hx6
      replace hO3 := hO3.mono mPst hx6
      replace hO4 := hO4.mono mPst hx6
      replace hB := ex_trans hB hx6
      go_wp2_with fail
      refine (laws_toPostingS A1 l1.length c1 l1 _ (hS1.mono mPst (by go_grown)) (by omega) hk1).mono ?_; rintro e w7 hN7
      obtain ⟨A'7, c'7, bs7, rfl, hcc7, hW7, hF7, hb7⟩ := hN7.out
      have hO7 : Sl 5 RPst w7 A'7 l1.length l1 := hW7.sl (fun h => h.r)
      have hx7 : Below w6.heap.size w6 w7 := ex_trans (by go_grown) hb7
      replace hS0 := hS0.mono mPst hx7
      replace hS1 := hS1.mono mPst hx7
      replace hO3 := hO3.mono mPst hx7
      replace hO4 := hO4.mono mPst hx7
      replace hO6 := hO6.mono mPst hx7
      replace hB := ex_trans hB hx7
      go_wp2_with fail
      refine (impl_EqualIndexes A'6 l0.length c'6 l0 A'7 l1.length c'7 l1 _ (hO6.mono mPst (by go_grown)) (hO7.mono mPst (by go_grown)) (by omega) (by omega) hk0 hk1).mono ?_; rintro e w8 ⟨rfl, hb8⟩
      have hx8 : Below w7.heap.size w7 w8 := ex_trans (by go_grown) hb8
      replace hS0 := hS0.mono mPst hx8
      replace hS1 := hS1.mono mPst hx8
      replace hO3 := hO3.mono mPst hx8
      replace hO4 := hO4.mono mPst hx8
      replace hO6 := hO6.mono mPst hx8
      replace hO7 := hO7.mono mPst hx8
      replace hB := ex_trans hB hx8
      go_wp2_with fail
      refine (laws_toPostingS A0 l0.length c0 l0 _ (hS0.mono mPst (by go_grown)) (by omega) hk0).mono ?_; rintro e w9 hN9
      obtain ⟨A'9, c'9, bs9, rfl, hcc9, hW9, hF9, hb9⟩ := hN9.out
      have hO9 : Sl 5 RPst w9 A'9 l0.length l0 := hW9.sl (fun h => h.r)
      have hx9 : Below w8.heap.size w8 w9 := ex_trans (by go_grown) hb9
      replace hS0 := hS0.mono mPst hx9
      replace hS1 := hS1.mono mPst hx9
      replace hO3 := hO3.mono mPst hx9
      replace hO4 := hO4.mono mPst hx9
      replace hO6 := hO6.mono mPst hx9
      replace hO7 := hO7.mono mPst hx9
      replace hB := ex_trans hB hx9
      go_wp2_with fail
      refine (laws_eqPostingS_same A'6 A'9 l0.length c'6 l0.length c'9 l0 _ (hO6.mono mPst (by go_grown)) (hO9.mono mPst (by go_grown)) (by omega) (by omega) hk0).mono ?_; rintro e w10 ⟨rfl, hb10⟩
      have hx10 : Below w9.heap.size w9 w10 := ex_trans (by go_grown) hb10
      replace hS0 := hS0.mono mPst hx10
      replace hS1 := hS1.mono mPst hx10
      replace hO3 := hO3.mono mPst hx10
      replace hO4 := hO4.mono mPst hx10
      replace hO6 := hO6.mono mPst hx10
      replace hO7 := hO7.mono mPst hx10
      replace hO9 := hO9.mono mPst hx10
      replace hB := ex_trans hB hx10
      go_wp2_with fail
      refine (laws_toPostingS A1 l1.length c1 l1 _ (hS1.mono mPst (by go_grown)) (by omega) hk1).mono ?_; rintro e w11 hN11
      obtain ⟨A'11, c'11, bs11, rfl, hcc11, hW11, hF11, hb11⟩ := hN11.out
      have hO11 : Sl 5 RPst w11 A'11 l1.length l1 := hW11.sl (fun h => h.r)
      have hx11 : Below w10.heap.size w10 w11 := ex_trans (by go_grown) hb11
      replace hS0 := hS0.mono mPst hx11
      replace hS1 := hS1.mono mPst hx11
      replace hO3 := hO3.mono mPst hx11
      replace hO4 := hO4.mono mPst hx11
      replace hO6 := hO6.mono mPst hx11
      replace hO7 := hO7.mono mPst hx11
      replace hO9 := hO9.mono mPst hx11
      replace hB := ex_trans hB hx11
      go_wp2_with fail
      refine (laws_eqPostingS_same A'7 A'11 l1.length c'7 l1.length c'11 l1 _ (hO7.mono mPst (by go_grown)) (hO11.mono mPst (by go_grown)) (by omega) (by omega) hk1).mono ?_; rintro e w12 ⟨rfl, hb12⟩
      have hx12 : Below w11.heap.size w11 w12 := ex_trans (by go_grown) hb12
      replace hS0 := hS0.mono mPst hx12
      replace hS1 := hS1.mono mPst hx12
      replace hO3 := hO3.mono mPst hx12
      replace hO4 := hO4.mono mPst hx12
      replace hO6 := hO6.mono mPst hx12
      replace hO7 := hO7.mono mPst hx12
      replace hO9 := hO9.mono mPst hx12
      replace hO11 := hO11.mono mPst hx12
      replace hB := ex_trans hB hx12
      go_wp2_with fail
      go_returns
      exact ⟨rfl, hB⟩
    · have g1 : (-1 : Int) < 0 := by omega
      go_enter Try.func13, Try.ntmps13
      go_wp2_with fail
      refine (laws_szPostingS_ok A0 l0.length c0 l0 1048576 _ (hS0.mono mPst (by go_grown)) hn0 hl0 (by omega) (by omega) (by omega)).mono ?_; rintro e w1 ⟨rfl, hb1⟩
      have hx1 : Below W.heap.size W w1 := ex_trans (by go_grown) hb1
      replace hS0 := hS0.mono mPst hx1
      replace hS1 := hS1.mono mPst hx1
      have hB : Below W.heap.size W w1 := hx1
      go_wp2_with fail
      refine (laws_szPostingS_no A1 l1.length c1 l1 (1048576 - szS Pst.sz l0) _ (hS1.mono mPst (by go_grown)) hn1 hl1 (by omega) (by omega) (by omega)).mono ?_; rintro e w2 ⟨rfl, hb2⟩
      have hx2 : Below w1.heap.size w1 w2 := ex_trans (by go_grown) hb2
      replace hS0 := hS0.mono mPst hx2
      replace hS1 := hS1.mono mPst hx2
      replace hB := ex_trans hB hx2
      go_wp2_with fail
      go_returns
      exact ⟨rfl, hB⟩
  · have g0 : (-1 : Int) < 0 := by omega
    go_enter Try.func13, Try.ntmps13
    go_wp2_with fail
    refine (laws_szPostingS_no A0 l0.length c0 l0 1048576 _ (hS0.mono mPst (by go_grown)) hn0 hl0 (by omega) (by omega) (by omega)).mono ?_; rintro e w1 ⟨rfl, hb1⟩
    have hx1 : Below W.heap.size W w1 := ex_trans (by go_grown) hb1
    replace hS0 := hS0.mono mPst hx1
    replace hS1 := hS1.mono mPst hx1
    have hB : Below W.heap.size W w1 := hx1
    go_wp2_with fail
    go_returns
    exact ⟨rfl, hB⟩
theorem core_FnExactEqualIndexes {H : Type} (enc : TypeId × Value → H) (W : World) (base : Nat) (args : Array Value) (ds : List (DataW H)) (p : List MemPlace)
    (hA : DataW.TrodAll enc Try.prog W 0 (fun _ => true) true Try.f13.params.toList args.toList ds p)
    (hval : ∀ (j : Nat) t v, Try.f13.params[j]? = some t → args[j]? = some v → Value.okWide Try.prog W .any base t v) :
    Calls Try.prog 13 args W fun e W' => e = .returned (.bool true) ∧ Below W.heap.size W W' := by
  rw [Try.params13] at hA hval
  obtain ⟨u0, vs0, d0, ds0, p0, q0, hargs, rfl, rfl, h0, r0⟩ := trodAll_cons hA
  obtain ⟨u1, vs1, d1, ds1, p1, q1, rfl, rfl, rfl, h1, r1⟩ := trodAll_cons r0
  obtain ⟨rfl, rfl, rfl⟩ := trodAll_nil r1
  obtain rfl : args = #[u0, u1] := by cases args; simp_all
  obtain ⟨ad0, ln0, cp0, rfl⟩ := okWide_slice Try.underlying80 (hval 0 80 u0 rfl rfl)
  obtain ⟨fu0, g0⟩ := h0
  obtain ⟨A0, n0, c0, l0, e0, hn0, _, hS0, hl0⟩ := opens_slice Try.underlying80 (by omega) Op_Posting g0
  simp only [Value.cells, List.cons.injEq, Value.slice.injEq, and_true] at e0
  obtain ⟨rfl, rfl, rfl⟩ := e0
  obtain ⟨ad1, ln1, cp1, rfl⟩ := okWide_slice Try.underlying80 (hval 1 80 u1 rfl rfl)
  obtain ⟨fu1, g1⟩ := h1
  obtain ⟨A1, n1, c1, l1, e1, hn1, _, hS1, hl1⟩ := opens_slice Try.underlying80 (by omega) Op_Posting g1
  simp only [Value.cells, List.cons.injEq, Value.slice.injEq, and_true] at e1
  obtain ⟨rfl, rfl, rfl⟩ := e1
  exact walk_FnExactEqualIndexes W ad0 ln0 cp0 l0 hS0 hn0 hl0 ad1 ln1 cp1 l1 hS1 hn1 hl1
set_option maxRecDepth 100000 in
theorem lifted_FnExactEqualIndexes (os : Os) (started : os.Started) (H : Type) (enc : TypeId × Value → H) :
    ReturnsInHanded {} Try.checked os 13 .any (Rows.fnExactEqualIndexesSpec.pre6 enc Try.prog Try.f13 Rows.fnExactEqualIndexesRow.domain false) (Rows.fnExactEqualIndexesSpec.post enc Try.prog Try.f13 false true false false) :=
  law_lifted (C := Try.checked) (tb := 4) (n := 2) own started (by kernel_rfl) Try.func13 rfl (by kernel_rfl) Try.underlying4 (by kernel_rfl)
    (fun ds h => by match ds, h with | [_, _], _ => rfl) laidOut' (by kernel_rfl)
    (ChangeSpec.witness6 (enc := enc) (C := Try.checked) false ⟨#[], #[.slice none 0 0, .slice none 0 0], []⟩ 8 (by kernel_rfl) (by kernel_rfl) (by kernel_rfl) (by kernel_rfl))
    (fun W base args ds p hA hval => core_FnExactEqualIndexes enc W base args ds p hA hval)
theorem holds_FnExactEqualIndexes : Rows.FnExactEqualIndexesSaid :=
  OpenClaim.holds_of_wide 13 Try.f13 rfl rfl rfl rfl rfl rfl rfl ⟨rfl, rfl, rfl, rfl, rfl⟩ rfl rfl rfl rfl rfl (by kernel_rfl) Try.func13 (by kernel_rfl)
    (of_decide_eq_true (by kernel_rfl)) (by unfold Func.isWrapper; first | (rw [if_pos (by decide +kernel)]; kernel_rfl) | (rw [if_neg (by decide +kernel)]; exact ⟨rfl, rfl⟩))
    (fun os started H enc _ => lifted_FnExactEqualIndexes os started H enc)
end Go.Proofs.Ytjnjjifijelgpaa
