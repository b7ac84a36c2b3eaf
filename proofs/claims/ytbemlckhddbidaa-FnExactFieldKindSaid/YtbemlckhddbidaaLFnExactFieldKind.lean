/-
  FnExactFieldKind RETURNS true AND LEAVES ITS ARGUMENTS AS THEY WERE, FOR EVERY INPUT THAT THE STATEMENT SPEAKS OF. No condition.
-/
import Derived.WalkKit
import Derived.ProofKit
import Derived.OpenShut
import Derived.Handy
import Derived.Lib.Hide
import Derived.Deep.QuietTactic
import Derived.BigQuiet
import Derived.Deep.RegionHeld3
import Derived.Test.YtbemlckhddbidaaLib
import Derived.Test.YtbemlckhddbidaaOp
import Derived.Test.YtbemlckhddbidaaC1
import Derived.Test.YtbemlckhddbidaaC2
import Derived.Test.YtbemlckhddbidaaT1
import Derived.Test.YtbemlckhddbidaaC3
import Derived.Test.YtbemlckhddbidaaOwn
import Derived.Test.YtbemlckhddbidaaRows
namespace Go.Proofs.Ytbemlckhddbidaa
open Go.RowKit Go.ChangeShapes Go.WideShapes Go.ChangeAt Go.ChangeMaps
set_option linter.unusedVariables false

theorem walk_FnExactFieldKind (W : World) (A0 : Option Addr) (n0 c0 : Nat) (l0 : List Fld) (hS0 : Sl 2 RFld W A0 n0 l0) (hn0 : n0 ≤ maxLen) (hl0 : ∀ y ∈ l0, Fld.ok maxLen y) (s1 : ByteArray) (hs1 : s1.size ≤ maxLen) : Calls Try.prog 12 #[.slice A0 n0 c0, .string s1] W fun e w' => e = .returned (.bool true) ∧ Below W.heap.size W w' := by
  have hlen := hS0.len
  subst hlen
  unfold maxLen at hs1
  by_cases hs : s1.size ≤ 1048576
  · have hs' : (s1.size : Int) ≤ 1048576 := by omega
    have C := laws_szFieldS A0 l0.length c0 l0 1048576 W hS0 hn0 hl0 (by omega) (by omega)
    by_cases h : szS Fld.sz l0 ≤ 1048576
    · rw [lefts_ge h] at C
      have h0 : 0 ≤ 1048576 - szS Fld.sz l0 := by omega
      have hle : l0.length ≤ 1048576 := by
        have h1 := sumTo_mono (l := l0) Fld.sz_nn l0.length 0 (by omega)
        rw [sumTo_zero, Nat.zero_add] at h1
        unfold szS at h; omega
      have HC := Lib.hid C
      clear C
      go_enter Try.func12, Try.ntmps12
      go_wp2_with fail
      refine HC.out.mono ?_; rintro e w1 ⟨rfl, hb1⟩
      go_wp2_with fail
      refine (laws_toFieldS A0 l0.length c0 l0 w1 (hS0.mono mFld hb1) (by omega)).mono ?_; rintro e w2 hN2
      obtain ⟨A2, c2, bs2, rfl, hc2, hO2, hF2, hb2⟩ := hN2.out
      have hB2 := ex_trans hb1 hb2
      have hS2 : Sl 2 RFld w2 A2 l0.length l0 := hO2.sl (fun h => h.1)
      go_wp2_with fail
      refine (spec_FieldKind A2 l0.length c2 l0 s1 w2 hS2 (by omega)).mono ?_; rintro e w3 ⟨rfl, rfl⟩
      go_wp2_with fail
      refine (laws_toFieldS A0 l0.length c0 l0 w2 (hS0.mono mFld hB2) (by omega)).mono ?_; rintro e w4 hN4
      obtain ⟨A4, c4, bs4, rfl, hc4, hO4, hF4, hb4⟩ := hN4.out
      have hB4 := ex_trans hB2 hb4
      have hS4 : Sl 2 RFld w4 A4 l0.length l0 := hO4.sl (fun h => h.1)
      go_wp2_with fail
      refine (impl_FieldKind A4 l0.length c4 l0 s1 w4 hS4 (by omega)).mono ?_; rintro e w5 ⟨rfl, hb5⟩
      have hB5 := ex_trans hB4 hb5
      go_wp2_with fail
      refine (laws_toFieldS A0 l0.length c0 l0 w5 (hS0.mono mFld hB5) (by omega)).mono ?_; rintro e w6 hN6
      obtain ⟨A6, c6, bs6, rfl, hc6, hO6, hF6, hb6⟩ := hN6.out
      have hB6 := ex_trans hB5 hb6
      have hS6 : Sl 2 RFld w6 A6 l0.length l0 := hO6.sl (fun h => h.1)
      go_wp2_with fail
      have D := laws_eqFieldS A4 A6 l0.length c4 l0.length c6 l0 l0 w6 (hS4.mono mFld (ex_trans hb5 hb6)) hS6 (by omega) (by omega)
      rw [(eqL_iff (fun a b => Fld.eqb_iff)).2 rfl] at D
      refine D.mono ?_; rintro e w7 ⟨rfl, hb7⟩
      clear D
      go_wp2_with fail
      go_returns
      exact ⟨rfl, ex_trans hB6 hb7⟩
    · rw [lefts_lt h] at C
      go_enter Try.func12, Try.ntmps12
      go_wp2_with fail
      refine C.mono ?_; rintro e w1 ⟨rfl, hb1⟩
      clear C
      go_wp2_with fail
      go_returns
      exact ⟨rfl, hb1⟩
  · have hs' : (1048576 : Int) < (s1.size : Int) := by omega
    go_enter Try.func12, Try.ntmps12
    go_wp2_with fail
    go_returns
    exact ⟨rfl, by go_grown⟩
theorem core_FnExactFieldKind {H : Type} (enc : TypeId × Value → H) (W : World) (base : Nat) (args : Array Value) (ds : List (DataW H)) (p : List MemPlace)
    (hA : DataW.TrodAll enc Try.prog W 0 (fun _ => true) true Try.f12.params.toList args.toList ds p)
    (hval : ∀ (j : Nat) t v, Try.f12.params[j]? = some t → args[j]? = some v → Value.okWide Try.prog W .any base t v) :
    Calls Try.prog 12 args W fun e W' => e = .returned (.bool true) ∧ Below W.heap.size W W' := by
  rw [Try.params12] at hA hval
  obtain ⟨u0, vs0, d0, ds0, p0, q0, hargs, rfl, rfl, h0, r0⟩ := trodAll_cons hA
  obtain ⟨u1, vs1, d1, ds1, p1, q1, rfl, rfl, rfl, h1, r1⟩ := trodAll_cons r0
  obtain ⟨rfl, rfl, rfl⟩ := trodAll_nil r1
  obtain rfl : args = #[u0, u1] := by cases args; simp_all
  obtain ⟨ad0, ln0, cp0, rfl⟩ := okWide_slice Try.underlying41 (hval 0 41 u0 rfl rfl)
  obtain ⟨fu0, g0⟩ := h0
  obtain ⟨A0, n0, c0, l0, e0, hn0, _, hS0, hl0⟩ := opens_slice Try.underlying41 (by omega) Op_Field g0
  simp only [Value.cells, List.cons.injEq, Value.slice.injEq, and_true] at e0
  obtain ⟨rfl, rfl, rfl⟩ := e0
  obtain ⟨s1, rfl, _, _, hs1⟩ := open_string Try.underlying9 (hval 1 9 u1 rfl rfl) h1
  exact walk_FnExactFieldKind W ad0 ln0 cp0 l0 hS0 hn0 hl0 s1 hs1
set_option maxRecDepth 100000 in
theorem lifted_FnExactFieldKind (os : Os) (started : os.Started) (H : Type) (enc : TypeId × Value → H) :
    ReturnsInHanded {} Try.checked os 12 .any (Rows.fnExactFieldKindSpec.pre6 enc Try.prog Try.f12 Rows.fnExactFieldKindRow.domain false) (Rows.fnExactFieldKindSpec.post enc Try.prog Try.f12 false true false false) :=
  law_lifted (C := Try.checked) (tb := 4) (n := 2) own started (by kernel_rfl) Try.func12 rfl (by kernel_rfl) Try.underlying4 (by kernel_rfl)
    (fun ds h => by match ds, h with | [_, _], _ => rfl) laidOut' (by kernel_rfl)
    (ChangeSpec.witness6 (enc := enc) (C := Try.checked) false ⟨#[], #[.slice none 0 0, .string ByteArray.empty], []⟩ 8 (by kernel_rfl) (by kernel_rfl) (by kernel_rfl) (by kernel_rfl))
    (fun W base args ds p hA hval => core_FnExactFieldKind enc W base args ds p hA hval)
theorem holds_FnExactFieldKind : Rows.FnExactFieldKindSaid :=
  OpenClaim.holds_of_wide 12 Try.f12 rfl rfl rfl rfl rfl rfl rfl ⟨rfl, rfl, rfl, rfl, rfl⟩ rfl rfl rfl rfl rfl (by kernel_rfl) Try.func12 (by kernel_rfl)
    (of_decide_eq_true (by kernel_rfl)) (by unfold Func.isWrapper; first | (rw [if_pos (by decide +kernel)]; kernel_rfl) | (rw [if_neg (by decide +kernel)]; exact ⟨rfl, rfl⟩))
    (fun os started H enc _ => lifted_FnExactFieldKind os started H enc)
end Go.Proofs.Ytbemlckhddbidaa
