/-
  FnExactRemoveField RETURNS true AND LEAVES ITS ARGUMENTS AS THEY WERE, FOR EVERY INPUT THAT THE STATEMENT SPEAKS OF. No condition.
-/
import Derived.WalkKit
import Derived.ProofKit
import Derived.OpenShut
import Derived.Handy
import Derived.Lib.Hide
import Derived.Deep.QuietTactic
import Derived.BigQuiet
import Derived.Deep.RegionHeld3
import Derived.Test.YtaljpnfohpcgpaaLib
import Derived.Test.YtaljpnfohpcgpaaOp
import Derived.Test.YtaljpnfohpcgpaaC1
import Derived.Test.YtaljpnfohpcgpaaC2
import Derived.Test.YtaljpnfohpcgpaaOwn
import Derived.Test.YtaljpnfohpcgpaaRow
import Derived.Test.YtaljpnfohpcgpaaHld
import Derived.Test.YtaljpnfohpcgpaaT1
import Derived.Test.YtaljpnfohpcgpaaT6
import Derived.Test.YtaljpnfohpcgpaaSz
import Derived.Test.YtaljpnfohpcgpaaM0
import Derived.Test.YtaljpnfohpcgpaaM1
import Derived.Test.YtaljpnfohpcgpaaD1
import Derived.Test.YtaljpnfohpcgpaaT4
import Derived.Test.YtaljpnfohpcgpaaC3
import Derived.Test.YtaljpnfohpcgpaaD3
import Derived.Test.YtaljpnfohpcgpaaD4
import Derived.Test.YtaljpnfohpcgpaaRows
namespace Go.Proofs.Ytaljpnfohpcgpaa
open Go.RowKit Go.ChangeShapes Go.WideShapes Go.ChangeAt Go.ChangeMaps
set_option linter.unusedVariables false
set_option maxRecDepth 100000
set_option maxHeartbeats 16000000 in
theorem walk_FnExactRemoveField (W : World) (A0 : Option Addr) (n0 c0 : Nat) (l0 : List Fld) (hS0 : Sl 2 RFld W A0 n0 l0) (hn0 : n0 ≤ maxLen) (hl0 : ∀ y ∈ l0, Fld.ok maxLen y) (s1 : ByteArray) (hs1 : s1.size ≤ maxLen) : Calls Try.prog 4 #[.slice A0 n0 c0, .string s1] W fun e w' => e = .returned (.bool true) ∧ Below W.heap.size W w' := by
  obtain rfl : l0.length = n0 := hS0.len
  unfold maxLen at hs1
  by_cases hc1 : s1.size ≤ 1048576
  · have hd1 : (s1.size : Int) ≤ 1048576 := by omega
    have nn0 := szS_nn Fld.sz_nn l0
    by_cases hc0 : szS Fld.sz l0 ≤ 1048576
    · obtain ⟨hm0, hk0⟩ := flds_okB (show szS Fld.sz l0 ≤ 1048576 by omega)
      have g0 : 0 ≤ 1048576 - szS Fld.sz l0 := by omega
      obtain ⟨r0, er0⟩ : ∃ r, r = remF l0 s1 := ⟨_, rfl⟩
      have hln0 : r0.length ≤ 1073741824 := by rw [er0]; have := remF_len l0 s1; omega
      have HE0 := Lib.hid er0
      clear er0
      obtain ⟨q0, eq0⟩ : ∃ q, q = remOk l0 s1 := ⟨_, rfl⟩
      have HE1 := Lib.hid eq0
      clear eq0
      have hK0 := Below.refl W.heap.size W
      go_enter Try.func4, Try.ntmps4
      go_wp2_with fail
      refine (laws_szFieldS_ok A0 l0.length c0 l0 1048576 _ (hS0.mono mFld (ex_trans hK0 (by go_grown))) hn0 hl0 (by omega) (by omega) (by omega)).mono ?_; rintro e w1 ⟨rfl, hb1⟩
      have hx1 : Below W.heap.size W w1 := ex_trans (by go_grown) hb1
      replace hK0 := ex_trans hK0 hx1
      go_wp2_with fail
      refine (laws_toFieldS A0 l0.length c0 l0 _ (hS0.mono mFld (ex_trans hK0 (by go_grown))) (by omega)).mono ?_; rintro e w2 hN2
      obtain ⟨A'2, c'2, bs2, rfl, hcc2, hW2, hF2, hb2⟩ := hN2.out
      have hL2 := Lib.hid (hW2.lt lFld)
      have hR2 := hW2.sl (R := RFld) (fun h => h.1)
      have hx2 : Below w1.heap.size w1 w2 := ex_trans (by go_grown) hb2
      replace hK0 := ex_trans hK0 hx2
      have hK2 := Below.refl w2.heap.size w2
      go_wp2_with fail
      refine (spec_RemoveField A'2 l0.length c'2 l0 s1 _ (hR2.mono mFld (ex_trans hK2 (by go_grown))) (by omega) hk0).mono ?_; rintro e w3 hN3
      rw [← HE0.out, ← HE1.out] at hN3
      obtain ⟨A103, c103, rfl, hR3, hb3⟩ := hN3.r encFld (R := RFld) (fun _ => rfl)
      have hx3 : Below w2.heap.size w2 w3 := ex_trans (by go_grown) hb3
      replace hK0 := ex_trans hK0 hx3
      replace hK2 := ex_trans hK2 hx3
      have hK3 := Below.refl w3.heap.size w3
      go_wp2_with fail
      refine (laws_toFieldS A0 l0.length c0 l0 _ (hS0.mono mFld (ex_trans hK0 (by go_grown))) (by omega)).mono ?_; rintro e w4 hN4
      obtain ⟨A'4, c'4, bs4, rfl, hcc4, hW4, hF4, hb4⟩ := hN4.out
      have hL4 := Lib.hid (hW4.lt lFld)
      have hR4 := hW4.sl (R := RFld) (fun h => h.1)
      have hG4_0 : Hid (∀ b ∈ bs4, W.heap.size ≤ b) := Lib.hid (fun b hb => by have h1 := hF4.2 b hb; have h2 := hK0.size; (try simp at h1); omega)
      have hG4_2 : Hid (∀ b ∈ bs4, w2.heap.size ≤ b) := Lib.hid (fun b hb => by have h1 := hF4.2 b hb; have h2 := hK2.size; (try simp at h1); omega)
      have hG4_3 : Hid (∀ b ∈ bs4, w3.heap.size ≤ b) := Lib.hid (fun b hb => by have h1 := hF4.2 b hb; have h2 := hK3.size; (try simp at h1); omega)
      have hx4 : Below w3.heap.size w3 w4 := ex_trans (by go_grown) hb4
      replace hK0 := ex_trans hK0 hx4
      replace hK2 := ex_trans hK2 hx4
      replace hK3 := ex_trans hK3 hx4
      have hK4 := Below.refl w4.heap.size w4
      go_wp2_with fail
      refine (impl_RemoveField A'4 l0.length c'4 l0 s1 _ (hR4.mono mFld (ex_trans hK4 (by go_grown))) (by omega) hk0).mono ?_; rintro e w5 hN5
      rw [← HE0.out, ← HE1.out] at hN5
      obtain ⟨A105, c105, bs5, rfl, hW5, hF5, hb5⟩ := hN5.v (O := OFld) encFld (fun _ => ⟨rfl, rfl⟩)
      have hL5 := Lib.hid (hW5.lt lFld)
      have hR5 := hW5.sl (R := RFld) (fun h => h.1)
      have hG5_0 : Hid (∀ b ∈ bs5, W.heap.size ≤ b) := Lib.hid (fun b hb => by have h1 := hF5.2 b hb; have h2 := hK0.size; (try simp at h1); omega)
      have hG5_2 : Hid (∀ b ∈ bs5, w2.heap.size ≤ b) := Lib.hid (fun b hb => by have h1 := hF5.2 b hb; have h2 := hK2.size; (try simp at h1); omega)
      have hG5_3 : Hid (∀ b ∈ bs5, w3.heap.size ≤ b) := Lib.hid (fun b hb => by have h1 := hF5.2 b hb; have h2 := hK3.size; (try simp at h1); omega)
      have hG5_4 : Hid (∀ b ∈ bs5, w4.heap.size ≤ b) := Lib.hid (fun b hb => by have h1 := hF5.2 b hb; have h2 := hK4.size; (try simp at h1); omega)
      have hD5_4 : Hid (∀ b ∈ bs5, b ∉ bs4) := Lib.hid (fun b hb hb2 => by have h1 := hF5.2 b hb; have h2 := hL4.out b hb2; have h3 := hK4.size; (try simp at h1); omega)
      have hx5 : Below w4.heap.size w4 w5 := ex_trans (by go_grown) hb5
      replace hK0 := ex_trans hK0 hx5
      replace hK2 := ex_trans hK2 hx5
      replace hK3 := ex_trans hK3 hx5
      replace hK4 := ex_trans hK4 hx5
      have hK5 := Below.refl w5.heap.size w5
      go_wp2_with fail
      refine (laws_eqFieldS_same A105 A103 r0.length c105 r0.length c103 r0 _ (hR5.mono mFld (ex_trans hK5 (by go_grown))) (hR3.mono mFld (ex_trans hK3 (by go_grown))) (by omega) (by omega)).mono ?_; rintro e w6 ⟨rfl, hb6⟩
      have hx6 : Below w5.heap.size w5 w6 := ex_trans (by go_grown) hb6
      replace hK0 := ex_trans hK0 hx6
      replace hK2 := ex_trans hK2 hx6
      replace hK3 := ex_trans hK3 hx6
      replace hK4 := ex_trans hK4 hx6
      replace hK5 := ex_trans hK5 hx6
      go_wp2_with fail
      refine (laws_toFieldS A0 l0.length c0 l0 _ (hS0.mono mFld (ex_trans hK0 (by go_grown))) (by omega)).mono ?_; rintro e w7 hN7
      obtain ⟨A'7, c'7, bs7, rfl, hcc7, hW7, hF7, hb7⟩ := hN7.out
      have hL7 := Lib.hid (hW7.lt lFld)
      have hR7 := hW7.sl (R := RFld) (fun h => h.1)
      have hx7 : Below w6.heap.size w6 w7 := ex_trans (by go_grown) hb7
      replace hK0 := ex_trans hK0 hx7
      replace hK2 := ex_trans hK2 hx7
      replace hK3 := ex_trans hK3 hx7
      replace hK4 := ex_trans hK4 hx7
      replace hK5 := ex_trans hK5 hx7
      have hK7 := Below.refl w7.heap.size w7
      go_wp2_with fail
      refine (laws_eqFieldS_same A'4 A'7 l0.length c'4 l0.length c'7 l0 _ (hR4.mono mFld (ex_trans hK4 (by go_grown))) (hR7.mono mFld (ex_trans hK7 (by go_grown))) (by omega) (by omega)).mono ?_; rintro e w8 ⟨rfl, hb8⟩
      have hx8 : Below w7.heap.size w7 w8 := ex_trans (by go_grown) hb8
      replace hK0 := ex_trans hK0 hx8
      replace hK2 := ex_trans hK2 hx8
      replace hK3 := ex_trans hK3 hx8
      replace hK4 := ex_trans hK4 hx8
      replace hK5 := ex_trans hK5 hx8
      replace hK7 := ex_trans hK7 hx8
      go_wp2_with fail
      refine (laws_markFieldS A'4 l0.length c'4 l0 _ 1 _ (hW4.below lFld (ex_trans hK4 (by go_grown))) hF4.1 (by omega) (by omega) (by omega)).mono ?_; rintro e w9 ⟨rfl, hW4', hc9⟩
      replace hW4 := hW4'
      replace hK0 := Below.mark hK0 hc9 hK0.size hG4_0.out
      replace hK2 := Below.mark hK2 hc9 hK2.size hG4_2.out
      replace hK3 := Below.mark hK3 hc9 hK3.size hG4_3.out
      replace hW5 := (hW5.below lFld hK5).loc lFld (fun b hb => hc9.block b (Nat.lt_of_lt_of_le (hL5.out b hb) hK5.size) (hD5_4.out b hb))
      replace hL5 : Hid (∀ b ∈ bs5, b < w9.heap.size) := Lib.hid (fun b hb => Nat.lt_of_lt_of_le (hL5.out b hb) (Nat.le_trans hK5.size hc9.size))
      have hHR9_hW5 := hW5.sl (R := RFld) (fun h => h.1)
      have hK9 := Below.refl w9.heap.size w9
      -- marked
      have hMR9_hW4 := hW4.sl (R := RFld) (fun h => h.1)
      go_wp2_with fail
      refine (laws_eqFieldS_same A105 A103 r0.length c105 r0.length c103 r0 _ (hHR9_hW5.mono mFld (ex_trans hK9 (by go_grown))) (hR3.mono mFld (ex_trans hK3 (by go_grown))) (by omega) (by omega)).mono ?_; rintro e w10 ⟨rfl, hb10⟩
      have hx10 : Below w9.heap.size w9 w10 := ex_trans (by go_grown) hb10
      replace hK0 := ex_trans hK0 hx10
      replace hK2 := ex_trans hK2 hx10
      replace hK3 := ex_trans hK3 hx10
      replace hK9 := ex_trans hK9 hx10
      go_wp2_with fail
      refine (laws_markFieldS A105 r0.length c105 r0 _ 1 _ (hW5.below lFld (ex_trans hK9 (by go_grown))) hF5.1 (by omega) (by omega) (by omega)).mono ?_; rintro e w11 ⟨rfl, hW5', hc11⟩
      replace hW5 := hW5'
      replace hK0 := Below.mark hK0 hc11 hK0.size hG5_0.out
      replace hK2 := Below.mark hK2 hc11 hK2.size hG5_2.out
      replace hK3 := Below.mark hK3 hc11 hK3.size hG5_3.out
      have hK11 := Below.refl w11.heap.size w11
      -- marked
      have hMR11_hW5 := hW5.sl (R := RFld) (fun h => h.1)
      go_wp2_with fail
      refine (laws_heldFieldS A105 r0.length c105 1 _ (hMR11_hW5.mono mFld (ex_trans hK11 (by go_grown))) (by omega) (by omega) (by omega)).mono ?_; rintro e w12 ⟨rfl, hb12⟩
      have hx12 : Below w11.heap.size w11 w12 := ex_trans (by go_grown) hb12
      replace hK0 := ex_trans hK0 hx12
      replace hK2 := ex_trans hK2 hx12
      replace hK3 := ex_trans hK3 hx12
      replace hK11 := ex_trans hK11 hx12
      go_wp2_with fail
      refine (laws_toFieldS A0 l0.length c0 l0 _ (hS0.mono mFld (ex_trans hK0 (by go_grown))) (by omega)).mono ?_; rintro e w13 hN13
      obtain ⟨A'13, c'13, bs13, rfl, hcc13, hW13, hF13, hb13⟩ := hN13.out
      have hL13 := Lib.hid (hW13.lt lFld)
      have hR13 := hW13.sl (R := RFld) (fun h => h.1)
      have hx13 : Below w12.heap.size w12 w13 := ex_trans (by go_grown) hb13
      replace hK0 := ex_trans hK0 hx13
      replace hK2 := ex_trans hK2 hx13
      replace hK3 := ex_trans hK3 hx13
      replace hK11 := ex_trans hK11 hx13
      have hK13 := Below.refl w13.heap.size w13
      go_wp2_with fail
      refine (impl_RemoveField A'13 l0.length c'13 l0 s1 _ (hR13.mono mFld (ex_trans hK13 (by go_grown))) (by omega) hk0).mono ?_; rintro e w14 hN14
      rw [← HE0.out, ← HE1.out] at hN14
      obtain ⟨A114, c114, bs14, rfl, hW14, hF14, hb14⟩ := hN14.v (O := OFld) encFld (fun _ => ⟨rfl, rfl⟩)
      have hL14 := Lib.hid (hW14.lt lFld)
      have hR14 := hW14.sl (R := RFld) (fun h => h.1)
      have hx14 : Below w13.heap.size w13 w14 := ex_trans (by go_grown) hb14
      replace hK0 := ex_trans hK0 hx14
      replace hK2 := ex_trans hK2 hx14
      replace hK3 := ex_trans hK3 hx14
      replace hK11 := ex_trans hK11 hx14
      replace hK13 := ex_trans hK13 hx14
      have hK14 := Below.refl w14.heap.size w14
      go_wp2_with fail
      refine (laws_eqFieldS_same A114 A103 r0.length c114 r0.length c103 r0 _ (hR14.mono mFld (ex_trans hK14 (by go_grown))) (hR3.mono mFld (ex_trans hK3 (by go_grown))) (by omega) (by omega)).mono ?_; rintro e w15 ⟨rfl, hb15⟩
      have hx15 : Below w14.heap.size w14 w15 := ex_trans (by go_grown) hb15
      replace hK0 := ex_trans hK0 hx15
      replace hK2 := ex_trans hK2 hx15
      replace hK3 := ex_trans hK3 hx15
      replace hK11 := ex_trans hK11 hx15
      replace hK13 := ex_trans hK13 hx15
      replace hK14 := ex_trans hK14 hx15
      go_wp2_with fail
      refine (laws_heldFieldS A105 r0.length c105 1 _ (hMR11_hW5.mono mFld (ex_trans hK11 (by go_grown))) (by omega) (by omega) (by omega)).mono ?_; rintro e w16 ⟨rfl, hb16⟩
      have hx16 : Below w15.heap.size w15 w16 := ex_trans (by go_grown) hb16
      replace hK0 := ex_trans hK0 hx16
      replace hK2 := ex_trans hK2 hx16
      replace hK3 := ex_trans hK3 hx16
      replace hK11 := ex_trans hK11 hx16
      replace hK13 := ex_trans hK13 hx16
      replace hK14 := ex_trans hK14 hx16
      go_wp2_with fail
      go_returns
      exact ⟨rfl, hK0⟩
    · have g0 : (-1 : Int) < 0 := by omega
      have hK0 := Below.refl W.heap.size W
      go_enter Try.func4, Try.ntmps4
      go_wp2_with fail
      refine (laws_szFieldS_no A0 l0.length c0 l0 1048576 _ (hS0.mono mFld (ex_trans hK0 (by go_grown))) hn0 hl0 (by omega) (by omega) (by omega)).mono ?_; rintro e w1 ⟨rfl, hb1⟩
      have hx1 : Below W.heap.size W w1 := ex_trans (by go_grown) hb1
      replace hK0 := ex_trans hK0 hx1
      go_wp2_with fail
      go_returns
      exact ⟨rfl, hK0⟩
  · have hd1 : (1048576 : Int) < (s1.size : Int) := by omega
    go_enter Try.func4, Try.ntmps4
    go_wp2_with fail
    go_returns
    exact ⟨rfl, by go_grown⟩
theorem core_FnExactRemoveField {H : Type} (enc : TypeId × Value → H) (W : World) (base : Nat) (args : Array Value) (ds : List (DataW H)) (p : List MemPlace)
    (hA : DataW.TrodAll enc Try.prog W 0 (fun _ => true) true Try.f4.params.toList args.toList ds p)
    (hval : ∀ (j : Nat) t v, Try.f4.params[j]? = some t → args[j]? = some v → Value.okWide Try.prog W .any base t v) :
    Calls Try.prog 4 args W fun e W' => e = .returned (.bool true) ∧ Below W.heap.size W W' := by
  rw [Try.params4] at hA hval
  obtain ⟨u0, vs0, d0, ds0, p0, q0, hargs, rfl, rfl, h0, r0⟩ := trodAll_cons hA
  obtain ⟨u1, vs1, d1, ds1, p1, q1, rfl, rfl, rfl, h1, r1⟩ := trodAll_cons r0
  obtain ⟨rfl, rfl, rfl⟩ := trodAll_nil r1
  obtain rfl : args = #[u0, u1] := by cases args; simp_all
  obtain ⟨ad0, ln0, cp0, rfl⟩ := okWide_slice Try.underlying38 (hval 0 38 u0 rfl rfl)
  obtain ⟨fu0, g0⟩ := h0
  obtain ⟨A0, n0, c0, l0, e0, hn0, _, hS0, hl0⟩ := opens_slice Try.underlying38 (by omega) Op_Field g0
  simp only [Value.cells, List.cons.injEq, Value.slice.injEq, and_true] at e0
  obtain ⟨rfl, rfl, rfl⟩ := e0
  obtain ⟨s1, rfl, _, _, hs1⟩ := open_string Try.underlying9 (hval 1 9 u1 rfl rfl) h1
  exact walk_FnExactRemoveField W ad0 ln0 cp0 l0 hS0 hn0 hl0 s1 hs1
set_option maxRecDepth 100000 in
theorem lifted_FnExactRemoveField (os : Os) (started : os.Started) (H : Type) (enc : TypeId × Value → H) :
    ReturnsInHanded {} Try.checked os 4 .any (Rows.fnExactRemoveFieldSpec.pre6 enc Try.prog Try.f4 Rows.fnExactRemoveFieldRow.domain false) (Rows.fnExactRemoveFieldSpec.post enc Try.prog Try.f4 false true false false) :=
  law_lifted (C := Try.checked) (tb := 4) (n := 2) own started (by kernel_rfl) Try.func4 rfl (by kernel_rfl) Try.underlying4 (by kernel_rfl)
    (fun ds h => by match ds, h with | [_, _], _ => rfl) laidOut' (by kernel_rfl)
    (ChangeSpec.witness6 (enc := enc) (C := Try.checked) false ⟨#[], #[.slice none 0 0, .string ByteArray.empty], []⟩ 8 (by kernel_rfl) (by kernel_rfl) (by kernel_rfl) (by kernel_rfl))
    (fun W base args ds p hA hval => core_FnExactRemoveField enc W base args ds p hA hval)
theorem holds_FnExactRemoveField : Rows.FnExactRemoveFieldSaid :=
  OpenClaim.holds_of_wide 4 Try.f4 rfl rfl rfl rfl rfl rfl rfl ⟨rfl, rfl, rfl, rfl, rfl⟩ rfl rfl rfl rfl rfl (by kernel_rfl) Try.func4 (by kernel_rfl)
    (of_decide_eq_true (by kernel_rfl)) (by unfold Func.isWrapper; first | (rw [if_pos (by decide +kernel)]; kernel_rfl) | (rw [if_neg (by decide +kernel)]; exact ⟨rfl, rfl⟩))
    (fun os started H enc _ => lifted_FnExactRemoveField os started H enc)
end Go.Proofs.Ytaljpnfohpcgpaa
