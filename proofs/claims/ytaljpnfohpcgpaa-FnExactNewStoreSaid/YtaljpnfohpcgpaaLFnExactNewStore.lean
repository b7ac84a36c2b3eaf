/-
  FnExactNewStore RETURNS true AND LEAVES ITS ARGUMENTS AS THEY WERE, FOR EVERY INPUT THAT THE STATEMENT SPEAKS OF. No condition.
-/
import Derived.WalkKit
import Derived.ProofKit
import Derived.OpenShut
import Derived.Handy
import Derived.Lib.Hide
import Derived.Deep.QuietTactic
import Derived.BigQuiet
import Derived.Deep.RegionHeld3
import Derived.Test.YtaljpnfohpcgpaaLib
import Derived.Test.YtaljpnfohpcgpaaOp
import Derived.Test.YtaljpnfohpcgpaaC1
import Derived.Test.YtaljpnfohpcgpaaC2
import Derived.Test.YtaljpnfohpcgpaaOwn
import Derived.Test.YtaljpnfohpcgpaaRow
import Derived.Test.YtaljpnfohpcgpaaHld
import Derived.Test.YtaljpnfohpcgpaaT1
import Derived.Test.YtaljpnfohpcgpaaT6
import Derived.Test.YtaljpnfohpcgpaaSz
import Derived.Test.YtaljpnfohpcgpaaM0
import Derived.Test.YtaljpnfohpcgpaaM1
import Derived.Test.YtaljpnfohpcgpaaD1
import Derived.Test.YtaljpnfohpcgpaaT4
import Derived.Test.YtaljpnfohpcgpaaC3
import Derived.Test.YtaljpnfohpcgpaaD3
import Derived.Test.YtaljpnfohpcgpaaD4
import Derived.Test.YtaljpnfohpcgpaaD5
import Derived.Test.YtaljpnfohpcgpaaT2
import Derived.Test.YtaljpnfohpcgpaaT3
import Derived.Test.YtaljpnfohpcgpaaM2
import Derived.Test.YtaljpnfohpcgpaaRows
namespace Go.Proofs.Ytaljpnfohpcgpaa
open Go.RowKit Go.ChangeShapes Go.WideShapes Go.ChangeAt Go.ChangeMaps
set_option linter.unusedVariables false
set_option maxRecDepth 100000
set_option maxHeartbeats 16000000 in
theorem walk_FnExactNewStore (W : World) (A0 : Option Addr) (n0 c0 : Nat) (l0 : List Fld) (hS0 : Sl 2 RFld W A0 n0 l0) (hn0 : n0 ≤ maxLen) (hl0 : ∀ y ∈ l0, Fld.ok maxLen y) : Calls Try.prog 8 #[.slice A0 n0 c0] W fun e w' => e = .returned (.bool true) ∧ Below W.heap.size W w' := by
  obtain rfl : l0.length = n0 := hS0.len
  have nn0 := szS_nn Fld.sz_nn l0
  by_cases hc0 : szS Fld.sz l0 ≤ 1048576
  · obtain ⟨hm0, hk0⟩ := flds_okB (show szS Fld.sz l0 ≤ 1048576 by omega)
    have g0 : 0 ≤ 1048576 - szS Fld.sz l0 := by omega
    obtain ⟨r0, er0⟩ : ∃ r, r = newSto l0 := ⟨_, rfl⟩
    have hln0 : r0.schema.length ≤ 1073741824 := by rw [er0]; show l0.length ≤ _; omega
    have hlm0 : r0.files.length ≤ 1073741824 := by rw [er0]; exact Nat.zero_le _
    have hok0 : r0.ok 1073741824 := by rw [er0]; exact ⟨by show l0.length ≤ _; omega, hk0, Nat.zero_le _, fun f hf => by cases hf⟩
    have hcr0 : (r0.files.map (·.attrs.length)).sum ≤ 1073741824 := by rw [er0]; exact Nat.zero_le _
    have HE0 := Lib.hid er0
    clear er0
    have hK0 := Below.refl W.heap.size W
    go_enter Try.func8, Try.ntmps8
    go_wp2_with fail
    refine (laws_szFieldS_ok A0 l0.length c0 l0 1048576 _ (hS0.mono mFld (ex_trans hK0 (by go_grown))) hn0 hl0 (by omega) (by omega) (by omega)).mono ?_; rintro e w1 ⟨rfl, hb1⟩
    have hx1 : Below W.heap.size W w1 := ex_trans (by go_grown) hb1
    replace hK0 := ex_trans hK0 hx1
    go_wp2_with fail
    refine (laws_toFieldS A0 l0.length c0 l0 _ (hS0.mono mFld (ex_trans hK0 (by go_grown))) (by omega)).mono ?_; rintro e w2 hN2
    obtain ⟨A'2, c'2, bs2, rfl, hcc2, hW2, hF2, hb2⟩ := hN2.out
    have hL2 := Lib.hid (hW2.lt lFld)
    have hR2 := hW2.sl (R := RFld) (fun h => h.1)
    have hx2 : Below w1.heap.size w1 w2 := ex_trans (by go_grown) hb2
    replace hK0 := ex_trans hK0 hx2
    have hK2 := Below.refl w2.heap.size w2
    go_wp2_with fail
    refine (spec_NewStore A'2 l0.length c'2 l0 _ (hR2.mono mFld (ex_trans hK2 (by go_grown))) (by omega)).mono ?_; rintro e w3 hN3
    rw [← HE0.out] at hN3
    obtain ⟨A103, c103, B103, d103, rfl, hR3, hQ3, hb3⟩ := hN3
    have hx3 : Below w2.heap.size w2 w3 := ex_trans (by go_grown) hb3
    replace hK0 := ex_trans hK0 hx3
    replace hK2 := ex_trans hK2 hx3
    have hK3 := Below.refl w3.heap.size w3
    go_wp2_with fail
    refine (laws_toFieldS A0 l0.length c0 l0 _ (hS0.mono mFld (ex_trans hK0 (by go_grown))) (by omega)).mono ?_; rintro e w4 hN4
    obtain ⟨A'4, c'4, bs4, rfl, hcc4, hW4, hF4, hb4⟩ := hN4.out
    have hL4 := Lib.hid (hW4.lt lFld)
    have hR4 := hW4.sl (R := RFld) (fun h => h.1)
    have hG4_0 : Hid (∀ b ∈ bs4, W.heap.size ≤ b) := Lib.hid (fun b hb => by have h1 := hF4.2 b hb; have h2 := hK0.size; (try simp at h1); omega)
    have hG4_2 : Hid (∀ b ∈ bs4, w2.heap.size ≤ b) := Lib.hid (fun b hb => by have h1 := hF4.2 b hb; have h2 := hK2.size; (try simp at h1); omega)
    have hG4_3 : Hid (∀ b ∈ bs4, w3.heap.size ≤ b) := Lib.hid (fun b hb => by have h1 := hF4.2 b hb; have h2 := hK3.size; (try simp at h1); omega)
    have hN4_0 : Hid (w3.heap.size ∉ bs4) := Lib.hid (fun h => by have h1 := hF4.2 _ h; (try simp at h1); omega)
    have hx4 : Below w3.heap.size w3 w4 := ex_trans (by go_grown) hb4
    replace hK0 := ex_trans hK0 hx4
    replace hK2 := ex_trans hK2 hx4
    replace hK3 := ex_trans hK3 hx4
    have x0_0 : w4.cell? ⟨w3.heap.size, 0, none⟩ = some (.slice A103 r0.schema.length c103) := keep_cell hb4 (by go_simp)
    have x0_1 : w4.cell? ⟨w3.heap.size, 1, none⟩ = some (.slice B103 r0.files.length d103) := keep_cell hb4 (by go_simp)
    have x0_2 : w4.cell? ⟨w3.heap.size, 2, none⟩ = some (.int .i64 r0.next) := keep_cell hb4 (by go_simp)
    have z0 : w3.heap.size < w4.heap.size := keep_lt hb4 (by simp <;> omega)
    have hK4 := Below.refl w4.heap.size w4
    go_wp2_with fail
    refine (impl_NewStore A'4 l0.length c'4 l0 _ (hR4.mono mFld (ex_trans hK4 (by go_grown))) (by omega)).mono ?_; rintro e w5 hN5
    rw [← HE0.out] at hN5
    obtain ⟨A105, c105, B105, d105, bs5, bt5, rfl, hW5, hX5, hF5, hb5⟩ := hN5
    have hL5 : Hid (∀ b ∈ bs5 ++ bt5, b < w5.heap.size) := Lib.hid (fun b hb => (List.mem_append.1 hb).elim (hW5.lt lFld b) (hX5.lt (lFil _) b))
    have hR5 := hW5.sl (R := RFld) (fun h => h.1)
    have hQ5 := hX5.sl (R := RFil) (fun h => h.r)
    have hG5_0 : Hid (∀ b ∈ (bs5 ++ bt5), W.heap.size ≤ b) := Lib.hid (fun b hb => by have h1 := hF5.2 b hb; have h2 := hK0.size; (try simp at h1); omega)
    have hG5_2 : Hid (∀ b ∈ (bs5 ++ bt5), w2.heap.size ≤ b) := Lib.hid (fun b hb => by have h1 := hF5.2 b hb; have h2 := hK2.size; (try simp at h1); omega)
    have hG5_3 : Hid (∀ b ∈ (bs5 ++ bt5), w3.heap.size ≤ b) := Lib.hid (fun b hb => by have h1 := hF5.2 b hb; have h2 := hK3.size; (try simp at h1); omega)
    have hG5_4 : Hid (∀ b ∈ (bs5 ++ bt5), w4.heap.size ≤ b) := Lib.hid (fun b hb => by have h1 := hF5.2 b hb; have h2 := hK4.size; (try simp at h1); omega)
    have hD5_4 : Hid (∀ b ∈ (bs5 ++ bt5), b ∉ bs4) := Lib.hid (fun b hb hb2 => by have h1 := hF5.2 b hb; have h2 := hL4.out b hb2; have h3 := hK4.size; (try simp at h1); omega)
    have hN5_0 : Hid (w3.heap.size ∉ (bs5 ++ bt5)) := Lib.hid (fun h => by have h1 := hF5.2 _ h; have h2 := z0; (try simp at h1); omega)
    have hx5 : Below w4.heap.size w4 w5 := ex_trans (by go_grown) hb5
    replace hK0 := ex_trans hK0 hx5
    replace hK2 := ex_trans hK2 hx5
    replace hK3 := ex_trans hK3 hx5
    replace hK4 := ex_trans hK4 hx5
    replace x0_0 := keep_cell hx5 x0_0
    replace x0_1 := keep_cell hx5 x0_1
    replace x0_2 := keep_cell hx5 x0_2
    replace z0 := keep_lt hx5 z0
    have hK5 := Below.refl w5.heap.size w5
    go_wp2_with fail
    refine (laws_eqStore_same r0 A105 r0.schema.length c105 B105 r0.files.length d105 A103 r0.schema.length c103 B103 r0.files.length d103 _ (hR5.mono mFld (ex_trans hK5 (by go_grown))) (hQ5.mono mFil (ex_trans hK5 (by go_grown))) (hR3.mono mFld (ex_trans hK3 (by go_grown))) (hQ3.mono mFil (ex_trans hK3 (by go_grown))) hok0).mono ?_; rintro e w6 ⟨rfl, hb6⟩
    have hx6 : Below w5.heap.size w5 w6 := ex_trans (by go_grown) hb6
    have hN4_1 : Hid (w5.heap.size ∉ bs4) := Lib.hid (fun h => by have h2 := hL4.out _ h; have h3 := hK4.size; omega)
    have hN5_1 : Hid (w5.heap.size ∉ (bs5 ++ bt5)) := Lib.hid (fun h => by have h2 := hL5.out _ h; have h3 := hK5.size; omega)
    replace hK0 := ex_trans hK0 hx6
    replace hK2 := ex_trans hK2 hx6
    replace hK3 := ex_trans hK3 hx6
    replace hK4 := ex_trans hK4 hx6
    replace hK5 := ex_trans hK5 hx6
    replace x0_0 := keep_cell hx6 x0_0
    replace x0_1 := keep_cell hx6 x0_1
    replace x0_2 := keep_cell hx6 x0_2
    replace z0 := keep_lt hx6 z0
    have x1_0 : w6.cell? ⟨w5.heap.size, 0, none⟩ = some (.slice A105 r0.schema.length c105) := keep_cell hb6 (by go_simp)
    have x1_1 : w6.cell? ⟨w5.heap.size, 1, none⟩ = some (.slice B105 r0.files.length d105) := keep_cell hb6 (by go_simp)
    have x1_2 : w6.cell? ⟨w5.heap.size, 2, none⟩ = some (.int .i64 r0.next) := keep_cell hb6 (by go_simp)
    have z1 : w5.heap.size < w6.heap.size := keep_lt hb6 (by simp <;> omega)
    go_wp2_with fail
    refine (laws_toFieldS A0 l0.length c0 l0 _ (hS0.mono mFld (ex_trans hK0 (by go_grown))) (by omega)).mono ?_; rintro e w7 hN7
    obtain ⟨A'7, c'7, bs7, rfl, hcc7, hW7, hF7, hb7⟩ := hN7.out
    have hL7 := Lib.hid (hW7.lt lFld)
    have hR7 := hW7.sl (R := RFld) (fun h => h.1)
    have hx7 : Below w6.heap.size w6 w7 := ex_trans (by go_grown) hb7
    replace hK0 := ex_trans hK0 hx7
    replace hK2 := ex_trans hK2 hx7
    replace hK3 := ex_trans hK3 hx7
    replace hK4 := ex_trans hK4 hx7
    replace hK5 := ex_trans hK5 hx7
    replace x0_0 := keep_cell hx7 x0_0
    replace x0_1 := keep_cell hx7 x0_1
    replace x0_2 := keep_cell hx7 x0_2
    replace z0 := keep_lt hx7 z0
    replace x1_0 := keep_cell hx7 x1_0
    replace x1_1 := keep_cell hx7 x1_1
    replace x1_2 := keep_cell hx7 x1_2
    replace z1 := keep_lt hx7 z1
    have hK7 := Below.refl w7.heap.size w7
    go_wp2_with fail
    refine (laws_eqFieldS_same A'4 A'7 l0.length c'4 l0.length c'7 l0 _ (hR4.mono mFld (ex_trans hK4 (by go_grown))) (hR7.mono mFld (ex_trans hK7 (by go_grown))) (by omega) (by omega)).mono ?_; rintro e w8 ⟨rfl, hb8⟩
    have hx8 : Below w7.heap.size w7 w8 := ex_trans (by go_grown) hb8
    replace hK0 := ex_trans hK0 hx8
    replace hK2 := ex_trans hK2 hx8
    replace hK3 := ex_trans hK3 hx8
    replace hK4 := ex_trans hK4 hx8
    replace hK5 := ex_trans hK5 hx8
    replace hK7 := ex_trans hK7 hx8
    replace x0_0 := keep_cell hx8 x0_0
    replace x0_1 := keep_cell hx8 x0_1
    replace x0_2 := keep_cell hx8 x0_2
    replace z0 := keep_lt hx8 z0
    replace x1_0 := keep_cell hx8 x1_0
    replace x1_1 := keep_cell hx8 x1_1
    replace x1_2 := keep_cell hx8 x1_2
    replace z1 := keep_lt hx8 z1
    go_wp2_with fail
    refine (laws_markFieldS A'4 l0.length c'4 l0 _ 1 _ (hW4.below lFld (ex_trans hK4 (by go_grown))) hF4.1 (by omega) (by omega) (by omega)).mono ?_; rintro e w9 ⟨rfl, hW4', hc9⟩
    replace hW4 := hW4'
    replace hK0 := Below.mark hK0 hc9 hK0.size hG4_0.out
    replace hK2 := Below.mark hK2 hc9 hK2.size hG4_2.out
    replace hK3 := Below.mark hK3 hc9 hK3.size hG4_3.out
    replace x0_0 := hc9.cell x0_0 hN4_0.out
    replace x0_1 := hc9.cell x0_1 hN4_0.out
    replace x0_2 := hc9.cell x0_2 hN4_0.out
    replace z0 := Nat.lt_of_lt_of_le z0 hc9.size
    replace x1_0 := hc9.cell x1_0 hN4_1.out
    replace x1_1 := hc9.cell x1_1 hN4_1.out
    replace x1_2 := hc9.cell x1_2 hN4_1.out
    replace z1 := Nat.lt_of_lt_of_le z1 hc9.size
    replace hW5 := (hW5.below lFld hK5).loc lFld (fun b hb => hc9.block b (Nat.lt_of_lt_of_le (hL5.out b (List.mem_append_left _ hb)) hK5.size) (hD5_4.out b (List.mem_append_left _ hb)))
    replace hX5 := (hX5.below (lFil _) hK5).loc (lFil _) (fun b hb => hc9.block b (Nat.lt_of_lt_of_le (hL5.out b (List.mem_append_right _ hb)) hK5.size) (hD5_4.out b (List.mem_append_right _ hb)))
    replace hL5 : Hid (∀ b ∈ (bs5 ++ bt5), b < w9.heap.size) := Lib.hid (fun b hb => Nat.lt_of_lt_of_le (hL5.out b hb) (Nat.le_trans hK5.size hc9.size))
    have hHR9_hW5 := hW5.sl (R := RFld) (fun h => h.1)
    have hHR9_hX5 := hX5.sl (R := RFil) (fun h => h.r)
    have hK9 := Below.refl w9.heap.size w9
    -- marked
    have hMR9_hW4 := hW4.sl (R := RFld) (fun h => h.1)
    go_wp2_with fail
    refine (laws_eqStore_same r0 A105 r0.schema.length c105 B105 r0.files.length d105 A103 r0.schema.length c103 B103 r0.files.length d103 _ (hHR9_hW5.mono mFld (ex_trans hK9 (by go_grown))) (hHR9_hX5.mono mFil (ex_trans hK9 (by go_grown))) (hR3.mono mFld (ex_trans hK3 (by go_grown))) (hQ3.mono mFil (ex_trans hK3 (by go_grown))) hok0).mono ?_; rintro e w10 ⟨rfl, hb10⟩
    have hx10 : Below w9.heap.size w9 w10 := ex_trans (by go_grown) hb10
    replace hK0 := ex_trans hK0 hx10
    replace hK2 := ex_trans hK2 hx10
    replace hK3 := ex_trans hK3 hx10
    replace hK9 := ex_trans hK9 hx10
    replace x0_0 := keep_cell hx10 x0_0
    replace x0_1 := keep_cell hx10 x0_1
    replace x0_2 := keep_cell hx10 x0_2
    replace z0 := keep_lt hx10 z0
    replace x1_0 := keep_cell hx10 x1_0
    replace x1_1 := keep_cell hx10 x1_1
    replace x1_2 := keep_cell hx10 x1_2
    replace z1 := keep_lt hx10 z1
    go_wp2_with fail
    refine (laws_markStore r0 A105 r0.schema.length c105 B105 r0.files.length d105 _ _ 1 _ (hW5.below lFld (ex_trans hK9 (by go_grown))) (hX5.below (lFil _) (ex_trans hK9 (by go_grown))) hF5.1 (by omega) (by omega) hcr0 (by omega) (by omega)).mono ?_; rintro e w11 ⟨rfl, hW5', hX5', hc11⟩
    replace hW5 := hW5'
    replace hX5 := hX5'
    replace hK0 := Below.mark hK0 hc11 hK0.size hG5_0.out
    replace hK2 := Below.mark hK2 hc11 hK2.size hG5_2.out
    replace hK3 := Below.mark hK3 hc11 hK3.size hG5_3.out
    replace x0_0 := hc11.cell x0_0 hN5_0.out
    replace x0_1 := hc11.cell x0_1 hN5_0.out
    replace x0_2 := hc11.cell x0_2 hN5_0.out
    replace z0 := Nat.lt_of_lt_of_le z0 hc11.size
    replace x1_0 := hc11.cell x1_0 hN5_1.out
    replace x1_1 := hc11.cell x1_1 hN5_1.out
    replace x1_2 := hc11.cell x1_2 hN5_1.out
    replace z1 := Nat.lt_of_lt_of_le z1 hc11.size
    have hK11 := Below.refl w11.heap.size w11
    -- marked
    have hMR11_hW5 := hW5.sl (R := RFld) (fun h => h.1)
    have hMR11_hX5 := hX5.sl (R := RFil) (fun h => h.r)
    go_wp2_with fail
    refine (laws_heldStore r0 A105 r0.schema.length c105 B105 r0.files.length d105 (r0.files.map (·.cnt)) 1 _ (hMR11_hW5.mono mFld (ex_trans hK11 (by go_grown))) (hMR11_hX5.mono mFil (ex_trans hK11 (by go_grown))) (by omega) (by omega) hcr0 (by omega) (by omega)).mono ?_; rintro e w12 ⟨rfl, hb12⟩
    have hx12 : Below w11.heap.size w11 w12 := ex_trans (by go_grown) hb12
    replace hK0 := ex_trans hK0 hx12
    replace hK2 := ex_trans hK2 hx12
    replace hK3 := ex_trans hK3 hx12
    replace hK11 := ex_trans hK11 hx12
    replace x0_0 := keep_cell hx12 x0_0
    replace x0_1 := keep_cell hx12 x0_1
    replace x0_2 := keep_cell hx12 x0_2
    replace z0 := keep_lt hx12 z0
    replace x1_0 := keep_cell hx12 x1_0
    replace x1_1 := keep_cell hx12 x1_1
    replace x1_2 := keep_cell hx12 x1_2
    replace z1 := keep_lt hx12 z1
    go_wp2_with fail
    refine (laws_toFieldS A0 l0.length c0 l0 _ (hS0.mono mFld (ex_trans hK0 (by go_grown))) (by omega)).mono ?_; rintro e w13 hN13
    obtain ⟨A'13, c'13, bs13, rfl, hcc13, hW13, hF13, hb13⟩ := hN13.out
    have hL13 := Lib.hid (hW13.lt lFld)
    have hR13 := hW13.sl (R := RFld) (fun h => h.1)
    have hx13 : Below w12.heap.size w12 w13 := ex_trans (by go_grown) hb13
    replace hK0 := ex_trans hK0 hx13
    replace hK2 := ex_trans hK2 hx13
    replace hK3 := ex_trans hK3 hx13
    replace hK11 := ex_trans hK11 hx13
    replace x0_0 := keep_cell hx13 x0_0
    replace x0_1 := keep_cell hx13 x0_1
    replace x0_2 := keep_cell hx13 x0_2
    replace z0 := keep_lt hx13 z0
    replace x1_0 := keep_cell hx13 x1_0
    replace x1_1 := keep_cell hx13 x1_1
    replace x1_2 := keep_cell hx13 x1_2
    replace z1 := keep_lt hx13 z1
    have hK13 := Below.refl w13.heap.size w13
    go_wp2_with fail
    refine (impl_NewStore A'13 l0.length c'13 l0 _ (hR13.mono mFld (ex_trans hK13 (by go_grown))) (by omega)).mono ?_; rintro e w14 hN14
    rw [← HE0.out] at hN14
    obtain ⟨A114, c114, B114, d114, bs14, bt14, rfl, hW14, hX14, hF14, hb14⟩ := hN14
    have hL14 : Hid (∀ b ∈ bs14 ++ bt14, b < w14.heap.size) := Lib.hid (fun b hb => (List.mem_append.1 hb).elim (hW14.lt lFld b) (hX14.lt (lFil _) b))
    have hR14 := hW14.sl (R := RFld) (fun h => h.1)
    have hQ14 := hX14.sl (R := RFil) (fun h => h.r)
    have hx14 : Below w13.heap.size w13 w14 := ex_trans (by go_grown) hb14
    replace hK0 := ex_trans hK0 hx14
    replace hK2 := ex_trans hK2 hx14
    replace hK3 := ex_trans hK3 hx14
    replace hK11 := ex_trans hK11 hx14
    replace hK13 := ex_trans hK13 hx14
    replace x0_0 := keep_cell hx14 x0_0
    replace x0_1 := keep_cell hx14 x0_1
    replace x0_2 := keep_cell hx14 x0_2
    replace z0 := keep_lt hx14 z0
    replace x1_0 := keep_cell hx14 x1_0
    replace x1_1 := keep_cell hx14 x1_1
    replace x1_2 := keep_cell hx14 x1_2
    replace z1 := keep_lt hx14 z1
    have hK14 := Below.refl w14.heap.size w14
    go_wp2_with fail
    refine (laws_eqStore_same r0 A114 r0.schema.length c114 B114 r0.files.length d114 A103 r0.schema.length c103 B103 r0.files.length d103 _ (hR14.mono mFld (ex_trans hK14 (by go_grown))) (hQ14.mono mFil (ex_trans hK14 (by go_grown))) (hR3.mono mFld (ex_trans hK3 (by go_grown))) (hQ3.mono mFil (ex_trans hK3 (by go_grown))) hok0).mono ?_; rintro e w15 ⟨rfl, hb15⟩
    have hx15 : Below w14.heap.size w14 w15 := ex_trans (by go_grown) hb15
    replace hK0 := ex_trans hK0 hx15
    replace hK2 := ex_trans hK2 hx15
    replace hK3 := ex_trans hK3 hx15
    replace hK11 := ex_trans hK11 hx15
    replace hK13 := ex_trans hK13 hx15
    replace hK14 := ex_trans hK14 hx15
    replace x0_0 := keep_cell hx15 x0_0
    replace x0_1 := keep_cell hx15 x0_1
    replace x0_2 := keep_cell hx15 x0_2
    replace z0 := keep_lt hx15 z0
    replace x1_0 := keep_cell hx15 x1_0
    replace x1_1 := keep_cell hx15 x1_1
    replace x1_2 := keep_cell hx15 x1_2
    replace z1 := keep_lt hx15 z1
    have x2_0 : w15.cell? ⟨w14.heap.size, 0, none⟩ = some (.slice A114 r0.schema.length c114) := keep_cell hb15 (by go_simp)
    have x2_1 : w15.cell? ⟨w14.heap.size, 1, none⟩ = some (.slice B114 r0.files.length d114) := keep_cell hb15 (by go_simp)
    have x2_2 : w15.cell? ⟨w14.heap.size, 2, none⟩ = some (.int .i64 r0.next) := keep_cell hb15 (by go_simp)
    have z2 : w14.heap.size < w15.heap.size := keep_lt hb15 (by simp <;> omega)
    go_wp2_with fail
    refine (laws_heldStore r0 A105 r0.schema.length c105 B105 r0.files.length d105 (r0.files.map (·.cnt)) 1 _ (hMR11_hW5.mono mFld (ex_trans hK11 (by go_grown))) (hMR11_hX5.mono mFil (ex_trans hK11 (by go_grown))) (by omega) (by omega) hcr0 (by omega) (by omega)).mono ?_; rintro e w16 ⟨rfl, hb16⟩
    have hx16 : Below w15.heap.size w15 w16 := ex_trans (by go_grown) hb16
    replace hK0 := ex_trans hK0 hx16
    replace hK2 := ex_trans hK2 hx16
    replace hK3 := ex_trans hK3 hx16
    replace hK11 := ex_trans hK11 hx16
    replace hK13 := ex_trans hK13 hx16
    replace hK14 := ex_trans hK14 hx16
    replace x0_0 := keep_cell hx16 x0_0
    replace x0_1 := keep_cell hx16 x0_1
    replace x0_2 := keep_cell hx16 x0_2
    replace z0 := keep_lt hx16 z0
    replace x1_0 := keep_cell hx16 x1_0
    replace x1_1 := keep_cell hx16 x1_1
    replace x1_2 := keep_cell hx16 x1_2
    replace z1 := keep_lt hx16 z1
    replace x2_0 := keep_cell hx16 x2_0
    replace x2_1 := keep_cell hx16 x2_1
    replace x2_2 := keep_cell hx16 x2_2
    replace z2 := keep_lt hx16 z2
    go_wp2_with fail
    go_returns
    exact ⟨rfl, hK0⟩
  · have g0 : (-1 : Int) < 0 := by omega
    have hK0 := Below.refl W.heap.size W
    go_enter Try.func8, Try.ntmps8
    go_wp2_with fail
    refine (laws_szFieldS_no A0 l0.length c0 l0 1048576 _ (hS0.mono mFld (ex_trans hK0 (by go_grown))) hn0 hl0 (by omega) (by omega) (by omega)).mono ?_; rintro e w1 ⟨rfl, hb1⟩
    have hx1 : Below W.heap.size W w1 := ex_trans (by go_grown) hb1
    replace hK0 := ex_trans hK0 hx1
    go_wp2_with fail
    go_returns
    exact ⟨rfl, hK0⟩
theorem core_FnExactNewStore {H : Type} (enc : TypeId × Value → H) (W : World) (base : Nat) (args : Array Value) (ds : List (DataW H)) (p : List MemPlace)
    (hA : DataW.TrodAll enc Try.prog W 0 (fun _ => true) true Try.f8.params.toList args.toList ds p)
    (hval : ∀ (j : Nat) t v, Try.f8.params[j]? = some t → args[j]? = some v → Value.okWide Try.prog W .any base t v) :
    Calls Try.prog 8 args W fun e W' => e = .returned (.bool true) ∧ Below W.heap.size W W' := by
  rw [Try.params8] at hA hval
  obtain ⟨u0, vs0, d0, ds0, p0, q0, hargs, rfl, rfl, h0, r0⟩ := trodAll_cons hA
  obtain ⟨rfl, rfl, rfl⟩ := trodAll_nil r0
  obtain rfl : args = #[u0] := by cases args; simp_all
  obtain ⟨ad0, ln0, cp0, rfl⟩ := okWide_slice Try.underlying38 (hval 0 38 u0 rfl rfl)
  obtain ⟨fu0, g0⟩ := h0
  obtain ⟨A0, n0, c0, l0, e0, hn0, _, hS0, hl0⟩ := opens_slice Try.underlying38 (by omega) Op_Field g0
  simp only [Value.cells, List.cons.injEq, Value.slice.injEq, and_true] at e0
  obtain ⟨rfl, rfl, rfl⟩ := e0
  exact walk_FnExactNewStore W ad0 ln0 cp0 l0 hS0 hn0 hl0
set_option maxRecDepth 100000 in
theorem lifted_FnExactNewStore (os : Os) (started : os.Started) (H : Type) (enc : TypeId × Value → H) :
    ReturnsInHanded {} Try.checked os 8 .any (Rows.fnExactNewStoreSpec.pre6 enc Try.prog Try.f8 Rows.fnExactNewStoreRow.domain false) (Rows.fnExactNewStoreSpec.post enc Try.prog Try.f8 false true false false) :=
  law_lifted (C := Try.checked) (tb := 4) (n := 1) own started (by kernel_rfl) Try.func8 rfl (by kernel_rfl) Try.underlying4 (by kernel_rfl)
    (fun ds h => by match ds, h with | [_], _ => rfl) laidOut' (by kernel_rfl)
    (ChangeSpec.witness6 (enc := enc) (C := Try.checked) false ⟨#[], #[.slice none 0 0], []⟩ 8 (by kernel_rfl) (by kernel_rfl) (by kernel_rfl) (by kernel_rfl))
    (fun W base args ds p hA hval => core_FnExactNewStore enc W base args ds p hA hval)
theorem holds_FnExactNewStore : Rows.FnExactNewStoreSaid :=
  OpenClaim.holds_of_wide 8 Try.f8 rfl rfl rfl rfl rfl rfl rfl ⟨rfl, rfl, rfl, rfl, rfl⟩ rfl rfl rfl rfl rfl (by kernel_rfl) Try.func8 (by kernel_rfl)
    (of_decide_eq_true (by kernel_rfl)) (by unfold Func.isWrapper; first | (rw [if_pos (by decide +kernel)]; kernel_rfl) | (rw [if_neg (by decide +kernel)]; exact ⟨rfl, rfl⟩))
    (fun os started H enc _ => lifted_FnExactNewStore os started H enc)
end Go.Proofs.Ytaljpnfohpcgpaa
