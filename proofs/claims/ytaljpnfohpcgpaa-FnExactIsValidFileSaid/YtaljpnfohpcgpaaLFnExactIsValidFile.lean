/-
  FnExactIsValidFile RETURNS true AND LEAVES ITS ARGUMENTS AS THEY WERE, FOR EVERY INPUT THAT THE STATEMENT SPEAKS OF. No condition.
-/
import Derived.WalkKit
import Derived.ProofKit
import Derived.OpenShut
import Derived.Handy
import Derived.Lib.Hide
import Derived.Deep.QuietTactic
import Derived.BigQuiet
import Derived.Deep.RegionHeld3
import Derived.Test.YtaljpnfohpcgpaaLib
import Derived.Test.YtaljpnfohpcgpaaOp
import Derived.Test.YtaljpnfohpcgpaaC1
import Derived.Test.YtaljpnfohpcgpaaC2
import Derived.Test.YtaljpnfohpcgpaaOwn
import Derived.Test.YtaljpnfohpcgpaaRow
import Derived.Test.YtaljpnfohpcgpaaHld
import Derived.Test.YtaljpnfohpcgpaaT1
import Derived.Test.YtaljpnfohpcgpaaT6
import Derived.Test.YtaljpnfohpcgpaaSz
import Derived.Test.YtaljpnfohpcgpaaM0
import Derived.Test.YtaljpnfohpcgpaaM1
import Derived.Test.YtaljpnfohpcgpaaD1
import Derived.Test.YtaljpnfohpcgpaaT2
import Derived.Test.YtaljpnfohpcgpaaT3
import Derived.Test.YtaljpnfohpcgpaaM2
import Derived.Test.YtaljpnfohpcgpaaC4
import Derived.Test.YtaljpnfohpcgpaaC3
import Derived.Test.YtaljpnfohpcgpaaC5
import Derived.Test.YtaljpnfohpcgpaaC8
import Derived.Test.YtaljpnfohpcgpaaRows
namespace Go.Proofs.Ytaljpnfohpcgpaa
open Go.RowKit Go.ChangeShapes Go.WideShapes Go.ChangeAt Go.ChangeMaps
set_option linter.unusedVariables false
set_option maxRecDepth 100000
set_option maxHeartbeats 16000000 in
theorem walk_FnExactIsValidFile (W : World) (A0 : Option Addr) (n0 c0 : Nat) (l0 : List Fld) (hS0 : Sl 2 RFld W A0 n0 l0) (hn0 : n0 ≤ maxLen) (hl0 : ∀ y ∈ l0, Fld.ok maxLen y) (f1 : Fil) (A1 : Option Addr) (n1 c1 : Nat) (hS1 : Sl 4 RAtr W A1 n1 f1.attrs) (hf1 : f1.ok maxLen) : Calls Try.prog 9 #[.slice A0 n0 c0, .agg #[.int .i64 f1.id, .int .i64 f1.owner, .bool f1.shared, .int .i64 f1.link, .slice A1 n1 c1]] W fun e w' => e = .returned (.bool true) ∧ Below W.heap.size W w' := by
  obtain rfl : l0.length = n0 := hS0.len
  obtain rfl : f1.attrs.length = n1 := hS1.len
  have nn0 := szS_nn Fld.sz_nn l0
  by_cases hc0 : szS Fld.sz l0 ≤ 1048576
  · obtain ⟨hm0, hk0⟩ := flds_okB (show szS Fld.sz l0 ≤ 1048576 by omega)
    have g0 : 0 ≤ 1048576 - szS Fld.sz l0 := by omega
    have nn1 := Fil.sz_nn f1
    by_cases hc1 : f1.sz ≤ 1048576 - szS Fld.sz l0
    · obtain ⟨hk1, hm1⟩ := Fil.okB (show f1.sz ≤ 1048576 by omega)
      have g1 : 0 ≤ 1048576 - szS Fld.sz l0 - f1.sz := by omega
      have hK0 := Below.refl W.heap.size W
      go_enter Try.func9, Try.ntmps9
      go_wp2_with fail
      refine (laws_szFieldS_ok A0 l0.length c0 l0 1048576 _ (hS0.mono mFld (ex_trans hK0 (by go_grown))) hn0 hl0 (by omega) (by omega) (by omega)).mono ?_; rintro e w1 ⟨rfl, hb1⟩
      have hx1 : Below W.heap.size W w1 := ex_trans (by go_grown) hb1
      replace hK0 := ex_trans hK0 hx1
      have x0_0 : w1.cell? ⟨W.heap.size, 0, none⟩ = some (.int .i64 f1.id) := keep_cell hb1 (by go_simp)
      have x0_1 : w1.cell? ⟨W.heap.size, 1, none⟩ = some (.int .i64 f1.owner) := keep_cell hb1 (by go_simp)
      have x0_2 : w1.cell? ⟨W.heap.size, 2, none⟩ = some (.bool f1.shared) := keep_cell hb1 (by go_simp)
      have x0_3 : w1.cell? ⟨W.heap.size, 3, none⟩ = some (.int .i64 f1.link) := keep_cell hb1 (by go_simp)
      have x0_4 : w1.cell? ⟨W.heap.size, 4, none⟩ = some (.slice A1 f1.attrs.length c1) := keep_cell hb1 (by go_simp)
      have z0 : W.heap.size < w1.heap.size := keep_lt hb1 (by simp <;> omega)
      go_wp2_with fail
      refine (laws_szFile_ok f1 A1 f1.attrs.length c1 (1048576 - szS Fld.sz l0) _ (hS1.mono mAtr (ex_trans hK0 (by go_grown))) hf1 (by omega) (by omega) (by omega)).mono ?_; rintro e w2 ⟨rfl, hb2⟩
      have hx2 : Below w1.heap.size w1 w2 := ex_trans (by go_grown) hb2
      replace hK0 := ex_trans hK0 hx2
      replace x0_0 := keep_cell hx2 x0_0
      replace x0_1 := keep_cell hx2 x0_1
      replace x0_2 := keep_cell hx2 x0_2
      replace x0_3 := keep_cell hx2 x0_3
      replace x0_4 := keep_cell hx2 x0_4
      replace z0 := keep_lt hx2 z0
      go_wp2_with fail
      refine wp_region_held_drew (S := (fun w' => w'.cell? ⟨W.heap.size, 0, none⟩ = some (.int .i64 f1.id) ∧ w'.cell? ⟨W.heap.size, 1, none⟩ = some (.int .i64 f1.owner) ∧ w'.cell? ⟨W.heap.size, 2, none⟩ = some (.bool f1.shared) ∧ w'.cell? ⟨W.heap.size, 3, none⟩ = some (.int .i64 f1.link) ∧ w'.cell? ⟨W.heap.size, 4, none⟩ = some (.slice A1 f1.attrs.length c1) ∧ W.heap.size < w'.heap.size ∧ Below W.heap.size W w')) (by kernel_rfl) (by (try dsimp only); exact ⟨x0_0, x0_1, x0_2, x0_3, x0_4, z0, (hK0).drew⟩) (fun hHeld => ?_)
      first | (refine held_take 0 rfl (by kernel_rfl) (by kernel_rfl) (by kernel_rfl) (by rfl) (fun _ _ _ h => h) (by assumption) (by intro w hSw; (try dsimp only at hSw); go_simp; first | done | with_reducible rfl) ?_) | (refine held_skip 0 rfl (by kernel_rfl) (by kernel_rfl) (by kernel_rfl) (by rfl) (fun _ _ _ h => h) (by assumption) ?_)
      simp only [Act.put, List.setIfInBounds_toArray, List.set_cons_zero, List.set_cons_succ]
      first | (refine held_take 2 rfl (by kernel_rfl) (by kernel_rfl) (by kernel_rfl) (by rfl) (fun _ _ _ h => h) (by assumption) (by intro w hSw; (try dsimp only at hSw); go_simp; first | done | with_reducible rfl) ?_) | (refine held_skip 2 rfl (by kernel_rfl) (by kernel_rfl) (by kernel_rfl) (by rfl) (fun _ _ _ h => h) (by assumption) ?_)
      simp only [Act.put, List.setIfInBounds_toArray, List.set_cons_zero, List.set_cons_succ]
      refine held_one 1 (by kernel_rfl) rfl (fun K hK => ?_)
      go_simp
      go_at_call 27
      refine (laws_toFieldS A0 l0.length c0 l0 _ (hS0.mono mFld hHeld.2.2.2.2.2.2) (by omega)).mono ?_; rintro e w3 hN3
      obtain ⟨A'3, c'3, bs3, rfl, hcc3, hW3, hF3, hb3⟩ := hN3.out
      have hL3 := Lib.hid (hW3.lt lFld)
      have hR3 := hW3.sl (R := RFld) (fun h => h.1)
      go_wp2_with fail
      refine hK.out _ _ (by (try dsimp only); exact ⟨keep_cell hb3 hHeld.1, keep_cell hb3 hHeld.2.1, keep_cell hb3 hHeld.2.2.1, keep_cell hb3 hHeld.2.2.2.1, keep_cell hb3 hHeld.2.2.2.2.1, keep_lt hb3 hHeld.2.2.2.2.2.1, ex_trans hHeld.2.2.2.2.2.2 hb3⟩) (fun hNew => ?_)
      clear hK K hHeld
      have hHeld := hNew
      clear hNew
      try simp only [Act.put, List.setIfInBounds_toArray, List.set_cons_zero, List.set_cons_succ]
      refine held_one 3 (by kernel_rfl) rfl (fun K hK => ?_)
      go_simp
      go_at_call 34
      refine (laws_toFile f1 A1 f1.attrs.length c1 _ (hS1.mono mAtr hHeld.2.2.2.2.2.2) hk1).mono ?_; rintro e w4 hN4
      obtain ⟨A'4, c'4, bs4, rfl, hcc4, hW4, hF4, hb4⟩ := hN4.out
      have hL4 := Lib.hid (hW4.lt lAtr)
      have hR4 := hW4.sl (R := RAtr) (fun h => h.1)
      go_wp2_with fail
      refine hK.out _ _ (by (try dsimp only); exact ⟨keep_cell hb4 hHeld.1, keep_cell hb4 hHeld.2.1, keep_cell hb4 hHeld.2.2.1, keep_cell hb4 hHeld.2.2.2.1, keep_cell hb4 hHeld.2.2.2.2.1, keep_lt hb4 hHeld.2.2.2.2.2.1, ex_trans hHeld.2.2.2.2.2.2 hb4⟩) (fun hNew => ?_)
      clear hK K hHeld
      have hHeld := hNew
      clear hNew
      try simp only [Act.put, List.setIfInBounds_toArray, List.set_cons_zero, List.set_cons_succ]
      refine held_one 4 (by kernel_rfl) rfl (fun K hK => ?_)
      go_simp
      go_at_call 62
      refine (spec_IsValidFile A'3 l0.length c'3 l0 f1 A'4 f1.attrs.length c'4 _ (hR3.mono mFld (ex_trans (Below.refl _ _) hb4)) (by omega) (hR4.mono mAtr (Below.refl _ _)) hk0 hk1).mono ?_; rintro e w5 ⟨rfl, hb5⟩
      go_wp2_with fail
      refine hK.out _ _ (by (try dsimp only); exact ⟨keep_cell hb5 hHeld.1, keep_cell hb5 hHeld.2.1, keep_cell hb5 hHeld.2.2.1, keep_cell hb5 hHeld.2.2.2.1, keep_cell hb5 hHeld.2.2.2.2.1, keep_lt hb5 hHeld.2.2.2.2.2.1, ex_trans hHeld.2.2.2.2.2.2 hb5⟩) (fun hNew => ?_)
      clear hK K hHeld
      have hHeld := hNew
      clear hNew
      try simp only [Act.put, List.setIfInBounds_toArray, List.set_cons_zero, List.set_cons_succ]
      first | (refine held_take 5 rfl (by kernel_rfl) (by kernel_rfl) (by kernel_rfl) (by rfl) (fun _ _ _ h => h) (by assumption) (by intro w hSw; (try dsimp only at hSw); go_simp; first | done | with_reducible rfl) ?_) | (refine held_skip 5 rfl (by kernel_rfl) (by kernel_rfl) (by kernel_rfl) (by rfl) (fun _ _ _ h => h) (by assumption) ?_)
      simp only [Act.put, List.setIfInBounds_toArray, List.set_cons_zero, List.set_cons_succ]
      refine wpAnyH_done (by kernel_rfl) ?_ _
      obtain ⟨x0_0', x0_1', x0_2', x0_3', x0_4', z0', hK0'⟩ := hHeld
      clear x0_0 x0_1 x0_2 x0_3 x0_4 z0 hK0
      have x0_0 := x0_0'
      clear x0_0'
      have x0_1 := x0_1'
      clear x0_1'
      have x0_2 := x0_2'
      clear x0_2'
      have x0_3 := x0_3'
      clear x0_3'
      have x0_4 := x0_4'
      clear x0_4'
      have z0 := z0'
      clear z0'
      have hK0 := hK0'
      clear hK0'
      have hK3 : Below w3.heap.size w3 w5 := (ex_trans (ex_trans (Below.refl _ _) hb4) hb5)
      have hK4 : Below w4.heap.size w4 w5 := (ex_trans (Below.refl _ _) hb5)
      go_wp2_with fail
      refine (laws_toFieldS A0 l0.length c0 l0 _ (hS0.mono mFld (ex_trans hK0 (by go_grown))) (by omega)).mono ?_; rintro e w6 hN6
      obtain ⟨A'6, c'6, bs6, rfl, hcc6, hW6, hF6, hb6⟩ := hN6.out
      have hL6 := Lib.hid (hW6.lt lFld)
      have hR6 := hW6.sl (R := RFld) (fun h => h.1)
      have hx6 : Below w5.heap.size w5 w6 := ex_trans (by go_grown) hb6
      replace hK0 := ex_trans hK0 hx6
      replace hK3 := ex_trans hK3 hx6
      replace hK4 := ex_trans hK4 hx6
      replace x0_0 := keep_cell hx6 x0_0
      replace x0_1 := keep_cell hx6 x0_1
      replace x0_2 := keep_cell hx6 x0_2
      replace x0_3 := keep_cell hx6 x0_3
      replace x0_4 := keep_cell hx6 x0_4
      replace z0 := keep_lt hx6 z0
      have hK6 := Below.refl w6.heap.size w6
      go_wp2_with fail
      refine (laws_toFile f1 A1 f1.attrs.length c1 _ (hS1.mono mAtr (ex_trans hK0 (by go_grown))) hk1).mono ?_; rintro e w7 hN7
      obtain ⟨A'7, c'7, bs7, rfl, hcc7, hW7, hF7, hb7⟩ := hN7.out
      have hL7 := Lib.hid (hW7.lt lAtr)
      have hR7 := hW7.sl (R := RAtr) (fun h => h.1)
      have hx7 : Below w6.heap.size w6 w7 := ex_trans (by go_grown) hb7
      replace hK0 := ex_trans hK0 hx7
      replace hK3 := ex_trans hK3 hx7
      replace hK4 := ex_trans hK4 hx7
      replace hK6 := ex_trans hK6 hx7
      replace x0_0 := keep_cell hx7 x0_0
      replace x0_1 := keep_cell hx7 x0_1
      replace x0_2 := keep_cell hx7 x0_2
      replace x0_3 := keep_cell hx7 x0_3
      replace x0_4 := keep_cell hx7 x0_4
      replace z0 := keep_lt hx7 z0
      have hK7 := Below.refl w7.heap.size w7
      go_wp2_with fail
      refine (impl_IsValidFile A'6 l0.length c'6 l0 f1 A'7 f1.attrs.length c'7 _ (hR6.mono mFld (ex_trans hK6 (by go_grown))) (by omega) (hR7.mono mAtr (ex_trans hK7 (by go_grown))) hk0 hk1).mono ?_; rintro e w8 ⟨rfl, hb8⟩
      have hx8 : Below w7.heap.size w7 w8 := ex_trans (by go_grown) hb8
      replace hK0 := ex_trans hK0 hx8
      replace hK3 := ex_trans hK3 hx8
      replace hK4 := ex_trans hK4 hx8
      replace hK6 := ex_trans hK6 hx8
      replace hK7 := ex_trans hK7 hx8
      replace x0_0 := keep_cell hx8 x0_0
      replace x0_1 := keep_cell hx8 x0_1
      replace x0_2 := keep_cell hx8 x0_2
      replace x0_3 := keep_cell hx8 x0_3
      replace x0_4 := keep_cell hx8 x0_4
      replace z0 := keep_lt hx8 z0
      have x1_0 : w8.cell? ⟨w7.heap.size, 0, none⟩ = some (.int .i64 f1.id) := keep_cell hb8 (by go_simp)
      have x1_1 : w8.cell? ⟨w7.heap.size, 1, none⟩ = some (.int .i64 f1.owner) := keep_cell hb8 (by go_simp)
      have x1_2 : w8.cell? ⟨w7.heap.size, 2, none⟩ = some (.bool f1.shared) := keep_cell hb8 (by go_simp)
      have x1_3 : w8.cell? ⟨w7.heap.size, 3, none⟩ = some (.int .i64 f1.link) := keep_cell hb8 (by go_simp)
      have x1_4 : w8.cell? ⟨w7.heap.size, 4, none⟩ = some (.slice A'7 f1.attrs.length c'7) := keep_cell hb8 (by go_simp)
      have z1 : w7.heap.size < w8.heap.size := keep_lt hb8 (by simp <;> omega)
      go_wp2_with fail
      refine (laws_toFieldS A0 l0.length c0 l0 _ (hS0.mono mFld (ex_trans hK0 (by go_grown))) (by omega)).mono ?_; rintro e w9 hN9
      obtain ⟨A'9, c'9, bs9, rfl, hcc9, hW9, hF9, hb9⟩ := hN9.out
      have hL9 := Lib.hid (hW9.lt lFld)
      have hR9 := hW9.sl (R := RFld) (fun h => h.1)
      have hx9 : Below w8.heap.size w8 w9 := ex_trans (by go_grown) hb9
      replace hK0 := ex_trans hK0 hx9
      replace hK3 := ex_trans hK3 hx9
      replace hK4 := ex_trans hK4 hx9
      replace hK6 := ex_trans hK6 hx9
      replace hK7 := ex_trans hK7 hx9
      replace x0_0 := keep_cell hx9 x0_0
      replace x0_1 := keep_cell hx9 x0_1
      replace x0_2 := keep_cell hx9 x0_2
      replace x0_3 := keep_cell hx9 x0_3
      replace x0_4 := keep_cell hx9 x0_4
      replace z0 := keep_lt hx9 z0
      replace x1_0 := keep_cell hx9 x1_0
      replace x1_1 := keep_cell hx9 x1_1
      replace x1_2 := keep_cell hx9 x1_2
      replace x1_3 := keep_cell hx9 x1_3
      replace x1_4 := keep_cell hx9 x1_4
      replace z1 := keep_lt hx9 z1
      have hK9 := Below.refl w9.heap.size w9
      go_wp2_with fail
      refine (laws_eqFieldS_same A'6 A'9 l0.length c'6 l0.length c'9 l0 _ (hR6.mono mFld (ex_trans hK6 (by go_grown))) (hR9.mono mFld (ex_trans hK9 (by go_grown))) (by omega) (by omega)).mono ?_; rintro e w10 ⟨rfl, hb10⟩
      have hx10 : Below w9.heap.size w9 w10 := ex_trans (by go_grown) hb10
      replace hK0 := ex_trans hK0 hx10
      replace hK3 := ex_trans hK3 hx10
      replace hK4 := ex_trans hK4 hx10
      replace hK6 := ex_trans hK6 hx10
      replace hK7 := ex_trans hK7 hx10
      replace hK9 := ex_trans hK9 hx10
      replace x0_0 := keep_cell hx10 x0_0
      replace x0_1 := keep_cell hx10 x0_1
      replace x0_2 := keep_cell hx10 x0_2
      replace x0_3 := keep_cell hx10 x0_3
      replace x0_4 := keep_cell hx10 x0_4
      replace z0 := keep_lt hx10 z0
      replace x1_0 := keep_cell hx10 x1_0
      replace x1_1 := keep_cell hx10 x1_1
      replace x1_2 := keep_cell hx10 x1_2
      replace x1_3 := keep_cell hx10 x1_3
      replace x1_4 := keep_cell hx10 x1_4
      replace z1 := keep_lt hx10 z1
      go_wp2_with fail
      refine wp_region_held_drew (S := (fun w' => w'.cell? ⟨W.heap.size, 0, none⟩ = some (.int .i64 f1.id) ∧ w'.cell? ⟨W.heap.size, 1, none⟩ = some (.int .i64 f1.owner) ∧ w'.cell? ⟨W.heap.size, 2, none⟩ = some (.bool f1.shared) ∧ w'.cell? ⟨W.heap.size, 3, none⟩ = some (.int .i64 f1.link) ∧ w'.cell? ⟨W.heap.size, 4, none⟩ = some (.slice A1 f1.attrs.length c1) ∧ W.heap.size < w'.heap.size ∧ w'.cell? ⟨w7.heap.size, 0, none⟩ = some (.int .i64 f1.id) ∧ w'.cell? ⟨w7.heap.size, 1, none⟩ = some (.int .i64 f1.owner) ∧ w'.cell? ⟨w7.heap.size, 2, none⟩ = some (.bool f1.shared) ∧ w'.cell? ⟨w7.heap.size, 3, none⟩ = some (.int .i64 f1.link) ∧ w'.cell? ⟨w7.heap.size, 4, none⟩ = some (.slice A'7 f1.attrs.length c'7) ∧ w7.heap.size < w'.heap.size ∧ Below W.heap.size W w' ∧ Below w3.heap.size w3 w' ∧ Below w4.heap.size w4 w' ∧ Below w6.heap.size w6 w' ∧ Below w7.heap.size w7 w' ∧ Below w9.heap.size w9 w')) (by kernel_rfl) (by (try dsimp only); exact ⟨x0_0, x0_1, x0_2, x0_3, x0_4, z0, x1_0, x1_1, x1_2, x1_3, x1_4, z1, (hK0).drew, (hK3).drew, (hK4).drew, (hK6).drew, (hK7).drew, (hK9).drew⟩) (fun hHeld => ?_)
      first | (refine held_take 0 rfl (by kernel_rfl) (by kernel_rfl) (by kernel_rfl) (by rfl) (fun _ _ _ h => h) (by assumption) (by intro w hSw; (try dsimp only at hSw); go_simp; first | done | with_reducible rfl) ?_) | (refine held_skip 0 rfl (by kernel_rfl) (by kernel_rfl) (by kernel_rfl) (by rfl) (fun _ _ _ h => h) (by assumption) ?_)
      simp only [Act.put, List.setIfInBounds_toArray, List.set_cons_zero, List.set_cons_succ]
      first | (refine held_take 1 rfl (by kernel_rfl) (by kernel_rfl) (by kernel_rfl) (by rfl) (fun _ _ _ h => h) (by assumption) (by intro w hSw; (try dsimp only at hSw); go_simp; first | done | with_reducible rfl) ?_) | (refine held_skip 1 rfl (by kernel_rfl) (by kernel_rfl) (by kernel_rfl) (by rfl) (fun _ _ _ h => h) (by assumption) ?_)
      simp only [Act.put, List.setIfInBounds_toArray, List.set_cons_zero, List.set_cons_succ]
      refine held_one 2 (by kernel_rfl) rfl (fun K hK => ?_)
      go_simp
      go_at_call 34
      refine (laws_toFile f1 A1 f1.attrs.length c1 _ (hS1.mono mAtr hHeld.2.2.2.2.2.2.2.2.2.2.2.2.1) hk1).mono ?_; rintro e w11 hN11
      obtain ⟨A'11, c'11, bs11, rfl, hcc11, hW11, hF11, hb11⟩ := hN11.out
      have hL11 := Lib.hid (hW11.lt lAtr)
      have hR11 := hW11.sl (R := RAtr) (fun h => h.1)
      go_wp2_with fail
      refine hK.out _ _ (by (try dsimp only); exact ⟨keep_cell hb11 hHeld.1, keep_cell hb11 hHeld.2.1, keep_cell hb11 hHeld.2.2.1, keep_cell hb11 hHeld.2.2.2.1, keep_cell hb11 hHeld.2.2.2.2.1, keep_lt hb11 hHeld.2.2.2.2.2.1, keep_cell hb11 hHeld.2.2.2.2.2.2.1, keep_cell hb11 hHeld.2.2.2.2.2.2.2.1, keep_cell hb11 hHeld.2.2.2.2.2.2.2.2.1, keep_cell hb11 hHeld.2.2.2.2.2.2.2.2.2.1, keep_cell hb11 hHeld.2.2.2.2.2.2.2.2.2.2.1, keep_lt hb11 hHeld.2.2.2.2.2.2.2.2.2.2.2.1, ex_trans hHeld.2.2.2.2.2.2.2.2.2.2.2.2.1 hb11, ex_trans hHeld.2.2.2.2.2.2.2.2.2.2.2.2.2.1 hb11, ex_trans hHeld.2.2.2.2.2.2.2.2.2.2.2.2.2.2.1 hb11, ex_trans hHeld.2.2.2.2.2.2.2.2.2.2.2.2.2.2.2.1 hb11, ex_trans hHeld.2.2.2.2.2.2.2.2.2.2.2.2.2.2.2.2.1 hb11, ex_trans hHeld.2.2.2.2.2.2.2.2.2.2.2.2.2.2.2.2.2 hb11⟩) (fun hNew => ?_)
      clear hK K hHeld
      have hHeld := hNew
      clear hNew
      try simp only [Act.put, List.setIfInBounds_toArray, List.set_cons_zero, List.set_cons_succ]
      refine held_one 3 (by kernel_rfl) rfl (fun K hK => ?_)
      go_simp
      go_at_call 37
      refine (laws_eqFile_same f1 A'7 f1.attrs.length c'7 A'11 f1.attrs.length c'11 _ (hR7.mono mAtr hHeld.2.2.2.2.2.2.2.2.2.2.2.2.2.2.2.2.1) (hR11.mono mAtr (Below.refl _ _)) hk1).mono ?_; rintro e w12 ⟨rfl, hb12⟩
      go_wp2_with fail
      refine hK.out _ _ (by (try dsimp only); exact ⟨keep_cell hb12 hHeld.1, keep_cell hb12 hHeld.2.1, keep_cell hb12 hHeld.2.2.1, keep_cell hb12 hHeld.2.2.2.1, keep_cell hb12 hHeld.2.2.2.2.1, keep_lt hb12 hHeld.2.2.2.2.2.1, keep_cell hb12 hHeld.2.2.2.2.2.2.1, keep_cell hb12 hHeld.2.2.2.2.2.2.2.1, keep_cell hb12 hHeld.2.2.2.2.2.2.2.2.1, keep_cell hb12 hHeld.2.2.2.2.2.2.2.2.2.1, keep_cell hb12 hHeld.2.2.2.2.2.2.2.2.2.2.1, keep_lt hb12 hHeld.2.2.2.2.2.2.2.2.2.2.2.1, ex_trans hHeld.2.2.2.2.2.2.2.2.2.2.2.2.1 hb12, ex_trans hHeld.2.2.2.2.2.2.2.2.2.2.2.2.2.1 hb12, ex_trans hHeld.2.2.2.2.2.2.2.2.2.2.2.2.2.2.1 hb12, ex_trans hHeld.2.2.2.2.2.2.2.2.2.2.2.2.2.2.2.1 hb12, ex_trans hHeld.2.2.2.2.2.2.2.2.2.2.2.2.2.2.2.2.1 hb12, ex_trans hHeld.2.2.2.2.2.2.2.2.2.2.2.2.2.2.2.2.2 hb12⟩) (fun hNew => ?_)
      clear hK K hHeld
      have hHeld := hNew
      clear hNew
      try simp only [Act.put, List.setIfInBounds_toArray, List.set_cons_zero, List.set_cons_succ]
      first | (refine held_take 4 rfl (by kernel_rfl) (by kernel_rfl) (by kernel_rfl) (by rfl) (fun _ _ _ h => h) (by assumption) (by intro w hSw; (try dsimp only at hSw); go_simp; first | done | with_reducible rfl) ?_) | (refine held_skip 4 rfl (by kernel_rfl) (by kernel_rfl) (by kernel_rfl) (by rfl) (fun _ _ _ h => h) (by assumption) ?_)
      simp only [Act.put, List.setIfInBounds_toArray, List.set_cons_zero, List.set_cons_succ]
      refine wpAnyH_done (by kernel_rfl) ?_ _
      obtain ⟨x0_0', x0_1', x0_2', x0_3', x0_4', z0', x1_0', x1_1', x1_2', x1_3', x1_4', z1', hK0', hK3', hK4', hK6', hK7', hK9'⟩ := hHeld
      clear x0_0 x0_1 x0_2 x0_3 x0_4 z0 x1_0 x1_1 x1_2 x1_3 x1_4 z1 hK0 hK3 hK4 hK6 hK7 hK9
      have x0_0 := x0_0'
      clear x0_0'
      have x0_1 := x0_1'
      clear x0_1'
      have x0_2 := x0_2'
      clear x0_2'
      have x0_3 := x0_3'
      clear x0_3'
      have x0_4 := x0_4'
      clear x0_4'
      have z0 := z0'
      clear z0'
      have x1_0 := x1_0'
      clear x1_0'
      have x1_1 := x1_1'
      clear x1_1'
      have x1_2 := x1_2'
      clear x1_2'
      have x1_3 := x1_3'
      clear x1_3'
      have x1_4 := x1_4'
      clear x1_4'
      have z1 := z1'
      clear z1'
      have hK0 := hK0'
      clear hK0'
      have hK3 := hK3'
      clear hK3'
      have hK4 := hK4'
      clear hK4'
      have hK6 := hK6'
      clear hK6'
      have hK7 := hK7'
      clear hK7'
      have hK9 := hK9'
      clear hK9'
      have hK11 : Below w11.heap.size w11 w12 := (ex_trans (Below.refl _ _) hb12)
      go_wp2_with fail
      go_returns
      exact ⟨rfl, hK0⟩
    · have g1 : (-1 : Int) < 0 := by omega
      have hK0 := Below.refl W.heap.size W
      go_enter Try.func9, Try.ntmps9
      go_wp2_with fail
      refine (laws_szFieldS_ok A0 l0.length c0 l0 1048576 _ (hS0.mono mFld (ex_trans hK0 (by go_grown))) hn0 hl0 (by omega) (by omega) (by omega)).mono ?_; rintro e w1 ⟨rfl, hb1⟩
      have hx1 : Below W.heap.size W w1 := ex_trans (by go_grown) hb1
      replace hK0 := ex_trans hK0 hx1
      have x0_0 : w1.cell? ⟨W.heap.size, 0, none⟩ = some (.int .i64 f1.id) := keep_cell hb1 (by go_simp)
      have x0_1 : w1.cell? ⟨W.heap.size, 1, none⟩ = some (.int .i64 f1.owner) := keep_cell hb1 (by go_simp)
      have x0_2 : w1.cell? ⟨W.heap.size, 2, none⟩ = some (.bool f1.shared) := keep_cell hb1 (by go_simp)
      have x0_3 : w1.cell? ⟨W.heap.size, 3, none⟩ = some (.int .i64 f1.link) := keep_cell hb1 (by go_simp)
      have x0_4 : w1.cell? ⟨W.heap.size, 4, none⟩ = some (.slice A1 f1.attrs.length c1) := keep_cell hb1 (by go_simp)
      have z0 : W.heap.size < w1.heap.size := keep_lt hb1 (by simp <;> omega)
      go_wp2_with fail
      refine (laws_szFile_no f1 A1 f1.attrs.length c1 (1048576 - szS Fld.sz l0) _ (hS1.mono mAtr (ex_trans hK0 (by go_grown))) hf1 (by omega) (by omega) (by omega)).mono ?_; rintro e w2 ⟨rfl, hb2⟩
      have hx2 : Below w1.heap.size w1 w2 := ex_trans (by go_grown) hb2
      replace hK0 := ex_trans hK0 hx2
      replace x0_0 := keep_cell hx2 x0_0
      replace x0_1 := keep_cell hx2 x0_1
      replace x0_2 := keep_cell hx2 x0_2
      replace x0_3 := keep_cell hx2 x0_3
      replace x0_4 := keep_cell hx2 x0_4
      replace z0 := keep_lt hx2 z0
      go_wp2_with fail
      go_returns
      exact ⟨rfl, hK0⟩
  · have g0 : (-1 : Int) < 0 := by omega
    have hK0 := Below.refl W.heap.size W
    go_enter Try.func9, Try.ntmps9
    go_wp2_with fail
    refine (laws_szFieldS_no A0 l0.length c0 l0 1048576 _ (hS0.mono mFld (ex_trans hK0 (by go_grown))) hn0 hl0 (by omega) (by omega) (by omega)).mono ?_; rintro e w1 ⟨rfl, hb1⟩
    have hx1 : Below W.heap.size W w1 := ex_trans (by go_grown) hb1
    replace hK0 := ex_trans hK0 hx1
    have x0_0 : w1.cell? ⟨W.heap.size, 0, none⟩ = some (.int .i64 f1.id) := keep_cell hb1 (by go_simp)
    have x0_1 : w1.cell? ⟨W.heap.size, 1, none⟩ = some (.int .i64 f1.owner) := keep_cell hb1 (by go_simp)
    have x0_2 : w1.cell? ⟨W.heap.size, 2, none⟩ = some (.bool f1.shared) := keep_cell hb1 (by go_simp)
    have x0_3 : w1.cell? ⟨W.heap.size, 3, none⟩ = some (.int .i64 f1.link) := keep_cell hb1 (by go_simp)
    have x0_4 : w1.cell? ⟨W.heap.size, 4, none⟩ = some (.slice A1 f1.attrs.length c1) := keep_cell hb1 (by go_simp)
    have z0 : W.heap.size < w1.heap.size := keep_lt hb1 (by simp <;> omega)
    go_wp2_with fail
    go_returns
    exact ⟨rfl, hK0⟩
theorem core_FnExactIsValidFile {H : Type} (enc : TypeId × Value → H) (W : World) (base : Nat) (args : Array Value) (ds : List (DataW H)) (p : List MemPlace)
    (hA : DataW.TrodAll enc Try.prog W 0 (fun _ => true) true Try.f9.params.toList args.toList ds p)
    (hval : ∀ (j : Nat) t v, Try.f9.params[j]? = some t → args[j]? = some v → Value.okWide Try.prog W .any base t v) :
    Calls Try.prog 9 args W fun e W' => e = .returned (.bool true) ∧ Below W.heap.size W W' := by
  rw [Try.params9] at hA hval
  obtain ⟨u0, vs0, d0, ds0, p0, q0, hargs, rfl, rfl, h0, r0⟩ := trodAll_cons hA
  obtain ⟨u1, vs1, d1, ds1, p1, q1, rfl, rfl, rfl, h1, r1⟩ := trodAll_cons r0
  obtain ⟨rfl, rfl, rfl⟩ := trodAll_nil r1
  obtain rfl : args = #[u0, u1] := by cases args; simp_all
  obtain ⟨ad0, ln0, cp0, rfl⟩ := okWide_slice Try.underlying38 (hval 0 38 u0 rfl rfl)
  obtain ⟨fu0, g0⟩ := h0
  obtain ⟨A0, n0, c0, l0, e0, hn0, _, hS0, hl0⟩ := opens_slice Try.underlying38 (by omega) Op_Field g0
  simp only [Value.cells, List.cons.injEq, Value.slice.injEq, and_true] at e0
  obtain ⟨rfl, rfl, rfl⟩ := e0
  obtain ⟨fu1, g1⟩ := h1
  obtain ⟨x1, e1, ok1⟩ := Op_File.2 _ _ _ g1
  obtain ⟨A1, n1, c1, e1, hS1⟩ := e1
  have z1 := agg_of Try.underlying48 (hval 1 48 u1 rfl rfl)
  have y1 : u1 = .agg ⟨_⟩ := z1.trans (congrArg (fun l => Value.agg ⟨l⟩) e1)
  subst y1
  exact walk_FnExactIsValidFile W ad0 ln0 cp0 l0 hS0 hn0 hl0 x1 A1 n1 c1 hS1 ok1
set_option maxRecDepth 100000 in
theorem lifted_FnExactIsValidFile (os : Os) (started : os.Started) (H : Type) (enc : TypeId × Value → H) :
    ReturnsInHanded {} Try.checked os 9 .any (Rows.fnExactIsValidFileSpec.pre6 enc Try.prog Try.f9 Rows.fnExactIsValidFileRow.domain false) (Rows.fnExactIsValidFileSpec.post enc Try.prog Try.f9 false true false false) :=
  law_lifted (C := Try.checked) (tb := 4) (n := 2) own started (by kernel_rfl) Try.func9 rfl (by kernel_rfl) Try.underlying4 (by kernel_rfl)
    (fun ds h => by match ds, h with | [_, _], _ => rfl) laidOut' (by kernel_rfl)
    (ChangeSpec.witness6 (enc := enc) (C := Try.checked) false ⟨#[], #[.slice none 0 0, .agg #[.int .i64 0, .int .i64 0, .bool false, .int .i64 0, .slice none 0 0]], []⟩ 8 (by kernel_rfl) (by kernel_rfl) (by kernel_rfl) (by kernel_rfl))
    (fun W base args ds p hA hval => core_FnExactIsValidFile enc W base args ds p hA hval)
theorem holds_FnExactIsValidFile : Rows.FnExactIsValidFileSaid :=
  OpenClaim.holds_of_wide 9 Try.f9 rfl rfl rfl rfl rfl rfl rfl ⟨rfl, rfl, rfl, rfl, rfl⟩ rfl rfl rfl rfl rfl (by kernel_rfl) Try.func9 (by kernel_rfl)
    (of_decide_eq_true (by kernel_rfl)) (by unfold Func.isWrapper; first | (rw [if_pos (by decide +kernel)]; kernel_rfl) | (rw [if_neg (by decide +kernel)]; exact ⟨rfl, rfl⟩))
    (fun os started H enc _ => lifted_FnExactIsValidFile os started H enc)
end Go.Proofs.Ytaljpnfohpcgpaa
