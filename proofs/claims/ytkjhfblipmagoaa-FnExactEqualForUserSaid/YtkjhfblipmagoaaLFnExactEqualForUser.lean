/-
  FnExactEqualForUser RETURNS true AND LEAVES ITS ARGUMENTS AS THEY WERE, FOR EVERY INPUT THAT THE STATEMENT SPEAKS OF. No condition.
-/
import Derived.WalkKit
import Derived.ProofKit
import Derived.OpenShut
import Derived.Handy
import Derived.Lib.Hide
import Derived.Deep.QuietTactic
import Derived.BigQuiet
import Derived.Deep.RegionHeld3
import Derived.Deep.DeepCutAuto
import Derived.Test.YtkjhfblipmagoaaLib
import Derived.Test.YtkjhfblipmagoaaOp
import Derived.Test.YtkjhfblipmagoaaC1
import Derived.Test.YtkjhfblipmagoaaC2
import Derived.Test.YtkjhfblipmagoaaOwn
import Derived.Test.YtkjhfblipmagoaaRow
import Derived.Test.YtkjhfblipmagoaaHld
import Derived.Test.YtkjhfblipmagoaaT1
import Derived.Test.YtkjhfblipmagoaaT6
import Derived.Test.YtkjhfblipmagoaaSz
import Derived.Test.YtkjhfblipmagoaaM0
import Derived.Test.YtkjhfblipmagoaaM1
import Derived.Test.YtkjhfblipmagoaaD1
import Derived.Test.YtkjhfblipmagoaaT2
import Derived.Test.YtkjhfblipmagoaaT3
import Derived.Test.YtkjhfblipmagoaaM2
import Derived.Test.YtkjhfblipmagoaaC4
import Derived.Test.YtkjhfblipmagoaaC3
import Derived.Test.YtkjhfblipmagoaaC5
import Derived.Test.YtkjhfblipmagoaaC6
import Derived.Test.YtkjhfblipmagoaaE2
import Derived.Test.YtkjhfblipmagoaaN0
import Derived.Test.YtkjhfblipmagoaaC8
import Derived.Test.YtkjhfblipmagoaaD3
import Derived.Test.YtkjhfblipmagoaaD5
import Derived.Test.YtkjhfblipmagoaaH1
import Derived.Test.YtkjhfblipmagoaaE4
import Derived.Test.YtkjhfblipmagoaaE5
import Derived.Test.YtkjhfblipmagoaaV1
import Derived.Test.YtkjhfblipmagoaaP3
import Derived.Test.YtkjhfblipmagoaaV2
import Derived.Test.YtkjhfblipmagoaaRows
namespace Go.Proofs.Ytkjhfblipmagoaa
open Go.RowKit Go.ChangeShapes Go.WideShapes Go.ChangeAt Go.ChangeMaps
set_option linter.unusedVariables false
set_option maxRecDepth 100000
set_option maxHeartbeats 16000000 in
theorem walk_FnExactEqualForUser (W : World) (s0 : Sto) (A0 : Option Addr) (n0 c0 : Nat) (B0 : Option Addr) (m0 d0 : Nat) (hS0 : Sl 2 RFld W A0 n0 s0.schema) (hT0 : Sl 5 RFil W B0 m0 s0.files) (hs0 : s0.ok maxLen) (s1 : Sto) (A1 : Option Addr) (n1 c1 : Nat) (B1 : Option Addr) (m1 d1 : Nat) (hS1 : Sl 2 RFld W A1 n1 s1.schema) (hT1 : Sl 5 RFil W B1 m1 s1.files) (hs1 : s1.ok maxLen) (a2 : Int) (w2 : (Lit.int .i64 a2).wf = true) : Calls Try.prog 3 #[.agg #[.slice A0 n0 c0, .slice B0 m0 d0, .int .i64 s0.next], .agg #[.slice A1 n1 c1, .slice B1 m1 d1, .int .i64 s1.next], .int .i64 a2] W fun e w' => e = .returned (.bool true) ∧ Below W.heap.size W w' := by
  obtain rfl : s0.schema.length = n0 := hS0.len
  obtain rfl : s0.files.length = m0 := hT0.len
  obtain rfl : s1.schema.length = n1 := hS1.len
  obtain rfl : s1.files.length = m1 := hT1.len
  have nn0 := Sto.sz_nn s0
  by_cases hc0 : s0.sz ≤ 1048576
  · obtain ⟨hk0, hm0, hp0⟩ := Sto.okB (show s0.sz ≤ 1048576 by omega)
    have hcnt0 := Sto.cntB (show s0.sz ≤ 1048576 by omega)
    have g0 : 0 ≤ 1048576 - s0.sz := by omega
    have nn1 := Sto.sz_nn s1
    by_cases hc1 : s1.sz ≤ 1048576 - s0.sz
    · obtain ⟨hk1, hm1, hp1⟩ := Sto.okB (show s1.sz ≤ 1048576 by omega)
      have hcnt1 := Sto.cntB (show s1.sz ≤ 1048576 by omega)
      have g1 : 0 ≤ 1048576 - s0.sz - s1.sz := by omega
      have hK0 := Below.refl W.heap.size W
      go_enter Try.func3, Try.ntmps3
      go_wp2_with fail
      refine (laws_szStore_ok s0 A0 s0.schema.length c0 B0 s0.files.length d0 1048576 _ (hS0.mono mFld (ex_trans hK0 (by go_grown))) (hT0.mono mFil (ex_trans hK0 (by go_grown))) hs0 (by omega) (by omega) (by omega)).mono ?_; rintro e w1 ⟨rfl, hb1⟩
      have hx1 : Below W.heap.size W w1 := ex_trans (by go_grown) hb1
      replace hK0 := ex_trans hK0 hx1
      have x0_0 : w1.cell? ⟨W.heap.size, 0, none⟩ = some (.slice A0 s0.schema.length c0) := keep_cell hb1 (by go_simp)
      have x0_1 : w1.cell? ⟨W.heap.size, 1, none⟩ = some (.slice B0 s0.files.length d0) := keep_cell hb1 (by go_simp)
      have x0_2 : w1.cell? ⟨W.heap.size, 2, none⟩ = some (.int .i64 s0.next) := keep_cell hb1 (by go_simp)
      have z0 : W.heap.size < w1.heap.size := keep_lt hb1 (by simp <;> omega)
      have x1_0 : w1.cell? ⟨W.heap.size + 1, 0, none⟩ = some (.slice A1 s1.schema.length c1) := keep_cell hb1 (by go_simp)
      have x1_1 : w1.cell? ⟨W.heap.size + 1, 1, none⟩ = some (.slice B1 s1.files.length d1) := keep_cell hb1 (by go_simp)
      have x1_2 : w1.cell? ⟨W.heap.size + 1, 2, none⟩ = some (.int .i64 s1.next) := keep_cell hb1 (by go_simp)
      have z1 : W.heap.size + 1 < w1.heap.size := keep_lt hb1 (by simp <;> omega)
      go_wp2_with fail
      refine (laws_szStore_ok s1 A1 s1.schema.length c1 B1 s1.files.length d1 (1048576 - s0.sz) _ (hS1.mono mFld (ex_trans hK0 (by go_grown))) (hT1.mono mFil (ex_trans hK0 (by go_grown))) hs1 (by omega) (by omega) (by omega)).mono ?_; rintro e w2 ⟨rfl, hb2⟩
      have hx2 : Below w1.heap.size w1 w2 := ex_trans (by go_grown) hb2
      replace hK0 := ex_trans hK0 hx2
      replace x0_0 := keep_cell hx2 x0_0
      replace x0_1 := keep_cell hx2 x0_1
      replace x0_2 := keep_cell hx2 x0_2
      replace z0 := keep_lt hx2 z0
      replace x1_0 := keep_cell hx2 x1_0
      replace x1_1 := keep_cell hx2 x1_1
      replace x1_2 := keep_cell hx2 x1_2
      replace z1 := keep_lt hx2 z1
      go_wp2_with fail
      refine wp_region_held_drew (S := (fun w' => w'.cell? ⟨W.heap.size, 0, none⟩ = some (.slice A0 s0.schema.length c0) ∧ w'.cell? ⟨W.heap.size, 1, none⟩ = some (.slice B0 s0.files.length d0) ∧ w'.cell? ⟨W.heap.size, 2, none⟩ = some (.int .i64 s0.next) ∧ W.heap.size < w'.heap.size ∧ w'.cell? ⟨W.heap.size + 1, 0, none⟩ = some (.slice A1 s1.schema.length c1) ∧ w'.cell? ⟨W.heap.size + 1, 1, none⟩ = some (.slice B1 s1.files.length d1) ∧ w'.cell? ⟨W.heap.size + 1, 2, none⟩ = some (.int .i64 s1.next) ∧ W.heap.size + 1 < w'.heap.size ∧ Below W.heap.size W w')) (by kernel_rfl) (by (try dsimp only); exact ⟨x0_0, x0_1, x0_2, z0, x1_0, x1_1, x1_2, z1, (hK0).drew⟩) (fun hHeld => ?_)
      first | (refine held_take 0 rfl (by kernel_rfl) (by kernel_rfl) (by kernel_rfl) (by rfl) (fun _ _ _ h => h) (by assumption) (by intro w hSw; (try dsimp only at hSw); go_simp; first | done | with_reducible rfl) ?_) | (refine held_skip 0 rfl (by kernel_rfl) (by kernel_rfl) (by kernel_rfl) (by rfl) (fun _ _ _ h => h) (by assumption) ?_)
      simp only [Act.put, List.setIfInBounds_toArray, List.set_cons_zero, List.set_cons_succ]
      first | (refine held_take 2 rfl (by kernel_rfl) (by kernel_rfl) (by kernel_rfl) (by rfl) (fun _ _ _ h => h) (by assumption) (by intro w hSw; (try dsimp only at hSw); go_simp; first | done | with_reducible rfl) ?_) | (refine held_skip 2 rfl (by kernel_rfl) (by kernel_rfl) (by kernel_rfl) (by rfl) (fun _ _ _ h => h) (by assumption) ?_)
      simp only [Act.put, List.setIfInBounds_toArray, List.set_cons_zero, List.set_cons_succ]
      first | (refine held_take 4 rfl (by kernel_rfl) (by kernel_rfl) (by kernel_rfl) (by rfl) (fun _ _ _ h => h) (by assumption) (by intro w hSw; (try dsimp only at hSw); go_simp; first | done | with_reducible rfl) ?_) | (refine held_skip 4 rfl (by kernel_rfl) (by kernel_rfl) (by kernel_rfl) (by rfl) (fun _ _ _ h => h) (by assumption) ?_)
      simp only [Act.put, List.setIfInBounds_toArray, List.set_cons_zero, List.set_cons_succ]
      refine held_one 1 (by kernel_rfl) rfl (fun K hK => ?_)
      go_simp
      go_at_call 13
      refine (laws_toStore s0 A0 s0.schema.length c0 B0 s0.files.length d0 _ (hS0.mono mFld hHeld.2.2.2.2.2.2.2.2) (hT0.mono mFil hHeld.2.2.2.2.2.2.2.2) hk0).mono ?_; rintro e w3 hN3
      obtain ⟨A'3, c'3, B'3, d'3, bs3, bt3, rfl, hcc3, hcd3, hW3, hX3, hF3, hb3⟩ := hN3.out
      have hL3 : Hid (∀ b ∈ bs3 ++ bt3, b < w3.heap.size) := Lib.hid (fun b hb => (List.mem_append.1 hb).elim (hW3.lt lFld b) (hX3.lt (lFil _) b))
      have hR3 := hW3.sl (R := RFld) (fun h => h.1)
      have hQ3 := hX3.sl (R := RFil) (fun h => h.r)
      go_wp2_with fail
      refine hK.out _ _ (by (try dsimp only); exact ⟨keep_cell hb3 hHeld.1, keep_cell hb3 hHeld.2.1, keep_cell hb3 hHeld.2.2.1, keep_lt hb3 hHeld.2.2.2.1, keep_cell hb3 hHeld.2.2.2.2.1, keep_cell hb3 hHeld.2.2.2.2.2.1, keep_cell hb3 hHeld.2.2.2.2.2.2.1, keep_lt hb3 hHeld.2.2.2.2.2.2.2.1, ex_trans hHeld.2.2.2.2.2.2.2.2 hb3⟩) (fun hNew => ?_)
      clear hK K hHeld
      have hHeld := hNew
      clear hNew
      try simp only [Act.put, List.setIfInBounds_toArray, List.set_cons_zero, List.set_cons_succ]
      refine held_one 3 (by kernel_rfl) rfl (fun K hK => ?_)
      go_simp
      go_at_call 13
      refine (laws_toStore s1 A1 s1.schema.length c1 B1 s1.files.length d1 _ (hS1.mono mFld hHeld.2.2.2.2.2.2.2.2) (hT1.mono mFil hHeld.2.2.2.2.2.2.2.2) hk1).mono ?_; rintro e w4 hN4
      obtain ⟨A'4, c'4, B'4, d'4, bs4, bt4, rfl, hcc4, hcd4, hW4, hX4, hF4, hb4⟩ := hN4.out
      have hL4 : Hid (∀ b ∈ bs4 ++ bt4, b < w4.heap.size) := Lib.hid (fun b hb => (List.mem_append.1 hb).elim (hW4.lt lFld b) (hX4.lt (lFil _) b))
      have hR4 := hW4.sl (R := RFld) (fun h => h.1)
      have hQ4 := hX4.sl (R := RFil) (fun h => h.r)
      go_wp2_with fail
      refine hK.out _ _ (by (try dsimp only); exact ⟨keep_cell hb4 hHeld.1, keep_cell hb4 hHeld.2.1, keep_cell hb4 hHeld.2.2.1, keep_lt hb4 hHeld.2.2.2.1, keep_cell hb4 hHeld.2.2.2.2.1, keep_cell hb4 hHeld.2.2.2.2.2.1, keep_cell hb4 hHeld.2.2.2.2.2.2.1, keep_lt hb4 hHeld.2.2.2.2.2.2.2.1, ex_trans hHeld.2.2.2.2.2.2.2.2 hb4⟩) (fun hNew => ?_)
      clear hK K hHeld
      have hHeld := hNew
      clear hNew
      try simp only [Act.put, List.setIfInBounds_toArray, List.set_cons_zero, List.set_cons_succ]
      refine held_one 5 (by kernel_rfl) rfl (fun K hK => ?_)
      go_simp
      go_at_call 12
      refine (spec_EqualForUser s0 s1 A'3 s0.schema.length c'3 B'3 s0.files.length d'3 A'4 s1.schema.length c'4 B'4 s1.files.length d'4 a2 _ (hR3.mono mFld (ex_trans (Below.refl _ _) hb4)) (hQ3.mono mFil (ex_trans (Below.refl _ _) hb4)) (hR4.mono mFld (Below.refl _ _)) (hQ4.mono mFil (Below.refl _ _)) hk0 hk1).mono ?_; rintro e w5 ⟨rfl, hb5⟩
      go_wp2_with fail
      refine hK.out _ _ (by (try dsimp only); exact ⟨keep_cell hb5 hHeld.1, keep_cell hb5 hHeld.2.1, keep_cell hb5 hHeld.2.2.1, keep_lt hb5 hHeld.2.2.2.1, keep_cell hb5 hHeld.2.2.2.2.1, keep_cell hb5 hHeld.2.2.2.2.2.1, keep_cell hb5 hHeld.2.2.2.2.2.2.1, keep_lt hb5 hHeld.2.2.2.2.2.2.2.1, ex_trans hHeld.2.2.2.2.2.2.2.2 hb5⟩) (fun hNew => ?_)
      clear hK K hHeld
      have hHeld := hNew
      clear hNew
      try simp only [Act.put, List.setIfInBounds_toArray, List.set_cons_zero, List.set_cons_succ]
      first | (refine held_take 6 rfl (by kernel_rfl) (by kernel_rfl) (by kernel_rfl) (by rfl) (fun _ _ _ h => h) (by assumption) (by intro w hSw; (try dsimp only at hSw); go_simp; first | done | with_reducible rfl) ?_) | (refine held_skip 6 rfl (by kernel_rfl) (by kernel_rfl) (by kernel_rfl) (by rfl) (fun _ _ _ h => h) (by assumption) ?_)
      simp only [Act.put, List.setIfInBounds_toArray, List.set_cons_zero, List.set_cons_succ]
      refine wpAnyH_done (by kernel_rfl) ?_ _
      obtain ⟨x0_0', x0_1', x0_2', z0', x1_0', x1_1', x1_2', z1', hK0'⟩ := hHeld
      clear x0_0 x0_1 x0_2 z0 x1_0 x1_1 x1_2 z1 hK0
      have x0_0 := x0_0'
      clear x0_0'
      have x0_1 := x0_1'
      clear x0_1'
      have x0_2 := x0_2'
      clear x0_2'
      have z0 := z0'
      clear z0'
      have x1_0 := x1_0'
      clear x1_0'
      have x1_1 := x1_1'
      clear x1_1'
      have x1_2 := x1_2'
      clear x1_2'
      have z1 := z1'
      clear z1'
      have hK0 := hK0'
      clear hK0'
      have hK3 : Below w3.heap.size w3 w5 := (ex_trans (ex_trans (Below.refl _ _) hb4) hb5)
      have hK4 : Below w4.heap.size w4 w5 := (ex_trans (Below.refl _ _) hb5)
      go_wp2_with fail
      refine (laws_toStore s0 A0 s0.schema.length c0 B0 s0.files.length d0 _ (hS0.mono mFld (ex_trans hK0 (by go_grown))) (hT0.mono mFil (ex_trans hK0 (by go_grown))) hk0).mono ?_; rintro e w6 hN6
      obtain ⟨A'6, c'6, B'6, d'6, bs6, bt6, rfl, hcc6, hcd6, hW6, hX6, hF6, hb6⟩ := hN6.out
      have hL6 : Hid (∀ b ∈ bs6 ++ bt6, b < w6.heap.size) := Lib.hid (fun b hb => (List.mem_append.1 hb).elim (hW6.lt lFld b) (hX6.lt (lFil _) b))
      have hR6 := hW6.sl (R := RFld) (fun h => h.1)
      have hQ6 := hX6.sl (R := RFil) (fun h => h.r)
      have hx6 : Below w5.heap.size w5 w6 := ex_trans (by go_grown) hb6
      replace hK0 := ex_trans hK0 hx6
      replace hK3 := ex_trans hK3 hx6
      replace hK4 := ex_trans hK4 hx6
      replace x0_0 := keep_cell hx6 x0_0
      replace x0_1 := keep_cell hx6 x0_1
      replace x0_2 := keep_cell hx6 x0_2
      replace z0 := keep_lt hx6 z0
      replace x1_0 := keep_cell hx6 x1_0
      replace x1_1 := keep_cell hx6 x1_1
      replace x1_2 := keep_cell hx6 x1_2
      replace z1 := keep_lt hx6 z1
      have hK6 := Below.refl w6.heap.size w6
      go_wp2_with fail
      refine (laws_toStore s1 A1 s1.schema.length c1 B1 s1.files.length d1 _ (hS1.mono mFld (ex_trans hK0 (by go_grown))) (hT1.mono mFil (ex_trans hK0 (by go_grown))) hk1).mono ?_; rintro e w7 hN7
      obtain ⟨A'7, c'7, B'7, d'7, bs7, bt7, rfl, hcc7, hcd7, hW7, hX7, hF7, hb7⟩ := hN7.out
      have hL7 : Hid (∀ b ∈ bs7 ++ bt7, b < w7.heap.size) := Lib.hid (fun b hb => (List.mem_append.1 hb).elim (hW7.lt lFld b) (hX7.lt (lFil _) b))
      have hR7 := hW7.sl (R := RFld) (fun h => h.1)
      have hQ7 := hX7.sl (R := RFil) (fun h => h.r)
      have hx7 : Below w6.heap.size w6 w7 := ex_trans (by go_grown) hb7
      replace hK0 := ex_trans hK0 hx7
      replace hK3 := ex_trans hK3 hx7
      replace hK4 := ex_trans hK4 hx7
      replace hK6 := ex_trans hK6 hx7
      replace x0_0 := keep_cell hx7 x0_0
      replace x0_1 := keep_cell hx7 x0_1
      replace x0_2 := keep_cell hx7 x0_2
      replace z0 := keep_lt hx7 z0
      replace x1_0 := keep_cell hx7 x1_0
      replace x1_1 := keep_cell hx7 x1_1
      replace x1_2 := keep_cell hx7 x1_2
      replace z1 := keep_lt hx7 z1
      have x2_0 : w7.cell? ⟨w6.heap.size, 0, none⟩ = some (.slice A'6 s0.schema.length c'6) := keep_cell hb7 (by go_simp)
      have x2_1 : w7.cell? ⟨w6.heap.size, 1, none⟩ = some (.slice B'6 s0.files.length d'6) := keep_cell hb7 (by go_simp)
      have x2_2 : w7.cell? ⟨w6.heap.size, 2, none⟩ = some (.int .i64 s0.next) := keep_cell hb7 (by go_simp)
      have z2 : w6.heap.size < w7.heap.size := keep_lt hb7 (by simp <;> omega)
      have hK7 := Below.refl w7.heap.size w7
      go_wp2_with fail
      refine (impl_EqualForUser s0 s1 A'6 s0.schema.length c'6 B'6 s0.files.length d'6 A'7 s1.schema.length c'7 B'7 s1.files.length d'7 a2 _ (hR6.mono mFld (ex_trans hK6 (by go_grown))) (hQ6.mono mFil (ex_trans hK6 (by go_grown))) (hR7.mono mFld (ex_trans hK7 (by go_grown))) (hQ7.mono mFil (ex_trans hK7 (by go_grown))) hk0 hk1).mono ?_; rintro e w8 ⟨rfl, hb8⟩
      have hx8 : Below w7.heap.size w7 w8 := ex_trans (by go_grown) hb8
      replace hK0 := ex_trans hK0 hx8
      replace hK3 := ex_trans hK3 hx8
      replace hK4 := ex_trans hK4 hx8
      replace hK6 := ex_trans hK6 hx8
      replace hK7 := ex_trans hK7 hx8
      replace x0_0 := keep_cell hx8 x0_0
      replace x0_1 := keep_cell hx8 x0_1
      replace x0_2 := keep_cell hx8 x0_2
      replace z0 := keep_lt hx8 z0
      replace x1_0 := keep_cell hx8 x1_0
      replace x1_1 := keep_cell hx8 x1_1
      replace x1_2 := keep_cell hx8 x1_2
      replace z1 := keep_lt hx8 z1
      replace x2_0 := keep_cell hx8 x2_0
      replace x2_1 := keep_cell hx8 x2_1
      replace x2_2 := keep_cell hx8 x2_2
      replace z2 := keep_lt hx8 z2
      have x3_0 : w8.cell? ⟨w7.heap.size, 0, none⟩ = some (.slice A'7 s1.schema.length c'7) := keep_cell hb8 (by go_simp)
      have x3_1 : w8.cell? ⟨w7.heap.size, 1, none⟩ = some (.slice B'7 s1.files.length d'7) := keep_cell hb8 (by go_simp)
      have x3_2 : w8.cell? ⟨w7.heap.size, 2, none⟩ = some (.int .i64 s1.next) := keep_cell hb8 (by go_simp)
      have z3 : w7.heap.size < w8.heap.size := keep_lt hb8 (by simp <;> omega)
      go_wp2_with fail
      refine wp_region_held_drew (S := (fun w' => w'.cell? ⟨W.heap.size, 0, none⟩ = some (.slice A0 s0.schema.length c0) ∧ w'.cell? ⟨W.heap.size, 1, none⟩ = some (.slice B0 s0.files.length d0) ∧ w'.cell? ⟨W.heap.size, 2, none⟩ = some (.int .i64 s0.next) ∧ W.heap.size < w'.heap.size ∧ w'.cell? ⟨W.heap.size + 1, 0, none⟩ = some (.slice A1 s1.schema.length c1) ∧ w'.cell? ⟨W.heap.size + 1, 1, none⟩ = some (.slice B1 s1.files.length d1) ∧ w'.cell? ⟨W.heap.size + 1, 2, none⟩ = some (.int .i64 s1.next) ∧ W.heap.size + 1 < w'.heap.size ∧ w'.cell? ⟨w6.heap.size, 0, none⟩ = some (.slice A'6 s0.schema.length c'6) ∧ w'.cell? ⟨w6.heap.size, 1, none⟩ = some (.slice B'6 s0.files.length d'6) ∧ w'.cell? ⟨w6.heap.size, 2, none⟩ = some (.int .i64 s0.next) ∧ w6.heap.size < w'.heap.size ∧ w'.cell? ⟨w7.heap.size, 0, none⟩ = some (.slice A'7 s1.schema.length c'7) ∧ w'.cell? ⟨w7.heap.size, 1, none⟩ = some (.slice B'7 s1.files.length d'7) ∧ w'.cell? ⟨w7.heap.size, 2, none⟩ = some (.int .i64 s1.next) ∧ w7.heap.size < w'.heap.size ∧ Below W.heap.size W w' ∧ Below w3.heap.size w3 w' ∧ Below w4.heap.size w4 w' ∧ Below w6.heap.size w6 w' ∧ Below w7.heap.size w7 w')) (by kernel_rfl) (by (try dsimp only); exact ⟨x0_0, x0_1, x0_2, z0, x1_0, x1_1, x1_2, z1, x2_0, x2_1, x2_2, z2, x3_0, x3_1, x3_2, z3, (hK0).drew, (hK3).drew, (hK4).drew, (hK6).drew, (hK7).drew⟩) (fun hHeld => ?_)
      first | (refine held_take 0 rfl (by kernel_rfl) (by kernel_rfl) (by kernel_rfl) (by rfl) (fun _ _ _ h => h) (by assumption) (by intro w hSw; (try dsimp only at hSw); go_simp; first | done | with_reducible rfl) ?_) | (refine held_skip 0 rfl (by kernel_rfl) (by kernel_rfl) (by kernel_rfl) (by rfl) (fun _ _ _ h => h) (by assumption) ?_)
      simp only [Act.put, List.setIfInBounds_toArray, List.set_cons_zero, List.set_cons_succ]
      first | (refine held_take 1 rfl (by kernel_rfl) (by kernel_rfl) (by kernel_rfl) (by rfl) (fun _ _ _ h => h) (by assumption) (by intro w hSw; (try dsimp only at hSw); go_simp; first | done | with_reducible rfl) ?_) | (refine held_skip 1 rfl (by kernel_rfl) (by kernel_rfl) (by kernel_rfl) (by rfl) (fun _ _ _ h => h) (by assumption) ?_)
      simp only [Act.put, List.setIfInBounds_toArray, List.set_cons_zero, List.set_cons_succ]
      refine held_one 2 (by kernel_rfl) rfl (fun K hK => ?_)
      go_simp
      go_at_call 13
      refine (laws_toStore s0 A0 s0.schema.length c0 B0 s0.files.length d0 _ (hS0.mono mFld hHeld.2.2.2.2.2.2.2.2.2.2.2.2.2.2.2.2.1) (hT0.mono mFil hHeld.2.2.2.2.2.2.2.2.2.2.2.2.2.2.2.2.1) hk0).mono ?_; rintro e w9 hN9
      obtain ⟨A'9, c'9, B'9, d'9, bs9, bt9, rfl, hcc9, hcd9, hW9, hX9, hF9, hb9⟩ := hN9.out
      have hL9 : Hid (∀ b ∈ bs9 ++ bt9, b < w9.heap.size) := Lib.hid (fun b hb => (List.mem_append.1 hb).elim (hW9.lt lFld b) (hX9.lt (lFil _) b))
      have hR9 := hW9.sl (R := RFld) (fun h => h.1)
      have hQ9 := hX9.sl (R := RFil) (fun h => h.r)
      go_wp2_with fail
      refine hK.out _ _ (by (try dsimp only); exact ⟨keep_cell hb9 hHeld.1, keep_cell hb9 hHeld.2.1, keep_cell hb9 hHeld.2.2.1, keep_lt hb9 hHeld.2.2.2.1, keep_cell hb9 hHeld.2.2.2.2.1, keep_cell hb9 hHeld.2.2.2.2.2.1, keep_cell hb9 hHeld.2.2.2.2.2.2.1, keep_lt hb9 hHeld.2.2.2.2.2.2.2.1, keep_cell hb9 hHeld.2.2.2.2.2.2.2.2.1, keep_cell hb9 hHeld.2.2.2.2.2.2.2.2.2.1, keep_cell hb9 hHeld.2.2.2.2.2.2.2.2.2.2.1, keep_lt hb9 hHeld.2.2.2.2.2.2.2.2.2.2.2.1, keep_cell hb9 hHeld.2.2.2.2.2.2.2.2.2.2.2.2.1, keep_cell hb9 hHeld.2.2.2.2.2.2.2.2.2.2.2.2.2.1, keep_cell hb9 hHeld.2.2.2.2.2.2.2.2.2.2.2.2.2.2.1, keep_lt hb9 hHeld.2.2.2.2.2.2.2.2.2.2.2.2.2.2.2.1, ex_trans hHeld.2.2.2.2.2.2.2.2.2.2.2.2.2.2.2.2.1 hb9, ex_trans hHeld.2.2.2.2.2.2.2.2.2.2.2.2.2.2.2.2.2.1 hb9, ex_trans hHeld.2.2.2.2.2.2.2.2.2.2.2.2.2.2.2.2.2.2.1 hb9, ex_trans hHeld.2.2.2.2.2.2.2.2.2.2.2.2.2.2.2.2.2.2.2.1 hb9, ex_trans hHeld.2.2.2.2.2.2.2.2.2.2.2.2.2.2.2.2.2.2.2.2 hb9⟩) (fun hNew => ?_)
      clear hK K hHeld
      have hHeld := hNew
      clear hNew
      try simp only [Act.put, List.setIfInBounds_toArray, List.set_cons_zero, List.set_cons_succ]
      refine held_one 3 (by kernel_rfl) rfl (fun K hK => ?_)
      go_simp
      go_at_call 15
      refine (laws_eqStore_same s0 A'6 s0.schema.length c'6 B'6 s0.files.length d'6 A'9 s0.schema.length c'9 B'9 s0.files.length d'9 _ (hR6.mono mFld hHeld.2.2.2.2.2.2.2.2.2.2.2.2.2.2.2.2.2.2.2.1) (hQ6.mono mFil hHeld.2.2.2.2.2.2.2.2.2.2.2.2.2.2.2.2.2.2.2.1) (hR9.mono mFld (Below.refl _ _)) (hQ9.mono mFil (Below.refl _ _)) hk0).mono ?_; rintro e w10 ⟨rfl, hb10⟩
      go_wp2_with fail
      refine hK.out _ _ (by (try dsimp only); exact ⟨keep_cell hb10 hHeld.1, keep_cell hb10 hHeld.2.1, keep_cell hb10 hHeld.2.2.1, keep_lt hb10 hHeld.2.2.2.1, keep_cell hb10 hHeld.2.2.2.2.1, keep_cell hb10 hHeld.2.2.2.2.2.1, keep_cell hb10 hHeld.2.2.2.2.2.2.1, keep_lt hb10 hHeld.2.2.2.2.2.2.2.1, keep_cell hb10 hHeld.2.2.2.2.2.2.2.2.1, keep_cell hb10 hHeld.2.2.2.2.2.2.2.2.2.1, keep_cell hb10 hHeld.2.2.2.2.2.2.2.2.2.2.1, keep_lt hb10 hHeld.2.2.2.2.2.2.2.2.2.2.2.1, keep_cell hb10 hHeld.2.2.2.2.2.2.2.2.2.2.2.2.1, keep_cell hb10 hHeld.2.2.2.2.2.2.2.2.2.2.2.2.2.1, keep_cell hb10 hHeld.2.2.2.2.2.2.2.2.2.2.2.2.2.2.1, keep_lt hb10 hHeld.2.2.2.2.2.2.2.2.2.2.2.2.2.2.2.1, ex_trans hHeld.2.2.2.2.2.2.2.2.2.2.2.2.2.2.2.2.1 hb10, ex_trans hHeld.2.2.2.2.2.2.2.2.2.2.2.2.2.2.2.2.2.1 hb10, ex_trans hHeld.2.2.2.2.2.2.2.2.2.2.2.2.2.2.2.2.2.2.1 hb10, ex_trans hHeld.2.2.2.2.2.2.2.2.2.2.2.2.2.2.2.2.2.2.2.1 hb10, ex_trans hHeld.2.2.2.2.2.2.2.2.2.2.2.2.2.2.2.2.2.2.2.2 hb10⟩) (fun hNew => ?_)
      clear hK K hHeld
      have hHeld := hNew
      clear hNew
      try simp only [Act.put, List.setIfInBounds_toArray, List.set_cons_zero, List.set_cons_succ]
      first | (refine held_take 4 rfl (by kernel_rfl) (by kernel_rfl) (by kernel_rfl) (by rfl) (fun _ _ _ h => h) (by assumption) (by intro w hSw; (try dsimp only at hSw); go_simp; first | done | with_reducible rfl) ?_) | (refine held_skip 4 rfl (by kernel_rfl) (by kernel_rfl) (by kernel_rfl) (by rfl) (fun _ _ _ h => h) (by assumption) ?_)
      simp only [Act.put, List.setIfInBounds_toArray, List.set_cons_zero, List.set_cons_succ]
      refine wpAnyH_done (by kernel_rfl) ?_ _
      obtain ⟨x0_0', x0_1', x0_2', z0', x1_0', x1_1', x1_2', z1', x2_0', x2_1', x2_2', z2', x3_0', x3_1', x3_2', z3', hK0', hK3', hK4', hK6', hK7'⟩ := hHeld
      clear x0_0 x0_1 x0_2 z0 x1_0 x1_1 x1_2 z1 x2_0 x2_1 x2_2 z2 x3_0 x3_1 x3_2 z3 hK0 hK3 hK4 hK6 hK7
      have x0_0 := x0_0'
      clear x0_0'
      have x0_1 := x0_1'
      clear x0_1'
      have x0_2 := x0_2'
      clear x0_2'
      have z0 := z0'
      clear z0'
      have x1_0 := x1_0'
      clear x1_0'
      have x1_1 := x1_1'
      clear x1_1'
      have x1_2 := x1_2'
      clear x1_2'
      have z1 := z1'
      clear z1'
      have x2_0 := x2_0'
      clear x2_0'
      have x2_1 := x2_1'
      clear x2_1'
      have x2_2 := x2_2'
      clear x2_2'
      have z2 := z2'
      clear z2'
      have x3_0 := x3_0'
      clear x3_0'
      have x3_1 := x3_1'
      clear x3_1'
      have x3_2 := x3_2'
      clear x3_2'
      have z3 := z3'
      clear z3'
      have hK0 := hK0'
      clear hK0'
      have hK3 := hK3'
      clear hK3'
      have hK4 := hK4'
      clear hK4'
      have hK6 := hK6'
      clear hK6'
      have hK7 := hK7'
      clear hK7'
      have hK9 : Below w9.heap.size w9 w10 := (ex_trans (Below.refl _ _) hb10)
      go_wp2_with fail
      refine wp_region_held_drew (S := (fun w' => w'.cell? ⟨W.heap.size, 0, none⟩ = some (.slice A0 s0.schema.length c0) ∧ w'.cell? ⟨W.heap.size, 1, none⟩ = some (.slice B0 s0.files.length d0) ∧ w'.cell? ⟨W.heap.size, 2, none⟩ = some (.int .i64 s0.next) ∧ W.heap.size < w'.heap.size ∧ w'.cell? ⟨W.heap.size + 1, 0, none⟩ = some (.slice A1 s1.schema.length c1) ∧ w'.cell? ⟨W.heap.size + 1, 1, none⟩ = some (.slice B1 s1.files.length d1) ∧ w'.cell? ⟨W.heap.size + 1, 2, none⟩ = some (.int .i64 s1.next) ∧ W.heap.size + 1 < w'.heap.size ∧ w'.cell? ⟨w6.heap.size, 0, none⟩ = some (.slice A'6 s0.schema.length c'6) ∧ w'.cell? ⟨w6.heap.size, 1, none⟩ = some (.slice B'6 s0.files.length d'6) ∧ w'.cell? ⟨w6.heap.size, 2, none⟩ = some (.int .i64 s0.next) ∧ w6.heap.size < w'.heap.size ∧ w'.cell? ⟨w7.heap.size, 0, none⟩ = some (.slice A'7 s1.schema.length c'7) ∧ w'.cell? ⟨w7.heap.size, 1, none⟩ = some (.slice B'7 s1.files.length d'7) ∧ w'.cell? ⟨w7.heap.size, 2, none⟩ = some (.int .i64 s1.next) ∧ w7.heap.size < w'.heap.size ∧ Below W.heap.size W w' ∧ Below w3.heap.size w3 w' ∧ Below w4.heap.size w4 w' ∧ Below w6.heap.size w6 w' ∧ Below w7.heap.size w7 w' ∧ Below w9.heap.size w9 w')) (by kernel_rfl) (by (try dsimp only); exact ⟨x0_0, x0_1, x0_2, z0, x1_0, x1_1, x1_2, z1, x2_0, x2_1, x2_2, z2, x3_0, x3_1, x3_2, z3, (hK0).drew, (hK3).drew, (hK4).drew, (hK6).drew, (hK7).drew, (hK9).drew⟩) (fun hHeld => ?_)
      first | (refine held_take 0 rfl (by kernel_rfl) (by kernel_rfl) (by kernel_rfl) (by rfl) (fun _ _ _ h => h) (by assumption) (by intro w hSw; (try dsimp only at hSw); go_simp; first | done | with_reducible rfl) ?_) | (refine held_skip 0 rfl (by kernel_rfl) (by kernel_rfl) (by kernel_rfl) (by rfl) (fun _ _ _ h => h) (by assumption) ?_)
      simp only [Act.put, List.setIfInBounds_toArray, List.set_cons_zero, List.set_cons_succ]
      first | (refine held_take 1 rfl (by kernel_rfl) (by kernel_rfl) (by kernel_rfl) (by rfl) (fun _ _ _ h => h) (by assumption) (by intro w hSw; (try dsimp only at hSw); go_simp; first | done | with_reducible rfl) ?_) | (refine held_skip 1 rfl (by kernel_rfl) (by kernel_rfl) (by kernel_rfl) (by rfl) (fun _ _ _ h => h) (by assumption) ?_)
      simp only [Act.put, List.setIfInBounds_toArray, List.set_cons_zero, List.set_cons_succ]
      refine held_one 2 (by kernel_rfl) rfl (fun K hK => ?_)
      go_simp
      go_at_call 13
      refine (laws_toStore s1 A1 s1.schema.length c1 B1 s1.files.length d1 _ (hS1.mono mFld hHeld.2.2.2.2.2.2.2.2.2.2.2.2.2.2.2.2.1) (hT1.mono mFil hHeld.2.2.2.2.2.2.2.2.2.2.2.2.2.2.2.2.1) hk1).mono ?_; rintro e w11 hN11
      obtain ⟨A'11, c'11, B'11, d'11, bs11, bt11, rfl, hcc11, hcd11, hW11, hX11, hF11, hb11⟩ := hN11.out
      have hL11 : Hid (∀ b ∈ bs11 ++ bt11, b < w11.heap.size) := Lib.hid (fun b hb => (List.mem_append.1 hb).elim (hW11.lt lFld b) (hX11.lt (lFil _) b))
      have hR11 := hW11.sl (R := RFld) (fun h => h.1)
      have hQ11 := hX11.sl (R := RFil) (fun h => h.r)
      go_wp2_with fail
      refine hK.out _ _ (by (try dsimp only); exact ⟨keep_cell hb11 hHeld.1, keep_cell hb11 hHeld.2.1, keep_cell hb11 hHeld.2.2.1, keep_lt hb11 hHeld.2.2.2.1, keep_cell hb11 hHeld.2.2.2.2.1, keep_cell hb11 hHeld.2.2.2.2.2.1, keep_cell hb11 hHeld.2.2.2.2.2.2.1, keep_lt hb11 hHeld.2.2.2.2.2.2.2.1, keep_cell hb11 hHeld.2.2.2.2.2.2.2.2.1, keep_cell hb11 hHeld.2.2.2.2.2.2.2.2.2.1, keep_cell hb11 hHeld.2.2.2.2.2.2.2.2.2.2.1, keep_lt hb11 hHeld.2.2.2.2.2.2.2.2.2.2.2.1, keep_cell hb11 hHeld.2.2.2.2.2.2.2.2.2.2.2.2.1, keep_cell hb11 hHeld.2.2.2.2.2.2.2.2.2.2.2.2.2.1, keep_cell hb11 hHeld.2.2.2.2.2.2.2.2.2.2.2.2.2.2.1, keep_lt hb11 hHeld.2.2.2.2.2.2.2.2.2.2.2.2.2.2.2.1, ex_trans hHeld.2.2.2.2.2.2.2.2.2.2.2.2.2.2.2.2.1 hb11, ex_trans hHeld.2.2.2.2.2.2.2.2.2.2.2.2.2.2.2.2.2.1 hb11, ex_trans hHeld.2.2.2.2.2.2.2.2.2.2.2.2.2.2.2.2.2.2.1 hb11, ex_trans hHeld.2.2.2.2.2.2.2.2.2.2.2.2.2.2.2.2.2.2.2.1 hb11, ex_trans hHeld.2.2.2.2.2.2.2.2.2.2.2.2.2.2.2.2.2.2.2.2.1 hb11, ex_trans hHeld.2.2.2.2.2.2.2.2.2.2.2.2.2.2.2.2.2.2.2.2.2 hb11⟩) (fun hNew => ?_)
      clear hK K hHeld
      have hHeld := hNew
      clear hNew
      try simp only [Act.put, List.setIfInBounds_toArray, List.set_cons_zero, List.set_cons_succ]
      refine held_one 3 (by kernel_rfl) rfl (fun K hK => ?_)
      go_simp
      go_at_call 15
      refine (laws_eqStore_same s1 A'7 s1.schema.length c'7 B'7 s1.files.length d'7 A'11 s1.schema.length c'11 B'11 s1.files.length d'11 _ (hR7.mono mFld hHeld.2.2.2.2.2.2.2.2.2.2.2.2.2.2.2.2.2.2.2.2.1) (hQ7.mono mFil hHeld.2.2.2.2.2.2.2.2.2.2.2.2.2.2.2.2.2.2.2.2.1) (hR11.mono mFld (Below.refl _ _)) (hQ11.mono mFil (Below.refl _ _)) hk1).mono ?_; rintro e w12 ⟨rfl, hb12⟩
      go_wp2_with fail
      refine hK.out _ _ (by (try dsimp only); exact ⟨keep_cell hb12 hHeld.1, keep_cell hb12 hHeld.2.1, keep_cell hb12 hHeld.2.2.1, keep_lt hb12 hHeld.2.2.2.1, keep_cell hb12 hHeld.2.2.2.2.1, keep_cell hb12 hHeld.2.2.2.2.2.1, keep_cell hb12 hHeld.2.2.2.2.2.2.1, keep_lt hb12 hHeld.2.2.2.2.2.2.2.1, keep_cell hb12 hHeld.2.2.2.2.2.2.2.2.1, keep_cell hb12 hHeld.2.2.2.2.2.2.2.2.2.1, keep_cell hb12 hHeld.2.2.2.2.2.2.2.2.2.2.1, keep_lt hb12 hHeld.2.2.2.2.2.2.2.2.2.2.2.1, keep_cell hb12 hHeld.2.2.2.2.2.2.2.2.2.2.2.2.1, keep_cell hb12 hHeld.2.2.2.2.2.2.2.2.2.2.2.2.2.1, keep_cell hb12 hHeld.2.2.2.2.2.2.2.2.2.2.2.2.2.2.1, keep_lt hb12 hHeld.2.2.2.2.2.2.2.2.2.2.2.2.2.2.2.1, ex_trans hHeld.2.2.2.2.2.2.2.2.2.2.2.2.2.2.2.2.1 hb12, ex_trans hHeld.2.2.2.2.2.2.2.2.2.2.2.2.2.2.2.2.2.1 hb12, ex_trans hHeld.2.2.2.2.2.2.2.2.2.2.2.2.2.2.2.2.2.2.1 hb12, ex_trans hHeld.2.2.2.2.2.2.2.2.2.2.2.2.2.2.2.2.2.2.2.1 hb12, ex_trans hHeld.2.2.2.2.2.2.2.2.2.2.2.2.2.2.2.2.2.2.2.2.1 hb12, ex_trans hHeld.2.2.2.2.2.2.2.2.2.2.2.2.2.2.2.2.2.2.2.2.2 hb12⟩) (fun hNew => ?_)
      clear hK K hHeld
      have hHeld := hNew
      clear hNew
      try simp only [Act.put, List.setIfInBounds_toArray, List.set_cons_zero, List.set_cons_succ]
      first | (refine held_take 4 rfl (by kernel_rfl) (by kernel_rfl) (by kernel_rfl) (by rfl) (fun _ _ _ h => h) (by assumption) (by intro w hSw; (try dsimp only at hSw); go_simp; first | done | with_reducible rfl) ?_) | (refine held_skip 4 rfl (by kernel_rfl) (by kernel_rfl) (by kernel_rfl) (by rfl) (fun _ _ _ h => h) (by assumption) ?_)
      simp only [Act.put, List.setIfInBounds_toArray, List.set_cons_zero, List.set_cons_succ]
      refine wpAnyH_done (by kernel_rfl) ?_ _
      obtain ⟨x0_0', x0_1', x0_2', z0', x1_0', x1_1', x1_2', z1', x2_0', x2_1', x2_2', z2', x3_0', x3_1', x3_2', z3', hK0', hK3', hK4', hK6', hK7', hK9'⟩ := hHeld
      clear x0_0 x0_1 x0_2 z0 x1_0 x1_1 x1_2 z1 x2_0 x2_1 x2_2 z2 x3_0 x3_1 x3_2 z3 hK0 hK3 hK4 hK6 hK7 hK9
      have x0_0 := x0_0'
      clear x0_0'
      have x0_1 := x0_1'
      clear x0_1'
      have x0_2 := x0_2'
      clear x0_2'
      have z0 := z0'
      clear z0'
      have x1_0 := x1_0'
      clear x1_0'
      have x1_1 := x1_1'
      clear x1_1'
      have x1_2 := x1_2'
      clear x1_2'
      have z1 := z1'
      clear z1'
      have x2_0 := x2_0'
      clear x2_0'
      have x2_1 := x2_1'
      clear x2_1'
      have x2_2 := x2_2'
      clear x2_2'
      have z2 := z2'
      clear z2'
      have x3_0 := x3_0'
      clear x3_0'
      have x3_1 := x3_1'
      clear x3_1'
      have x3_2 := x3_2'
      clear x3_2'
      have z3 := z3'
      clear z3'
      have hK0 := hK0'
      clear hK0'
      have hK3 := hK3'
      clear hK3'
      have hK4 := hK4'
      clear hK4'
      have hK6 := hK6'
      clear hK6'
      have hK7 := hK7'
      clear hK7'
      have hK9 := hK9'
      clear hK9'
      have hK11 : Below w11.heap.size w11 w12 := (ex_trans (Below.refl _ _) hb12)
      go_wp2_with fail
      go_returns
      exact ⟨rfl, hK0⟩
    · have g1 : (-1 : Int) < 0 := by omega
      have hK0 := Below.refl W.heap.size W
      go_enter Try.func3, Try.ntmps3
      go_wp2_with fail
      refine (laws_szStore_ok s0 A0 s0.schema.length c0 B0 s0.files.length d0 1048576 _ (hS0.mono mFld (ex_trans hK0 (by go_grown))) (hT0.mono mFil (ex_trans hK0 (by go_grown))) hs0 (by omega) (by omega) (by omega)).mono ?_; rintro e w1 ⟨rfl, hb1⟩
      have hx1 : Below W.heap.size W w1 := ex_trans (by go_grown) hb1
      replace hK0 := ex_trans hK0 hx1
      have x0_0 : w1.cell? ⟨W.heap.size, 0, none⟩ = some (.slice A0 s0.schema.length c0) := keep_cell hb1 (by go_simp)
      have x0_1 : w1.cell? ⟨W.heap.size, 1, none⟩ = some (.slice B0 s0.files.length d0) := keep_cell hb1 (by go_simp)
      have x0_2 : w1.cell? ⟨W.heap.size, 2, none⟩ = some (.int .i64 s0.next) := keep_cell hb1 (by go_simp)
      have z0 : W.heap.size < w1.heap.size := keep_lt hb1 (by simp <;> omega)
      have x1_0 : w1.cell? ⟨W.heap.size + 1, 0, none⟩ = some (.slice A1 s1.schema.length c1) := keep_cell hb1 (by go_simp)
      have x1_1 : w1.cell? ⟨W.heap.size + 1, 1, none⟩ = some (.slice B1 s1.files.length d1) := keep_cell hb1 (by go_simp)
      have x1_2 : w1.cell? ⟨W.heap.size + 1, 2, none⟩ = some (.int .i64 s1.next) := keep_cell hb1 (by go_simp)
      have z1 : W.heap.size + 1 < w1.heap.size := keep_lt hb1 (by simp <;> omega)
      go_wp2_with fail
      refine (laws_szStore_no s1 A1 s1.schema.length c1 B1 s1.files.length d1 (1048576 - s0.sz) _ (hS1.mono mFld (ex_trans hK0 (by go_grown))) (hT1.mono mFil (ex_trans hK0 (by go_grown))) hs1 (by omega) (by omega) (by omega)).mono ?_; rintro e w2 ⟨rfl, hb2⟩
      have hx2 : Below w1.heap.size w1 w2 := ex_trans (by go_grown) hb2
      replace hK0 := ex_trans hK0 hx2
      replace x0_0 := keep_cell hx2 x0_0
      replace x0_1 := keep_cell hx2 x0_1
      replace x0_2 := keep_cell hx2 x0_2
      replace z0 := keep_lt hx2 z0
      replace x1_0 := keep_cell hx2 x1_0
      replace x1_1 := keep_cell hx2 x1_1
      replace x1_2 := keep_cell hx2 x1_2
      replace z1 := keep_lt hx2 z1
      go_wp2_with fail
      go_returns
      exact ⟨rfl, hK0⟩
  · have g0 : (-1 : Int) < 0 := by omega
    have hK0 := Below.refl W.heap.size W
    go_enter Try.func3, Try.ntmps3
    go_wp2_with fail
    refine (laws_szStore_no s0 A0 s0.schema.length c0 B0 s0.files.length d0 1048576 _ (hS0.mono mFld (ex_trans hK0 (by go_grown))) (hT0.mono mFil (ex_trans hK0 (by go_grown))) hs0 (by omega) (by omega) (by omega)).mono ?_; rintro e w1 ⟨rfl, hb1⟩
    have hx1 : Below W.heap.size W w1 := ex_trans (by go_grown) hb1
    replace hK0 := ex_trans hK0 hx1
    have x0_0 : w1.cell? ⟨W.heap.size, 0, none⟩ = some (.slice A0 s0.schema.length c0) := keep_cell hb1 (by go_simp)
    have x0_1 : w1.cell? ⟨W.heap.size, 1, none⟩ = some (.slice B0 s0.files.length d0) := keep_cell hb1 (by go_simp)
    have x0_2 : w1.cell? ⟨W.heap.size, 2, none⟩ = some (.int .i64 s0.next) := keep_cell hb1 (by go_simp)
    have z0 : W.heap.size < w1.heap.size := keep_lt hb1 (by simp <;> omega)
    have x1_0 : w1.cell? ⟨W.heap.size + 1, 0, none⟩ = some (.slice A1 s1.schema.length c1) := keep_cell hb1 (by go_simp)
    have x1_1 : w1.cell? ⟨W.heap.size + 1, 1, none⟩ = some (.slice B1 s1.files.length d1) := keep_cell hb1 (by go_simp)
    have x1_2 : w1.cell? ⟨W.heap.size + 1, 2, none⟩ = some (.int .i64 s1.next) := keep_cell hb1 (by go_simp)
    have z1 : W.heap.size + 1 < w1.heap.size := keep_lt hb1 (by simp <;> omega)
    go_wp2_with fail
    go_returns
    exact ⟨rfl, hK0⟩
theorem core_FnExactEqualForUser {H : Type} (enc : TypeId × Value → H) (W : World) (base : Nat) (args : Array Value) (ds : List (DataW H)) (p : List MemPlace)
    (hA : DataW.TrodAll enc Try.prog W 0 (fun _ => true) true Try.f3.params.toList args.toList ds p)
    (hval : ∀ (j : Nat) t v, Try.f3.params[j]? = some t → args[j]? = some v → Value.okWide Try.prog W .any base t v) :
    Calls Try.prog 3 args W fun e W' => e = .returned (.bool true) ∧ Below W.heap.size W W' := by
  rw [Try.params3] at hA hval
  obtain ⟨u0, vs0, d0, ds0, p0, q0, hargs, rfl, rfl, h0, r0⟩ := trodAll_cons hA
  obtain ⟨u1, vs1, d1, ds1, p1, q1, rfl, rfl, rfl, h1, r1⟩ := trodAll_cons r0
  obtain ⟨u2, vs2, d2, ds2, p2, q2, rfl, rfl, rfl, h2, r2⟩ := trodAll_cons r1
  obtain ⟨rfl, rfl, rfl⟩ := trodAll_nil r2
  obtain rfl : args = #[u0, u1, u2] := by cases args; simp_all
  obtain ⟨fu0, g0⟩ := h0
  obtain ⟨x0, e0, ok0⟩ := Op_Store.2 _ _ _ g0
  obtain ⟨A0, n0, c0, B0, m0, d'0, e0, hS0, hT0⟩ := e0
  have z0 := agg_of Try.underlying25 (hval 0 25 u0 rfl rfl)
  have y0 : u0 = .agg ⟨_⟩ := z0.trans (congrArg (fun l => Value.agg ⟨l⟩) e0)
  subst y0
  obtain ⟨fu1, g1⟩ := h1
  obtain ⟨x1, e1, ok1⟩ := Op_Store.2 _ _ _ g1
  obtain ⟨A1, n1, c1, B1, m1, d'1, e1, hS1, hT1⟩ := e1
  have z1 := agg_of Try.underlying25 (hval 1 25 u1 rfl rfl)
  have y1 : u1 = .agg ⟨_⟩ := z1.trans (congrArg (fun l => Value.agg ⟨l⟩) e1)
  subst y1
  obtain ⟨a2, rfl, _, _, w2⟩ := open_int Try.underlying3 (hval 2 3 u2 rfl rfl) h2
  exact walk_FnExactEqualForUser W x0 A0 n0 c0 B0 m0 d'0 hS0 hT0 ok0 x1 A1 n1 c1 B1 m1 d'1 hS1 hT1 ok1 a2 w2
set_option maxRecDepth 100000 in
theorem lifted_FnExactEqualForUser (os : Os) (started : os.Started) (H : Type) (enc : TypeId × Value → H) :
    ReturnsInHanded {} Try.checked os 3 .any (Rows.fnExactEqualForUserSpec.pre6 enc Try.prog Try.f3 Rows.fnExactEqualForUserRow.domain false) (Rows.fnExactEqualForUserSpec.post enc Try.prog Try.f3 false true false false) :=
  law_lifted (C := Try.checked) (tb := 4) (n := 3) own started (by kernel_rfl) Try.func3 rfl (by kernel_rfl) Try.underlying4 (by kernel_rfl)
    (fun ds h => by match ds, h with | [_, _, _], _ => rfl) laidOut' (by kernel_rfl)
    (ChangeSpec.witness6 (enc := enc) (C := Try.checked) false ⟨#[], #[.agg #[.slice none 0 0, .slice none 0 0, .int .i64 0], .agg #[.slice none 0 0, .slice none 0 0, .int .i64 0], .int .i64 0], []⟩ 8 (by kernel_rfl) (by kernel_rfl) (by kernel_rfl) (by kernel_rfl))
    (fun W base args ds p hA hval => core_FnExactEqualForUser enc W base args ds p hA hval)
theorem holds_FnExactEqualForUser : Rows.FnExactEqualForUserSaid :=
  OpenClaim.holds_of_wide 3 Try.f3 rfl rfl rfl rfl rfl rfl rfl ⟨rfl, rfl, rfl, rfl, rfl⟩ rfl rfl rfl rfl rfl (by kernel_rfl) Try.func3 (by kernel_rfl)
    (of_decide_eq_true (by kernel_rfl)) (by unfold Func.isWrapper; first | (rw [if_pos (by decide +kernel)]; kernel_rfl) | (rw [if_neg (by decide +kernel)]; exact ⟨rfl, rfl⟩))
    (fun os started H enc _ => lifted_FnExactEqualForUser os started H enc)
end Go.Proofs.Ytkjhfblipmagoaa
