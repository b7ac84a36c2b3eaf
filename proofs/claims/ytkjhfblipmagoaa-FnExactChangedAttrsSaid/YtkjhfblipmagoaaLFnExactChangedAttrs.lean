/-
  FnExactChangedAttrs RETURNS true AND LEAVES ITS ARGUMENTS AS THEY WERE, FOR EVERY INPUT THAT THE STATEMENT SPEAKS OF. No condition.
-/
import Derived.WalkKit
import Derived.ProofKit
import Derived.OpenShut
import Derived.Handy
import Derived.Lib.Hide
import Derived.Deep.QuietTactic
import Derived.BigQuiet
import Derived.Deep.RegionHeld3
import Derived.Deep.DeepCutAuto
import Derived.Test.YtkjhfblipmagoaaLib
import Derived.Test.YtkjhfblipmagoaaOp
import Derived.Test.YtkjhfblipmagoaaC1
import Derived.Test.YtkjhfblipmagoaaC2
import Derived.Test.YtkjhfblipmagoaaOwn
import Derived.Test.YtkjhfblipmagoaaRow
import Derived.Test.YtkjhfblipmagoaaHld
import Derived.Test.YtkjhfblipmagoaaT1
import Derived.Test.YtkjhfblipmagoaaT6
import Derived.Test.YtkjhfblipmagoaaSz
import Derived.Test.YtkjhfblipmagoaaM0
import Derived.Test.YtkjhfblipmagoaaM1
import Derived.Test.YtkjhfblipmagoaaD1
import Derived.Test.YtkjhfblipmagoaaT2
import Derived.Test.YtkjhfblipmagoaaT3
import Derived.Test.YtkjhfblipmagoaaM2
import Derived.Test.YtkjhfblipmagoaaC4
import Derived.Test.YtkjhfblipmagoaaN0
import Derived.Test.YtkjhfblipmagoaaD3
import Derived.Test.YtkjhfblipmagoaaD5
import Derived.Test.YtkjhfblipmagoaaD7
import Derived.Test.YtkjhfblipmagoaaH1
import Derived.Test.YtkjhfblipmagoaaE4
import Derived.Test.YtkjhfblipmagoaaE5
import Derived.Test.YtkjhfblipmagoaaQ5
import Derived.Test.YtkjhfblipmagoaaP4
import Derived.Test.YtkjhfblipmagoaaR0
import Derived.Test.YtkjhfblipmagoaaR1
import Derived.Test.YtkjhfblipmagoaaR2
import Derived.Test.YtkjhfblipmagoaaRows
namespace Go.Proofs.Ytkjhfblipmagoaa
open Go.RowKit Go.ChangeShapes Go.WideShapes Go.ChangeAt Go.ChangeMaps
set_option linter.unusedVariables false
set_option maxRecDepth 100000
set_option maxHeartbeats 16000000 in
theorem walk_FnExactChangedAttrs (W : World) (f0 : Fil) (A0 : Option Addr) (n0 c0 : Nat) (hS0 : Sl 4 RAtr W A0 n0 f0.attrs) (hf0 : f0.ok maxLen) (f1 : Fil) (A1 : Option Addr) (n1 c1 : Nat) (hS1 : Sl 4 RAtr W A1 n1 f1.attrs) (hf1 : f1.ok maxLen) : Calls Try.prog 7 #[.agg #[.int .i64 f0.id, .int .i64 f0.owner, .bool f0.shared, .int .i64 f0.link, .slice A0 n0 c0], .agg #[.int .i64 f1.id, .int .i64 f1.owner, .bool f1.shared, .int .i64 f1.link, .slice A1 n1 c1]] W fun e w' => e = .returned (.bool true) ∧ Below W.heap.size W w' := by
  obtain rfl : f0.attrs.length = n0 := hS0.len
  obtain rfl : f1.attrs.length = n1 := hS1.len
  have nn0 := Fil.sz_nn f0
  by_cases hc0 : f0.sz ≤ 1048576
  · obtain ⟨hk0, hm0⟩ := Fil.okB (show f0.sz ≤ 1048576 by omega)
    have g0 : 0 ≤ 1048576 - f0.sz := by omega
    have nn1 := Fil.sz_nn f1
    by_cases hc1 : f1.sz ≤ 1048576 - f0.sz
    · obtain ⟨hk1, hm1⟩ := Fil.okB (show f1.sz ≤ 1048576 by omega)
      have g1 : 0 ≤ 1048576 - f0.sz - f1.sz := by omega
      obtain ⟨r0, er0⟩ : ∃ r, r = chgL f0 f1 := ⟨_, rfl⟩
      have hln0 : r0.length ≤ 1073741824 := by rw [er0]; have := chgL_len f0 f1; omega
      have HE0 := Lib.hid er0
      clear er0
      have hK0 := Below.refl W.heap.size W
      go_enter Try.func7, Try.ntmps7
      go_wp2_with fail
      refine (laws_szFile_ok f0 A0 f0.attrs.length c0 1048576 _ (hS0.mono mAtr (ex_trans hK0 (by go_grown))) hf0 (by omega) (by omega) (by omega)).mono ?_; rintro e w1 ⟨rfl, hb1⟩
      have hx1 : Below W.heap.size W w1 := ex_trans (by go_grown) hb1
      replace hK0 := ex_trans hK0 hx1
      have x0_0 : w1.cell? ⟨W.heap.size, 0, none⟩ = some (.int .i64 f0.id) := keep_cell hb1 (by go_simp)
      have x0_1 : w1.cell? ⟨W.heap.size, 1, none⟩ = some (.int .i64 f0.owner) := keep_cell hb1 (by go_simp)
      have x0_2 : w1.cell? ⟨W.heap.size, 2, none⟩ = some (.bool f0.shared) := keep_cell hb1 (by go_simp)
      have x0_3 : w1.cell? ⟨W.heap.size, 3, none⟩ = some (.int .i64 f0.link) := keep_cell hb1 (by go_simp)
      have x0_4 : w1.cell? ⟨W.heap.size, 4, none⟩ = some (.slice A0 f0.attrs.length c0) := keep_cell hb1 (by go_simp)
      have z0 : W.heap.size < w1.heap.size := keep_lt hb1 (by simp <;> omega)
      have x1_0 : w1.cell? ⟨W.heap.size + 1, 0, none⟩ = some (.int .i64 f1.id) := keep_cell hb1 (by go_simp)
      have x1_1 : w1.cell? ⟨W.heap.size + 1, 1, none⟩ = some (.int .i64 f1.owner) := keep_cell hb1 (by go_simp)
      have x1_2 : w1.cell? ⟨W.heap.size + 1, 2, none⟩ = some (.bool f1.shared) := keep_cell hb1 (by go_simp)
      have x1_3 : w1.cell? ⟨W.heap.size + 1, 3, none⟩ = some (.int .i64 f1.link) := keep_cell hb1 (by go_simp)
      have x1_4 : w1.cell? ⟨W.heap.size + 1, 4, none⟩ = some (.slice A1 f1.attrs.length c1) := keep_cell hb1 (by go_simp)
      have z1 : W.heap.size + 1 < w1.heap.size := keep_lt hb1 (by simp <;> omega)
      go_wp2_with fail
      refine (laws_szFile_ok f1 A1 f1.attrs.length c1 (1048576 - f0.sz) _ (hS1.mono mAtr (ex_trans hK0 (by go_grown))) hf1 (by omega) (by omega) (by omega)).mono ?_; rintro e w2 ⟨rfl, hb2⟩
      have hx2 : Below w1.heap.size w1 w2 := ex_trans (by go_grown) hb2
      replace hK0 := ex_trans hK0 hx2
      replace x0_0 := keep_cell hx2 x0_0
      replace x0_1 := keep_cell hx2 x0_1
      replace x0_2 := keep_cell hx2 x0_2
      replace x0_3 := keep_cell hx2 x0_3
      replace x0_4 := keep_cell hx2 x0_4
      replace z0 := keep_lt hx2 z0
      replace x1_0 := keep_cell hx2 x1_0
      replace x1_1 := keep_cell hx2 x1_1
      replace x1_2 := keep_cell hx2 x1_2
      replace x1_3 := keep_cell hx2 x1_3
      replace x1_4 := keep_cell hx2 x1_4
      replace z1 := keep_lt hx2 z1
      go_wp2_with fail
      refine wp_region_held_drew (S := (fun w' => w'.cell? ⟨W.heap.size, 0, none⟩ = some (.int .i64 f0.id) ∧ w'.cell? ⟨W.heap.size, 1, none⟩ = some (.int .i64 f0.owner) ∧ w'.cell? ⟨W.heap.size, 2, none⟩ = some (.bool f0.shared) ∧ w'.cell? ⟨W.heap.size, 3, none⟩ = some (.int .i64 f0.link) ∧ w'.cell? ⟨W.heap.size, 4, none⟩ = some (.slice A0 f0.attrs.length c0) ∧ W.heap.size < w'.heap.size ∧ w'.cell? ⟨W.heap.size + 1, 0, none⟩ = some (.int .i64 f1.id) ∧ w'.cell? ⟨W.heap.size + 1, 1, none⟩ = some (.int .i64 f1.owner) ∧ w'.cell? ⟨W.heap.size + 1, 2, none⟩ = some (.bool f1.shared) ∧ w'.cell? ⟨W.heap.size + 1, 3, none⟩ = some (.int .i64 f1.link) ∧ w'.cell? ⟨W.heap.size + 1, 4, none⟩ = some (.slice A1 f1.attrs.length c1) ∧ W.heap.size + 1 < w'.heap.size ∧ Below W.heap.size W w')) (by kernel_rfl) (by (try dsimp only); exact ⟨x0_0, x0_1, x0_2, x0_3, x0_4, z0, x1_0, x1_1, x1_2, x1_3, x1_4, z1, (hK0).drew⟩) (fun hHeld => ?_)
      first | (refine held_take 0 rfl (by kernel_rfl) (by kernel_rfl) (by kernel_rfl) (by rfl) (fun _ _ _ h => h) (by assumption) (by intro w hSw; (try dsimp only at hSw); go_simp; first | done | with_reducible rfl) ?_) | (refine held_skip 0 rfl (by kernel_rfl) (by kernel_rfl) (by kernel_rfl) (by rfl) (fun _ _ _ h => h) (by assumption) ?_)
      simp only [Act.put, List.setIfInBounds_toArray, List.set_cons_zero, List.set_cons_succ]
      first | (refine held_take 2 rfl (by kernel_rfl) (by kernel_rfl) (by kernel_rfl) (by rfl) (fun _ _ _ h => h) (by assumption) (by intro w hSw; (try dsimp only at hSw); go_simp; first | done | with_reducible rfl) ?_) | (refine held_skip 2 rfl (by kernel_rfl) (by kernel_rfl) (by kernel_rfl) (by rfl) (fun _ _ _ h => h) (by assumption) ?_)
      simp only [Act.put, List.setIfInBounds_toArray, List.set_cons_zero, List.set_cons_succ]
      refine held_one 1 (by kernel_rfl) rfl (fun K hK => ?_)
      go_simp
      go_at_call 20
      refine (laws_toFile f0 A0 f0.attrs.length c0 _ (hS0.mono mAtr hHeld.2.2.2.2.2.2.2.2.2.2.2.2) hk0).mono ?_; rintro e w3 hN3
      obtain ⟨A'3, c'3, bs3, rfl, hcc3, hW3, hF3, hb3⟩ := hN3.out
      have hL3 := Lib.hid (hW3.lt lAtr)
      have hR3 := hW3.sl (R := RAtr) (fun h => h.1)
      go_wp2_with fail
      refine hK.out _ _ (by (try dsimp only); exact ⟨keep_cell hb3 hHeld.1, keep_cell hb3 hHeld.2.1, keep_cell hb3 hHeld.2.2.1, keep_cell hb3 hHeld.2.2.2.1, keep_cell hb3 hHeld.2.2.2.2.1, keep_lt hb3 hHeld.2.2.2.2.2.1, keep_cell hb3 hHeld.2.2.2.2.2.2.1, keep_cell hb3 hHeld.2.2.2.2.2.2.2.1, keep_cell hb3 hHeld.2.2.2.2.2.2.2.2.1, keep_cell hb3 hHeld.2.2.2.2.2.2.2.2.2.1, keep_cell hb3 hHeld.2.2.2.2.2.2.2.2.2.2.1, keep_lt hb3 hHeld.2.2.2.2.2.2.2.2.2.2.2.1, ex_trans hHeld.2.2.2.2.2.2.2.2.2.2.2.2 hb3⟩) (fun hNew => ?_)
      clear hK K hHeld
      have hHeld := hNew
      clear hNew
      try simp only [Act.put, List.setIfInBounds_toArray, List.set_cons_zero, List.set_cons_succ]
      refine held_one 3 (by kernel_rfl) rfl (fun K hK => ?_)
      go_simp
      go_at_call 20
      refine (laws_toFile f1 A1 f1.attrs.length c1 _ (hS1.mono mAtr hHeld.2.2.2.2.2.2.2.2.2.2.2.2) hk1).mono ?_; rintro e w4 hN4
      obtain ⟨A'4, c'4, bs4, rfl, hcc4, hW4, hF4, hb4⟩ := hN4.out
      have hL4 := Lib.hid (hW4.lt lAtr)
      have hR4 := hW4.sl (R := RAtr) (fun h => h.1)
      go_wp2_with fail
      refine hK.out _ _ (by (try dsimp only); exact ⟨keep_cell hb4 hHeld.1, keep_cell hb4 hHeld.2.1, keep_cell hb4 hHeld.2.2.1, keep_cell hb4 hHeld.2.2.2.1, keep_cell hb4 hHeld.2.2.2.2.1, keep_lt hb4 hHeld.2.2.2.2.2.1, keep_cell hb4 hHeld.2.2.2.2.2.2.1, keep_cell hb4 hHeld.2.2.2.2.2.2.2.1, keep_cell hb4 hHeld.2.2.2.2.2.2.2.2.1, keep_cell hb4 hHeld.2.2.2.2.2.2.2.2.2.1, keep_cell hb4 hHeld.2.2.2.2.2.2.2.2.2.2.1, keep_lt hb4 hHeld.2.2.2.2.2.2.2.2.2.2.2.1, ex_trans hHeld.2.2.2.2.2.2.2.2.2.2.2.2 hb4⟩) (fun hNew => ?_)
      clear hK K hHeld
      have hHeld := hNew
      clear hNew
      try simp only [Act.put, List.setIfInBounds_toArray, List.set_cons_zero, List.set_cons_succ]
      refine held_one 4 (by kernel_rfl) rfl (fun K hK => ?_)
      go_simp
      go_at_call 32
      refine (spec_ChangedAttrs f0 A'3 f0.attrs.length c'3 f1 A'4 f1.attrs.length c'4 _ (hR3.mono mAtr (ex_trans (Below.refl _ _) hb4)) (hR4.mono mAtr (Below.refl _ _)) (by omega) (by omega)).mono ?_; rintro e w5 hN5
      rw [← HE0.out] at hN5
      obtain ⟨A105, c105, bs5, rfl, hW5, hF5, hb5⟩ := hN5.v (O := OStr) encStr (fun _ => ⟨rfl, rfl⟩)
      have hL5 := Lib.hid (hW5.lt lStr)
      have hR5 := hW5.sl (R := RStr) (fun h => h.1)
      go_wp2_with fail
      refine hK.out _ _ (by (try dsimp only); exact ⟨keep_cell hb5 hHeld.1, keep_cell hb5 hHeld.2.1, keep_cell hb5 hHeld.2.2.1, keep_cell hb5 hHeld.2.2.2.1, keep_cell hb5 hHeld.2.2.2.2.1, keep_lt hb5 hHeld.2.2.2.2.2.1, keep_cell hb5 hHeld.2.2.2.2.2.2.1, keep_cell hb5 hHeld.2.2.2.2.2.2.2.1, keep_cell hb5 hHeld.2.2.2.2.2.2.2.2.1, keep_cell hb5 hHeld.2.2.2.2.2.2.2.2.2.1, keep_cell hb5 hHeld.2.2.2.2.2.2.2.2.2.2.1, keep_lt hb5 hHeld.2.2.2.2.2.2.2.2.2.2.2.1, ex_trans hHeld.2.2.2.2.2.2.2.2.2.2.2.2 hb5⟩) (fun hNew => ?_)
      clear hK K hHeld
      have hHeld := hNew
      clear hNew
      try simp only [Act.put, List.setIfInBounds_toArray, List.set_cons_zero, List.set_cons_succ]
      first | (refine held_take 5 rfl (by kernel_rfl) (by kernel_rfl) (by kernel_rfl) (by rfl) (fun _ _ _ h => h) (by assumption) (by intro w hSw; (try dsimp only at hSw); go_simp; first | done | with_reducible rfl) ?_) | (refine held_skip 5 rfl (by kernel_rfl) (by kernel_rfl) (by kernel_rfl) (by rfl) (fun _ _ _ h => h) (by assumption) ?_)
      simp only [Act.put, List.setIfInBounds_toArray, List.set_cons_zero, List.set_cons_succ]
      refine wpAnyH_done (by kernel_rfl) ?_ _
      obtain ⟨x0_0', x0_1', x0_2', x0_3', x0_4', z0', x1_0', x1_1', x1_2', x1_3', x1_4', z1', hK0'⟩ := hHeld
      clear x0_0 x0_1 x0_2 x0_3 x0_4 z0 x1_0 x1_1 x1_2 x1_3 x1_4 z1 hK0
      have x0_0 := x0_0'
      clear x0_0'
      have x0_1 := x0_1'
      clear x0_1'
      have x0_2 := x0_2'
      clear x0_2'
      have x0_3 := x0_3'
      clear x0_3'
      have x0_4 := x0_4'
      clear x0_4'
      have z0 := z0'
      clear z0'
      have x1_0 := x1_0'
      clear x1_0'
      have x1_1 := x1_1'
      clear x1_1'
      have x1_2 := x1_2'
      clear x1_2'
      have x1_3 := x1_3'
      clear x1_3'
      have x1_4 := x1_4'
      clear x1_4'
      have z1 := z1'
      clear z1'
      have hK0 := hK0'
      clear hK0'
      have hK3 : Below w3.heap.size w3 w5 := (ex_trans (ex_trans (Below.refl _ _) hb4) hb5)
      have hK4 : Below w4.heap.size w4 w5 := (ex_trans (Below.refl _ _) hb5)
      have hK5 : Below w5.heap.size w5 w5 := (Below.refl _ _)
      go_wp2_with fail
      refine (laws_toFile f0 A0 f0.attrs.length c0 _ (hS0.mono mAtr (ex_trans hK0 (by go_grown))) hk0).mono ?_; rintro e w6 hN6
      obtain ⟨A'6, c'6, bs6, rfl, hcc6, hW6, hF6, hb6⟩ := hN6.out
      have hL6 := Lib.hid (hW6.lt lAtr)
      have hR6 := hW6.sl (R := RAtr) (fun h => h.1)
      have hG6_0 : Hid (∀ b ∈ bs6, W.heap.size ≤ b) := Lib.hid (fun b hb => by have h1 := hF6.2 b hb; have h2 := hK0.size; (try simp at h1); omega)
      have hG6_3 : Hid (∀ b ∈ bs6, w3.heap.size ≤ b) := Lib.hid (fun b hb => by have h1 := hF6.2 b hb; have h2 := hK3.size; (try simp at h1); omega)
      have hG6_4 : Hid (∀ b ∈ bs6, w4.heap.size ≤ b) := Lib.hid (fun b hb => by have h1 := hF6.2 b hb; have h2 := hK4.size; (try simp at h1); omega)
      have hG6_5 : Hid (∀ b ∈ bs6, w5.heap.size ≤ b) := Lib.hid (fun b hb => by have h1 := hF6.2 b hb; have h2 := hK5.size; (try simp at h1); omega)
      have hN6_0 : Hid (W.heap.size ∉ bs6) := Lib.hid (fun h => by have h1 := hF6.2 _ h; have h2 := z0; (try simp at h1); omega)
      have hN6_1 : Hid (W.heap.size + 1 ∉ bs6) := Lib.hid (fun h => by have h1 := hF6.2 _ h; have h2 := z1; (try simp at h1); omega)
      have hx6 : Below w5.heap.size w5 w6 := ex_trans (by go_grown) hb6
      replace hK0 := ex_trans hK0 hx6
      replace hK3 := ex_trans hK3 hx6
      replace hK4 := ex_trans hK4 hx6
      replace hK5 := ex_trans hK5 hx6
      replace x0_0 := keep_cell hx6 x0_0
      replace x0_1 := keep_cell hx6 x0_1
      replace x0_2 := keep_cell hx6 x0_2
      replace x0_3 := keep_cell hx6 x0_3
      replace x0_4 := keep_cell hx6 x0_4
      replace z0 := keep_lt hx6 z0
      replace x1_0 := keep_cell hx6 x1_0
      replace x1_1 := keep_cell hx6 x1_1
      replace x1_2 := keep_cell hx6 x1_2
      replace x1_3 := keep_cell hx6 x1_3
      replace x1_4 := keep_cell hx6 x1_4
      replace z1 := keep_lt hx6 z1
      have hK6 := Below.refl w6.heap.size w6
      go_wp2_with fail
      refine (laws_toFile f1 A1 f1.attrs.length c1 _ (hS1.mono mAtr (ex_trans hK0 (by go_grown))) hk1).mono ?_; rintro e w7 hN7
      obtain ⟨A'7, c'7, bs7, rfl, hcc7, hW7, hF7, hb7⟩ := hN7.out
      have hL7 := Lib.hid (hW7.lt lAtr)
      have hR7 := hW7.sl (R := RAtr) (fun h => h.1)
      have hG7_0 : Hid (∀ b ∈ bs7, W.heap.size ≤ b) := Lib.hid (fun b hb => by have h1 := hF7.2 b hb; have h2 := hK0.size; (try simp at h1); omega)
      have hG7_3 : Hid (∀ b ∈ bs7, w3.heap.size ≤ b) := Lib.hid (fun b hb => by have h1 := hF7.2 b hb; have h2 := hK3.size; (try simp at h1); omega)
      have hG7_4 : Hid (∀ b ∈ bs7, w4.heap.size ≤ b) := Lib.hid (fun b hb => by have h1 := hF7.2 b hb; have h2 := hK4.size; (try simp at h1); omega)
      have hG7_5 : Hid (∀ b ∈ bs7, w5.heap.size ≤ b) := Lib.hid (fun b hb => by have h1 := hF7.2 b hb; have h2 := hK5.size; (try simp at h1); omega)
      have hG7_6 : Hid (∀ b ∈ bs7, w6.heap.size ≤ b) := Lib.hid (fun b hb => by have h1 := hF7.2 b hb; have h2 := hK6.size; (try simp at h1); omega)
      have hD7_6 : Hid (∀ b ∈ bs7, b ∉ bs6) := Lib.hid (fun b hb hb2 => by have h1 := hF7.2 b hb; have h2 := hL6.out b hb2; have h3 := hK6.size; (try simp at h1); omega)
      have hN7_0 : Hid (W.heap.size ∉ bs7) := Lib.hid (fun h => by have h1 := hF7.2 _ h; have h2 := z0; (try simp at h1); omega)
      have hN7_1 : Hid (W.heap.size + 1 ∉ bs7) := Lib.hid (fun h => by have h1 := hF7.2 _ h; have h2 := z1; (try simp at h1); omega)
      have hN7_2 : Hid (w6.heap.size ∉ bs7) := Lib.hid (fun h => by have h1 := hF7.2 _ h; (try simp at h1); omega)
      have hx7 : Below w6.heap.size w6 w7 := ex_trans (by go_grown) hb7
      have hN6_2 : Hid (w6.heap.size ∉ bs6) := Lib.hid (fun h => by have h2 := hL6.out _ h; have h3 := hK6.size; omega)
      replace hK0 := ex_trans hK0 hx7
      replace hK3 := ex_trans hK3 hx7
      replace hK4 := ex_trans hK4 hx7
      replace hK5 := ex_trans hK5 hx7
      replace hK6 := ex_trans hK6 hx7
      replace x0_0 := keep_cell hx7 x0_0
      replace x0_1 := keep_cell hx7 x0_1
      replace x0_2 := keep_cell hx7 x0_2
      replace x0_3 := keep_cell hx7 x0_3
      replace x0_4 := keep_cell hx7 x0_4
      replace z0 := keep_lt hx7 z0
      replace x1_0 := keep_cell hx7 x1_0
      replace x1_1 := keep_cell hx7 x1_1
      replace x1_2 := keep_cell hx7 x1_2
      replace x1_3 := keep_cell hx7 x1_3
      replace x1_4 := keep_cell hx7 x1_4
      replace z1 := keep_lt hx7 z1
      have x2_0 : w7.cell? ⟨w6.heap.size, 0, none⟩ = some (.int .i64 f0.id) := keep_cell hb7 (by go_simp)
      have x2_1 : w7.cell? ⟨w6.heap.size, 1, none⟩ = some (.int .i64 f0.owner) := keep_cell hb7 (by go_simp)
      have x2_2 : w7.cell? ⟨w6.heap.size, 2, none⟩ = some (.bool f0.shared) := keep_cell hb7 (by go_simp)
      have x2_3 : w7.cell? ⟨w6.heap.size, 3, none⟩ = some (.int .i64 f0.link) := keep_cell hb7 (by go_simp)
      have x2_4 : w7.cell? ⟨w6.heap.size, 4, none⟩ = some (.slice A'6 f0.attrs.length c'6) := keep_cell hb7 (by go_simp)
      have z2 : w6.heap.size < w7.heap.size := keep_lt hb7 (by simp <;> omega)
      have hK7 := Below.refl w7.heap.size w7
      go_wp2_with fail
      refine (impl_ChangedAttrs f0 A'6 f0.attrs.length c'6 f1 A'7 f1.attrs.length c'7 _ (hR6.mono mAtr (ex_trans hK6 (by go_grown))) (hR7.mono mAtr (ex_trans hK7 (by go_grown))) (by omega) (by omega)).mono ?_; rintro e w8 hN8
      rw [← HE0.out] at hN8
      obtain ⟨A108, c108, bs8, rfl, hW8, hF8, hb8⟩ := hN8.v (O := OStr) encStr (fun _ => ⟨rfl, rfl⟩)
      have hL8 := Lib.hid (hW8.lt lStr)
      have hR8 := hW8.sl (R := RStr) (fun h => h.1)
      have hG8_0 : Hid (∀ b ∈ bs8, W.heap.size ≤ b) := Lib.hid (fun b hb => by have h1 := hF8.2 b hb; have h2 := hK0.size; (try simp at h1); omega)
      have hG8_3 : Hid (∀ b ∈ bs8, w3.heap.size ≤ b) := Lib.hid (fun b hb => by have h1 := hF8.2 b hb; have h2 := hK3.size; (try simp at h1); omega)
      have hG8_4 : Hid (∀ b ∈ bs8, w4.heap.size ≤ b) := Lib.hid (fun b hb => by have h1 := hF8.2 b hb; have h2 := hK4.size; (try simp at h1); omega)
      have hG8_5 : Hid (∀ b ∈ bs8, w5.heap.size ≤ b) := Lib.hid (fun b hb => by have h1 := hF8.2 b hb; have h2 := hK5.size; (try simp at h1); omega)
      have hG8_6 : Hid (∀ b ∈ bs8, w6.heap.size ≤ b) := Lib.hid (fun b hb => by have h1 := hF8.2 b hb; have h2 := hK6.size; (try simp at h1); omega)
      have hG8_7 : Hid (∀ b ∈ bs8, w7.heap.size ≤ b) := Lib.hid (fun b hb => by have h1 := hF8.2 b hb; have h2 := hK7.size; (try simp at h1); omega)
      have hD8_6 : Hid (∀ b ∈ bs8, b ∉ bs6) := Lib.hid (fun b hb hb2 => by have h1 := hF8.2 b hb; have h2 := hL6.out b hb2; have h3 := hK6.size; (try simp at h1); omega)
      have hD8_7 : Hid (∀ b ∈ bs8, b ∉ bs7) := Lib.hid (fun b hb hb2 => by have h1 := hF8.2 b hb; have h2 := hL7.out b hb2; have h3 := hK7.size; (try simp at h1); omega)
      have hN8_0 : Hid (W.heap.size ∉ bs8) := Lib.hid (fun h => by have h1 := hF8.2 _ h; have h2 := z0; (try simp at h1); omega)
      have hN8_1 : Hid (W.heap.size + 1 ∉ bs8) := Lib.hid (fun h => by have h1 := hF8.2 _ h; have h2 := z1; (try simp at h1); omega)
      have hN8_2 : Hid (w6.heap.size ∉ bs8) := Lib.hid (fun h => by have h1 := hF8.2 _ h; have h2 := z2; (try simp at h1); omega)
      have hN8_3 : Hid (w7.heap.size ∉ bs8) := Lib.hid (fun h => by have h1 := hF8.2 _ h; (try simp at h1); omega)
      have hx8 : Below w7.heap.size w7 w8 := ex_trans (by go_grown) hb8
      have hN6_3 : Hid (w7.heap.size ∉ bs6) := Lib.hid (fun h => by have h2 := hL6.out _ h; have h3 := hK6.size; omega)
      have hN7_3 : Hid (w7.heap.size ∉ bs7) := Lib.hid (fun h => by have h2 := hL7.out _ h; have h3 := hK7.size; omega)
      replace hK0 := ex_trans hK0 hx8
      replace hK3 := ex_trans hK3 hx8
      replace hK4 := ex_trans hK4 hx8
      replace hK5 := ex_trans hK5 hx8
      replace hK6 := ex_trans hK6 hx8
      replace hK7 := ex_trans hK7 hx8
      replace x0_0 := keep_cell hx8 x0_0
      replace x0_1 := keep_cell hx8 x0_1
      replace x0_2 := keep_cell hx8 x0_2
      replace x0_3 := keep_cell hx8 x0_3
      replace x0_4 := keep_cell hx8 x0_4
      replace z0 := keep_lt hx8 z0
      replace x1_0 := keep_cell hx8 x1_0
      replace x1_1 := keep_cell hx8 x1_1
      replace x1_2 := keep_cell hx8 x1_2
      replace x1_3 := keep_cell hx8 x1_3
      replace x1_4 := keep_cell hx8 x1_4
      replace z1 := keep_lt hx8 z1
      replace x2_0 := keep_cell hx8 x2_0
      replace x2_1 := keep_cell hx8 x2_1
      replace x2_2 := keep_cell hx8 x2_2
      replace x2_3 := keep_cell hx8 x2_3
      replace x2_4 := keep_cell hx8 x2_4
      replace z2 := keep_lt hx8 z2
      have x3_0 : w8.cell? ⟨w7.heap.size, 0, none⟩ = some (.int .i64 f1.id) := keep_cell hb8 (by go_simp)
      have x3_1 : w8.cell? ⟨w7.heap.size, 1, none⟩ = some (.int .i64 f1.owner) := keep_cell hb8 (by go_simp)
      have x3_2 : w8.cell? ⟨w7.heap.size, 2, none⟩ = some (.bool f1.shared) := keep_cell hb8 (by go_simp)
      have x3_3 : w8.cell? ⟨w7.heap.size, 3, none⟩ = some (.int .i64 f1.link) := keep_cell hb8 (by go_simp)
      have x3_4 : w8.cell? ⟨w7.heap.size, 4, none⟩ = some (.slice A'7 f1.attrs.length c'7) := keep_cell hb8 (by go_simp)
      have z3 : w7.heap.size < w8.heap.size := keep_lt hb8 (by simp <;> omega)
      have hK8 := Below.refl w8.heap.size w8
      go_wp2_with fail
      refine (laws_eqStringS_same A108 A105 r0.length c108 r0.length c105 r0 _ (hR8.mono mStr (ex_trans hK8 (by go_grown))) (hR5.mono mStr (ex_trans hK5 (by go_grown))) (by omega) (by omega)).mono ?_; rintro e w9 ⟨rfl, hb9⟩
      have hx9 : Below w8.heap.size w8 w9 := ex_trans (by go_grown) hb9
      replace hK0 := ex_trans hK0 hx9
      replace hK3 := ex_trans hK3 hx9
      replace hK4 := ex_trans hK4 hx9
      replace hK5 := ex_trans hK5 hx9
      replace hK6 := ex_trans hK6 hx9
      replace hK7 := ex_trans hK7 hx9
      replace hK8 := ex_trans hK8 hx9
      replace x0_0 := keep_cell hx9 x0_0
      replace x0_1 := keep_cell hx9 x0_1
      replace x0_2 := keep_cell hx9 x0_2
      replace x0_3 := keep_cell hx9 x0_3
      replace x0_4 := keep_cell hx9 x0_4
      replace z0 := keep_lt hx9 z0
      replace x1_0 := keep_cell hx9 x1_0
      replace x1_1 := keep_cell hx9 x1_1
      replace x1_2 := keep_cell hx9 x1_2
      replace x1_3 := keep_cell hx9 x1_3
      replace x1_4 := keep_cell hx9 x1_4
      replace z1 := keep_lt hx9 z1
      replace x2_0 := keep_cell hx9 x2_0
      replace x2_1 := keep_cell hx9 x2_1
      replace x2_2 := keep_cell hx9 x2_2
      replace x2_3 := keep_cell hx9 x2_3
      replace x2_4 := keep_cell hx9 x2_4
      replace z2 := keep_lt hx9 z2
      replace x3_0 := keep_cell hx9 x3_0
      replace x3_1 := keep_cell hx9 x3_1
      replace x3_2 := keep_cell hx9 x3_2
      replace x3_3 := keep_cell hx9 x3_3
      replace x3_4 := keep_cell hx9 x3_4
      replace z3 := keep_lt hx9 z3
      go_wp2_with fail
      refine wp_region_held_drew (S := (fun w' => w'.cell? ⟨W.heap.size, 0, none⟩ = some (.int .i64 f0.id) ∧ w'.cell? ⟨W.heap.size, 1, none⟩ = some (.int .i64 f0.owner) ∧ w'.cell? ⟨W.heap.size, 2, none⟩ = some (.bool f0.shared) ∧ w'.cell? ⟨W.heap.size, 3, none⟩ = some (.int .i64 f0.link) ∧ w'.cell? ⟨W.heap.size, 4, none⟩ = some (.slice A0 f0.attrs.length c0) ∧ W.heap.size < w'.heap.size ∧ w'.cell? ⟨W.heap.size + 1, 0, none⟩ = some (.int .i64 f1.id) ∧ w'.cell? ⟨W.heap.size + 1, 1, none⟩ = some (.int .i64 f1.owner) ∧ w'.cell? ⟨W.heap.size + 1, 2, none⟩ = some (.bool f1.shared) ∧ w'.cell? ⟨W.heap.size + 1, 3, none⟩ = some (.int .i64 f1.link) ∧ w'.cell? ⟨W.heap.size + 1, 4, none⟩ = some (.slice A1 f1.attrs.length c1) ∧ W.heap.size + 1 < w'.heap.size ∧ w'.cell? ⟨w6.heap.size, 0, none⟩ = some (.int .i64 f0.id) ∧ w'.cell? ⟨w6.heap.size, 1, none⟩ = some (.int .i64 f0.owner) ∧ w'.cell? ⟨w6.heap.size, 2, none⟩ = some (.bool f0.shared) ∧ w'.cell? ⟨w6.heap.size, 3, none⟩ = some (.int .i64 f0.link) ∧ w'.cell? ⟨w6.heap.size, 4, none⟩ = some (.slice A'6 f0.attrs.length c'6) ∧ w6.heap.size < w'.heap.size ∧ w'.cell? ⟨w7.heap.size, 0, none⟩ = some (.int .i64 f1.id) ∧ w'.cell? ⟨w7.heap.size, 1, none⟩ = some (.int .i64 f1.owner) ∧ w'.cell? ⟨w7.heap.size, 2, none⟩ = some (.bool f1.shared) ∧ w'.cell? ⟨w7.heap.size, 3, none⟩ = some (.int .i64 f1.link) ∧ w'.cell? ⟨w7.heap.size, 4, none⟩ = some (.slice A'7 f1.attrs.length c'7) ∧ w7.heap.size < w'.heap.size ∧ Below W.heap.size W w' ∧ Below w3.heap.size w3 w' ∧ Below w4.heap.size w4 w' ∧ Below w5.heap.size w5 w' ∧ Below w6.heap.size w6 w' ∧ Below w7.heap.size w7 w' ∧ Below w8.heap.size w8 w')) (by kernel_rfl) (by (try dsimp only); exact ⟨x0_0, x0_1, x0_2, x0_3, x0_4, z0, x1_0, x1_1, x1_2, x1_3, x1_4, z1, x2_0, x2_1, x2_2, x2_3, x2_4, z2, x3_0, x3_1, x3_2, x3_3, x3_4, z3, (hK0).drew, (hK3).drew, (hK4).drew, (hK5).drew, (hK6).drew, (hK7).drew, (hK8).drew⟩) (fun hHeld => ?_)
      first | (refine held_take 0 rfl (by kernel_rfl) (by kernel_rfl) (by kernel_rfl) (by rfl) (fun _ _ _ h => h) (by assumption) (by intro w hSw; (try dsimp only at hSw); go_simp; first | done | with_reducible rfl) ?_) | (refine held_skip 0 rfl (by kernel_rfl) (by kernel_rfl) (by kernel_rfl) (by rfl) (fun _ _ _ h => h) (by assumption) ?_)
      simp only [Act.put, List.setIfInBounds_toArray, List.set_cons_zero, List.set_cons_succ]
      first | (refine held_take 1 rfl (by kernel_rfl) (by kernel_rfl) (by kernel_rfl) (by rfl) (fun _ _ _ h => h) (by assumption) (by intro w hSw; (try dsimp only at hSw); go_simp; first | done | with_reducible rfl) ?_) | (refine held_skip 1 rfl (by kernel_rfl) (by kernel_rfl) (by kernel_rfl) (by rfl) (fun _ _ _ h => h) (by assumption) ?_)
      simp only [Act.put, List.setIfInBounds_toArray, List.set_cons_zero, List.set_cons_succ]
      refine held_one 2 (by kernel_rfl) rfl (fun K hK => ?_)
      go_simp
      go_at_call 20
      refine (laws_toFile f0 A0 f0.attrs.length c0 _ (hS0.mono mAtr hHeld.2.2.2.2.2.2.2.2.2.2.2.2.2.2.2.2.2.2.2.2.2.2.2.2.1) hk0).mono ?_; rintro e w10 hN10
      obtain ⟨A'10, c'10, bs10, rfl, hcc10, hW10, hF10, hb10⟩ := hN10.out
      have hL10 := Lib.hid (hW10.lt lAtr)
      have hR10 := hW10.sl (R := RAtr) (fun h => h.1)
      go_wp2_with fail
      refine hK.out _ _ (by (try dsimp only); exact ⟨keep_cell hb10 hHeld.1, keep_cell hb10 hHeld.2.1, keep_cell hb10 hHeld.2.2.1, keep_cell hb10 hHeld.2.2.2.1, keep_cell hb10 hHeld.2.2.2.2.1, keep_lt hb10 hHeld.2.2.2.2.2.1, keep_cell hb10 hHeld.2.2.2.2.2.2.1, keep_cell hb10 hHeld.2.2.2.2.2.2.2.1, keep_cell hb10 hHeld.2.2.2.2.2.2.2.2.1, keep_cell hb10 hHeld.2.2.2.2.2.2.2.2.2.1, keep_cell hb10 hHeld.2.2.2.2.2.2.2.2.2.2.1, keep_lt hb10 hHeld.2.2.2.2.2.2.2.2.2.2.2.1, keep_cell hb10 hHeld.2.2.2.2.2.2.2.2.2.2.2.2.1, keep_cell hb10 hHeld.2.2.2.2.2.2.2.2.2.2.2.2.2.1, keep_cell hb10 hHeld.2.2.2.2.2.2.2.2.2.2.2.2.2.2.1, keep_cell hb10 hHeld.2.2.2.2.2.2.2.2.2.2.2.2.2.2.2.1, keep_cell hb10 hHeld.2.2.2.2.2.2.2.2.2.2.2.2.2.2.2.2.1, keep_lt hb10 hHeld.2.2.2.2.2.2.2.2.2.2.2.2.2.2.2.2.2.1, keep_cell hb10 hHeld.2.2.2.2.2.2.2.2.2.2.2.2.2.2.2.2.2.2.1, keep_cell hb10 hHeld.2.2.2.2.2.2.2.2.2.2.2.2.2.2.2.2.2.2.2.1, keep_cell hb10 hHeld.2.2.2.2.2.2.2.2.2.2.2.2.2.2.2.2.2.2.2.2.1, keep_cell hb10 hHeld.2.2.2.2.2.2.2.2.2.2.2.2.2.2.2.2.2.2.2.2.2.1, keep_cell hb10 hHeld.2.2.2.2.2.2.2.2.2.2.2.2.2.2.2.2.2.2.2.2.2.2.1, keep_lt hb10 hHeld.2.2.2.2.2.2.2.2.2.2.2.2.2.2.2.2.2.2.2.2.2.2.2.1, ex_trans hHeld.2.2.2.2.2.2.2.2.2.2.2.2.2.2.2.2.2.2.2.2.2.2.2.2.1 hb10, ex_trans hHeld.2.2.2.2.2.2.2.2.2.2.2.2.2.2.2.2.2.2.2.2.2.2.2.2.2.1 hb10, ex_trans hHeld.2.2.2.2.2.2.2.2.2.2.2.2.2.2.2.2.2.2.2.2.2.2.2.2.2.2.1 hb10, ex_trans hHeld.2.2.2.2.2.2.2.2.2.2.2.2.2.2.2.2.2.2.2.2.2.2.2.2.2.2.2.1 hb10, ex_trans hHeld.2.2.2.2.2.2.2.2.2.2.2.2.2.2.2.2.2.2.2.2.2.2.2.2.2.2.2.2.1 hb10, ex_trans hHeld.2.2.2.2.2.2.2.2.2.2.2.2.2.2.2.2.2.2.2.2.2.2.2.2.2.2.2.2.2.1 hb10, ex_trans hHeld.2.2.2.2.2.2.2.2.2.2.2.2.2.2.2.2.2.2.2.2.2.2.2.2.2.2.2.2.2.2 hb10⟩) (fun hNew => ?_)
      clear hK K hHeld
      have hHeld := hNew
      clear hNew
      try simp only [Act.put, List.setIfInBounds_toArray, List.set_cons_zero, List.set_cons_succ]
      refine held_one 3 (by kernel_rfl) rfl (fun K hK => ?_)
      go_simp
      go_at_call 23
      refine (laws_eqFile_same f0 A'6 f0.attrs.length c'6 A'10 f0.attrs.length c'10 _ (hR6.mono mAtr hHeld.2.2.2.2.2.2.2.2.2.2.2.2.2.2.2.2.2.2.2.2.2.2.2.2.2.2.2.2.1) (hR10.mono mAtr (Below.refl _ _)) hk0).mono ?_; rintro e w11 ⟨rfl, hb11⟩
      go_wp2_with fail
      refine hK.out _ _ (by (try dsimp only); exact ⟨keep_cell hb11 hHeld.1, keep_cell hb11 hHeld.2.1, keep_cell hb11 hHeld.2.2.1, keep_cell hb11 hHeld.2.2.2.1, keep_cell hb11 hHeld.2.2.2.2.1, keep_lt hb11 hHeld.2.2.2.2.2.1, keep_cell hb11 hHeld.2.2.2.2.2.2.1, keep_cell hb11 hHeld.2.2.2.2.2.2.2.1, keep_cell hb11 hHeld.2.2.2.2.2.2.2.2.1, keep_cell hb11 hHeld.2.2.2.2.2.2.2.2.2.1, keep_cell hb11 hHeld.2.2.2.2.2.2.2.2.2.2.1, keep_lt hb11 hHeld.2.2.2.2.2.2.2.2.2.2.2.1, keep_cell hb11 hHeld.2.2.2.2.2.2.2.2.2.2.2.2.1, keep_cell hb11 hHeld.2.2.2.2.2.2.2.2.2.2.2.2.2.1, keep_cell hb11 hHeld.2.2.2.2.2.2.2.2.2.2.2.2.2.2.1, keep_cell hb11 hHeld.2.2.2.2.2.2.2.2.2.2.2.2.2.2.2.1, keep_cell hb11 hHeld.2.2.2.2.2.2.2.2.2.2.2.2.2.2.2.2.1, keep_lt hb11 hHeld.2.2.2.2.2.2.2.2.2.2.2.2.2.2.2.2.2.1, keep_cell hb11 hHeld.2.2.2.2.2.2.2.2.2.2.2.2.2.2.2.2.2.2.1, keep_cell hb11 hHeld.2.2.2.2.2.2.2.2.2.2.2.2.2.2.2.2.2.2.2.1, keep_cell hb11 hHeld.2.2.2.2.2.2.2.2.2.2.2.2.2.2.2.2.2.2.2.2.1, keep_cell hb11 hHeld.2.2.2.2.2.2.2.2.2.2.2.2.2.2.2.2.2.2.2.2.2.1, keep_cell hb11 hHeld.2.2.2.2.2.2.2.2.2.2.2.2.2.2.2.2.2.2.2.2.2.2.1, keep_lt hb11 hHeld.2.2.2.2.2.2.2.2.2.2.2.2.2.2.2.2.2.2.2.2.2.2.2.1, ex_trans hHeld.2.2.2.2.2.2.2.2.2.2.2.2.2.2.2.2.2.2.2.2.2.2.2.2.1 hb11, ex_trans hHeld.2.2.2.2.2.2.2.2.2.2.2.2.2.2.2.2.2.2.2.2.2.2.2.2.2.1 hb11, ex_trans hHeld.2.2.2.2.2.2.2.2.2.2.2.2.2.2.2.2.2.2.2.2.2.2.2.2.2.2.1 hb11, ex_trans hHeld.2.2.2.2.2.2.2.2.2.2.2.2.2.2.2.2.2.2.2.2.2.2.2.2.2.2.2.1 hb11, ex_trans hHeld.2.2.2.2.2.2.2.2.2.2.2.2.2.2.2.2.2.2.2.2.2.2.2.2.2.2.2.2.1 hb11, ex_trans hHeld.2.2.2.2.2.2.2.2.2.2.2.2.2.2.2.2.2.2.2.2.2.2.2.2.2.2.2.2.2.1 hb11, ex_trans hHeld.2.2.2.2.2.2.2.2.2.2.2.2.2.2.2.2.2.2.2.2.2.2.2.2.2.2.2.2.2.2 hb11⟩) (fun hNew => ?_)
      clear hK K hHeld
      have hHeld := hNew
      clear hNew
      try simp only [Act.put, List.setIfInBounds_toArray, List.set_cons_zero, List.set_cons_succ]
      first | (refine held_take 4 rfl (by kernel_rfl) (by kernel_rfl) (by kernel_rfl) (by rfl) (fun _ _ _ h => h) (by assumption) (by intro w hSw; (try dsimp only at hSw); go_simp; first | done | with_reducible rfl) ?_) | (refine held_skip 4 rfl (by kernel_rfl) (by kernel_rfl) (by kernel_rfl) (by rfl) (fun _ _ _ h => h) (by assumption) ?_)
      simp only [Act.put, List.setIfInBounds_toArray, List.set_cons_zero, List.set_cons_succ]
      refine wpAnyH_done (by kernel_rfl) ?_ _
      obtain ⟨x0_0', x0_1', x0_2', x0_3', x0_4', z0', x1_0', x1_1', x1_2', x1_3', x1_4', z1', x2_0', x2_1', x2_2', x2_3', x2_4', z2', x3_0', x3_1', x3_2', x3_3', x3_4', z3', hK0', hK3', hK4', hK5', hK6', hK7', hK8'⟩ := hHeld
      clear x0_0 x0_1 x0_2 x0_3 x0_4 z0 x1_0 x1_1 x1_2 x1_3 x1_4 z1 x2_0 x2_1 x2_2 x2_3 x2_4 z2 x3_0 x3_1 x3_2 x3_3 x3_4 z3 hK0 hK3 hK4 hK5 hK6 hK7 hK8
      have x0_0 := x0_0'
      clear x0_0'
      have x0_1 := x0_1'
      clear x0_1'
      have x0_2 := x0_2'
      clear x0_2'
      have x0_3 := x0_3'
      clear x0_3'
      have x0_4 := x0_4'
      clear x0_4'
      have z0 := z0'
      clear z0'
      have x1_0 := x1_0'
      clear x1_0'
      have x1_1 := x1_1'
      clear x1_1'
      have x1_2 := x1_2'
      clear x1_2'
      have x1_3 := x1_3'
      clear x1_3'
      have x1_4 := x1_4'
      clear x1_4'
      have z1 := z1'
      clear z1'
      have x2_0 := x2_0'
      clear x2_0'
      have x2_1 := x2_1'
      clear x2_1'
      have x2_2 := x2_2'
      clear x2_2'
      have x2_3 := x2_3'
      clear x2_3'
      have x2_4 := x2_4'
      clear x2_4'
      have z2 := z2'
      clear z2'
      have x3_0 := x3_0'
      clear x3_0'
      have x3_1 := x3_1'
      clear x3_1'
      have x3_2 := x3_2'
      clear x3_2'
      have x3_3 := x3_3'
      clear x3_3'
      have x3_4 := x3_4'
      clear x3_4'
      have z3 := z3'
      clear z3'
      have hK0 := hK0'
      clear hK0'
      have hK3 := hK3'
      clear hK3'
      have hK4 := hK4'
      clear hK4'
      have hK5 := hK5'
      clear hK5'
      have hK6 := hK6'
      clear hK6'
      have hK7 := hK7'
      clear hK7'
      have hK8 := hK8'
      clear hK8'
      have hK10 : Below w10.heap.size w10 w11 := (ex_trans (Below.refl _ _) hb11)
      go_wp2_with fail
      refine wp_region_held_drew (S := (fun w' => w'.cell? ⟨W.heap.size, 0, none⟩ = some (.int .i64 f0.id) ∧ w'.cell? ⟨W.heap.size, 1, none⟩ = some (.int .i64 f0.owner) ∧ w'.cell? ⟨W.heap.size, 2, none⟩ = some (.bool f0.shared) ∧ w'.cell? ⟨W.heap.size, 3, none⟩ = some (.int .i64 f0.link) ∧ w'.cell? ⟨W.heap.size, 4, none⟩ = some (.slice A0 f0.attrs.length c0) ∧ W.heap.size < w'.heap.size ∧ w'.cell? ⟨W.heap.size + 1, 0, none⟩ = some (.int .i64 f1.id) ∧ w'.cell? ⟨W.heap.size + 1, 1, none⟩ = some (.int .i64 f1.owner) ∧ w'.cell? ⟨W.heap.size + 1, 2, none⟩ = some (.bool f1.shared) ∧ w'.cell? ⟨W.heap.size + 1, 3, none⟩ = some (.int .i64 f1.link) ∧ w'.cell? ⟨W.heap.size + 1, 4, none⟩ = some (.slice A1 f1.attrs.length c1) ∧ W.heap.size + 1 < w'.heap.size ∧ w'.cell? ⟨w6.heap.size, 0, none⟩ = some (.int .i64 f0.id) ∧ w'.cell? ⟨w6.heap.size, 1, none⟩ = some (.int .i64 f0.owner) ∧ w'.cell? ⟨w6.heap.size, 2, none⟩ = some (.bool f0.shared) ∧ w'.cell? ⟨w6.heap.size, 3, none⟩ = some (.int .i64 f0.link) ∧ w'.cell? ⟨w6.heap.size, 4, none⟩ = some (.slice A'6 f0.attrs.length c'6) ∧ w6.heap.size < w'.heap.size ∧ w'.cell? ⟨w7.heap.size, 0, none⟩ = some (.int .i64 f1.id) ∧ w'.cell? ⟨w7.heap.size, 1, none⟩ = some (.int .i64 f1.owner) ∧ w'.cell? ⟨w7.heap.size, 2, none⟩ = some (.bool f1.shared) ∧ w'.cell? ⟨w7.heap.size, 3, none⟩ = some (.int .i64 f1.link) ∧ w'.cell? ⟨w7.heap.size, 4, none⟩ = some (.slice A'7 f1.attrs.length c'7) ∧ w7.heap.size < w'.heap.size ∧ Below W.heap.size W w' ∧ Below w3.heap.size w3 w' ∧ Below w4.heap.size w4 w' ∧ Below w5.heap.size w5 w' ∧ Below w6.heap.size w6 w' ∧ Below w7.heap.size w7 w' ∧ Below w8.heap.size w8 w' ∧ Below w10.heap.size w10 w')) (by kernel_rfl) (by (try dsimp only); exact ⟨x0_0, x0_1, x0_2, x0_3, x0_4, z0, x1_0, x1_1, x1_2, x1_3, x1_4, z1, x2_0, x2_1, x2_2, x2_3, x2_4, z2, x3_0, x3_1, x3_2, x3_3, x3_4, z3, (hK0).drew, (hK3).drew, (hK4).drew, (hK5).drew, (hK6).drew, (hK7).drew, (hK8).drew, (hK10).drew⟩) (fun hHeld => ?_)
      first | (refine held_take 0 rfl (by kernel_rfl) (by kernel_rfl) (by kernel_rfl) (by rfl) (fun _ _ _ h => h) (by assumption) (by intro w hSw; (try dsimp only at hSw); go_simp; first | done | with_reducible rfl) ?_) | (refine held_skip 0 rfl (by kernel_rfl) (by kernel_rfl) (by kernel_rfl) (by rfl) (fun _ _ _ h => h) (by assumption) ?_)
      simp only [Act.put, List.setIfInBounds_toArray, List.set_cons_zero, List.set_cons_succ]
      first | (refine held_take 1 rfl (by kernel_rfl) (by kernel_rfl) (by kernel_rfl) (by rfl) (fun _ _ _ h => h) (by assumption) (by intro w hSw; (try dsimp only at hSw); go_simp; first | done | with_reducible rfl) ?_) | (refine held_skip 1 rfl (by kernel_rfl) (by kernel_rfl) (by kernel_rfl) (by rfl) (fun _ _ _ h => h) (by assumption) ?_)
      simp only [Act.put, List.setIfInBounds_toArray, List.set_cons_zero, List.set_cons_succ]
      refine held_one 2 (by kernel_rfl) rfl (fun K hK => ?_)
      go_simp
      go_at_call 20
      refine (laws_toFile f1 A1 f1.attrs.length c1 _ (hS1.mono mAtr hHeld.2.2.2.2.2.2.2.2.2.2.2.2.2.2.2.2.2.2.2.2.2.2.2.2.1) hk1).mono ?_; rintro e w12 hN12
      obtain ⟨A'12, c'12, bs12, rfl, hcc12, hW12, hF12, hb12⟩ := hN12.out
      have hL12 := Lib.hid (hW12.lt lAtr)
      have hR12 := hW12.sl (R := RAtr) (fun h => h.1)
      go_wp2_with fail
      refine hK.out _ _ (by (try dsimp only); exact ⟨keep_cell hb12 hHeld.1, keep_cell hb12 hHeld.2.1, keep_cell hb12 hHeld.2.2.1, keep_cell hb12 hHeld.2.2.2.1, keep_cell hb12 hHeld.2.2.2.2.1, keep_lt hb12 hHeld.2.2.2.2.2.1, keep_cell hb12 hHeld.2.2.2.2.2.2.1, keep_cell hb12 hHeld.2.2.2.2.2.2.2.1, keep_cell hb12 hHeld.2.2.2.2.2.2.2.2.1, keep_cell hb12 hHeld.2.2.2.2.2.2.2.2.2.1, keep_cell hb12 hHeld.2.2.2.2.2.2.2.2.2.2.1, keep_lt hb12 hHeld.2.2.2.2.2.2.2.2.2.2.2.1, keep_cell hb12 hHeld.2.2.2.2.2.2.2.2.2.2.2.2.1, keep_cell hb12 hHeld.2.2.2.2.2.2.2.2.2.2.2.2.2.1, keep_cell hb12 hHeld.2.2.2.2.2.2.2.2.2.2.2.2.2.2.1, keep_cell hb12 hHeld.2.2.2.2.2.2.2.2.2.2.2.2.2.2.2.1, keep_cell hb12 hHeld.2.2.2.2.2.2.2.2.2.2.2.2.2.2.2.2.1, keep_lt hb12 hHeld.2.2.2.2.2.2.2.2.2.2.2.2.2.2.2.2.2.1, keep_cell hb12 hHeld.2.2.2.2.2.2.2.2.2.2.2.2.2.2.2.2.2.2.1, keep_cell hb12 hHeld.2.2.2.2.2.2.2.2.2.2.2.2.2.2.2.2.2.2.2.1, keep_cell hb12 hHeld.2.2.2.2.2.2.2.2.2.2.2.2.2.2.2.2.2.2.2.2.1, keep_cell hb12 hHeld.2.2.2.2.2.2.2.2.2.2.2.2.2.2.2.2.2.2.2.2.2.1, keep_cell hb12 hHeld.2.2.2.2.2.2.2.2.2.2.2.2.2.2.2.2.2.2.2.2.2.2.1, keep_lt hb12 hHeld.2.2.2.2.2.2.2.2.2.2.2.2.2.2.2.2.2.2.2.2.2.2.2.1, ex_trans hHeld.2.2.2.2.2.2.2.2.2.2.2.2.2.2.2.2.2.2.2.2.2.2.2.2.1 hb12, ex_trans hHeld.2.2.2.2.2.2.2.2.2.2.2.2.2.2.2.2.2.2.2.2.2.2.2.2.2.1 hb12, ex_trans hHeld.2.2.2.2.2.2.2.2.2.2.2.2.2.2.2.2.2.2.2.2.2.2.2.2.2.2.1 hb12, ex_trans hHeld.2.2.2.2.2.2.2.2.2.2.2.2.2.2.2.2.2.2.2.2.2.2.2.2.2.2.2.1 hb12, ex_trans hHeld.2.2.2.2.2.2.2.2.2.2.2.2.2.2.2.2.2.2.2.2.2.2.2.2.2.2.2.2.1 hb12, ex_trans hHeld.2.2.2.2.2.2.2.2.2.2.2.2.2.2.2.2.2.2.2.2.2.2.2.2.2.2.2.2.2.1 hb12, ex_trans hHeld.2.2.2.2.2.2.2.2.2.2.2.2.2.2.2.2.2.2.2.2.2.2.2.2.2.2.2.2.2.2.1 hb12, ex_trans hHeld.2.2.2.2.2.2.2.2.2.2.2.2.2.2.2.2.2.2.2.2.2.2.2.2.2.2.2.2.2.2.2 hb12⟩) (fun hNew => ?_)
      clear hK K hHeld
      have hHeld := hNew
      clear hNew
      try simp only [Act.put, List.setIfInBounds_toArray, List.set_cons_zero, List.set_cons_succ]
      refine held_one 3 (by kernel_rfl) rfl (fun K hK => ?_)
      go_simp
      go_at_call 23
      refine (laws_eqFile_same f1 A'7 f1.attrs.length c'7 A'12 f1.attrs.length c'12 _ (hR7.mono mAtr hHeld.2.2.2.2.2.2.2.2.2.2.2.2.2.2.2.2.2.2.2.2.2.2.2.2.2.2.2.2.2.1) (hR12.mono mAtr (Below.refl _ _)) hk1).mono ?_; rintro e w13 ⟨rfl, hb13⟩
      go_wp2_with fail
      refine hK.out _ _ (by (try dsimp only); exact ⟨keep_cell hb13 hHeld.1, keep_cell hb13 hHeld.2.1, keep_cell hb13 hHeld.2.2.1, keep_cell hb13 hHeld.2.2.2.1, keep_cell hb13 hHeld.2.2.2.2.1, keep_lt hb13 hHeld.2.2.2.2.2.1, keep_cell hb13 hHeld.2.2.2.2.2.2.1, keep_cell hb13 hHeld.2.2.2.2.2.2.2.1, keep_cell hb13 hHeld.2.2.2.2.2.2.2.2.1, keep_cell hb13 hHeld.2.2.2.2.2.2.2.2.2.1, keep_cell hb13 hHeld.2.2.2.2.2.2.2.2.2.2.1, keep_lt hb13 hHeld.2.2.2.2.2.2.2.2.2.2.2.1, keep_cell hb13 hHeld.2.2.2.2.2.2.2.2.2.2.2.2.1, keep_cell hb13 hHeld.2.2.2.2.2.2.2.2.2.2.2.2.2.1, keep_cell hb13 hHeld.2.2.2.2.2.2.2.2.2.2.2.2.2.2.1, keep_cell hb13 hHeld.2.2.2.2.2.2.2.2.2.2.2.2.2.2.2.1, keep_cell hb13 hHeld.2.2.2.2.2.2.2.2.2.2.2.2.2.2.2.2.1, keep_lt hb13 hHeld.2.2.2.2.2.2.2.2.2.2.2.2.2.2.2.2.2.1, keep_cell hb13 hHeld.2.2.2.2.2.2.2.2.2.2.2.2.2.2.2.2.2.2.1, keep_cell hb13 hHeld.2.2.2.2.2.2.2.2.2.2.2.2.2.2.2.2.2.2.2.1, keep_cell hb13 hHeld.2.2.2.2.2.2.2.2.2.2.2.2.2.2.2.2.2.2.2.2.1, keep_cell hb13 hHeld.2.2.2.2.2.2.2.2.2.2.2.2.2.2.2.2.2.2.2.2.2.1, keep_cell hb13 hHeld.2.2.2.2.2.2.2.2.2.2.2.2.2.2.2.2.2.2.2.2.2.2.1, keep_lt hb13 hHeld.2.2.2.2.2.2.2.2.2.2.2.2.2.2.2.2.2.2.2.2.2.2.2.1, ex_trans hHeld.2.2.2.2.2.2.2.2.2.2.2.2.2.2.2.2.2.2.2.2.2.2.2.2.1 hb13, ex_trans hHeld.2.2.2.2.2.2.2.2.2.2.2.2.2.2.2.2.2.2.2.2.2.2.2.2.2.1 hb13, ex_trans hHeld.2.2.2.2.2.2.2.2.2.2.2.2.2.2.2.2.2.2.2.2.2.2.2.2.2.2.1 hb13, ex_trans hHeld.2.2.2.2.2.2.2.2.2.2.2.2.2.2.2.2.2.2.2.2.2.2.2.2.2.2.2.1 hb13, ex_trans hHeld.2.2.2.2.2.2.2.2.2.2.2.2.2.2.2.2.2.2.2.2.2.2.2.2.2.2.2.2.1 hb13, ex_trans hHeld.2.2.2.2.2.2.2.2.2.2.2.2.2.2.2.2.2.2.2.2.2.2.2.2.2.2.2.2.2.1 hb13, ex_trans hHeld.2.2.2.2.2.2.2.2.2.2.2.2.2.2.2.2.2.2.2.2.2.2.2.2.2.2.2.2.2.2.1 hb13, ex_trans hHeld.2.2.2.2.2.2.2.2.2.2.2.2.2.2.2.2.2.2.2.2.2.2.2.2.2.2.2.2.2.2.2 hb13⟩) (fun hNew => ?_)
      clear hK K hHeld
      have hHeld := hNew
      clear hNew
      try simp only [Act.put, List.setIfInBounds_toArray, List.set_cons_zero, List.set_cons_succ]
      first | (refine held_take 4 rfl (by kernel_rfl) (by kernel_rfl) (by kernel_rfl) (by rfl) (fun _ _ _ h => h) (by assumption) (by intro w hSw; (try dsimp only at hSw); go_simp; first | done | with_reducible rfl) ?_) | (refine held_skip 4 rfl (by kernel_rfl) (by kernel_rfl) (by kernel_rfl) (by rfl) (fun _ _ _ h => h) (by assumption) ?_)
      simp only [Act.put, List.setIfInBounds_toArray, List.set_cons_zero, List.set_cons_succ]
      refine wpAnyH_done (by kernel_rfl) ?_ _
      obtain ⟨x0_0', x0_1', x0_2', x0_3', x0_4', z0', x1_0', x1_1', x1_2', x1_3', x1_4', z1', x2_0', x2_1', x2_2', x2_3', x2_4', z2', x3_0', x3_1', x3_2', x3_3', x3_4', z3', hK0', hK3', hK4', hK5', hK6', hK7', hK8', hK10'⟩ := hHeld
      clear x0_0 x0_1 x0_2 x0_3 x0_4 z0 x1_0 x1_1 x1_2 x1_3 x1_4 z1 x2_0 x2_1 x2_2 x2_3 x2_4 z2 x3_0 x3_1 x3_2 x3_3 x3_4 z3 hK0 hK3 hK4 hK5 hK6 hK7 hK8 hK10
      have x0_0 := x0_0'
      clear x0_0'
      have x0_1 := x0_1'
      clear x0_1'
      have x0_2 := x0_2'
      clear x0_2'
      have x0_3 := x0_3'
      clear x0_3'
      have x0_4 := x0_4'
      clear x0_4'
      have z0 := z0'
      clear z0'
      have x1_0 := x1_0'
      clear x1_0'
      have x1_1 := x1_1'
      clear x1_1'
      have x1_2 := x1_2'
      clear x1_2'
      have x1_3 := x1_3'
      clear x1_3'
      have x1_4 := x1_4'
      clear x1_4'
      have z1 := z1'
      clear z1'
      have x2_0 := x2_0'
      clear x2_0'
      have x2_1 := x2_1'
      clear x2_1'
      have x2_2 := x2_2'
      clear x2_2'
      have x2_3 := x2_3'
      clear x2_3'
      have x2_4 := x2_4'
      clear x2_4'
      have z2 := z2'
      clear z2'
      have x3_0 := x3_0'
      clear x3_0'
      have x3_1 := x3_1'
      clear x3_1'
      have x3_2 := x3_2'
      clear x3_2'
      have x3_3 := x3_3'
      clear x3_3'
      have x3_4 := x3_4'
      clear x3_4'
      have z3 := z3'
      clear z3'
      have hK0 := hK0'
      clear hK0'
      have hK3 := hK3'
      clear hK3'
      have hK4 := hK4'
      clear hK4'
      have hK5 := hK5'
      clear hK5'
      have hK6 := hK6'
      clear hK6'
      have hK7 := hK7'
      clear hK7'
      have hK8 := hK8'
      clear hK8'
      have hK10 := hK10'
      clear hK10'
      have hK12 : Below w12.heap.size w12 w13 := (ex_trans (Below.refl _ _) hb13)
      go_wp2_with fail
      refine (laws_markFile f0 A'6 f0.attrs.length c'6 _ 1 _ (hW6.below lAtr (ex_trans hK6 (by go_grown))) hF6.1 (by omega) (by omega) (by omega)).mono ?_; rintro e w14 ⟨rfl, hW6', hc14⟩
      replace hW6 := hW6'
      replace hK0 := Below.mark hK0 hc14 hK0.size hG6_0.out
      replace hK3 := Below.mark hK3 hc14 hK3.size hG6_3.out
      replace hK4 := Below.mark hK4 hc14 hK4.size hG6_4.out
      replace hK5 := Below.mark hK5 hc14 hK5.size hG6_5.out
      replace x0_0 := hc14.cell x0_0 hN6_0.out
      replace x0_1 := hc14.cell x0_1 hN6_0.out
      replace x0_2 := hc14.cell x0_2 hN6_0.out
      replace x0_3 := hc14.cell x0_3 hN6_0.out
      replace x0_4 := hc14.cell x0_4 hN6_0.out
      replace z0 := Nat.lt_of_lt_of_le z0 hc14.size
      replace x1_0 := hc14.cell x1_0 hN6_1.out
      replace x1_1 := hc14.cell x1_1 hN6_1.out
      replace x1_2 := hc14.cell x1_2 hN6_1.out
      replace x1_3 := hc14.cell x1_3 hN6_1.out
      replace x1_4 := hc14.cell x1_4 hN6_1.out
      replace z1 := Nat.lt_of_lt_of_le z1 hc14.size
      replace x2_0 := hc14.cell x2_0 hN6_2.out
      replace x2_1 := hc14.cell x2_1 hN6_2.out
      replace x2_2 := hc14.cell x2_2 hN6_2.out
      replace x2_3 := hc14.cell x2_3 hN6_2.out
      replace x2_4 := hc14.cell x2_4 hN6_2.out
      replace z2 := Nat.lt_of_lt_of_le z2 hc14.size
      replace x3_0 := hc14.cell x3_0 hN6_3.out
      replace x3_1 := hc14.cell x3_1 hN6_3.out
      replace x3_2 := hc14.cell x3_2 hN6_3.out
      replace x3_3 := hc14.cell x3_3 hN6_3.out
      replace x3_4 := hc14.cell x3_4 hN6_3.out
      replace z3 := Nat.lt_of_lt_of_le z3 hc14.size
      replace hW7 := (hW7.below lAtr hK7).loc lAtr (fun b hb => hc14.block b (Nat.lt_of_lt_of_le (hL7.out b hb) hK7.size) (hD7_6.out b hb))
      replace hL7 : Hid (∀ b ∈ bs7, b < w14.heap.size) := Lib.hid (fun b hb => Nat.lt_of_lt_of_le (hL7.out b hb) (Nat.le_trans hK7.size hc14.size))
      have hHR14_hW7 := hW7.sl (R := RAtr) (fun h => h.1)
      replace hW8 := (hW8.below lStr hK8).loc lStr (fun b hb => hc14.block b (Nat.lt_of_lt_of_le (hL8.out b hb) hK8.size) (hD8_6.out b hb))
      replace hL8 : Hid (∀ b ∈ bs8, b < w14.heap.size) := Lib.hid (fun b hb => Nat.lt_of_lt_of_le (hL8.out b hb) (Nat.le_trans hK8.size hc14.size))
      have hHR14_hW8 := hW8.sl (R := RStr) (fun h => h.1)
      have hK14 := Below.refl w14.heap.size w14
      -- marked
      have hMR14_hW6 := hW6.sl (R := RAtr) (fun h => h.1)
      go_wp2_with fail
      refine (laws_markFile f1 A'7 f1.attrs.length c'7 _ (1 + 4 * f0.attrs.length) _ (hW7.below lAtr (ex_trans hK14 (by go_grown))) hF7.1 (by omega) (by omega) (by omega)).mono ?_; rintro e w15 ⟨rfl, hW7', hc15⟩
      replace hW7 := hW7'
      replace hK0 := Below.mark hK0 hc15 hK0.size hG7_0.out
      replace hK3 := Below.mark hK3 hc15 hK3.size hG7_3.out
      replace hK4 := Below.mark hK4 hc15 hK4.size hG7_4.out
      replace hK5 := Below.mark hK5 hc15 hK5.size hG7_5.out
      replace x0_0 := hc15.cell x0_0 hN7_0.out
      replace x0_1 := hc15.cell x0_1 hN7_0.out
      replace x0_2 := hc15.cell x0_2 hN7_0.out
      replace x0_3 := hc15.cell x0_3 hN7_0.out
      replace x0_4 := hc15.cell x0_4 hN7_0.out
      replace z0 := Nat.lt_of_lt_of_le z0 hc15.size
      replace x1_0 := hc15.cell x1_0 hN7_1.out
      replace x1_1 := hc15.cell x1_1 hN7_1.out
      replace x1_2 := hc15.cell x1_2 hN7_1.out
      replace x1_3 := hc15.cell x1_3 hN7_1.out
      replace x1_4 := hc15.cell x1_4 hN7_1.out
      replace z1 := Nat.lt_of_lt_of_le z1 hc15.size
      replace x2_0 := hc15.cell x2_0 hN7_2.out
      replace x2_1 := hc15.cell x2_1 hN7_2.out
      replace x2_2 := hc15.cell x2_2 hN7_2.out
      replace x2_3 := hc15.cell x2_3 hN7_2.out
      replace x2_4 := hc15.cell x2_4 hN7_2.out
      replace z2 := Nat.lt_of_lt_of_le z2 hc15.size
      replace x3_0 := hc15.cell x3_0 hN7_3.out
      replace x3_1 := hc15.cell x3_1 hN7_3.out
      replace x3_2 := hc15.cell x3_2 hN7_3.out
      replace x3_3 := hc15.cell x3_3 hN7_3.out
      replace x3_4 := hc15.cell x3_4 hN7_3.out
      replace z3 := Nat.lt_of_lt_of_le z3 hc15.size
      replace hW8 := (hW8.below lStr hK14).loc lStr (fun b hb => hc15.block b (Nat.lt_of_lt_of_le (hL8.out b hb) hK14.size) (hD8_7.out b hb))
      replace hL8 : Hid (∀ b ∈ bs8, b < w15.heap.size) := Lib.hid (fun b hb => Nat.lt_of_lt_of_le (hL8.out b hb) (Nat.le_trans hK14.size hc15.size))
      have hHR15_hW8 := hW8.sl (R := RStr) (fun h => h.1)
      have hK15 := Below.refl w15.heap.size w15
      -- marked
      have hMR15_hW7 := hW7.sl (R := RAtr) (fun h => h.1)
      go_wp2_with fail
      refine (laws_eqStringS_same A108 A105 r0.length c108 r0.length c105 r0 _ (hHR15_hW8.mono mStr (ex_trans hK15 (by go_grown))) (hR5.mono mStr (ex_trans hK5 (by go_grown))) (by omega) (by omega)).mono ?_; rintro e w16 ⟨rfl, hb16⟩
      have hx16 : Below w15.heap.size w15 w16 := ex_trans (by go_grown) hb16
      replace hK0 := ex_trans hK0 hx16
      replace hK3 := ex_trans hK3 hx16
      replace hK4 := ex_trans hK4 hx16
      replace hK5 := ex_trans hK5 hx16
      replace hK15 := ex_trans hK15 hx16
      replace x0_0 := keep_cell hx16 x0_0
      replace x0_1 := keep_cell hx16 x0_1
      replace x0_2 := keep_cell hx16 x0_2
      replace x0_3 := keep_cell hx16 x0_3
      replace x0_4 := keep_cell hx16 x0_4
      replace z0 := keep_lt hx16 z0
      replace x1_0 := keep_cell hx16 x1_0
      replace x1_1 := keep_cell hx16 x1_1
      replace x1_2 := keep_cell hx16 x1_2
      replace x1_3 := keep_cell hx16 x1_3
      replace x1_4 := keep_cell hx16 x1_4
      replace z1 := keep_lt hx16 z1
      replace x2_0 := keep_cell hx16 x2_0
      replace x2_1 := keep_cell hx16 x2_1
      replace x2_2 := keep_cell hx16 x2_2
      replace x2_3 := keep_cell hx16 x2_3
      replace x2_4 := keep_cell hx16 x2_4
      replace z2 := keep_lt hx16 z2
      replace x3_0 := keep_cell hx16 x3_0
      replace x3_1 := keep_cell hx16 x3_1
      replace x3_2 := keep_cell hx16 x3_2
      replace x3_3 := keep_cell hx16 x3_3
      replace x3_4 := keep_cell hx16 x3_4
      replace z3 := keep_lt hx16 z3
      go_wp2_with fail
      refine (laws_markStringS A108 r0.length c108 r0 _ 1 _ (hW8.below lStr (ex_trans hK15 (by go_grown))) hF8.1 (by omega) (by omega) (by omega)).mono ?_; rintro e w17 ⟨rfl, hW8', hc17⟩
      replace hW8 := hW8'
      replace hK0 := Below.mark hK0 hc17 hK0.size hG8_0.out
      replace hK3 := Below.mark hK3 hc17 hK3.size hG8_3.out
      replace hK4 := Below.mark hK4 hc17 hK4.size hG8_4.out
      replace hK5 := Below.mark hK5 hc17 hK5.size hG8_5.out
      replace x0_0 := hc17.cell x0_0 hN8_0.out
      replace x0_1 := hc17.cell x0_1 hN8_0.out
      replace x0_2 := hc17.cell x0_2 hN8_0.out
      replace x0_3 := hc17.cell x0_3 hN8_0.out
      replace x0_4 := hc17.cell x0_4 hN8_0.out
      replace z0 := Nat.lt_of_lt_of_le z0 hc17.size
      replace x1_0 := hc17.cell x1_0 hN8_1.out
      replace x1_1 := hc17.cell x1_1 hN8_1.out
      replace x1_2 := hc17.cell x1_2 hN8_1.out
      replace x1_3 := hc17.cell x1_3 hN8_1.out
      replace x1_4 := hc17.cell x1_4 hN8_1.out
      replace z1 := Nat.lt_of_lt_of_le z1 hc17.size
      replace x2_0 := hc17.cell x2_0 hN8_2.out
      replace x2_1 := hc17.cell x2_1 hN8_2.out
      replace x2_2 := hc17.cell x2_2 hN8_2.out
      replace x2_3 := hc17.cell x2_3 hN8_2.out
      replace x2_4 := hc17.cell x2_4 hN8_2.out
      replace z2 := Nat.lt_of_lt_of_le z2 hc17.size
      replace x3_0 := hc17.cell x3_0 hN8_3.out
      replace x3_1 := hc17.cell x3_1 hN8_3.out
      replace x3_2 := hc17.cell x3_2 hN8_3.out
      replace x3_3 := hc17.cell x3_3 hN8_3.out
      replace x3_4 := hc17.cell x3_4 hN8_3.out
      replace z3 := Nat.lt_of_lt_of_le z3 hc17.size
      have hK17 := Below.refl w17.heap.size w17
      -- marked
      have hMR17_hW8 := hW8.sl (R := RStr) (fun h => h.1)
      go_wp2_with fail
      refine (laws_heldStringS A108 r0.length c108 1 _ (hMR17_hW8.mono mStr (ex_trans hK17 (by go_grown))) (by omega) (by omega) (by omega)).mono ?_; rintro e w18 ⟨rfl, hb18⟩
      have hx18 : Below w17.heap.size w17 w18 := ex_trans (by go_grown) hb18
      replace hK0 := ex_trans hK0 hx18
      replace hK3 := ex_trans hK3 hx18
      replace hK4 := ex_trans hK4 hx18
      replace hK5 := ex_trans hK5 hx18
      replace hK17 := ex_trans hK17 hx18
      replace x0_0 := keep_cell hx18 x0_0
      replace x0_1 := keep_cell hx18 x0_1
      replace x0_2 := keep_cell hx18 x0_2
      replace x0_3 := keep_cell hx18 x0_3
      replace x0_4 := keep_cell hx18 x0_4
      replace z0 := keep_lt hx18 z0
      replace x1_0 := keep_cell hx18 x1_0
      replace x1_1 := keep_cell hx18 x1_1
      replace x1_2 := keep_cell hx18 x1_2
      replace x1_3 := keep_cell hx18 x1_3
      replace x1_4 := keep_cell hx18 x1_4
      replace z1 := keep_lt hx18 z1
      replace x2_0 := keep_cell hx18 x2_0
      replace x2_1 := keep_cell hx18 x2_1
      replace x2_2 := keep_cell hx18 x2_2
      replace x2_3 := keep_cell hx18 x2_3
      replace x2_4 := keep_cell hx18 x2_4
      replace z2 := keep_lt hx18 z2
      replace x3_0 := keep_cell hx18 x3_0
      replace x3_1 := keep_cell hx18 x3_1
      replace x3_2 := keep_cell hx18 x3_2
      replace x3_3 := keep_cell hx18 x3_3
      replace x3_4 := keep_cell hx18 x3_4
      replace z3 := keep_lt hx18 z3
      go_wp2_with fail
      refine wp_region_held_drew (S := (fun w' => w'.cell? ⟨W.heap.size, 0, none⟩ = some (.int .i64 f0.id) ∧ w'.cell? ⟨W.heap.size, 1, none⟩ = some (.int .i64 f0.owner) ∧ w'.cell? ⟨W.heap.size, 2, none⟩ = some (.bool f0.shared) ∧ w'.cell? ⟨W.heap.size, 3, none⟩ = some (.int .i64 f0.link) ∧ w'.cell? ⟨W.heap.size, 4, none⟩ = some (.slice A0 f0.attrs.length c0) ∧ W.heap.size < w'.heap.size ∧ w'.cell? ⟨W.heap.size + 1, 0, none⟩ = some (.int .i64 f1.id) ∧ w'.cell? ⟨W.heap.size + 1, 1, none⟩ = some (.int .i64 f1.owner) ∧ w'.cell? ⟨W.heap.size + 1, 2, none⟩ = some (.bool f1.shared) ∧ w'.cell? ⟨W.heap.size + 1, 3, none⟩ = some (.int .i64 f1.link) ∧ w'.cell? ⟨W.heap.size + 1, 4, none⟩ = some (.slice A1 f1.attrs.length c1) ∧ W.heap.size + 1 < w'.heap.size ∧ w'.cell? ⟨w6.heap.size, 0, none⟩ = some (.int .i64 f0.id) ∧ w'.cell? ⟨w6.heap.size, 1, none⟩ = some (.int .i64 f0.owner) ∧ w'.cell? ⟨w6.heap.size, 2, none⟩ = some (.bool f0.shared) ∧ w'.cell? ⟨w6.heap.size, 3, none⟩ = some (.int .i64 f0.link) ∧ w'.cell? ⟨w6.heap.size, 4, none⟩ = some (.slice A'6 f0.attrs.length c'6) ∧ w6.heap.size < w'.heap.size ∧ w'.cell? ⟨w7.heap.size, 0, none⟩ = some (.int .i64 f1.id) ∧ w'.cell? ⟨w7.heap.size, 1, none⟩ = some (.int .i64 f1.owner) ∧ w'.cell? ⟨w7.heap.size, 2, none⟩ = some (.bool f1.shared) ∧ w'.cell? ⟨w7.heap.size, 3, none⟩ = some (.int .i64 f1.link) ∧ w'.cell? ⟨w7.heap.size, 4, none⟩ = some (.slice A'7 f1.attrs.length c'7) ∧ w7.heap.size < w'.heap.size ∧ Below W.heap.size W w' ∧ Below w3.heap.size w3 w' ∧ Below w4.heap.size w4 w' ∧ Below w5.heap.size w5 w' ∧ Below w17.heap.size w17 w')) (by kernel_rfl) (by (try dsimp only); exact ⟨x0_0, x0_1, x0_2, x0_3, x0_4, z0, x1_0, x1_1, x1_2, x1_3, x1_4, z1, x2_0, x2_1, x2_2, x2_3, x2_4, z2, x3_0, x3_1, x3_2, x3_3, x3_4, z3, (hK0).drew, (hK3).drew, (hK4).drew, (hK5).drew, (hK17).drew⟩) (fun hHeld => ?_)
      first | (refine held_take 0 rfl (by kernel_rfl) (by kernel_rfl) (by kernel_rfl) (by rfl) (fun _ _ _ h => h) (by assumption) (by intro w hSw; (try dsimp only at hSw); go_simp; first | done | with_reducible rfl) ?_) | (refine held_skip 0 rfl (by kernel_rfl) (by kernel_rfl) (by kernel_rfl) (by rfl) (fun _ _ _ h => h) (by assumption) ?_)
      simp only [Act.put, List.setIfInBounds_toArray, List.set_cons_zero, List.set_cons_succ]
      first | (refine held_take 2 rfl (by kernel_rfl) (by kernel_rfl) (by kernel_rfl) (by rfl) (fun _ _ _ h => h) (by assumption) (by intro w hSw; (try dsimp only at hSw); go_simp; first | done | with_reducible rfl) ?_) | (refine held_skip 2 rfl (by kernel_rfl) (by kernel_rfl) (by kernel_rfl) (by rfl) (fun _ _ _ h => h) (by assumption) ?_)
      simp only [Act.put, List.setIfInBounds_toArray, List.set_cons_zero, List.set_cons_succ]
      refine held_one 1 (by kernel_rfl) rfl (fun K hK => ?_)
      go_simp
      go_at_call 20
      refine (laws_toFile f0 A0 f0.attrs.length c0 _ (hS0.mono mAtr hHeld.2.2.2.2.2.2.2.2.2.2.2.2.2.2.2.2.2.2.2.2.2.2.2.2.1) hk0).mono ?_; rintro e w19 hN19
      obtain ⟨A'19, c'19, bs19, rfl, hcc19, hW19, hF19, hb19⟩ := hN19.out
      have hL19 := Lib.hid (hW19.lt lAtr)
      have hR19 := hW19.sl (R := RAtr) (fun h => h.1)
      go_wp2_with fail
      refine hK.out _ _ (by (try dsimp only); exact ⟨keep_cell hb19 hHeld.1, keep_cell hb19 hHeld.2.1, keep_cell hb19 hHeld.2.2.1, keep_cell hb19 hHeld.2.2.2.1, keep_cell hb19 hHeld.2.2.2.2.1, keep_lt hb19 hHeld.2.2.2.2.2.1, keep_cell hb19 hHeld.2.2.2.2.2.2.1, keep_cell hb19 hHeld.2.2.2.2.2.2.2.1, keep_cell hb19 hHeld.2.2.2.2.2.2.2.2.1, keep_cell hb19 hHeld.2.2.2.2.2.2.2.2.2.1, keep_cell hb19 hHeld.2.2.2.2.2.2.2.2.2.2.1, keep_lt hb19 hHeld.2.2.2.2.2.2.2.2.2.2.2.1, keep_cell hb19 hHeld.2.2.2.2.2.2.2.2.2.2.2.2.1, keep_cell hb19 hHeld.2.2.2.2.2.2.2.2.2.2.2.2.2.1, keep_cell hb19 hHeld.2.2.2.2.2.2.2.2.2.2.2.2.2.2.1, keep_cell hb19 hHeld.2.2.2.2.2.2.2.2.2.2.2.2.2.2.2.1, keep_cell hb19 hHeld.2.2.2.2.2.2.2.2.2.2.2.2.2.2.2.2.1, keep_lt hb19 hHeld.2.2.2.2.2.2.2.2.2.2.2.2.2.2.2.2.2.1, keep_cell hb19 hHeld.2.2.2.2.2.2.2.2.2.2.2.2.2.2.2.2.2.2.1, keep_cell hb19 hHeld.2.2.2.2.2.2.2.2.2.2.2.2.2.2.2.2.2.2.2.1, keep_cell hb19 hHeld.2.2.2.2.2.2.2.2.2.2.2.2.2.2.2.2.2.2.2.2.1, keep_cell hb19 hHeld.2.2.2.2.2.2.2.2.2.2.2.2.2.2.2.2.2.2.2.2.2.1, keep_cell hb19 hHeld.2.2.2.2.2.2.2.2.2.2.2.2.2.2.2.2.2.2.2.2.2.2.1, keep_lt hb19 hHeld.2.2.2.2.2.2.2.2.2.2.2.2.2.2.2.2.2.2.2.2.2.2.2.1, ex_trans hHeld.2.2.2.2.2.2.2.2.2.2.2.2.2.2.2.2.2.2.2.2.2.2.2.2.1 hb19, ex_trans hHeld.2.2.2.2.2.2.2.2.2.2.2.2.2.2.2.2.2.2.2.2.2.2.2.2.2.1 hb19, ex_trans hHeld.2.2.2.2.2.2.2.2.2.2.2.2.2.2.2.2.2.2.2.2.2.2.2.2.2.2.1 hb19, ex_trans hHeld.2.2.2.2.2.2.2.2.2.2.2.2.2.2.2.2.2.2.2.2.2.2.2.2.2.2.2.1 hb19, ex_trans hHeld.2.2.2.2.2.2.2.2.2.2.2.2.2.2.2.2.2.2.2.2.2.2.2.2.2.2.2.2 hb19⟩) (fun hNew => ?_)
      clear hK K hHeld
      have hHeld := hNew
      clear hNew
      try simp only [Act.put, List.setIfInBounds_toArray, List.set_cons_zero, List.set_cons_succ]
      refine held_one 3 (by kernel_rfl) rfl (fun K hK => ?_)
      go_simp
      go_at_call 20
      refine (laws_toFile f1 A1 f1.attrs.length c1 _ (hS1.mono mAtr hHeld.2.2.2.2.2.2.2.2.2.2.2.2.2.2.2.2.2.2.2.2.2.2.2.2.1) hk1).mono ?_; rintro e w20 hN20
      obtain ⟨A'20, c'20, bs20, rfl, hcc20, hW20, hF20, hb20⟩ := hN20.out
      have hL20 := Lib.hid (hW20.lt lAtr)
      have hR20 := hW20.sl (R := RAtr) (fun h => h.1)
      go_wp2_with fail
      refine hK.out _ _ (by (try dsimp only); exact ⟨keep_cell hb20 hHeld.1, keep_cell hb20 hHeld.2.1, keep_cell hb20 hHeld.2.2.1, keep_cell hb20 hHeld.2.2.2.1, keep_cell hb20 hHeld.2.2.2.2.1, keep_lt hb20 hHeld.2.2.2.2.2.1, keep_cell hb20 hHeld.2.2.2.2.2.2.1, keep_cell hb20 hHeld.2.2.2.2.2.2.2.1, keep_cell hb20 hHeld.2.2.2.2.2.2.2.2.1, keep_cell hb20 hHeld.2.2.2.2.2.2.2.2.2.1, keep_cell hb20 hHeld.2.2.2.2.2.2.2.2.2.2.1, keep_lt hb20 hHeld.2.2.2.2.2.2.2.2.2.2.2.1, keep_cell hb20 hHeld.2.2.2.2.2.2.2.2.2.2.2.2.1, keep_cell hb20 hHeld.2.2.2.2.2.2.2.2.2.2.2.2.2.1, keep_cell hb20 hHeld.2.2.2.2.2.2.2.2.2.2.2.2.2.2.1, keep_cell hb20 hHeld.2.2.2.2.2.2.2.2.2.2.2.2.2.2.2.1, keep_cell hb20 hHeld.2.2.2.2.2.2.2.2.2.2.2.2.2.2.2.2.1, keep_lt hb20 hHeld.2.2.2.2.2.2.2.2.2.2.2.2.2.2.2.2.2.1, keep_cell hb20 hHeld.2.2.2.2.2.2.2.2.2.2.2.2.2.2.2.2.2.2.1, keep_cell hb20 hHeld.2.2.2.2.2.2.2.2.2.2.2.2.2.2.2.2.2.2.2.1, keep_cell hb20 hHeld.2.2.2.2.2.2.2.2.2.2.2.2.2.2.2.2.2.2.2.2.1, keep_cell hb20 hHeld.2.2.2.2.2.2.2.2.2.2.2.2.2.2.2.2.2.2.2.2.2.1, keep_cell hb20 hHeld.2.2.2.2.2.2.2.2.2.2.2.2.2.2.2.2.2.2.2.2.2.2.1, keep_lt hb20 hHeld.2.2.2.2.2.2.2.2.2.2.2.2.2.2.2.2.2.2.2.2.2.2.2.1, ex_trans hHeld.2.2.2.2.2.2.2.2.2.2.2.2.2.2.2.2.2.2.2.2.2.2.2.2.1 hb20, ex_trans hHeld.2.2.2.2.2.2.2.2.2.2.2.2.2.2.2.2.2.2.2.2.2.2.2.2.2.1 hb20, ex_trans hHeld.2.2.2.2.2.2.2.2.2.2.2.2.2.2.2.2.2.2.2.2.2.2.2.2.2.2.1 hb20, ex_trans hHeld.2.2.2.2.2.2.2.2.2.2.2.2.2.2.2.2.2.2.2.2.2.2.2.2.2.2.2.1 hb20, ex_trans hHeld.2.2.2.2.2.2.2.2.2.2.2.2.2.2.2.2.2.2.2.2.2.2.2.2.2.2.2.2 hb20⟩) (fun hNew => ?_)
      clear hK K hHeld
      have hHeld := hNew
      clear hNew
      try simp only [Act.put, List.setIfInBounds_toArray, List.set_cons_zero, List.set_cons_succ]
      refine held_one 4 (by kernel_rfl) rfl (fun K hK => ?_)
      go_simp
      go_at_call 33
      refine (impl_ChangedAttrs f0 A'19 f0.attrs.length c'19 f1 A'20 f1.attrs.length c'20 _ (hR19.mono mAtr (ex_trans (Below.refl _ _) hb20)) (hR20.mono mAtr (Below.refl _ _)) (by omega) (by omega)).mono ?_; rintro e w21 hN21
      rw [← HE0.out] at hN21
      obtain ⟨A121, c121, bs21, rfl, hW21, hF21, hb21⟩ := hN21.v (O := OStr) encStr (fun _ => ⟨rfl, rfl⟩)
      have hL21 := Lib.hid (hW21.lt lStr)
      have hR21 := hW21.sl (R := RStr) (fun h => h.1)
      go_wp2_with fail
      refine hK.out _ _ (by (try dsimp only); exact ⟨keep_cell hb21 hHeld.1, keep_cell hb21 hHeld.2.1, keep_cell hb21 hHeld.2.2.1, keep_cell hb21 hHeld.2.2.2.1, keep_cell hb21 hHeld.2.2.2.2.1, keep_lt hb21 hHeld.2.2.2.2.2.1, keep_cell hb21 hHeld.2.2.2.2.2.2.1, keep_cell hb21 hHeld.2.2.2.2.2.2.2.1, keep_cell hb21 hHeld.2.2.2.2.2.2.2.2.1, keep_cell hb21 hHeld.2.2.2.2.2.2.2.2.2.1, keep_cell hb21 hHeld.2.2.2.2.2.2.2.2.2.2.1, keep_lt hb21 hHeld.2.2.2.2.2.2.2.2.2.2.2.1, keep_cell hb21 hHeld.2.2.2.2.2.2.2.2.2.2.2.2.1, keep_cell hb21 hHeld.2.2.2.2.2.2.2.2.2.2.2.2.2.1, keep_cell hb21 hHeld.2.2.2.2.2.2.2.2.2.2.2.2.2.2.1, keep_cell hb21 hHeld.2.2.2.2.2.2.2.2.2.2.2.2.2.2.2.1, keep_cell hb21 hHeld.2.2.2.2.2.2.2.2.2.2.2.2.2.2.2.2.1, keep_lt hb21 hHeld.2.2.2.2.2.2.2.2.2.2.2.2.2.2.2.2.2.1, keep_cell hb21 hHeld.2.2.2.2.2.2.2.2.2.2.2.2.2.2.2.2.2.2.1, keep_cell hb21 hHeld.2.2.2.2.2.2.2.2.2.2.2.2.2.2.2.2.2.2.2.1, keep_cell hb21 hHeld.2.2.2.2.2.2.2.2.2.2.2.2.2.2.2.2.2.2.2.2.1, keep_cell hb21 hHeld.2.2.2.2.2.2.2.2.2.2.2.2.2.2.2.2.2.2.2.2.2.1, keep_cell hb21 hHeld.2.2.2.2.2.2.2.2.2.2.2.2.2.2.2.2.2.2.2.2.2.2.1, keep_lt hb21 hHeld.2.2.2.2.2.2.2.2.2.2.2.2.2.2.2.2.2.2.2.2.2.2.2.1, ex_trans hHeld.2.2.2.2.2.2.2.2.2.2.2.2.2.2.2.2.2.2.2.2.2.2.2.2.1 hb21, ex_trans hHeld.2.2.2.2.2.2.2.2.2.2.2.2.2.2.2.2.2.2.2.2.2.2.2.2.2.1 hb21, ex_trans hHeld.2.2.2.2.2.2.2.2.2.2.2.2.2.2.2.2.2.2.2.2.2.2.2.2.2.2.1 hb21, ex_trans hHeld.2.2.2.2.2.2.2.2.2.2.2.2.2.2.2.2.2.2.2.2.2.2.2.2.2.2.2.1 hb21, ex_trans hHeld.2.2.2.2.2.2.2.2.2.2.2.2.2.2.2.2.2.2.2.2.2.2.2.2.2.2.2.2 hb21⟩) (fun hNew => ?_)
      clear hK K hHeld
      have hHeld := hNew
      clear hNew
      try simp only [Act.put, List.setIfInBounds_toArray, List.set_cons_zero, List.set_cons_succ]
      first | (refine held_take 5 rfl (by kernel_rfl) (by kernel_rfl) (by kernel_rfl) (by rfl) (fun _ _ _ h => h) (by assumption) (by intro w hSw; (try dsimp only at hSw); go_simp; first | done | with_reducible rfl) ?_) | (refine held_skip 5 rfl (by kernel_rfl) (by kernel_rfl) (by kernel_rfl) (by rfl) (fun _ _ _ h => h) (by assumption) ?_)
      simp only [Act.put, List.setIfInBounds_toArray, List.set_cons_zero, List.set_cons_succ]
      refine wpAnyH_done (by kernel_rfl) ?_ _
      obtain ⟨x0_0', x0_1', x0_2', x0_3', x0_4', z0', x1_0', x1_1', x1_2', x1_3', x1_4', z1', x2_0', x2_1', x2_2', x2_3', x2_4', z2', x3_0', x3_1', x3_2', x3_3', x3_4', z3', hK0', hK3', hK4', hK5', hK17'⟩ := hHeld
      clear x0_0 x0_1 x0_2 x0_3 x0_4 z0 x1_0 x1_1 x1_2 x1_3 x1_4 z1 x2_0 x2_1 x2_2 x2_3 x2_4 z2 x3_0 x3_1 x3_2 x3_3 x3_4 z3 hK0 hK3 hK4 hK5 hK17
      have x0_0 := x0_0'
      clear x0_0'
      have x0_1 := x0_1'
      clear x0_1'
      have x0_2 := x0_2'
      clear x0_2'
      have x0_3 := x0_3'
      clear x0_3'
      have x0_4 := x0_4'
      clear x0_4'
      have z0 := z0'
      clear z0'
      have x1_0 := x1_0'
      clear x1_0'
      have x1_1 := x1_1'
      clear x1_1'
      have x1_2 := x1_2'
      clear x1_2'
      have x1_3 := x1_3'
      clear x1_3'
      have x1_4 := x1_4'
      clear x1_4'
      have z1 := z1'
      clear z1'
      have x2_0 := x2_0'
      clear x2_0'
      have x2_1 := x2_1'
      clear x2_1'
      have x2_2 := x2_2'
      clear x2_2'
      have x2_3 := x2_3'
      clear x2_3'
      have x2_4 := x2_4'
      clear x2_4'
      have z2 := z2'
      clear z2'
      have x3_0 := x3_0'
      clear x3_0'
      have x3_1 := x3_1'
      clear x3_1'
      have x3_2 := x3_2'
      clear x3_2'
      have x3_3 := x3_3'
      clear x3_3'
      have x3_4 := x3_4'
      clear x3_4'
      have z3 := z3'
      clear z3'
      have hK0 := hK0'
      clear hK0'
      have hK3 := hK3'
      clear hK3'
      have hK4 := hK4'
      clear hK4'
      have hK5 := hK5'
      clear hK5'
      have hK17 := hK17'
      clear hK17'
      have hK19 : Below w19.heap.size w19 w21 := (ex_trans (ex_trans (Below.refl _ _) hb20) hb21)
      have hK20 : Below w20.heap.size w20 w21 := (ex_trans (Below.refl _ _) hb21)
      have hK21 : Below w21.heap.size w21 w21 := (Below.refl _ _)
      go_wp2_with fail
      refine (laws_eqStringS_same A121 A105 r0.length c121 r0.length c105 r0 _ (hR21.mono mStr (ex_trans hK21 (by go_grown))) (hR5.mono mStr (ex_trans hK5 (by go_grown))) (by omega) (by omega)).mono ?_; rintro e w22 ⟨rfl, hb22⟩
      have hx22 : Below w21.heap.size w21 w22 := ex_trans (by go_grown) hb22
      replace hK0 := ex_trans hK0 hx22
      replace hK3 := ex_trans hK3 hx22
      replace hK4 := ex_trans hK4 hx22
      replace hK5 := ex_trans hK5 hx22
      replace hK17 := ex_trans hK17 hx22
      replace hK19 := ex_trans hK19 hx22
      replace hK20 := ex_trans hK20 hx22
      replace hK21 := ex_trans hK21 hx22
      replace x0_0 := keep_cell hx22 x0_0
      replace x0_1 := keep_cell hx22 x0_1
      replace x0_2 := keep_cell hx22 x0_2
      replace x0_3 := keep_cell hx22 x0_3
      replace x0_4 := keep_cell hx22 x0_4
      replace z0 := keep_lt hx22 z0
      replace x1_0 := keep_cell hx22 x1_0
      replace x1_1 := keep_cell hx22 x1_1
      replace x1_2 := keep_cell hx22 x1_2
      replace x1_3 := keep_cell hx22 x1_3
      replace x1_4 := keep_cell hx22 x1_4
      replace z1 := keep_lt hx22 z1
      replace x2_0 := keep_cell hx22 x2_0
      replace x2_1 := keep_cell hx22 x2_1
      replace x2_2 := keep_cell hx22 x2_2
      replace x2_3 := keep_cell hx22 x2_3
      replace x2_4 := keep_cell hx22 x2_4
      replace z2 := keep_lt hx22 z2
      replace x3_0 := keep_cell hx22 x3_0
      replace x3_1 := keep_cell hx22 x3_1
      replace x3_2 := keep_cell hx22 x3_2
      replace x3_3 := keep_cell hx22 x3_3
      replace x3_4 := keep_cell hx22 x3_4
      replace z3 := keep_lt hx22 z3
      go_wp2_with fail
      refine (laws_heldStringS A108 r0.length c108 1 _ (hMR17_hW8.mono mStr (ex_trans hK17 (by go_grown))) (by omega) (by omega) (by omega)).mono ?_; rintro e w23 ⟨rfl, hb23⟩
      have hx23 : Below w22.heap.size w22 w23 := ex_trans (by go_grown) hb23
      replace hK0 := ex_trans hK0 hx23
      replace hK3 := ex_trans hK3 hx23
      replace hK4 := ex_trans hK4 hx23
      replace hK5 := ex_trans hK5 hx23
      replace hK17 := ex_trans hK17 hx23
      replace hK19 := ex_trans hK19 hx23
      replace hK20 := ex_trans hK20 hx23
      replace hK21 := ex_trans hK21 hx23
      replace x0_0 := keep_cell hx23 x0_0
      replace x0_1 := keep_cell hx23 x0_1
      replace x0_2 := keep_cell hx23 x0_2
      replace x0_3 := keep_cell hx23 x0_3
      replace x0_4 := keep_cell hx23 x0_4
      replace z0 := keep_lt hx23 z0
      replace x1_0 := keep_cell hx23 x1_0
      replace x1_1 := keep_cell hx23 x1_1
      replace x1_2 := keep_cell hx23 x1_2
      replace x1_3 := keep_cell hx23 x1_3
      replace x1_4 := keep_cell hx23 x1_4
      replace z1 := keep_lt hx23 z1
      replace x2_0 := keep_cell hx23 x2_0
      replace x2_1 := keep_cell hx23 x2_1
      replace x2_2 := keep_cell hx23 x2_2
      replace x2_3 := keep_cell hx23 x2_3
      replace x2_4 := keep_cell hx23 x2_4
      replace z2 := keep_lt hx23 z2
      replace x3_0 := keep_cell hx23 x3_0
      replace x3_1 := keep_cell hx23 x3_1
      replace x3_2 := keep_cell hx23 x3_2
      replace x3_3 := keep_cell hx23 x3_3
      replace x3_4 := keep_cell hx23 x3_4
      replace z3 := keep_lt hx23 z3
      go_wp2_with fail
      go_returns
      exact ⟨rfl, hK0⟩
    · have g1 : (-1 : Int) < 0 := by omega
      have hK0 := Below.refl W.heap.size W
      go_enter Try.func7, Try.ntmps7
      go_wp2_with fail
      refine (laws_szFile_ok f0 A0 f0.attrs.length c0 1048576 _ (hS0.mono mAtr (ex_trans hK0 (by go_grown))) hf0 (by omega) (by omega) (by omega)).mono ?_; rintro e w1 ⟨rfl, hb1⟩
      have hx1 : Below W.heap.size W w1 := ex_trans (by go_grown) hb1
      replace hK0 := ex_trans hK0 hx1
      have x0_0 : w1.cell? ⟨W.heap.size, 0, none⟩ = some (.int .i64 f0.id) := keep_cell hb1 (by go_simp)
      have x0_1 : w1.cell? ⟨W.heap.size, 1, none⟩ = some (.int .i64 f0.owner) := keep_cell hb1 (by go_simp)
      have x0_2 : w1.cell? ⟨W.heap.size, 2, none⟩ = some (.bool f0.shared) := keep_cell hb1 (by go_simp)
      have x0_3 : w1.cell? ⟨W.heap.size, 3, none⟩ = some (.int .i64 f0.link) := keep_cell hb1 (by go_simp)
      have x0_4 : w1.cell? ⟨W.heap.size, 4, none⟩ = some (.slice A0 f0.attrs.length c0) := keep_cell hb1 (by go_simp)
      have z0 : W.heap.size < w1.heap.size := keep_lt hb1 (by simp <;> omega)
      have x1_0 : w1.cell? ⟨W.heap.size + 1, 0, none⟩ = some (.int .i64 f1.id) := keep_cell hb1 (by go_simp)
      have x1_1 : w1.cell? ⟨W.heap.size + 1, 1, none⟩ = some (.int .i64 f1.owner) := keep_cell hb1 (by go_simp)
      have x1_2 : w1.cell? ⟨W.heap.size + 1, 2, none⟩ = some (.bool f1.shared) := keep_cell hb1 (by go_simp)
      have x1_3 : w1.cell? ⟨W.heap.size + 1, 3, none⟩ = some (.int .i64 f1.link) := keep_cell hb1 (by go_simp)
      have x1_4 : w1.cell? ⟨W.heap.size + 1, 4, none⟩ = some (.slice A1 f1.attrs.length c1) := keep_cell hb1 (by go_simp)
      have z1 : W.heap.size + 1 < w1.heap.size := keep_lt hb1 (by simp <;> omega)
      go_wp2_with fail
      refine (laws_szFile_no f1 A1 f1.attrs.length c1 (1048576 - f0.sz) _ (hS1.mono mAtr (ex_trans hK0 (by go_grown))) hf1 (by omega) (by omega) (by omega)).mono ?_; rintro e w2 ⟨rfl, hb2⟩
      have hx2 : Below w1.heap.size w1 w2 := ex_trans (by go_grown) hb2
      replace hK0 := ex_trans hK0 hx2
      replace x0_0 := keep_cell hx2 x0_0
      replace x0_1 := keep_cell hx2 x0_1
      replace x0_2 := keep_cell hx2 x0_2
      replace x0_3 := keep_cell hx2 x0_3
      replace x0_4 := keep_cell hx2 x0_4
      replace z0 := keep_lt hx2 z0
      replace x1_0 := keep_cell hx2 x1_0
      replace x1_1 := keep_cell hx2 x1_1
      replace x1_2 := keep_cell hx2 x1_2
      replace x1_3 := keep_cell hx2 x1_3
      replace x1_4 := keep_cell hx2 x1_4
      replace z1 := keep_lt hx2 z1
      go_wp2_with fail
      go_returns
      exact ⟨rfl, hK0⟩
  · have g0 : (-1 : Int) < 0 := by omega
    have hK0 := Below.refl W.heap.size W
    go_enter Try.func7, Try.ntmps7
    go_wp2_with fail
    refine (laws_szFile_no f0 A0 f0.attrs.length c0 1048576 _ (hS0.mono mAtr (ex_trans hK0 (by go_grown))) hf0 (by omega) (by omega) (by omega)).mono ?_; rintro e w1 ⟨rfl, hb1⟩
    have hx1 : Below W.heap.size W w1 := ex_trans (by go_grown) hb1
    replace hK0 := ex_trans hK0 hx1
    have x0_0 : w1.cell? ⟨W.heap.size, 0, none⟩ = some (.int .i64 f0.id) := keep_cell hb1 (by go_simp)
    have x0_1 : w1.cell? ⟨W.heap.size, 1, none⟩ = some (.int .i64 f0.owner) := keep_cell hb1 (by go_simp)
    have x0_2 : w1.cell? ⟨W.heap.size, 2, none⟩ = some (.bool f0.shared) := keep_cell hb1 (by go_simp)
    have x0_3 : w1.cell? ⟨W.heap.size, 3, none⟩ = some (.int .i64 f0.link) := keep_cell hb1 (by go_simp)
    have x0_4 : w1.cell? ⟨W.heap.size, 4, none⟩ = some (.slice A0 f0.attrs.length c0) := keep_cell hb1 (by go_simp)
    have z0 : W.heap.size < w1.heap.size := keep_lt hb1 (by simp <;> omega)
    have x1_0 : w1.cell? ⟨W.heap.size + 1, 0, none⟩ = some (.int .i64 f1.id) := keep_cell hb1 (by go_simp)
    have x1_1 : w1.cell? ⟨W.heap.size + 1, 1, none⟩ = some (.int .i64 f1.owner) := keep_cell hb1 (by go_simp)
    have x1_2 : w1.cell? ⟨W.heap.size + 1, 2, none⟩ = some (.bool f1.shared) := keep_cell hb1 (by go_simp)
    have x1_3 : w1.cell? ⟨W.heap.size + 1, 3, none⟩ = some (.int .i64 f1.link) := keep_cell hb1 (by go_simp)
    have x1_4 : w1.cell? ⟨W.heap.size + 1, 4, none⟩ = some (.slice A1 f1.attrs.length c1) := keep_cell hb1 (by go_simp)
    have z1 : W.heap.size + 1 < w1.heap.size := keep_lt hb1 (by simp <;> omega)
    go_wp2_with fail
    go_returns
    exact ⟨rfl, hK0⟩
theorem core_FnExactChangedAttrs {H : Type} (enc : TypeId × Value → H) (W : World) (base : Nat) (args : Array Value) (ds : List (DataW H)) (p : List MemPlace)
    (hA : DataW.TrodAll enc Try.prog W 0 (fun _ => true) true Try.f7.params.toList args.toList ds p)
    (hval : ∀ (j : Nat) t v, Try.f7.params[j]? = some t → args[j]? = some v → Value.okWide Try.prog W .any base t v) :
    Calls Try.prog 7 args W fun e W' => e = .returned (.bool true) ∧ Below W.heap.size W W' := by
  rw [Try.params7] at hA hval
  obtain ⟨u0, vs0, d0, ds0, p0, q0, hargs, rfl, rfl, h0, r0⟩ := trodAll_cons hA
  obtain ⟨u1, vs1, d1, ds1, p1, q1, rfl, rfl, rfl, h1, r1⟩ := trodAll_cons r0
  obtain ⟨rfl, rfl, rfl⟩ := trodAll_nil r1
  obtain rfl : args = #[u0, u1] := by cases args; simp_all
  obtain ⟨fu0, g0⟩ := h0
  obtain ⟨x0, e0, ok0⟩ := Op_File.2 _ _ _ g0
  obtain ⟨A0, n0, c0, e0, hS0⟩ := e0
  have z0 := agg_of Try.underlying38 (hval 0 38 u0 rfl rfl)
  have y0 : u0 = .agg ⟨_⟩ := z0.trans (congrArg (fun l => Value.agg ⟨l⟩) e0)
  subst y0
  obtain ⟨fu1, g1⟩ := h1
  obtain ⟨x1, e1, ok1⟩ := Op_File.2 _ _ _ g1
  obtain ⟨A1, n1, c1, e1, hS1⟩ := e1
  have z1 := agg_of Try.underlying38 (hval 1 38 u1 rfl rfl)
  have y1 : u1 = .agg ⟨_⟩ := z1.trans (congrArg (fun l => Value.agg ⟨l⟩) e1)
  subst y1
  exact walk_FnExactChangedAttrs W x0 A0 n0 c0 hS0 ok0 x1 A1 n1 c1 hS1 ok1
set_option maxRecDepth 100000 in
theorem lifted_FnExactChangedAttrs (os : Os) (started : os.Started) (H : Type) (enc : TypeId × Value → H) :
    ReturnsInHanded {} Try.checked os 7 .any (Rows.fnExactChangedAttrsSpec.pre6 enc Try.prog Try.f7 Rows.fnExactChangedAttrsRow.domain false) (Rows.fnExactChangedAttrsSpec.post enc Try.prog Try.f7 false true false false) :=
  law_lifted (C := Try.checked) (tb := 4) (n := 2) own started (by kernel_rfl) Try.func7 rfl (by kernel_rfl) Try.underlying4 (by kernel_rfl)
    (fun ds h => by match ds, h with | [_, _], _ => rfl) laidOut' (by kernel_rfl)
    (ChangeSpec.witness6 (enc := enc) (C := Try.checked) false ⟨#[], #[.agg #[.int .i64 0, .int .i64 0, .bool false, .int .i64 0, .slice none 0 0], .agg #[.int .i64 0, .int .i64 0, .bool false, .int .i64 0, .slice none 0 0]], []⟩ 8 (by kernel_rfl) (by kernel_rfl) (by kernel_rfl) (by kernel_rfl))
    (fun W base args ds p hA hval => core_FnExactChangedAttrs enc W base args ds p hA hval)
theorem holds_FnExactChangedAttrs : Rows.FnExactChangedAttrsSaid :=
  OpenClaim.holds_of_wide 7 Try.f7 rfl rfl rfl rfl rfl rfl rfl ⟨rfl, rfl, rfl, rfl, rfl⟩ rfl rfl rfl rfl rfl (by kernel_rfl) Try.func7 (by kernel_rfl)
    (of_decide_eq_true (by kernel_rfl)) (by unfold Func.isWrapper; first | (rw [if_pos (by decide +kernel)]; kernel_rfl) | (rw [if_neg (by decide +kernel)]; exact ⟨rfl, rfl⟩))
    (fun os started H enc _ => lifted_FnExactChangedAttrs os started H enc)
end Go.Proofs.Ytkjhfblipmagoaa
