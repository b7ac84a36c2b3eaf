/-
  FnExactRangeByAttr RETURNS true AND LEAVES ITS ARGUMENTS AS THEY WERE, FOR EVERY INPUT THAT THE STATEMENT SPEAKS OF. No condition.
-/
import Derived.WalkKit
import Derived.ProofKit
import Derived.OpenShut
import Derived.Handy
import Derived.Lib.Hide
import Derived.Deep.QuietTactic
import Derived.BigQuiet
import Derived.Deep.RegionHeld3
import Derived.Deep.DeepCutAuto
import Derived.Test.YtkjhfblipmagoaaLib
import Derived.Test.YtkjhfblipmagoaaOp
import Derived.Test.YtkjhfblipmagoaaC1
import Derived.Test.YtkjhfblipmagoaaC2
import Derived.Test.YtkjhfblipmagoaaOwn
import Derived.Test.YtkjhfblipmagoaaRow
import Derived.Test.YtkjhfblipmagoaaHld
import Derived.Test.YtkjhfblipmagoaaT1
import Derived.Test.YtkjhfblipmagoaaT6
import Derived.Test.YtkjhfblipmagoaaSz
import Derived.Test.YtkjhfblipmagoaaM0
import Derived.Test.YtkjhfblipmagoaaM1
import Derived.Test.YtkjhfblipmagoaaD1
import Derived.Test.YtkjhfblipmagoaaT2
import Derived.Test.YtkjhfblipmagoaaT3
import Derived.Test.YtkjhfblipmagoaaM2
import Derived.Test.YtkjhfblipmagoaaC4
import Derived.Test.YtkjhfblipmagoaaN0
import Derived.Test.YtkjhfblipmagoaaT4
import Derived.Test.YtkjhfblipmagoaaC3
import Derived.Test.YtkjhfblipmagoaaC5
import Derived.Test.YtkjhfblipmagoaaD3
import Derived.Test.YtkjhfblipmagoaaH1
import Derived.Test.YtkjhfblipmagoaaU0
import Derived.Test.YtkjhfblipmagoaaU4
import Derived.Test.YtkjhfblipmagoaaU5
import Derived.Test.YtkjhfblipmagoaaU6
import Derived.Test.YtkjhfblipmagoaaU7
import Derived.Test.YtkjhfblipmagoaaRows
namespace Go.Proofs.Ytkjhfblipmagoaa
open Go.RowKit Go.ChangeShapes Go.WideShapes Go.ChangeAt Go.ChangeMaps
set_option linter.unusedVariables false
set_option maxRecDepth 100000
set_option maxHeartbeats 16000000 in
theorem walk_FnExactRangeByAttr (W : World) (s0 : Sto) (A0 : Option Addr) (n0 c0 : Nat) (B0 : Option Addr) (m0 d0 : Nat) (hS0 : Sl 2 RFld W A0 n0 s0.schema) (hT0 : Sl 5 RFil W B0 m0 s0.files) (hs0 : s0.ok maxLen) (s1 : ByteArray) (hs1 : s1.size ≤ maxLen) (a2 : Int) (w2 : (Lit.int .i64 a2).wf = true) (a3 : Int) (w3 : (Lit.int .i64 a3).wf = true) : Calls Try.prog 10 #[.agg #[.slice A0 n0 c0, .slice B0 m0 d0, .int .i64 s0.next], .string s1, .int .i64 a2, .int .i64 a3] W fun e w' => e = .returned (.bool true) ∧ Below W.heap.size W w' := by
  obtain rfl : s0.schema.length = n0 := hS0.len
  obtain rfl : s0.files.length = m0 := hT0.len
  unfold maxLen at hs1
  by_cases hc1 : s1.size ≤ 1048576
  · have hd1 : (s1.size : Int) ≤ 1048576 := by omega
    have nn0 := Sto.sz_nn s0
    by_cases hc0 : s0.sz ≤ 1048576
    · obtain ⟨hk0, hm0, hp0⟩ := Sto.okB (show s0.sz ≤ 1048576 by omega)
      have hcnt0 := Sto.cntB (show s0.sz ≤ 1048576 by omega)
      have g0 : 0 ≤ 1048576 - s0.sz := by omega
      obtain ⟨r0, er0⟩ : ∃ r, r = rangeI s1 a2 a3 s0.files := ⟨_, rfl⟩
      have hln0 : r0.length ≤ 1073741824 := by rw [er0]; have := rangeI_len s1 a2 a3 s0.files; omega
      have HE0 := Lib.hid er0
      clear er0
      have hK0 := Below.refl W.heap.size W
      go_enter Try.func10, Try.ntmps10
      go_wp2_with fail
      refine (laws_szStore_ok s0 A0 s0.schema.length c0 B0 s0.files.length d0 1048576 _ (hS0.mono mFld (ex_trans hK0 (by go_grown))) (hT0.mono mFil (ex_trans hK0 (by go_grown))) hs0 (by omega) (by omega) (by omega)).mono ?_; rintro e w1 ⟨rfl, hb1⟩
      have hx1 : Below W.heap.size W w1 := ex_trans (by go_grown) hb1
      replace hK0 := ex_trans hK0 hx1
      have x0_0 : w1.cell? ⟨W.heap.size, 0, none⟩ = some (.slice A0 s0.schema.length c0) := keep_cell hb1 (by go_simp)
      have x0_1 : w1.cell? ⟨W.heap.size, 1, none⟩ = some (.slice B0 s0.files.length d0) := keep_cell hb1 (by go_simp)
      have x0_2 : w1.cell? ⟨W.heap.size, 2, none⟩ = some (.int .i64 s0.next) := keep_cell hb1 (by go_simp)
      have z0 : W.heap.size < w1.heap.size := keep_lt hb1 (by simp <;> omega)
      go_wp2_with fail
      refine (laws_toStore s0 A0 s0.schema.length c0 B0 s0.files.length d0 _ (hS0.mono mFld (ex_trans hK0 (by go_grown))) (hT0.mono mFil (ex_trans hK0 (by go_grown))) hk0).mono ?_; rintro e w2 hN2
      obtain ⟨A'2, c'2, B'2, d'2, bs2, bt2, rfl, hcc2, hcd2, hW2, hX2, hF2, hb2⟩ := hN2.out
      have hL2 : Hid (∀ b ∈ bs2 ++ bt2, b < w2.heap.size) := Lib.hid (fun b hb => (List.mem_append.1 hb).elim (hW2.lt lFld b) (hX2.lt (lFil _) b))
      have hR2 := hW2.sl (R := RFld) (fun h => h.1)
      have hQ2 := hX2.sl (R := RFil) (fun h => h.r)
      have hx2 : Below w1.heap.size w1 w2 := ex_trans (by go_grown) hb2
      replace hK0 := ex_trans hK0 hx2
      replace x0_0 := keep_cell hx2 x0_0
      replace x0_1 := keep_cell hx2 x0_1
      replace x0_2 := keep_cell hx2 x0_2
      replace z0 := keep_lt hx2 z0
      have hK2 := Below.refl w2.heap.size w2
      go_wp2_with fail
      refine (spec_RangeByAttr s0 A'2 s0.schema.length c'2 B'2 s0.files.length d'2 s1 a2 a3 _ (hQ2.mono mFil (ex_trans hK2 (by go_grown))) (by omega) hk0).mono ?_; rintro e w3 hN3
      rw [← HE0.out] at hN3
      obtain ⟨A103, c103, rfl, hR3, hb3⟩ := hN3.r encInt (R := RInt) (fun _ => rfl)
      have hx3 : Below w2.heap.size w2 w3 := ex_trans (by go_grown) hb3
      replace hK0 := ex_trans hK0 hx3
      replace hK2 := ex_trans hK2 hx3
      replace x0_0 := keep_cell hx3 x0_0
      replace x0_1 := keep_cell hx3 x0_1
      replace x0_2 := keep_cell hx3 x0_2
      replace z0 := keep_lt hx3 z0
      have hK3 := Below.refl w3.heap.size w3
      go_wp2_with fail
      refine (laws_toStore s0 A0 s0.schema.length c0 B0 s0.files.length d0 _ (hS0.mono mFld (ex_trans hK0 (by go_grown))) (hT0.mono mFil (ex_trans hK0 (by go_grown))) hk0).mono ?_; rintro e w4 hN4
      obtain ⟨A'4, c'4, B'4, d'4, bs4, bt4, rfl, hcc4, hcd4, hW4, hX4, hF4, hb4⟩ := hN4.out
      have hL4 : Hid (∀ b ∈ bs4 ++ bt4, b < w4.heap.size) := Lib.hid (fun b hb => (List.mem_append.1 hb).elim (hW4.lt lFld b) (hX4.lt (lFil _) b))
      have hR4 := hW4.sl (R := RFld) (fun h => h.1)
      have hQ4 := hX4.sl (R := RFil) (fun h => h.r)
      have hG4_0 : Hid (∀ b ∈ (bs4 ++ bt4), W.heap.size ≤ b) := Lib.hid (fun b hb => by have h1 := hF4.2 b hb; have h2 := hK0.size; (try simp at h1); omega)
      have hG4_2 : Hid (∀ b ∈ (bs4 ++ bt4), w2.heap.size ≤ b) := Lib.hid (fun b hb => by have h1 := hF4.2 b hb; have h2 := hK2.size; (try simp at h1); omega)
      have hG4_3 : Hid (∀ b ∈ (bs4 ++ bt4), w3.heap.size ≤ b) := Lib.hid (fun b hb => by have h1 := hF4.2 b hb; have h2 := hK3.size; (try simp at h1); omega)
      have hN4_0 : Hid (W.heap.size ∉ (bs4 ++ bt4)) := Lib.hid (fun h => by have h1 := hF4.2 _ h; have h2 := z0; (try simp at h1); omega)
      have hx4 : Below w3.heap.size w3 w4 := ex_trans (by go_grown) hb4
      replace hK0 := ex_trans hK0 hx4
      replace hK2 := ex_trans hK2 hx4
      replace hK3 := ex_trans hK3 hx4
      replace x0_0 := keep_cell hx4 x0_0
      replace x0_1 := keep_cell hx4 x0_1
      replace x0_2 := keep_cell hx4 x0_2
      replace z0 := keep_lt hx4 z0
      have hK4 := Below.refl w4.heap.size w4
      go_wp2_with fail
      refine (impl_RangeByAttr s0 A'4 s0.schema.length c'4 B'4 s0.files.length d'4 s1 a2 a3 _ (hQ4.mono mFil (ex_trans hK4 (by go_grown))) (by omega) hk0).mono ?_; rintro e w5 hN5
      rw [← HE0.out] at hN5
      obtain ⟨A105, c105, bs5, rfl, hW5, hF5, hb5⟩ := hN5.v (O := OInt) encInt (fun _ => ⟨rfl, rfl⟩)
      have hL5 := Lib.hid (hW5.lt lInt)
      have hR5 := hW5.sl (R := RInt) (fun h => h.1)
      have hG5_0 : Hid (∀ b ∈ bs5, W.heap.size ≤ b) := Lib.hid (fun b hb => by have h1 := hF5.2 b hb; have h2 := hK0.size; (try simp at h1); omega)
      have hG5_2 : Hid (∀ b ∈ bs5, w2.heap.size ≤ b) := Lib.hid (fun b hb => by have h1 := hF5.2 b hb; have h2 := hK2.size; (try simp at h1); omega)
      have hG5_3 : Hid (∀ b ∈ bs5, w3.heap.size ≤ b) := Lib.hid (fun b hb => by have h1 := hF5.2 b hb; have h2 := hK3.size; (try simp at h1); omega)
      have hG5_4 : Hid (∀ b ∈ bs5, w4.heap.size ≤ b) := Lib.hid (fun b hb => by have h1 := hF5.2 b hb; have h2 := hK4.size; (try simp at h1); omega)
      have hD5_4 : Hid (∀ b ∈ bs5, b ∉ (bs4 ++ bt4)) := Lib.hid (fun b hb hb2 => by have h1 := hF5.2 b hb; have h2 := hL4.out b hb2; have h3 := hK4.size; (try simp at h1); omega)
      have hN5_0 : Hid (W.heap.size ∉ bs5) := Lib.hid (fun h => by have h1 := hF5.2 _ h; have h2 := z0; (try simp at h1); omega)
      have hN5_1 : Hid (w4.heap.size ∉ bs5) := Lib.hid (fun h => by have h1 := hF5.2 _ h; (try simp at h1); omega)
      have hx5 : Below w4.heap.size w4 w5 := ex_trans (by go_grown) hb5
      have hN4_1 : Hid (w4.heap.size ∉ (bs4 ++ bt4)) := Lib.hid (fun h => by have h2 := hL4.out _ h; have h3 := hK4.size; omega)
      replace hK0 := ex_trans hK0 hx5
      replace hK2 := ex_trans hK2 hx5
      replace hK3 := ex_trans hK3 hx5
      replace hK4 := ex_trans hK4 hx5
      replace x0_0 := keep_cell hx5 x0_0
      replace x0_1 := keep_cell hx5 x0_1
      replace x0_2 := keep_cell hx5 x0_2
      replace z0 := keep_lt hx5 z0
      have x1_0 : w5.cell? ⟨w4.heap.size, 0, none⟩ = some (.slice A'4 s0.schema.length c'4) := keep_cell hb5 (by go_simp)
      have x1_1 : w5.cell? ⟨w4.heap.size, 1, none⟩ = some (.slice B'4 s0.files.length d'4) := keep_cell hb5 (by go_simp)
      have x1_2 : w5.cell? ⟨w4.heap.size, 2, none⟩ = some (.int .i64 s0.next) := keep_cell hb5 (by go_simp)
      have z1 : w4.heap.size < w5.heap.size := keep_lt hb5 (by simp <;> omega)
      have hK5 := Below.refl w5.heap.size w5
      go_wp2_with fail
      refine (laws_eqIntS_same A105 A103 r0.length c105 r0.length c103 r0 _ (hR5.mono mInt (ex_trans hK5 (by go_grown))) (hR3.mono mInt (ex_trans hK3 (by go_grown))) (by omega) (by omega)).mono ?_; rintro e w6 ⟨rfl, hb6⟩
      have hx6 : Below w5.heap.size w5 w6 := ex_trans (by go_grown) hb6
      replace hK0 := ex_trans hK0 hx6
      replace hK2 := ex_trans hK2 hx6
      replace hK3 := ex_trans hK3 hx6
      replace hK4 := ex_trans hK4 hx6
      replace hK5 := ex_trans hK5 hx6
      replace x0_0 := keep_cell hx6 x0_0
      replace x0_1 := keep_cell hx6 x0_1
      replace x0_2 := keep_cell hx6 x0_2
      replace z0 := keep_lt hx6 z0
      replace x1_0 := keep_cell hx6 x1_0
      replace x1_1 := keep_cell hx6 x1_1
      replace x1_2 := keep_cell hx6 x1_2
      replace z1 := keep_lt hx6 z1
      go_wp2_with fail
      refine wp_region_held_drew (S := (fun w' => w'.cell? ⟨W.heap.size, 0, none⟩ = some (.slice A0 s0.schema.length c0) ∧ w'.cell? ⟨W.heap.size, 1, none⟩ = some (.slice B0 s0.files.length d0) ∧ w'.cell? ⟨W.heap.size, 2, none⟩ = some (.int .i64 s0.next) ∧ W.heap.size < w'.heap.size ∧ w'.cell? ⟨w4.heap.size, 0, none⟩ = some (.slice A'4 s0.schema.length c'4) ∧ w'.cell? ⟨w4.heap.size, 1, none⟩ = some (.slice B'4 s0.files.length d'4) ∧ w'.cell? ⟨w4.heap.size, 2, none⟩ = some (.int .i64 s0.next) ∧ w4.heap.size < w'.heap.size ∧ Below W.heap.size W w' ∧ Below w2.heap.size w2 w' ∧ Below w3.heap.size w3 w' ∧ Below w4.heap.size w4 w' ∧ Below w5.heap.size w5 w')) (by kernel_rfl) (by (try dsimp only); exact ⟨x0_0, x0_1, x0_2, z0, x1_0, x1_1, x1_2, z1, (hK0).drew, (hK2).drew, (hK3).drew, (hK4).drew, (hK5).drew⟩) (fun hHeld => ?_)
      first | (refine held_take 0 rfl (by kernel_rfl) (by kernel_rfl) (by kernel_rfl) (by rfl) (fun _ _ _ h => h) (by assumption) (by intro w hSw; (try dsimp only at hSw); go_simp; first | done | with_reducible rfl) ?_) | (refine held_skip 0 rfl (by kernel_rfl) (by kernel_rfl) (by kernel_rfl) (by rfl) (fun _ _ _ h => h) (by assumption) ?_)
      simp only [Act.put, List.setIfInBounds_toArray, List.set_cons_zero, List.set_cons_succ]
      first | (refine held_take 1 rfl (by kernel_rfl) (by kernel_rfl) (by kernel_rfl) (by rfl) (fun _ _ _ h => h) (by assumption) (by intro w hSw; (try dsimp only at hSw); go_simp; first | done | with_reducible rfl) ?_) | (refine held_skip 1 rfl (by kernel_rfl) (by kernel_rfl) (by kernel_rfl) (by rfl) (fun _ _ _ h => h) (by assumption) ?_)
      simp only [Act.put, List.setIfInBounds_toArray, List.set_cons_zero, List.set_cons_succ]
      refine held_one 2 (by kernel_rfl) rfl (fun K hK => ?_)
      go_simp
      go_at_call 13
      refine (laws_toStore s0 A0 s0.schema.length c0 B0 s0.files.length d0 _ (hS0.mono mFld hHeld.2.2.2.2.2.2.2.2.1) (hT0.mono mFil hHeld.2.2.2.2.2.2.2.2.1) hk0).mono ?_; rintro e w7 hN7
      obtain ⟨A'7, c'7, B'7, d'7, bs7, bt7, rfl, hcc7, hcd7, hW7, hX7, hF7, hb7⟩ := hN7.out
      have hL7 : Hid (∀ b ∈ bs7 ++ bt7, b < w7.heap.size) := Lib.hid (fun b hb => (List.mem_append.1 hb).elim (hW7.lt lFld b) (hX7.lt (lFil _) b))
      have hR7 := hW7.sl (R := RFld) (fun h => h.1)
      have hQ7 := hX7.sl (R := RFil) (fun h => h.r)
      go_wp2_with fail
      refine hK.out _ _ (by (try dsimp only); exact ⟨keep_cell hb7 hHeld.1, keep_cell hb7 hHeld.2.1, keep_cell hb7 hHeld.2.2.1, keep_lt hb7 hHeld.2.2.2.1, keep_cell hb7 hHeld.2.2.2.2.1, keep_cell hb7 hHeld.2.2.2.2.2.1, keep_cell hb7 hHeld.2.2.2.2.2.2.1, keep_lt hb7 hHeld.2.2.2.2.2.2.2.1, ex_trans hHeld.2.2.2.2.2.2.2.2.1 hb7, ex_trans hHeld.2.2.2.2.2.2.2.2.2.1 hb7, ex_trans hHeld.2.2.2.2.2.2.2.2.2.2.1 hb7, ex_trans hHeld.2.2.2.2.2.2.2.2.2.2.2.1 hb7, ex_trans hHeld.2.2.2.2.2.2.2.2.2.2.2.2 hb7⟩) (fun hNew => ?_)
      clear hK K hHeld
      have hHeld := hNew
      clear hNew
      try simp only [Act.put, List.setIfInBounds_toArray, List.set_cons_zero, List.set_cons_succ]
      refine held_one 3 (by kernel_rfl) rfl (fun K hK => ?_)
      go_simp
      go_at_call 15
      refine (laws_eqStore_same s0 A'4 s0.schema.length c'4 B'4 s0.files.length d'4 A'7 s0.schema.length c'7 B'7 s0.files.length d'7 _ (hR4.mono mFld hHeld.2.2.2.2.2.2.2.2.2.2.2.1) (hQ4.mono mFil hHeld.2.2.2.2.2.2.2.2.2.2.2.1) (hR7.mono mFld (Below.refl _ _)) (hQ7.mono mFil (Below.refl _ _)) hk0).mono ?_; rintro e w8 ⟨rfl, hb8⟩
      go_wp2_with fail
      refine hK.out _ _ (by (try dsimp only); exact ⟨keep_cell hb8 hHeld.1, keep_cell hb8 hHeld.2.1, keep_cell hb8 hHeld.2.2.1, keep_lt hb8 hHeld.2.2.2.1, keep_cell hb8 hHeld.2.2.2.2.1, keep_cell hb8 hHeld.2.2.2.2.2.1, keep_cell hb8 hHeld.2.2.2.2.2.2.1, keep_lt hb8 hHeld.2.2.2.2.2.2.2.1, ex_trans hHeld.2.2.2.2.2.2.2.2.1 hb8, ex_trans hHeld.2.2.2.2.2.2.2.2.2.1 hb8, ex_trans hHeld.2.2.2.2.2.2.2.2.2.2.1 hb8, ex_trans hHeld.2.2.2.2.2.2.2.2.2.2.2.1 hb8, ex_trans hHeld.2.2.2.2.2.2.2.2.2.2.2.2 hb8⟩) (fun hNew => ?_)
      clear hK K hHeld
      have hHeld := hNew
      clear hNew
      try simp only [Act.put, List.setIfInBounds_toArray, List.set_cons_zero, List.set_cons_succ]
      first | (refine held_take 4 rfl (by kernel_rfl) (by kernel_rfl) (by kernel_rfl) (by rfl) (fun _ _ _ h => h) (by assumption) (by intro w hSw; (try dsimp only at hSw); go_simp; first | done | with_reducible rfl) ?_) | (refine held_skip 4 rfl (by kernel_rfl) (by kernel_rfl) (by kernel_rfl) (by rfl) (fun _ _ _ h => h) (by assumption) ?_)
      simp only [Act.put, List.setIfInBounds_toArray, List.set_cons_zero, List.set_cons_succ]
      refine wpAnyH_done (by kernel_rfl) ?_ _
      obtain ⟨x0_0', x0_1', x0_2', z0', x1_0', x1_1', x1_2', z1', hK0', hK2', hK3', hK4', hK5'⟩ := hHeld
      clear x0_0 x0_1 x0_2 z0 x1_0 x1_1 x1_2 z1 hK0 hK2 hK3 hK4 hK5
      have x0_0 := x0_0'
      clear x0_0'
      have x0_1 := x0_1'
      clear x0_1'
      have x0_2 := x0_2'
      clear x0_2'
      have z0 := z0'
      clear z0'
      have x1_0 := x1_0'
      clear x1_0'
      have x1_1 := x1_1'
      clear x1_1'
      have x1_2 := x1_2'
      clear x1_2'
      have z1 := z1'
      clear z1'
      have hK0 := hK0'
      clear hK0'
      have hK2 := hK2'
      clear hK2'
      have hK3 := hK3'
      clear hK3'
      have hK4 := hK4'
      clear hK4'
      have hK5 := hK5'
      clear hK5'
      have hK7 : Below w7.heap.size w7 w8 := (ex_trans (Below.refl _ _) hb8)
      go_wp2_with fail
      refine (laws_markStore s0 A'4 s0.schema.length c'4 B'4 s0.files.length d'4 _ _ 1 _ (hW4.below lFld (ex_trans hK4 (by go_grown))) (hX4.below (lFil _) (ex_trans hK4 (by go_grown))) hF4.1 (by omega) (by omega) (Nat.le_trans hcnt0 (by omega)) (by omega) (by omega)).mono ?_; rintro e w9 ⟨rfl, hW4', hX4', hc9⟩
      replace hW4 := hW4'
      replace hX4 := hX4'
      have hkt9 : 1 ≤ kat 4 (s0.files.map (·.cnt)) (1 + 2 * s0.schema.length) s0.files.length ∧ kat 4 (s0.files.map (·.cnt)) (1 + 2 * s0.schema.length) s0.files.length ≤ 1 + 2 * s0.schema.length + 4 * s0.files.length + 4 * 1073741824 := ⟨by unfold kat; omega, Nat.le_trans (kat_le 4 _ _ (by simp)) (by have h := (show (s0.files.map (·.cnt)).sum ≤ 1073741824 from (Nat.le_trans hcnt0 (by omega))); simp only [List.length_map]; omega)⟩
      replace hK0 := Below.mark hK0 hc9 hK0.size hG4_0.out
      replace hK2 := Below.mark hK2 hc9 hK2.size hG4_2.out
      replace hK3 := Below.mark hK3 hc9 hK3.size hG4_3.out
      replace x0_0 := hc9.cell x0_0 hN4_0.out
      replace x0_1 := hc9.cell x0_1 hN4_0.out
      replace x0_2 := hc9.cell x0_2 hN4_0.out
      replace z0 := Nat.lt_of_lt_of_le z0 hc9.size
      replace x1_0 := hc9.cell x1_0 hN4_1.out
      replace x1_1 := hc9.cell x1_1 hN4_1.out
      replace x1_2 := hc9.cell x1_2 hN4_1.out
      replace z1 := Nat.lt_of_lt_of_le z1 hc9.size
      replace hW5 := (hW5.below lInt hK5).loc lInt (fun b hb => hc9.block b (Nat.lt_of_lt_of_le (hL5.out b hb) hK5.size) (hD5_4.out b hb))
      replace hL5 : Hid (∀ b ∈ bs5, b < w9.heap.size) := Lib.hid (fun b hb => Nat.lt_of_lt_of_le (hL5.out b hb) (Nat.le_trans hK5.size hc9.size))
      have hHR9_hW5 := hW5.sl (R := RInt) (fun h => h.1)
      have hK9 := Below.refl w9.heap.size w9
      -- marked
      have hMR9_hW4 := hW4.sl (R := RFld) (fun h => h.1)
      have hMR9_hX4 := hX4.sl (R := RFil) (fun h => h.r)
      go_wp2_with fail
      refine (laws_eqIntS_same A105 A103 r0.length c105 r0.length c103 r0 _ (hHR9_hW5.mono mInt (ex_trans hK9 (by go_grown))) (hR3.mono mInt (ex_trans hK3 (by go_grown))) (by omega) (by omega)).mono ?_; rintro e w10 ⟨rfl, hb10⟩
      have hx10 : Below w9.heap.size w9 w10 := ex_trans (by go_grown) hb10
      replace hK0 := ex_trans hK0 hx10
      replace hK2 := ex_trans hK2 hx10
      replace hK3 := ex_trans hK3 hx10
      replace hK9 := ex_trans hK9 hx10
      replace x0_0 := keep_cell hx10 x0_0
      replace x0_1 := keep_cell hx10 x0_1
      replace x0_2 := keep_cell hx10 x0_2
      replace z0 := keep_lt hx10 z0
      replace x1_0 := keep_cell hx10 x1_0
      replace x1_1 := keep_cell hx10 x1_1
      replace x1_2 := keep_cell hx10 x1_2
      replace z1 := keep_lt hx10 z1
      go_wp2_with fail
      refine (laws_markIntS A105 r0.length c105 r0 _ 1 _ (hW5.below lInt (ex_trans hK9 (by go_grown))) hF5.1 (by omega) (by omega) (by omega)).mono ?_; rintro e w11 ⟨rfl, hW5', hc11⟩
      replace hW5 := hW5'
      replace hK0 := Below.mark hK0 hc11 hK0.size hG5_0.out
      replace hK2 := Below.mark hK2 hc11 hK2.size hG5_2.out
      replace hK3 := Below.mark hK3 hc11 hK3.size hG5_3.out
      replace x0_0 := hc11.cell x0_0 hN5_0.out
      replace x0_1 := hc11.cell x0_1 hN5_0.out
      replace x0_2 := hc11.cell x0_2 hN5_0.out
      replace z0 := Nat.lt_of_lt_of_le z0 hc11.size
      replace x1_0 := hc11.cell x1_0 hN5_1.out
      replace x1_1 := hc11.cell x1_1 hN5_1.out
      replace x1_2 := hc11.cell x1_2 hN5_1.out
      replace z1 := Nat.lt_of_lt_of_le z1 hc11.size
      have hK11 := Below.refl w11.heap.size w11
      -- marked
      have hMR11_hW5 := hW5.sl (R := RInt) (fun h => h.1)
      go_wp2_with fail
      refine (laws_heldIntS A105 r0.length c105 1 _ (hMR11_hW5.mono mInt (ex_trans hK11 (by go_grown))) (by omega) (by omega) (by omega)).mono ?_; rintro e w12 ⟨rfl, hb12⟩
      have hx12 : Below w11.heap.size w11 w12 := ex_trans (by go_grown) hb12
      replace hK0 := ex_trans hK0 hx12
      replace hK2 := ex_trans hK2 hx12
      replace hK3 := ex_trans hK3 hx12
      replace hK11 := ex_trans hK11 hx12
      replace x0_0 := keep_cell hx12 x0_0
      replace x0_1 := keep_cell hx12 x0_1
      replace x0_2 := keep_cell hx12 x0_2
      replace z0 := keep_lt hx12 z0
      replace x1_0 := keep_cell hx12 x1_0
      replace x1_1 := keep_cell hx12 x1_1
      replace x1_2 := keep_cell hx12 x1_2
      replace z1 := keep_lt hx12 z1
      go_wp2_with fail
      refine (laws_toStore s0 A0 s0.schema.length c0 B0 s0.files.length d0 _ (hS0.mono mFld (ex_trans hK0 (by go_grown))) (hT0.mono mFil (ex_trans hK0 (by go_grown))) hk0).mono ?_; rintro e w13 hN13
      obtain ⟨A'13, c'13, B'13, d'13, bs13, bt13, rfl, hcc13, hcd13, hW13, hX13, hF13, hb13⟩ := hN13.out
      have hL13 : Hid (∀ b ∈ bs13 ++ bt13, b < w13.heap.size) := Lib.hid (fun b hb => (List.mem_append.1 hb).elim (hW13.lt lFld b) (hX13.lt (lFil _) b))
      have hR13 := hW13.sl (R := RFld) (fun h => h.1)
      have hQ13 := hX13.sl (R := RFil) (fun h => h.r)
      have hx13 : Below w12.heap.size w12 w13 := ex_trans (by go_grown) hb13
      replace hK0 := ex_trans hK0 hx13
      replace hK2 := ex_trans hK2 hx13
      replace hK3 := ex_trans hK3 hx13
      replace hK11 := ex_trans hK11 hx13
      replace x0_0 := keep_cell hx13 x0_0
      replace x0_1 := keep_cell hx13 x0_1
      replace x0_2 := keep_cell hx13 x0_2
      replace z0 := keep_lt hx13 z0
      replace x1_0 := keep_cell hx13 x1_0
      replace x1_1 := keep_cell hx13 x1_1
      replace x1_2 := keep_cell hx13 x1_2
      replace z1 := keep_lt hx13 z1
      have hK13 := Below.refl w13.heap.size w13
      go_wp2_with fail
      refine (impl_RangeByAttr s0 A'13 s0.schema.length c'13 B'13 s0.files.length d'13 s1 a2 a3 _ (hQ13.mono mFil (ex_trans hK13 (by go_grown))) (by omega) hk0).mono ?_; rintro e w14 hN14
      rw [← HE0.out] at hN14
      obtain ⟨A114, c114, bs14, rfl, hW14, hF14, hb14⟩ := hN14.v (O := OInt) encInt (fun _ => ⟨rfl, rfl⟩)
      have hL14 := Lib.hid (hW14.lt lInt)
      have hR14 := hW14.sl (R := RInt) (fun h => h.1)
      have hx14 : Below w13.heap.size w13 w14 := ex_trans (by go_grown) hb14
      replace hK0 := ex_trans hK0 hx14
      replace hK2 := ex_trans hK2 hx14
      replace hK3 := ex_trans hK3 hx14
      replace hK11 := ex_trans hK11 hx14
      replace hK13 := ex_trans hK13 hx14
      replace x0_0 := keep_cell hx14 x0_0
      replace x0_1 := keep_cell hx14 x0_1
      replace x0_2 := keep_cell hx14 x0_2
      replace z0 := keep_lt hx14 z0
      replace x1_0 := keep_cell hx14 x1_0
      replace x1_1 := keep_cell hx14 x1_1
      replace x1_2 := keep_cell hx14 x1_2
      replace z1 := keep_lt hx14 z1
      have hK14 := Below.refl w14.heap.size w14
      go_wp2_with fail
      refine (laws_eqIntS_same A114 A103 r0.length c114 r0.length c103 r0 _ (hR14.mono mInt (ex_trans hK14 (by go_grown))) (hR3.mono mInt (ex_trans hK3 (by go_grown))) (by omega) (by omega)).mono ?_; rintro e w15 ⟨rfl, hb15⟩
      have hx15 : Below w14.heap.size w14 w15 := ex_trans (by go_grown) hb15
      replace hK0 := ex_trans hK0 hx15
      replace hK2 := ex_trans hK2 hx15
      replace hK3 := ex_trans hK3 hx15
      replace hK11 := ex_trans hK11 hx15
      replace hK13 := ex_trans hK13 hx15
      replace hK14 := ex_trans hK14 hx15
      replace x0_0 := keep_cell hx15 x0_0
      replace x0_1 := keep_cell hx15 x0_1
      replace x0_2 := keep_cell hx15 x0_2
      replace z0 := keep_lt hx15 z0
      replace x1_0 := keep_cell hx15 x1_0
      replace x1_1 := keep_cell hx15 x1_1
      replace x1_2 := keep_cell hx15 x1_2
      replace z1 := keep_lt hx15 z1
      go_wp2_with fail
      refine (laws_heldIntS A105 r0.length c105 1 _ (hMR11_hW5.mono mInt (ex_trans hK11 (by go_grown))) (by omega) (by omega) (by omega)).mono ?_; rintro e w16 ⟨rfl, hb16⟩
      have hx16 : Below w15.heap.size w15 w16 := ex_trans (by go_grown) hb16
      replace hK0 := ex_trans hK0 hx16
      replace hK2 := ex_trans hK2 hx16
      replace hK3 := ex_trans hK3 hx16
      replace hK11 := ex_trans hK11 hx16
      replace hK13 := ex_trans hK13 hx16
      replace hK14 := ex_trans hK14 hx16
      replace x0_0 := keep_cell hx16 x0_0
      replace x0_1 := keep_cell hx16 x0_1
      replace x0_2 := keep_cell hx16 x0_2
      replace z0 := keep_lt hx16 z0
      replace x1_0 := keep_cell hx16 x1_0
      replace x1_1 := keep_cell hx16 x1_1
      replace x1_2 := keep_cell hx16 x1_2
      replace z1 := keep_lt hx16 z1
      go_wp2_with fail
      go_returns
      exact ⟨rfl, hK0⟩
    · have g0 : (-1 : Int) < 0 := by omega
      have hK0 := Below.refl W.heap.size W
      go_enter Try.func10, Try.ntmps10
      go_wp2_with fail
      refine (laws_szStore_no s0 A0 s0.schema.length c0 B0 s0.files.length d0 1048576 _ (hS0.mono mFld (ex_trans hK0 (by go_grown))) (hT0.mono mFil (ex_trans hK0 (by go_grown))) hs0 (by omega) (by omega) (by omega)).mono ?_; rintro e w1 ⟨rfl, hb1⟩
      have hx1 : Below W.heap.size W w1 := ex_trans (by go_grown) hb1
      replace hK0 := ex_trans hK0 hx1
      have x0_0 : w1.cell? ⟨W.heap.size, 0, none⟩ = some (.slice A0 s0.schema.length c0) := keep_cell hb1 (by go_simp)
      have x0_1 : w1.cell? ⟨W.heap.size, 1, none⟩ = some (.slice B0 s0.files.length d0) := keep_cell hb1 (by go_simp)
      have x0_2 : w1.cell? ⟨W.heap.size, 2, none⟩ = some (.int .i64 s0.next) := keep_cell hb1 (by go_simp)
      have z0 : W.heap.size < w1.heap.size := keep_lt hb1 (by simp <;> omega)
      go_wp2_with fail
      go_returns
      exact ⟨rfl, hK0⟩
  · have hd1 : (1048576 : Int) < (s1.size : Int) := by omega
    go_enter Try.func10, Try.ntmps10
    go_wp2_with fail
    go_returns
    exact ⟨rfl, by go_grown⟩
theorem core_FnExactRangeByAttr {H : Type} (enc : TypeId × Value → H) (W : World) (base : Nat) (args : Array Value) (ds : List (DataW H)) (p : List MemPlace)
    (hA : DataW.TrodAll enc Try.prog W 0 (fun _ => true) true Try.f10.params.toList args.toList ds p)
    (hval : ∀ (j : Nat) t v, Try.f10.params[j]? = some t → args[j]? = some v → Value.okWide Try.prog W .any base t v) :
    Calls Try.prog 10 args W fun e W' => e = .returned (.bool true) ∧ Below W.heap.size W W' := by
  rw [Try.params10] at hA hval
  obtain ⟨u0, vs0, d0, ds0, p0, q0, hargs, rfl, rfl, h0, r0⟩ := trodAll_cons hA
  obtain ⟨u1, vs1, d1, ds1, p1, q1, rfl, rfl, rfl, h1, r1⟩ := trodAll_cons r0
  obtain ⟨u2, vs2, d2, ds2, p2, q2, rfl, rfl, rfl, h2, r2⟩ := trodAll_cons r1
  obtain ⟨u3, vs3, d3, ds3, p3, q3, rfl, rfl, rfl, h3, r3⟩ := trodAll_cons r2
  obtain ⟨rfl, rfl, rfl⟩ := trodAll_nil r3
  obtain rfl : args = #[u0, u1, u2, u3] := by cases args; simp_all
  obtain ⟨fu0, g0⟩ := h0
  obtain ⟨x0, e0, ok0⟩ := Op_Store.2 _ _ _ g0
  obtain ⟨A0, n0, c0, B0, m0, d'0, e0, hS0, hT0⟩ := e0
  have z0 := agg_of Try.underlying25 (hval 0 25 u0 rfl rfl)
  have y0 : u0 = .agg ⟨_⟩ := z0.trans (congrArg (fun l => Value.agg ⟨l⟩) e0)
  subst y0
  obtain ⟨s1, rfl, _, _, hs1⟩ := open_string Try.underlying9 (hval 1 9 u1 rfl rfl) h1
  obtain ⟨a2, rfl, _, _, w2⟩ := open_int Try.underlying3 (hval 2 3 u2 rfl rfl) h2
  obtain ⟨a3, rfl, _, _, w3⟩ := open_int Try.underlying3 (hval 3 3 u3 rfl rfl) h3
  exact walk_FnExactRangeByAttr W x0 A0 n0 c0 B0 m0 d'0 hS0 hT0 ok0 s1 hs1 a2 w2 a3 w3
set_option maxRecDepth 100000 in
theorem lifted_FnExactRangeByAttr (os : Os) (started : os.Started) (H : Type) (enc : TypeId × Value → H) :
    ReturnsInHanded {} Try.checked os 10 .any (Rows.fnExactRangeByAttrSpec.pre6 enc Try.prog Try.f10 Rows.fnExactRangeByAttrRow.domain false) (Rows.fnExactRangeByAttrSpec.post enc Try.prog Try.f10 false true false false) :=
  law_lifted (C := Try.checked) (tb := 4) (n := 4) own started (by kernel_rfl) Try.func10 rfl (by kernel_rfl) Try.underlying4 (by kernel_rfl)
    (fun ds h => by match ds, h with | [_, _, _, _], _ => rfl) laidOut' (by kernel_rfl)
    (ChangeSpec.witness6 (enc := enc) (C := Try.checked) false ⟨#[], #[.agg #[.slice none 0 0, .slice none 0 0, .int .i64 0], .string ByteArray.empty, .int .i64 0, .int .i64 0], []⟩ 8 (by kernel_rfl) (by kernel_rfl) (by kernel_rfl) (by kernel_rfl))
    (fun W base args ds p hA hval => core_FnExactRangeByAttr enc W base args ds p hA hval)
theorem holds_FnExactRangeByAttr : Rows.FnExactRangeByAttrSaid :=
  OpenClaim.holds_of_wide 10 Try.f10 rfl rfl rfl rfl rfl rfl rfl ⟨rfl, rfl, rfl, rfl, rfl⟩ rfl rfl rfl rfl rfl (by kernel_rfl) Try.func10 (by kernel_rfl)
    (of_decide_eq_true (by kernel_rfl)) (by unfold Func.isWrapper; first | (rw [if_pos (by decide +kernel)]; kernel_rfl) | (rw [if_neg (by decide +kernel)]; exact ⟨rfl, rfl⟩))
    (fun os started H enc _ => lifted_FnExactRangeByAttr os started H enc)
end Go.Proofs.Ytkjhfblipmagoaa
