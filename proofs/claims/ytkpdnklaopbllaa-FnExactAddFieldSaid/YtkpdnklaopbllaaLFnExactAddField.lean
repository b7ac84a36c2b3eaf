/-
  FnExactAddField RETURNS true AND LEAVES ITS ARGUMENTS AS THEY WERE, FOR EVERY INPUT THAT THE STATEMENT SPEAKS OF. No condition.
-/
import Derived.WalkKit
import Derived.ProofKit
import Derived.OpenShut
import Derived.Handy
import Derived.Lib.Hide
import Derived.Deep.QuietTactic
import Derived.BigQuiet
import Derived.Deep.RegionHeld3
import Derived.Test.YtkpdnklaopbllaaLib
import Derived.Test.YtkpdnklaopbllaaOp
import Derived.Test.YtkpdnklaopbllaaC1
import Derived.Test.YtkpdnklaopbllaaC2
import Derived.Test.YtkpdnklaopbllaaOwn
import Derived.Test.YtkpdnklaopbllaaRow
import Derived.Test.YtkpdnklaopbllaaHld
import Derived.Test.YtkpdnklaopbllaaT1
import Derived.Test.YtkpdnklaopbllaaSz
import Derived.Test.YtkpdnklaopbllaaM0
import Derived.Test.YtkpdnklaopbllaaM1
import Derived.Test.YtkpdnklaopbllaaD1
import Derived.Test.YtkpdnklaopbllaaT4
import Derived.Test.YtkpdnklaopbllaaC3
import Derived.Test.YtkpdnklaopbllaaD3
import Derived.Test.YtkpdnklaopbllaaD4
import Derived.Test.YtkpdnklaopbllaaD5
import Derived.Test.YtkpdnklaopbllaaT2
import Derived.Test.YtkpdnklaopbllaaT3
import Derived.Test.YtkpdnklaopbllaaM2
import Derived.Test.YtkpdnklaopbllaaH1
import Derived.Test.YtkpdnklaopbllaaRaw
import Derived.Test.YtkpdnklaopbllaaI1
import Derived.Test.YtkpdnklaopbllaaD7
import Derived.Test.YtkpdnklaopbllaaRows
namespace Go.Proofs.Ytkpdnklaopbllaa
open Go.RowKit Go.ChangeShapes Go.WideShapes Go.ChangeAt Go.ChangeMaps
set_option linter.unusedVariables false
set_option maxRecDepth 100000
set_option maxHeartbeats 16000000 in
theorem walk_FnExactAddField (W : World) (A0 : Option Addr) (n0 c0 : Nat) (l0 : List Fld) (hS0 : Sl 2 RFld W A0 n0 l0) (hn0 : n0 ≤ maxLen) (hl0 : ∀ y ∈ l0, Fld.ok maxLen y) (f1 : Fld) (hf1 : f1.ok maxLen) : Calls Try.prog 3 #[.slice A0 n0 c0, .agg #[.string f1.name, .int .i64 f1.kind]] W fun e w' => e = .returned (.bool true) ∧ Below W.heap.size W w' := by
  obtain rfl : l0.length = n0 := hS0.len
  have nn0 := szS_nn Fld.sz_nn l0
  by_cases hc0 : szS Fld.sz l0 ≤ 1048576
  · obtain ⟨hm0, hk0⟩ := flds_okB (show szS Fld.sz l0 ≤ 1048576 by omega)
    have g0 : 0 ≤ 1048576 - szS Fld.sz l0 := by omega
    obtain ⟨r0, er0⟩ : ∃ r, r = addF l0 f1 := ⟨_, rfl⟩
    have hln0 : r0.length ≤ 1073741824 := by rw [er0]; have := addF_len l0 f1; omega
    have HE0 := Lib.hid er0
    clear er0
    obtain ⟨q0, eq0⟩ : ∃ q, q = addOk l0 f1 := ⟨_, rfl⟩
    have HE1 := Lib.hid eq0
    clear eq0
    have nn1 := Fld.sz_nn f1
    by_cases hc1 : f1.sz ≤ 1048576 - szS Fld.sz l0
    · have hk1 := Fld.okB (show f1.sz ≤ 1048576 by omega)
      have g1 : 0 ≤ 1048576 - szS Fld.sz l0 - f1.sz := by omega
      obtain ⟨r0, er0⟩ : ∃ r, r = addF l0 f1 := ⟨_, rfl⟩
      have hln0 : r0.length ≤ 1073741824 := by rw [er0]; have := addF_len l0 f1; omega
      have HE0 := Lib.hid er0
      clear er0
      obtain ⟨q0, eq0⟩ : ∃ q, q = addOk l0 f1 := ⟨_, rfl⟩
      have HE1 := Lib.hid eq0
      clear eq0
      have hK0 := Below.refl W.heap.size W
      go_enter Try.func3, Try.ntmps3
      go_wp2_with fail
      refine (laws_szFieldS_ok A0 l0.length c0 l0 1048576 _ (hS0.mono mFld (ex_trans hK0 (by go_grown))) hn0 hl0 (by omega) (by omega) (by omega)).mono ?_; rintro e w1 ⟨rfl, hb1⟩
      have hx1 : Below W.heap.size W w1 := ex_trans (by go_grown) hb1
      replace hK0 := ex_trans hK0 hx1
      have x0_0 : w1.cell? ⟨W.heap.size, 0, none⟩ = some (.string f1.name) := keep_cell hb1 (by go_simp)
      have x0_1 : w1.cell? ⟨W.heap.size, 1, none⟩ = some (.int .i64 f1.kind) := keep_cell hb1 (by go_simp)
      have z0 : W.heap.size < w1.heap.size := keep_lt hb1 (by simp <;> omega)
      go_wp2_with fail
      refine (laws_szField_ok f1 (1048576 - szS Fld.sz l0) _ hf1 (by omega) (by omega) (by omega)).mono ?_; rintro e w2 ⟨rfl, hb2⟩
      have hx2 : Below w1.heap.size w1 w2 := ex_trans (by go_grown) hb2
      replace hK0 := ex_trans hK0 hx2
      replace x0_0 := keep_cell hx2 x0_0
      replace x0_1 := keep_cell hx2 x0_1
      replace z0 := keep_lt hx2 z0
      go_wp2_with fail
      refine wp_region_held_drew (S := (fun w' => w'.cell? ⟨W.heap.size, 0, none⟩ = some (.string f1.name) ∧ w'.cell? ⟨W.heap.size, 1, none⟩ = some (.int .i64 f1.kind) ∧ W.heap.size < w'.heap.size ∧ Below W.heap.size W w')) (by kernel_rfl) (by (try dsimp only); exact ⟨x0_0, x0_1, z0, (hK0).drew⟩) (fun hHeld => ?_)
      first | (refine held_take 0 rfl (by kernel_rfl) (by kernel_rfl) (by kernel_rfl) (by rfl) (fun _ _ _ h => h) (by assumption) (by intro w hSw; (try dsimp only at hSw); go_simp; first | done | with_reducible rfl) ?_) | (refine held_skip 0 rfl (by kernel_rfl) (by kernel_rfl) (by kernel_rfl) (by rfl) (fun _ _ _ h => h) (by assumption) ?_)
      simp only [Act.put, List.setIfInBounds_toArray, List.set_cons_zero, List.set_cons_succ]
      first | (refine held_take 2 rfl (by kernel_rfl) (by kernel_rfl) (by kernel_rfl) (by rfl) (fun _ _ _ h => h) (by assumption) (by intro w hSw; (try dsimp only at hSw); go_simp; first | done | with_reducible rfl) ?_) | (refine held_skip 2 rfl (by kernel_rfl) (by kernel_rfl) (by kernel_rfl) (by rfl) (fun _ _ _ h => h) (by assumption) ?_)
      simp only [Act.put, List.setIfInBounds_toArray, List.set_cons_zero, List.set_cons_succ]
      refine held_one 1 (by kernel_rfl) rfl (fun K hK => ?_)
      go_simp
      go_at_call 16
      refine (laws_toFieldS A0 l0.length c0 l0 _ (hS0.mono mFld hHeld.2.2.2) (by omega)).mono ?_; rintro e w3 hN3
      obtain ⟨A'3, c'3, bs3, rfl, hcc3, hW3, hF3, hb3⟩ := hN3.out
      have hL3 := Lib.hid (hW3.lt lFld)
      have hR3 := hW3.sl (R := RFld) (fun h => h.1)
      go_wp2_with fail
      refine hK.out _ _ (by (try dsimp only); exact ⟨keep_cell hb3 hHeld.1, keep_cell hb3 hHeld.2.1, keep_lt hb3 hHeld.2.2.1, ex_trans hHeld.2.2.2 hb3⟩) (fun hNew => ?_)
      clear hK K hHeld
      have hHeld := hNew
      clear hNew
      try simp only [Act.put, List.setIfInBounds_toArray, List.set_cons_zero, List.set_cons_succ]
      refine held_one 3 (by kernel_rfl) rfl (fun K hK => ?_)
      go_simp
      go_at_call 17
      refine (laws_toField f1 _).mono ?_; rintro e w4 ⟨rfl, hb4⟩
      go_wp2_with fail
      refine hK.out _ _ (by (try dsimp only); exact ⟨keep_cell hb4 hHeld.1, keep_cell hb4 hHeld.2.1, keep_lt hb4 hHeld.2.2.1, ex_trans hHeld.2.2.2 hb4⟩) (fun hNew => ?_)
      clear hK K hHeld
      have hHeld := hNew
      clear hNew
      try simp only [Act.put, List.setIfInBounds_toArray, List.set_cons_zero, List.set_cons_succ]
      refine held_one 4 (by kernel_rfl) rfl (fun K hK => ?_)
      go_simp
      go_at_call 15
      refine (spec_AddField A'3 l0.length c'3 l0 f1 _ (hR3.mono mFld (ex_trans (Below.refl _ _) hb4)) hcc3 (by omega) hk0 hk1).mono ?_; rintro e w5 hN5
      rw [← HE0.out, ← HE1.out] at hN5
      obtain ⟨A105, c105, rfl, hR5, hb5⟩ := hN5.r encFld (R := RFld) (fun _ => rfl)
      go_wp2_with fail
      refine hK.out _ _ (by (try dsimp only); exact ⟨keep_cell hb5 hHeld.1, keep_cell hb5 hHeld.2.1, keep_lt hb5 hHeld.2.2.1, ex_trans hHeld.2.2.2 hb5⟩) (fun hNew => ?_)
      clear hK K hHeld
      have hHeld := hNew
      clear hNew
      try simp only [Act.put, List.setIfInBounds_toArray, List.set_cons_zero, List.set_cons_succ]
      first | (refine held_take 5 rfl (by kernel_rfl) (by kernel_rfl) (by kernel_rfl) (by rfl) (fun _ _ _ h => h) (by assumption) (by intro w hSw; (try dsimp only at hSw); go_simp; first | done | with_reducible rfl) ?_) | (refine held_skip 5 rfl (by kernel_rfl) (by kernel_rfl) (by kernel_rfl) (by rfl) (fun _ _ _ h => h) (by assumption) ?_)
      simp only [Act.put, List.setIfInBounds_toArray, List.set_cons_zero, List.set_cons_succ]
      first | (refine held_take 6 rfl (by kernel_rfl) (by kernel_rfl) (by kernel_rfl) (by rfl) (fun _ _ _ h => h) (by assumption) (by intro w hSw; (try dsimp only at hSw); go_simp; first | done | with_reducible rfl) ?_) | (refine held_skip 6 rfl (by kernel_rfl) (by kernel_rfl) (by kernel_rfl) (by rfl) (fun _ _ _ h => h) (by assumption) ?_)
      simp only [Act.put, List.setIfInBounds_toArray, List.set_cons_zero, List.set_cons_succ]
      first | (refine held_take 7 rfl (by kernel_rfl) (by kernel_rfl) (by kernel_rfl) (by rfl) (fun _ _ _ h => h) (by assumption) (by intro w hSw; (try dsimp only at hSw); go_simp; first | done | with_reducible rfl) ?_) | (refine held_skip 7 rfl (by kernel_rfl) (by kernel_rfl) (by kernel_rfl) (by rfl) (fun _ _ _ h => h) (by assumption) ?_)
      simp only [Act.put, List.setIfInBounds_toArray, List.set_cons_zero, List.set_cons_succ]
      first | (refine held_take 8 rfl (by kernel_rfl) (by kernel_rfl) (by kernel_rfl) (by rfl) (fun _ _ _ h => h) (by assumption) (by intro w hSw; (try dsimp only at hSw); go_simp; first | done | with_reducible rfl) ?_) | (refine held_skip 8 rfl (by kernel_rfl) (by kernel_rfl) (by kernel_rfl) (by rfl) (fun _ _ _ h => h) (by assumption) ?_)
      simp only [Act.put, List.setIfInBounds_toArray, List.set_cons_zero, List.set_cons_succ]
      first | (refine held_take 9 rfl (by kernel_rfl) (by kernel_rfl) (by kernel_rfl) (by rfl) (fun _ _ _ h => h) (by assumption) (by intro w hSw; (try dsimp only at hSw); go_simp; first | done | with_reducible rfl) ?_) | (refine held_skip 9 rfl (by kernel_rfl) (by kernel_rfl) (by kernel_rfl) (by rfl) (fun _ _ _ h => h) (by assumption) ?_)
      simp only [Act.put, List.setIfInBounds_toArray, List.set_cons_zero, List.set_cons_succ]
      refine wpAnyH_done (by kernel_rfl) ?_ _
      obtain ⟨x0_0', x0_1', z0', hK0'⟩ := hHeld
      clear x0_0 x0_1 z0 hK0
      have x0_0 := x0_0'
      clear x0_0'
      have x0_1 := x0_1'
      clear x0_1'
      have z0 := z0'
      clear z0'
      have hK0 := hK0'
      clear hK0'
      have hK3 : Below w3.heap.size w3 w5 := (ex_trans (ex_trans (Below.refl _ _) hb4) hb5)
      have hK5 : Below w5.heap.size w5 w5 := (Below.refl _ _)
      go_wp2_with fail
      refine (laws_toFieldS A0 l0.length c0 l0 _ (hS0.mono mFld (ex_trans hK0 (by go_grown))) (by omega)).mono ?_; rintro e w6 hN6
      obtain ⟨A'6, c'6, bs6, rfl, hcc6, hW6, hF6, hb6⟩ := hN6.out
      have hL6 := Lib.hid (hW6.lt lFld)
      have hR6 := hW6.sl (R := RFld) (fun h => h.1)
      have hG6_0 : Hid (∀ b ∈ bs6, W.heap.size ≤ b) := Lib.hid (fun b hb => by have h1 := hF6.2 b hb; have h2 := hK0.size; (try simp at h1); omega)
      have hG6_3 : Hid (∀ b ∈ bs6, w3.heap.size ≤ b) := Lib.hid (fun b hb => by have h1 := hF6.2 b hb; have h2 := hK3.size; (try simp at h1); omega)
      have hG6_5 : Hid (∀ b ∈ bs6, w5.heap.size ≤ b) := Lib.hid (fun b hb => by have h1 := hF6.2 b hb; have h2 := hK5.size; (try simp at h1); omega)
      have hN6_0 : Hid (W.heap.size ∉ bs6) := Lib.hid (fun h => by have h1 := hF6.2 _ h; have h2 := z0; (try simp at h1); omega)
      have hx6 : Below w5.heap.size w5 w6 := ex_trans (by go_grown) hb6
      replace hK0 := ex_trans hK0 hx6
      replace hK3 := ex_trans hK3 hx6
      replace hK5 := ex_trans hK5 hx6
      replace x0_0 := keep_cell hx6 x0_0
      replace x0_1 := keep_cell hx6 x0_1
      replace z0 := keep_lt hx6 z0
      have hK6 := Below.refl w6.heap.size w6
      go_wp2_with fail
      refine (laws_toField f1 _).mono ?_; rintro e w7 ⟨rfl, hb7⟩
      have hx7 : Below w6.heap.size w6 w7 := ex_trans (by go_grown) hb7
      replace hK0 := ex_trans hK0 hx7
      replace hK3 := ex_trans hK3 hx7
      replace hK5 := ex_trans hK5 hx7
      replace hK6 := ex_trans hK6 hx7
      replace x0_0 := keep_cell hx7 x0_0
      replace x0_1 := keep_cell hx7 x0_1
      replace z0 := keep_lt hx7 z0
      go_wp2_with fail
      refine (impl_AddField A'6 l0.length c'6 l0 f1 _ (hR6.mono mFld (ex_trans hK6 (by go_grown))) (by omega) hk0 hk1).mono ?_; rintro e w8 hN8
      rw [← HE0.out, ← HE1.out] at hN8
      obtain ⟨A108, c108, bs8, rfl, hW8, hF8, hb8⟩ := hN8.v (O := OFld) encFld (fun _ => ⟨rfl, rfl⟩)
      have hL8 := Lib.hid (hW8.lt lFld)
      have hR8 := hW8.sl (R := RFld) (fun h => h.1)
      have hG8_0 : Hid (∀ b ∈ bs8, W.heap.size ≤ b) := Lib.hid (fun b hb => by have h1 := hF8.2 b hb; have h2 := hK0.size; (try simp at h1); omega)
      have hG8_3 : Hid (∀ b ∈ bs8, w3.heap.size ≤ b) := Lib.hid (fun b hb => by have h1 := hF8.2 b hb; have h2 := hK3.size; (try simp at h1); omega)
      have hG8_5 : Hid (∀ b ∈ bs8, w5.heap.size ≤ b) := Lib.hid (fun b hb => by have h1 := hF8.2 b hb; have h2 := hK5.size; (try simp at h1); omega)
      have hG8_6 : Hid (∀ b ∈ bs8, w6.heap.size ≤ b) := Lib.hid (fun b hb => by have h1 := hF8.2 b hb; have h2 := hK6.size; (try simp at h1); omega)
      have hD8_6 : Hid (∀ b ∈ bs8, b ∉ bs6) := Lib.hid (fun b hb hb2 => by have h1 := hF8.2 b hb; have h2 := hL6.out b hb2; have h3 := hK6.size; (try simp at h1); omega)
      have hN8_0 : Hid (W.heap.size ∉ bs8) := Lib.hid (fun h => by have h1 := hF8.2 _ h; have h2 := z0; (try simp at h1); omega)
      have hx8 : Below w7.heap.size w7 w8 := ex_trans (by go_grown) hb8
      replace hK0 := ex_trans hK0 hx8
      replace hK3 := ex_trans hK3 hx8
      replace hK5 := ex_trans hK5 hx8
      replace hK6 := ex_trans hK6 hx8
      replace x0_0 := keep_cell hx8 x0_0
      replace x0_1 := keep_cell hx8 x0_1
      replace z0 := keep_lt hx8 z0
      have hK8 := Below.refl w8.heap.size w8
      go_wp2_with fail
      refine (laws_eqFieldS_same A108 A105 r0.length c108 r0.length c105 r0 _ (hR8.mono mFld (ex_trans hK8 (by go_grown))) (hR5.mono mFld (ex_trans hK5 (by go_grown))) (by omega) (by omega)).mono ?_; rintro e w9 ⟨rfl, hb9⟩
      have hx9 : Below w8.heap.size w8 w9 := ex_trans (by go_grown) hb9
      replace hK0 := ex_trans hK0 hx9
      replace hK3 := ex_trans hK3 hx9
      replace hK5 := ex_trans hK5 hx9
      replace hK6 := ex_trans hK6 hx9
      replace hK8 := ex_trans hK8 hx9
      replace x0_0 := keep_cell hx9 x0_0
      replace x0_1 := keep_cell hx9 x0_1
      replace z0 := keep_lt hx9 z0
      go_wp2_with fail
      refine (laws_toFieldS A0 l0.length c0 l0 _ (hS0.mono mFld (ex_trans hK0 (by go_grown))) (by omega)).mono ?_; rintro e w10 hN10
      obtain ⟨A'10, c'10, bs10, rfl, hcc10, hW10, hF10, hb10⟩ := hN10.out
      have hL10 := Lib.hid (hW10.lt lFld)
      have hR10 := hW10.sl (R := RFld) (fun h => h.1)
      have hx10 : Below w9.heap.size w9 w10 := ex_trans (by go_grown) hb10
      replace hK0 := ex_trans hK0 hx10
      replace hK3 := ex_trans hK3 hx10
      replace hK5 := ex_trans hK5 hx10
      replace hK6 := ex_trans hK6 hx10
      replace hK8 := ex_trans hK8 hx10
      replace x0_0 := keep_cell hx10 x0_0
      replace x0_1 := keep_cell hx10 x0_1
      replace z0 := keep_lt hx10 z0
      have hK10 := Below.refl w10.heap.size w10
      go_wp2_with fail
      refine (laws_eqFieldS_same A'6 A'10 l0.length c'6 l0.length c'10 l0 _ (hR6.mono mFld (ex_trans hK6 (by go_grown))) (hR10.mono mFld (ex_trans hK10 (by go_grown))) (by omega) (by omega)).mono ?_; rintro e w11 ⟨rfl, hb11⟩
      have hx11 : Below w10.heap.size w10 w11 := ex_trans (by go_grown) hb11
      replace hK0 := ex_trans hK0 hx11
      replace hK3 := ex_trans hK3 hx11
      replace hK5 := ex_trans hK5 hx11
      replace hK6 := ex_trans hK6 hx11
      replace hK8 := ex_trans hK8 hx11
      replace hK10 := ex_trans hK10 hx11
      replace x0_0 := keep_cell hx11 x0_0
      replace x0_1 := keep_cell hx11 x0_1
      replace z0 := keep_lt hx11 z0
      go_wp2_with fail
      refine (laws_markFieldS A'6 l0.length c'6 l0 _ 1 _ (hW6.below lFld (ex_trans hK6 (by go_grown))) hF6.1 (by omega) (by omega) (by omega)).mono ?_; rintro e w12 ⟨rfl, hW6', hc12⟩
      replace hW6 := hW6'
      replace hK0 := Below.mark hK0 hc12 hK0.size hG6_0.out
      replace hK3 := Below.mark hK3 hc12 hK3.size hG6_3.out
      replace hK5 := Below.mark hK5 hc12 hK5.size hG6_5.out
      replace x0_0 := hc12.cell x0_0 hN6_0.out
      replace x0_1 := hc12.cell x0_1 hN6_0.out
      replace z0 := Nat.lt_of_lt_of_le z0 hc12.size
      replace hW8 := (hW8.below lFld hK8).loc lFld (fun b hb => hc12.block b (Nat.lt_of_lt_of_le (hL8.out b hb) hK8.size) (hD8_6.out b hb))
      replace hL8 : Hid (∀ b ∈ bs8, b < w12.heap.size) := Lib.hid (fun b hb => Nat.lt_of_lt_of_le (hL8.out b hb) (Nat.le_trans hK8.size hc12.size))
      have hHR12_hW8 := hW8.sl (R := RFld) (fun h => h.1)
      have hK12 := Below.refl w12.heap.size w12
      -- marked
      have hMR12_hW6 := hW6.sl (R := RFld) (fun h => h.1)
      go_wp2_with fail
      refine (laws_eqFieldS_same A108 A105 r0.length c108 r0.length c105 r0 _ (hHR12_hW8.mono mFld (ex_trans hK12 (by go_grown))) (hR5.mono mFld (ex_trans hK5 (by go_grown))) (by omega) (by omega)).mono ?_; rintro e w13 ⟨rfl, hb13⟩
      have hx13 : Below w12.heap.size w12 w13 := ex_trans (by go_grown) hb13
      replace hK0 := ex_trans hK0 hx13
      replace hK3 := ex_trans hK3 hx13
      replace hK5 := ex_trans hK5 hx13
      replace hK12 := ex_trans hK12 hx13
      replace x0_0 := keep_cell hx13 x0_0
      replace x0_1 := keep_cell hx13 x0_1
      replace z0 := keep_lt hx13 z0
      go_wp2_with fail
      refine (laws_markFieldS A108 r0.length c108 r0 _ 1 _ (hW8.below lFld (ex_trans hK12 (by go_grown))) hF8.1 (by omega) (by omega) (by omega)).mono ?_; rintro e w14 ⟨rfl, hW8', hc14⟩
      replace hW8 := hW8'
      replace hK0 := Below.mark hK0 hc14 hK0.size hG8_0.out
      replace hK3 := Below.mark hK3 hc14 hK3.size hG8_3.out
      replace hK5 := Below.mark hK5 hc14 hK5.size hG8_5.out
      replace x0_0 := hc14.cell x0_0 hN8_0.out
      replace x0_1 := hc14.cell x0_1 hN8_0.out
      replace z0 := Nat.lt_of_lt_of_le z0 hc14.size
      have hK14 := Below.refl w14.heap.size w14
      -- marked
      have hMR14_hW8 := hW8.sl (R := RFld) (fun h => h.1)
      go_wp2_with fail
      refine (laws_heldFieldS A108 r0.length c108 1 _ (hMR14_hW8.mono mFld (ex_trans hK14 (by go_grown))) (by omega) (by omega) (by omega)).mono ?_; rintro e w15 ⟨rfl, hb15⟩
      have hx15 : Below w14.heap.size w14 w15 := ex_trans (by go_grown) hb15
      replace hK0 := ex_trans hK0 hx15
      replace hK3 := ex_trans hK3 hx15
      replace hK5 := ex_trans hK5 hx15
      replace hK14 := ex_trans hK14 hx15
      replace x0_0 := keep_cell hx15 x0_0
      replace x0_1 := keep_cell hx15 x0_1
      replace z0 := keep_lt hx15 z0
      go_wp2_with fail
      refine wp_region_held_drew (S := (fun w' => w'.cell? ⟨W.heap.size, 0, none⟩ = some (.string f1.name) ∧ w'.cell? ⟨W.heap.size, 1, none⟩ = some (.int .i64 f1.kind) ∧ W.heap.size < w'.heap.size ∧ Below W.heap.size W w' ∧ Below w3.heap.size w3 w' ∧ Below w5.heap.size w5 w' ∧ Below w14.heap.size w14 w')) (by kernel_rfl) (by (try dsimp only); exact ⟨x0_0, x0_1, z0, (hK0).drew, (hK3).drew, (hK5).drew, (hK14).drew⟩) (fun hHeld => ?_)
      first | (refine held_take 0 rfl (by kernel_rfl) (by kernel_rfl) (by kernel_rfl) (by rfl) (fun _ _ _ h => h) (by assumption) (by intro w hSw; (try dsimp only at hSw); go_simp; first | done | with_reducible rfl) ?_) | (refine held_skip 0 rfl (by kernel_rfl) (by kernel_rfl) (by kernel_rfl) (by rfl) (fun _ _ _ h => h) (by assumption) ?_)
      simp only [Act.put, List.setIfInBounds_toArray, List.set_cons_zero, List.set_cons_succ]
      first | (refine held_take 2 rfl (by kernel_rfl) (by kernel_rfl) (by kernel_rfl) (by rfl) (fun _ _ _ h => h) (by assumption) (by intro w hSw; (try dsimp only at hSw); go_simp; first | done | with_reducible rfl) ?_) | (refine held_skip 2 rfl (by kernel_rfl) (by kernel_rfl) (by kernel_rfl) (by rfl) (fun _ _ _ h => h) (by assumption) ?_)
      simp only [Act.put, List.setIfInBounds_toArray, List.set_cons_zero, List.set_cons_succ]
      refine held_one 1 (by kernel_rfl) rfl (fun K hK => ?_)
      go_simp
      go_at_call 16
      refine (laws_toFieldS A0 l0.length c0 l0 _ (hS0.mono mFld hHeld.2.2.2.1) (by omega)).mono ?_; rintro e w16 hN16
      obtain ⟨A'16, c'16, bs16, rfl, hcc16, hW16, hF16, hb16⟩ := hN16.out
      have hL16 := Lib.hid (hW16.lt lFld)
      have hR16 := hW16.sl (R := RFld) (fun h => h.1)
      go_wp2_with fail
      refine hK.out _ _ (by (try dsimp only); exact ⟨keep_cell hb16 hHeld.1, keep_cell hb16 hHeld.2.1, keep_lt hb16 hHeld.2.2.1, ex_trans hHeld.2.2.2.1 hb16, ex_trans hHeld.2.2.2.2.1 hb16, ex_trans hHeld.2.2.2.2.2.1 hb16, ex_trans hHeld.2.2.2.2.2.2 hb16⟩) (fun hNew => ?_)
      clear hK K hHeld
      have hHeld := hNew
      clear hNew
      try simp only [Act.put, List.setIfInBounds_toArray, List.set_cons_zero, List.set_cons_succ]
      refine held_one 3 (by kernel_rfl) rfl (fun K hK => ?_)
      go_simp
      go_at_call 17
      refine (laws_toField f1 _).mono ?_; rintro e w17 ⟨rfl, hb17⟩
      go_wp2_with fail
      refine hK.out _ _ (by (try dsimp only); exact ⟨keep_cell hb17 hHeld.1, keep_cell hb17 hHeld.2.1, keep_lt hb17 hHeld.2.2.1, ex_trans hHeld.2.2.2.1 hb17, ex_trans hHeld.2.2.2.2.1 hb17, ex_trans hHeld.2.2.2.2.2.1 hb17, ex_trans hHeld.2.2.2.2.2.2 hb17⟩) (fun hNew => ?_)
      clear hK K hHeld
      have hHeld := hNew
      clear hNew
      try simp only [Act.put, List.setIfInBounds_toArray, List.set_cons_zero, List.set_cons_succ]
      refine held_one 4 (by kernel_rfl) rfl (fun K hK => ?_)
      go_simp
      go_at_call 18
      refine (impl_AddField A'16 l0.length c'16 l0 f1 _ (hR16.mono mFld (ex_trans (Below.refl _ _) hb17)) (by omega) hk0 hk1).mono ?_; rintro e w18 hN18
      rw [← HE0.out, ← HE1.out] at hN18
      obtain ⟨A118, c118, bs18, rfl, hW18, hF18, hb18⟩ := hN18.v (O := OFld) encFld (fun _ => ⟨rfl, rfl⟩)
      have hL18 := Lib.hid (hW18.lt lFld)
      have hR18 := hW18.sl (R := RFld) (fun h => h.1)
      go_wp2_with fail
      refine hK.out _ _ (by (try dsimp only); exact ⟨keep_cell hb18 hHeld.1, keep_cell hb18 hHeld.2.1, keep_lt hb18 hHeld.2.2.1, ex_trans hHeld.2.2.2.1 hb18, ex_trans hHeld.2.2.2.2.1 hb18, ex_trans hHeld.2.2.2.2.2.1 hb18, ex_trans hHeld.2.2.2.2.2.2 hb18⟩) (fun hNew => ?_)
      clear hK K hHeld
      have hHeld := hNew
      clear hNew
      try simp only [Act.put, List.setIfInBounds_toArray, List.set_cons_zero, List.set_cons_succ]
      first | (refine held_take 5 rfl (by kernel_rfl) (by kernel_rfl) (by kernel_rfl) (by rfl) (fun _ _ _ h => h) (by assumption) (by intro w hSw; (try dsimp only at hSw); go_simp; first | done | with_reducible rfl) ?_) | (refine held_skip 5 rfl (by kernel_rfl) (by kernel_rfl) (by kernel_rfl) (by rfl) (fun _ _ _ h => h) (by assumption) ?_)
      simp only [Act.put, List.setIfInBounds_toArray, List.set_cons_zero, List.set_cons_succ]
      first | (refine held_take 6 rfl (by kernel_rfl) (by kernel_rfl) (by kernel_rfl) (by rfl) (fun _ _ _ h => h) (by assumption) (by intro w hSw; (try dsimp only at hSw); go_simp; first | done | with_reducible rfl) ?_) | (refine held_skip 6 rfl (by kernel_rfl) (by kernel_rfl) (by kernel_rfl) (by rfl) (fun _ _ _ h => h) (by assumption) ?_)
      simp only [Act.put, List.setIfInBounds_toArray, List.set_cons_zero, List.set_cons_succ]
      first | (refine held_take 7 rfl (by kernel_rfl) (by kernel_rfl) (by kernel_rfl) (by rfl) (fun _ _ _ h => h) (by assumption) (by intro w hSw; (try dsimp only at hSw); go_simp; first | done | with_reducible rfl) ?_) | (refine held_skip 7 rfl (by kernel_rfl) (by kernel_rfl) (by kernel_rfl) (by rfl) (fun _ _ _ h => h) (by assumption) ?_)
      simp only [Act.put, List.setIfInBounds_toArray, List.set_cons_zero, List.set_cons_succ]
      first | (refine held_take 8 rfl (by kernel_rfl) (by kernel_rfl) (by kernel_rfl) (by rfl) (fun _ _ _ h => h) (by assumption) (by intro w hSw; (try dsimp only at hSw); go_simp; first | done | with_reducible rfl) ?_) | (refine held_skip 8 rfl (by kernel_rfl) (by kernel_rfl) (by kernel_rfl) (by rfl) (fun _ _ _ h => h) (by assumption) ?_)
      simp only [Act.put, List.setIfInBounds_toArray, List.set_cons_zero, List.set_cons_succ]
      first | (refine held_take 9 rfl (by kernel_rfl) (by kernel_rfl) (by kernel_rfl) (by rfl) (fun _ _ _ h => h) (by assumption) (by intro w hSw; (try dsimp only at hSw); go_simp; first | done | with_reducible rfl) ?_) | (refine held_skip 9 rfl (by kernel_rfl) (by kernel_rfl) (by kernel_rfl) (by rfl) (fun _ _ _ h => h) (by assumption) ?_)
      simp only [Act.put, List.setIfInBounds_toArray, List.set_cons_zero, List.set_cons_succ]
      refine wpAnyH_done (by kernel_rfl) ?_ _
      obtain ⟨x0_0', x0_1', z0', hK0', hK3', hK5', hK14'⟩ := hHeld
      clear x0_0 x0_1 z0 hK0 hK3 hK5 hK14
      have x0_0 := x0_0'
      clear x0_0'
      have x0_1 := x0_1'
      clear x0_1'
      have z0 := z0'
      clear z0'
      have hK0 := hK0'
      clear hK0'
      have hK3 := hK3'
      clear hK3'
      have hK5 := hK5'
      clear hK5'
      have hK14 := hK14'
      clear hK14'
      have hK16 : Below w16.heap.size w16 w18 := (ex_trans (ex_trans (Below.refl _ _) hb17) hb18)
      have hK18 : Below w18.heap.size w18 w18 := (Below.refl _ _)
      go_wp2_with fail
      refine (laws_eqFieldS_same A118 A105 r0.length c118 r0.length c105 r0 _ (hR18.mono mFld (ex_trans hK18 (by go_grown))) (hR5.mono mFld (ex_trans hK5 (by go_grown))) (by omega) (by omega)).mono ?_; rintro e w19 ⟨rfl, hb19⟩
      have hx19 : Below w18.heap.size w18 w19 := ex_trans (by go_grown) hb19
      replace hK0 := ex_trans hK0 hx19
      replace hK3 := ex_trans hK3 hx19
      replace hK5 := ex_trans hK5 hx19
      replace hK14 := ex_trans hK14 hx19
      replace hK16 := ex_trans hK16 hx19
      replace hK18 := ex_trans hK18 hx19
      replace x0_0 := keep_cell hx19 x0_0
      replace x0_1 := keep_cell hx19 x0_1
      replace z0 := keep_lt hx19 z0
      go_wp2_with fail
      refine (laws_heldFieldS A108 r0.length c108 1 _ (hMR14_hW8.mono mFld (ex_trans hK14 (by go_grown))) (by omega) (by omega) (by omega)).mono ?_; rintro e w20 ⟨rfl, hb20⟩
      have hx20 : Below w19.heap.size w19 w20 := ex_trans (by go_grown) hb20
      replace hK0 := ex_trans hK0 hx20
      replace hK3 := ex_trans hK3 hx20
      replace hK5 := ex_trans hK5 hx20
      replace hK14 := ex_trans hK14 hx20
      replace hK16 := ex_trans hK16 hx20
      replace hK18 := ex_trans hK18 hx20
      replace x0_0 := keep_cell hx20 x0_0
      replace x0_1 := keep_cell hx20 x0_1
      replace z0 := keep_lt hx20 z0
      go_wp2_with fail
      go_returns
      exact ⟨rfl, hK0⟩
    · have g1 : (-1 : Int) < 0 := by omega
      have hK0 := Below.refl W.heap.size W
      go_enter Try.func3, Try.ntmps3
      go_wp2_with fail
      refine (laws_szFieldS_ok A0 l0.length c0 l0 1048576 _ (hS0.mono mFld (ex_trans hK0 (by go_grown))) hn0 hl0 (by omega) (by omega) (by omega)).mono ?_; rintro e w1 ⟨rfl, hb1⟩
      have hx1 : Below W.heap.size W w1 := ex_trans (by go_grown) hb1
      replace hK0 := ex_trans hK0 hx1
      have x0_0 : w1.cell? ⟨W.heap.size, 0, none⟩ = some (.string f1.name) := keep_cell hb1 (by go_simp)
      have x0_1 : w1.cell? ⟨W.heap.size, 1, none⟩ = some (.int .i64 f1.kind) := keep_cell hb1 (by go_simp)
      have z0 : W.heap.size < w1.heap.size := keep_lt hb1 (by simp <;> omega)
      go_wp2_with fail
      refine (laws_szField_no f1 (1048576 - szS Fld.sz l0) _ hf1 (by omega) (by omega) (by omega)).mono ?_; rintro e w2 ⟨rfl, hb2⟩
      have hx2 : Below w1.heap.size w1 w2 := ex_trans (by go_grown) hb2
      replace hK0 := ex_trans hK0 hx2
      replace x0_0 := keep_cell hx2 x0_0
      replace x0_1 := keep_cell hx2 x0_1
      replace z0 := keep_lt hx2 z0
      go_wp2_with fail
      go_returns
      exact ⟨rfl, hK0⟩
  · have g0 : (-1 : Int) < 0 := by omega
    have hK0 := Below.refl W.heap.size W
    go_enter Try.func3, Try.ntmps3
    go_wp2_with fail
    refine (laws_szFieldS_no A0 l0.length c0 l0 1048576 _ (hS0.mono mFld (ex_trans hK0 (by go_grown))) hn0 hl0 (by omega) (by omega) (by omega)).mono ?_; rintro e w1 ⟨rfl, hb1⟩
    have hx1 : Below W.heap.size W w1 := ex_trans (by go_grown) hb1
    replace hK0 := ex_trans hK0 hx1
    have x0_0 : w1.cell? ⟨W.heap.size, 0, none⟩ = some (.string f1.name) := keep_cell hb1 (by go_simp)
    have x0_1 : w1.cell? ⟨W.heap.size, 1, none⟩ = some (.int .i64 f1.kind) := keep_cell hb1 (by go_simp)
    have z0 : W.heap.size < w1.heap.size := keep_lt hb1 (by simp <;> omega)
    go_wp2_with fail
    go_returns
    exact ⟨rfl, hK0⟩
theorem core_FnExactAddField {H : Type} (enc : TypeId × Value → H) (W : World) (base : Nat) (args : Array Value) (ds : List (DataW H)) (p : List MemPlace)
    (hA : DataW.TrodAll enc Try.prog W 0 (fun _ => true) true Try.f3.params.toList args.toList ds p)
    (hval : ∀ (j : Nat) t v, Try.f3.params[j]? = some t → args[j]? = some v → Value.okWide Try.prog W .any base t v) :
    Calls Try.prog 3 args W fun e W' => e = .returned (.bool true) ∧ Below W.heap.size W W' := by
  rw [Try.params3] at hA hval
  obtain ⟨u0, vs0, d0, ds0, p0, q0, hargs, rfl, rfl, h0, r0⟩ := trodAll_cons hA
  obtain ⟨u1, vs1, d1, ds1, p1, q1, rfl, rfl, rfl, h1, r1⟩ := trodAll_cons r0
  obtain ⟨rfl, rfl, rfl⟩ := trodAll_nil r1
  obtain rfl : args = #[u0, u1] := by cases args; simp_all
  obtain ⟨ad0, ln0, cp0, rfl⟩ := okWide_slice Try.underlying22 (hval 0 22 u0 rfl rfl)
  obtain ⟨fu0, g0⟩ := h0
  obtain ⟨A0, n0, c0, l0, e0, hn0, _, hS0, hl0⟩ := opens_slice Try.underlying22 (by omega) Op_Field g0
  simp only [Value.cells, List.cons.injEq, Value.slice.injEq, and_true] at e0
  obtain ⟨rfl, rfl, rfl⟩ := e0
  obtain ⟨fu1, g1⟩ := h1
  obtain ⟨x1, e1, ok1⟩ := Op_Field.2 _ _ _ g1
  have z1 := agg_of Try.underlying24 (hval 1 24 u1 rfl rfl)
  have y1 : u1 = .agg ⟨_⟩ := z1.trans (congrArg (fun l => Value.agg ⟨l⟩) e1)
  subst y1
  exact walk_FnExactAddField W ad0 ln0 cp0 l0 hS0 hn0 hl0 x1 ok1
set_option maxRecDepth 100000 in
theorem lifted_FnExactAddField (os : Os) (started : os.Started) (H : Type) (enc : TypeId × Value → H) :
    ReturnsInHanded {} Try.checked os 3 .any (Rows.fnExactAddFieldSpec.pre6 enc Try.prog Try.f3 Rows.fnExactAddFieldRow.domain false) (Rows.fnExactAddFieldSpec.post enc Try.prog Try.f3 false true false false) :=
  law_lifted (C := Try.checked) (tb := 4) (n := 2) own started (by kernel_rfl) Try.func3 rfl (by kernel_rfl) Try.underlying4 (by kernel_rfl)
    (fun ds h => by match ds, h with | [_, _], _ => rfl) laidOut' (by kernel_rfl)
    (ChangeSpec.witness6 (enc := enc) (C := Try.checked) false ⟨#[], #[.slice none 0 0, .agg #[.string ByteArray.empty, .int .i64 0]], []⟩ 8 (by kernel_rfl) (by kernel_rfl) (by kernel_rfl) (by kernel_rfl))
    (fun W base args ds p hA hval => core_FnExactAddField enc W base args ds p hA hval)
theorem holds_FnExactAddField : Rows.FnExactAddFieldSaid :=
  OpenClaim.holds_of_wide 3 Try.f3 rfl rfl rfl rfl rfl rfl rfl ⟨rfl, rfl, rfl, rfl, rfl⟩ rfl rfl rfl rfl rfl (by kernel_rfl) Try.func3 (by kernel_rfl)
    (of_decide_eq_true (by kernel_rfl)) (by unfold Func.isWrapper; first | (rw [if_pos (by decide +kernel)]; kernel_rfl) | (rw [if_neg (by decide +kernel)]; exact ⟨rfl, rfl⟩))
    (fun os started H enc _ => lifted_FnExactAddField os started H enc)
end Go.Proofs.Ytkpdnklaopbllaa
