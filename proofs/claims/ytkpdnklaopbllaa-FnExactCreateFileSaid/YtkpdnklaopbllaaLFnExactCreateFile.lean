/-
  FnExactCreateFile RETURNS true AND LEAVES ITS ARGUMENTS AS THEY WERE, FOR EVERY INPUT THAT THE STATEMENT SPEAKS OF. No condition.
-/
import Derived.WalkKit
import Derived.ProofKit
import Derived.OpenShut
import Derived.Handy
import Derived.Lib.Hide
import Derived.Deep.QuietTactic
import Derived.BigQuiet
import Derived.Deep.RegionHeld3
import Derived.Deep.DeepCutAuto
import Derived.Test.YtkpdnklaopbllaaLib
import Derived.Test.YtkpdnklaopbllaaOp
import Derived.Test.YtkpdnklaopbllaaC1
import Derived.Test.YtkpdnklaopbllaaC2
import Derived.Test.YtkpdnklaopbllaaOwn
import Derived.Test.YtkpdnklaopbllaaRow
import Derived.Test.YtkpdnklaopbllaaHld
import Derived.Test.YtkpdnklaopbllaaT1
import Derived.Test.YtkpdnklaopbllaaSz
import Derived.Test.YtkpdnklaopbllaaM0
import Derived.Test.YtkpdnklaopbllaaM1
import Derived.Test.YtkpdnklaopbllaaD1
import Derived.Test.YtkpdnklaopbllaaT2
import Derived.Test.YtkpdnklaopbllaaT3
import Derived.Test.YtkpdnklaopbllaaM2
import Derived.Test.YtkpdnklaopbllaaC4
import Derived.Test.YtkpdnklaopbllaaN0
import Derived.Test.YtkpdnklaopbllaaC3
import Derived.Test.YtkpdnklaopbllaaC5
import Derived.Test.YtkpdnklaopbllaaC8
import Derived.Test.YtkpdnklaopbllaaD3
import Derived.Test.YtkpdnklaopbllaaD5
import Derived.Test.YtkpdnklaopbllaaH1
import Derived.Test.YtkpdnklaopbllaaE3
import Derived.Test.YtkpdnklaopbllaaE4
import Derived.Test.YtkpdnklaopbllaaE5
import Derived.Test.YtkpdnklaopbllaaE6
import Derived.Test.YtkpdnklaopbllaaE7
import Derived.Test.YtkpdnklaopbllaaP1
import Derived.Test.YtkpdnklaopbllaaRows
namespace Go.Proofs.Ytkpdnklaopbllaa
open Go.RowKit Go.ChangeShapes Go.WideShapes Go.ChangeAt Go.ChangeMaps
set_option linter.unusedVariables false
set_option maxRecDepth 100000
set_option maxHeartbeats 16000000 in
theorem walk_FnExactCreateFile (W : World) (s0 : Sto) (A0 : Option Addr) (n0 c0 : Nat) (B0 : Option Addr) (m0 d0 : Nat) (hS0 : Sl 2 RFld W A0 n0 s0.schema) (hT0 : Sl 5 RFil W B0 m0 s0.files) (hs0 : s0.ok maxLen) (f1 : Fil) (A1 : Option Addr) (n1 c1 : Nat) (hS1 : Sl 4 RAtr W A1 n1 f1.attrs) (hf1 : f1.ok maxLen) : Calls Try.prog 12 #[.agg #[.slice A0 n0 c0, .slice B0 m0 d0, .int .i64 s0.next], .agg #[.int .i64 f1.id, .int .i64 f1.owner, .bool f1.shared, .int .i64 f1.link, .slice A1 n1 c1]] W fun e w' => e = .returned (.bool true) ∧ Below W.heap.size W w' := by
  obtain rfl : s0.schema.length = n0 := hS0.len
  obtain rfl : s0.files.length = m0 := hT0.len
  obtain rfl : f1.attrs.length = n1 := hS1.len
  have nn0 := Sto.sz_nn s0
  by_cases hc0 : s0.sz ≤ 1048576
  · obtain ⟨hk0, hm0, hp0⟩ := Sto.okB (show s0.sz ≤ 1048576 by omega)
    have hcnt0 := Sto.cntB (show s0.sz ≤ 1048576 by omega)
    have g0 : 0 ≤ 1048576 - s0.sz := by omega
    have nn1 := Fil.sz_nn f1
    by_cases hc1 : f1.sz ≤ 1048576 - s0.sz
    · obtain ⟨hk1, hm1⟩ := Fil.okB (show f1.sz ≤ 1048576 by omega)
      have g1 : 0 ≤ 1048576 - s0.sz - f1.sz := by omega
      obtain ⟨r0, er0⟩ : ∃ r, r = creS s0 f1 := ⟨_, rfl⟩
      have hokl0 := creS_len s0 f1
      have hln0 : r0.schema.length ≤ 1073741824 := by rw [er0]; omega
      have hlm0 : r0.files.length ≤ 1073741824 := by rw [er0]; omega
      have hok0 : r0.ok 1073741824 := by rw [er0]; exact creS_ok hk0 (by omega) hk1
      have hcr0 : (r0.files.map (·.attrs.length)).sum ≤ 1073741824 := by rw [er0]; have := creS_cnt s0 f1; omega
      have HE0 := Lib.hid er0
      clear er0
      obtain ⟨q0, eq0⟩ : ∃ q, q = creId s0 f1 := ⟨_, rfl⟩
      have HE1 := Lib.hid eq0
      clear eq0
      obtain ⟨q1, eq1⟩ : ∃ q, q = creOk s0 f1 := ⟨_, rfl⟩
      have HE2 := Lib.hid eq1
      clear eq1
      have hK0 := Below.refl W.heap.size W
      go_enter Try.func12, Try.ntmps12
      go_wp2_with fail
      refine (laws_szStore_ok s0 A0 s0.schema.length c0 B0 s0.files.length d0 1048576 _ (hS0.mono mFld (ex_trans hK0 (by go_grown))) (hT0.mono mFil (ex_trans hK0 (by go_grown))) hs0 (by omega) (by omega) (by omega)).mono ?_; rintro e w1 ⟨rfl, hb1⟩
      have hx1 : Below W.heap.size W w1 := ex_trans (by go_grown) hb1
      replace hK0 := ex_trans hK0 hx1
      have x0_0 : w1.cell? ⟨W.heap.size, 0, none⟩ = some (.slice A0 s0.schema.length c0) := keep_cell hb1 (by go_simp)
      have x0_1 : w1.cell? ⟨W.heap.size, 1, none⟩ = some (.slice B0 s0.files.length d0) := keep_cell hb1 (by go_simp)
      have x0_2 : w1.cell? ⟨W.heap.size, 2, none⟩ = some (.int .i64 s0.next) := keep_cell hb1 (by go_simp)
      have z0 : W.heap.size < w1.heap.size := keep_lt hb1 (by simp <;> omega)
      have x1_0 : w1.cell? ⟨W.heap.size + 1, 0, none⟩ = some (.int .i64 f1.id) := keep_cell hb1 (by go_simp)
      have x1_1 : w1.cell? ⟨W.heap.size + 1, 1, none⟩ = some (.int .i64 f1.owner) := keep_cell hb1 (by go_simp)
      have x1_2 : w1.cell? ⟨W.heap.size + 1, 2, none⟩ = some (.bool f1.shared) := keep_cell hb1 (by go_simp)
      have x1_3 : w1.cell? ⟨W.heap.size + 1, 3, none⟩ = some (.int .i64 f1.link) := keep_cell hb1 (by go_simp)
      have x1_4 : w1.cell? ⟨W.heap.size + 1, 4, none⟩ = some (.slice A1 f1.attrs.length c1) := keep_cell hb1 (by go_simp)
      have z1 : W.heap.size + 1 < w1.heap.size := keep_lt hb1 (by simp <;> omega)
      go_wp2_with fail
      refine (laws_szFile_ok f1 A1 f1.attrs.length c1 (1048576 - s0.sz) _ (hS1.mono mAtr (ex_trans hK0 (by go_grown))) hf1 (by omega) (by omega) (by omega)).mono ?_; rintro e w2 ⟨rfl, hb2⟩
      have hx2 : Below w1.heap.size w1 w2 := ex_trans (by go_grown) hb2
      replace hK0 := ex_trans hK0 hx2
      replace x0_0 := keep_cell hx2 x0_0
      replace x0_1 := keep_cell hx2 x0_1
      replace x0_2 := keep_cell hx2 x0_2
      replace z0 := keep_lt hx2 z0
      replace x1_0 := keep_cell hx2 x1_0
      replace x1_1 := keep_cell hx2 x1_1
      replace x1_2 := keep_cell hx2 x1_2
      replace x1_3 := keep_cell hx2 x1_3
      replace x1_4 := keep_cell hx2 x1_4
      replace z1 := keep_lt hx2 z1
      go_upto_region 8 with fail
      have hK908 := Below.refl w2.heap.size w2
      go_cut [6, 7, 8] (fun sa6 sa7 sa8 w' => ∃ (g : Nat) (A105 : Option Addr) (c105 : Nat) (B105 : Option Addr) (d105 : Nat) (bs5 bt5 : List Nat), sa6 = .pointer (some ⟨g, 0, none⟩) ∧ sa7 = .int .i64 q0 ∧ sa8 = .bool q1 ∧ w2.heap.size ≤ g ∧ w'.heap[g]? = some (.cells #[.slice A105 r0.schema.length c105, .slice B105 r0.files.length d105, .int .i64 r0.next] 68 (0, 0)) ∧ OSl 31 2 OFld w' A105 r0.schema.length r0.schema bs5 ∧ OSl 45 5 (OFil 93) w' B105 r0.files.length r0.files bt5 ∧ Fresh w2 (bs5 ++ bt5) ∧ g ∉ (bs5 ++ bt5) ∧ (w'.cell? ⟨W.heap.size, 0, none⟩ = some (.slice A0 s0.schema.length c0) ∧ w'.cell? ⟨W.heap.size, 1, none⟩ = some (.slice B0 s0.files.length d0) ∧ w'.cell? ⟨W.heap.size, 2, none⟩ = some (.int .i64 s0.next) ∧ W.heap.size < w'.heap.size ∧ w'.cell? ⟨W.heap.size + 1, 0, none⟩ = some (.int .i64 f1.id) ∧ w'.cell? ⟨W.heap.size + 1, 1, none⟩ = some (.int .i64 f1.owner) ∧ w'.cell? ⟨W.heap.size + 1, 2, none⟩ = some (.bool f1.shared) ∧ w'.cell? ⟨W.heap.size + 1, 3, none⟩ = some (.int .i64 f1.link) ∧ w'.cell? ⟨W.heap.size + 1, 4, none⟩ = some (.slice A1 f1.attrs.length c1) ∧ W.heap.size + 1 < w'.heap.size ∧ Below W.heap.size W w' ∧ Below w2.heap.size w2 w'))
      case first =>
        refine wp_region_held_drew (S := (fun w' => w'.cell? ⟨W.heap.size, 0, none⟩ = some (.slice A0 s0.schema.length c0) ∧ w'.cell? ⟨W.heap.size, 1, none⟩ = some (.slice B0 s0.files.length d0) ∧ w'.cell? ⟨W.heap.size, 2, none⟩ = some (.int .i64 s0.next) ∧ W.heap.size < w'.heap.size ∧ w'.cell? ⟨W.heap.size + 1, 0, none⟩ = some (.int .i64 f1.id) ∧ w'.cell? ⟨W.heap.size + 1, 1, none⟩ = some (.int .i64 f1.owner) ∧ w'.cell? ⟨W.heap.size + 1, 2, none⟩ = some (.bool f1.shared) ∧ w'.cell? ⟨W.heap.size + 1, 3, none⟩ = some (.int .i64 f1.link) ∧ w'.cell? ⟨W.heap.size + 1, 4, none⟩ = some (.slice A1 f1.attrs.length c1) ∧ W.heap.size + 1 < w'.heap.size ∧ Below W.heap.size W w' ∧ Below w2.heap.size w2 w')) (by kernel_rfl) (by (try dsimp only); exact ⟨x0_0, x0_1, x0_2, z0, x1_0, x1_1, x1_2, x1_3, x1_4, z1, (hK0).drew, (hK908).drew⟩) (fun hHeld => ?_)
        first | (refine held_take 0 rfl (by kernel_rfl) (by kernel_rfl) (by kernel_rfl) (by rfl) (fun _ _ _ h => h) (by assumption) (by intro w hSw; (try dsimp only at hSw); go_simp; first | done | with_reducible rfl) ?_) | (refine held_skip 0 rfl (by kernel_rfl) (by kernel_rfl) (by kernel_rfl) (by rfl) (fun _ _ _ h => h) (by assumption) ?_)
        simp only [Act.put, List.setIfInBounds_toArray, List.set_cons_zero, List.set_cons_succ]
        first | (refine held_take 2 rfl (by kernel_rfl) (by kernel_rfl) (by kernel_rfl) (by rfl) (fun _ _ _ h => h) (by assumption) (by intro w hSw; (try dsimp only at hSw); go_simp; first | done | with_reducible rfl) ?_) | (refine held_skip 2 rfl (by kernel_rfl) (by kernel_rfl) (by kernel_rfl) (by rfl) (fun _ _ _ h => h) (by assumption) ?_)
        simp only [Act.put, List.setIfInBounds_toArray, List.set_cons_zero, List.set_cons_succ]
        refine held_two 1 9 (by kernel_rfl) rfl rfl (fun K hK => ?_) (fun K hK => ?_)
        · go_simp
          have hFB : w2.heap.size ≤ w2.heap.size := Nat.le_refl _
          go_at_call 40
          refine (laws_toStore s0 A0 s0.schema.length c0 B0 s0.files.length d0 _ (hS0.mono mFld hHeld.2.2.2.2.2.2.2.2.2.2.1) (hT0.mono mFil hHeld.2.2.2.2.2.2.2.2.2.2.1) hk0).mono ?_; rintro e w3 hN3
          obtain ⟨A'3, c'3, B'3, d'3, bs3, bt3, rfl, hcc3, hcd3, hW3, hX3, hF3, hb3⟩ := hN3.out
          have hL3 : Hid (∀ b ∈ bs3 ++ bt3, b < w3.heap.size) := Lib.hid (fun b hb => (List.mem_append.1 hb).elim (hW3.lt lFld b) (hX3.lt (lFil _) b))
          have hR3 := hW3.sl (R := RFld) (fun h => h.1)
          have hQ3 := hX3.sl (R := RFil) (fun h => h.r)
          go_wp2_with fail
          refine hK.out _ _ (by (try dsimp only); exact ⟨keep_cell hb3 hHeld.1, keep_cell hb3 hHeld.2.1, keep_cell hb3 hHeld.2.2.1, keep_lt hb3 hHeld.2.2.2.1, keep_cell hb3 hHeld.2.2.2.2.1, keep_cell hb3 hHeld.2.2.2.2.2.1, keep_cell hb3 hHeld.2.2.2.2.2.2.1, keep_cell hb3 hHeld.2.2.2.2.2.2.2.1, keep_cell hb3 hHeld.2.2.2.2.2.2.2.2.1, keep_lt hb3 hHeld.2.2.2.2.2.2.2.2.2.1, ex_trans hHeld.2.2.2.2.2.2.2.2.2.2.1 hb3, ex_trans hHeld.2.2.2.2.2.2.2.2.2.2.2 hb3⟩) (fun hNew => ?_)
          clear hK K hHeld
          have hHeld := hNew
          clear hNew
          try simp only [Act.put, List.setIfInBounds_toArray, List.set_cons_zero, List.set_cons_succ]
          refine held_two 3 9 (by kernel_rfl) rfl rfl (fun K hK => ?_) (fun K hK => ?_)
          · go_simp
            have hFB : w2.heap.size ≤ w3.heap.size := (hHeld.2.2.2.2.2.2.2.2.2.2.2).size
            go_at_call 25
            refine (laws_toFile f1 A1 f1.attrs.length c1 _ (hS1.mono mAtr hHeld.2.2.2.2.2.2.2.2.2.2.1) hk1).mono ?_; rintro e w4 hN4
            obtain ⟨A'4, c'4, bs4, rfl, hcc4, hW4, hF4, hb4⟩ := hN4.out
            have hL4 := Lib.hid (hW4.lt lAtr)
            have hR4 := hW4.sl (R := RAtr) (fun h => h.1)
            go_wp2_with fail
            refine hK.out _ _ (by (try dsimp only); exact ⟨keep_cell hb4 hHeld.1, keep_cell hb4 hHeld.2.1, keep_cell hb4 hHeld.2.2.1, keep_lt hb4 hHeld.2.2.2.1, keep_cell hb4 hHeld.2.2.2.2.1, keep_cell hb4 hHeld.2.2.2.2.2.1, keep_cell hb4 hHeld.2.2.2.2.2.2.1, keep_cell hb4 hHeld.2.2.2.2.2.2.2.1, keep_cell hb4 hHeld.2.2.2.2.2.2.2.2.1, keep_lt hb4 hHeld.2.2.2.2.2.2.2.2.2.1, ex_trans hHeld.2.2.2.2.2.2.2.2.2.2.1 hb4, ex_trans hHeld.2.2.2.2.2.2.2.2.2.2.2 hb4⟩) (fun hNew => ?_)
            clear hK K hHeld
            have hHeld := hNew
            clear hNew
            try simp only [Act.put, List.setIfInBounds_toArray, List.set_cons_zero, List.set_cons_succ]
            refine held_two 4 9 (by kernel_rfl) rfl rfl (fun K hK => ?_) (fun K hK => ?_)
            · go_simp
              have hFB : w2.heap.size ≤ w4.heap.size := (hHeld.2.2.2.2.2.2.2.2.2.2.2).size
              go_at_call 55
              refine (spec_CreateFile s0 A'3 s0.schema.length c'3 B'3 s0.files.length d'3 f1 A'4 f1.attrs.length c'4 _ (hR3.mono mFld (ex_trans (Below.refl _ _) hb4)) (hQ3.mono mFil (ex_trans (Below.refl _ _) hb4)) (hR4.mono mAtr (Below.refl _ _)) hk0 hk1).mono ?_; rintro e w5 hN5
              rw [← HE0.out, ← HE1.out, ← HE2.out] at hN5
              obtain ⟨A105, c105, B105, d105, bs5, bt5, rfl, hW5, hX5, hF5, hb5⟩ := hN5.v
              have hL5 : Hid (∀ b ∈ bs5 ++ bt5, b < w5.heap.size) := Lib.hid (fun b hb => (List.mem_append.1 hb).elim (hW5.lt lFld b) (hX5.lt (lFil _) b))
              have hR5 := hW5.sl (R := RFld) (fun h => h.1)
              have hQ5 := hX5.sl (R := RFil) (fun h => h.r)
              go_wp2_with fail
              refine hK.out _ _ (by (try dsimp only); exact ⟨keep_cell hb5 hHeld.1, keep_cell hb5 hHeld.2.1, keep_cell hb5 hHeld.2.2.1, keep_lt hb5 hHeld.2.2.2.1, keep_cell hb5 hHeld.2.2.2.2.1, keep_cell hb5 hHeld.2.2.2.2.2.1, keep_cell hb5 hHeld.2.2.2.2.2.2.1, keep_cell hb5 hHeld.2.2.2.2.2.2.2.1, keep_cell hb5 hHeld.2.2.2.2.2.2.2.2.1, keep_lt hb5 hHeld.2.2.2.2.2.2.2.2.2.1, ex_trans hHeld.2.2.2.2.2.2.2.2.2.2.1 hb5, ex_trans hHeld.2.2.2.2.2.2.2.2.2.2.2 hb5⟩) (fun hNew => ?_)
              clear hK K hHeld
              have hHeld := hNew
              clear hNew
              try simp only [Act.put, List.setIfInBounds_toArray, List.set_cons_zero, List.set_cons_succ]
              first | (refine held_take 5 rfl (by kernel_rfl) (by kernel_rfl) (by kernel_rfl) (by rfl) (fun _ _ _ h => h) (by assumption) (by intro w hSw; (try dsimp only at hSw); go_simp; first | done | with_reducible rfl) ?_) | (refine held_skip 5 rfl (by kernel_rfl) (by kernel_rfl) (by kernel_rfl) (by rfl) (fun _ _ _ h => h) (by assumption) ?_)
              simp only [Act.put, List.setIfInBounds_toArray, List.set_cons_zero, List.set_cons_succ]
              first | (refine held_take 6 rfl (by kernel_rfl) (by kernel_rfl) (by kernel_rfl) (by rfl) (fun _ _ _ h => h) (by assumption) (by intro w hSw; (try dsimp only at hSw); go_simp; first | done | with_reducible rfl) ?_) | (refine held_skip 6 rfl (by kernel_rfl) (by kernel_rfl) (by kernel_rfl) (by rfl) (fun _ _ _ h => h) (by assumption) ?_)
              simp only [Act.put, List.setIfInBounds_toArray, List.set_cons_zero, List.set_cons_succ]
              first | (refine held_take 7 rfl (by kernel_rfl) (by kernel_rfl) (by kernel_rfl) (by rfl) (fun _ _ _ h => h) (by assumption) (by intro w hSw; (try dsimp only at hSw); go_simp; first | done | with_reducible rfl) ?_) | (refine held_skip 7 rfl (by kernel_rfl) (by kernel_rfl) (by kernel_rfl) (by rfl) (fun _ _ _ h => h) (by assumption) ?_)
              simp only [Act.put, List.setIfInBounds_toArray, List.set_cons_zero, List.set_cons_succ]
              first | (refine held_take 8 rfl (by kernel_rfl) (by kernel_rfl) (by kernel_rfl) (by rfl) (fun _ _ _ h => h) (by assumption) (by intro w hSw; (try dsimp only at hSw); go_simp; first | done | with_reducible rfl) ?_) | (refine held_skip 8 rfl (by kernel_rfl) (by kernel_rfl) (by kernel_rfl) (by rfl) (fun _ _ _ h => h) (by assumption) ?_)
              simp only [Act.put, List.setIfInBounds_toArray, List.set_cons_zero, List.set_cons_succ]
              refine held_one 9 (by kernel_rfl) rfl (fun K hK => ?_)
              go_simp
              have hGs : w2.heap.size ≤ w5.heap.size := (hHeld.2.2.2.2.2.2.2.2.2.2.2).size
              generalize hwa : World.alloc w5 (.cells #[.slice none 0 0, .slice none 0 0, .int .i64 0] 68) = wa
              have hba : Below w5.heap.size w5 wa := by rw [← hwa]; exact (Below.refl _ _).alloc (Nat.le_refl _) _
              have hga : wa.heap[w5.heap.size]? = some (.cells #[.slice none 0 0, .slice none 0 0, .int .i64 0] 68 (0, 0)) := by rw [← hwa]; exact hp_new rfl
              clear hwa
              refine hK.out _ _ (by (try dsimp only); exact ⟨keep_cell hba hHeld.1, keep_cell hba hHeld.2.1, keep_cell hba hHeld.2.2.1, keep_lt hba hHeld.2.2.2.1, keep_cell hba hHeld.2.2.2.2.1, keep_cell hba hHeld.2.2.2.2.2.1, keep_cell hba hHeld.2.2.2.2.2.2.1, keep_cell hba hHeld.2.2.2.2.2.2.2.1, keep_cell hba hHeld.2.2.2.2.2.2.2.2.1, keep_lt hba hHeld.2.2.2.2.2.2.2.2.2.1, ex_trans hHeld.2.2.2.2.2.2.2.2.2.2.1 hba, ex_trans hHeld.2.2.2.2.2.2.2.2.2.2.2 hba⟩) (fun hNew => ?_)
              clear hK K hHeld
              have hHeld := hNew
              clear hNew
              try simp only [Act.put, List.setIfInBounds_toArray, List.set_cons_zero, List.set_cons_succ]
              have gc := blk_cell? hga
              have gf := blk_free hga
              refine held_one 10 (by kernel_rfl) rfl (fun K hK => ?_)
              go_simp
              have hch : Chg [w5.heap.size] wa (sets wa (w5.heap.size) 0 [.slice A105 r0.schema.length c105, .slice B105 r0.files.length d105, .int .i64 r0.next]) := sets_chg (bs := [w5.heap.size]) (g := w5.heap.size) (w := wa) (w1 := wa) (by simp) _ _ 0 (Chg.refl _ _)
              have hgz : (sets wa (w5.heap.size) 0 [.slice A105 r0.schema.length c105, .slice B105 r0.files.length d105, .int .i64 r0.next]).heap[w5.heap.size]? = some (.cells #[.slice A105 r0.schema.length c105, .slice B105 r0.files.length d105, .int .i64 r0.next] 68 (0, 0)) := sets_blk _ _ _ _ hga
              have hne : ∀ b ∈ (bs5 ++ bt5), b ≠ w5.heap.size := fun b hb => by have h1 := hL5.out b hb; omega
              have hW5z := (hW5.below lFld hba).loc (w' := (sets wa (w5.heap.size) 0 [.slice A105 r0.schema.length c105, .slice B105 r0.files.length d105, .int .i64 r0.next])) lFld (fun b hb => hch.block b (keep_lt hba (hL5.out b (List.mem_append_left _ hb))) (fun h => hne b (List.mem_append_left _ hb) (by simpa using h)))
              have hX5z := (hX5.below (lFil _) hba).loc (w' := (sets wa (w5.heap.size) 0 [.slice A105 r0.schema.length c105, .slice B105 r0.files.length d105, .int .i64 r0.next])) (lFil _) (fun b hb => hch.block b (keep_lt hba (hL5.out b (List.mem_append_right _ hb))) (fun h => hne b (List.mem_append_right _ hb) (by simpa using h)))
              refine hK.out _ _ (by (try dsimp only); exact ⟨hch.cell hHeld.1 (fun h => by simp only [List.mem_singleton] at h; omega), hch.cell hHeld.2.1 (fun h => by simp only [List.mem_singleton] at h; omega), hch.cell hHeld.2.2.1 (fun h => by simp only [List.mem_singleton] at h; omega), Nat.lt_of_lt_of_le hHeld.2.2.2.1 hch.size, hch.cell hHeld.2.2.2.2.1 (fun h => by simp only [List.mem_singleton] at h; omega), hch.cell hHeld.2.2.2.2.2.1 (fun h => by simp only [List.mem_singleton] at h; omega), hch.cell hHeld.2.2.2.2.2.2.1 (fun h => by simp only [List.mem_singleton] at h; omega), hch.cell hHeld.2.2.2.2.2.2.2.1 (fun h => by simp only [List.mem_singleton] at h; omega), hch.cell hHeld.2.2.2.2.2.2.2.2.1 (fun h => by simp only [List.mem_singleton] at h; omega), Nat.lt_of_lt_of_le hHeld.2.2.2.2.2.2.2.2.2.1 hch.size, Below.mark hHeld.2.2.2.2.2.2.2.2.2.2.1 hch (hHeld.2.2.2.2.2.2.2.2.2.2.1).size (fun b hb => by have h1 := hK0.size; simp only [List.mem_singleton] at hb; omega), Below.mark hHeld.2.2.2.2.2.2.2.2.2.2.2 hch (hHeld.2.2.2.2.2.2.2.2.2.2.2).size (fun b hb => by have h1 := hK908.size; simp only [List.mem_singleton] at hb; omega)⟩) (fun hNew => ?_)
              clear hK K hHeld
              have hHeld := hNew
              clear hNew
              try simp only [Act.put, List.setIfInBounds_toArray, List.set_cons_zero, List.set_cons_succ]
              first | (refine held_take 11 rfl (by kernel_rfl) (by kernel_rfl) (by kernel_rfl) (by rfl) (fun _ _ _ h => h) (by assumption) (by intro w hSw; (try dsimp only at hSw); go_simp; first | done | with_reducible rfl) ?_) | (refine held_skip 11 rfl (by kernel_rfl) (by kernel_rfl) (by kernel_rfl) (by rfl) (fun _ _ _ h => h) (by assumption) ?_)
              simp only [Act.put, List.setIfInBounds_toArray, List.set_cons_zero, List.set_cons_succ]
              first | (refine held_take 12 rfl (by kernel_rfl) (by kernel_rfl) (by kernel_rfl) (by rfl) (fun _ _ _ h => h) (by assumption) (by intro w hSw; (try dsimp only at hSw); go_simp; first | done | with_reducible rfl) ?_) | (refine held_skip 12 rfl (by kernel_rfl) (by kernel_rfl) (by kernel_rfl) (by rfl) (fun _ _ _ h => h) (by assumption) ?_)
              simp only [Act.put, List.setIfInBounds_toArray, List.set_cons_zero, List.set_cons_succ]
              refine wpAnyH_done (by kernel_rfl) ?_ _
              go_wp2_with fail
              go_meet
              exact ⟨w5.heap.size, A105, c105, B105, d105, bs5, bt5, rfl, rfl, rfl, hGs, hgz, hW5z, hX5z, ⟨hF5.1, fun b hb => Nat.le_trans (hFB) (hF5.2 b hb)⟩, fun h => hne _ h rfl, hHeld⟩
            · go_simp
              have hGs : w2.heap.size ≤ w4.heap.size := (hHeld.2.2.2.2.2.2.2.2.2.2.2).size
              generalize hwa : World.alloc w4 (.cells #[.slice none 0 0, .slice none 0 0, .int .i64 0] 68) = wa
              have hba : Below w4.heap.size w4 wa := by rw [← hwa]; exact (Below.refl _ _).alloc (Nat.le_refl _) _
              have hga : wa.heap[w4.heap.size]? = some (.cells #[.slice none 0 0, .slice none 0 0, .int .i64 0] 68 (0, 0)) := by rw [← hwa]; exact hp_new rfl
              clear hwa
              refine hK.out _ _ (by (try dsimp only); exact ⟨keep_cell hba hHeld.1, keep_cell hba hHeld.2.1, keep_cell hba hHeld.2.2.1, keep_lt hba hHeld.2.2.2.1, keep_cell hba hHeld.2.2.2.2.1, keep_cell hba hHeld.2.2.2.2.2.1, keep_cell hba hHeld.2.2.2.2.2.2.1, keep_cell hba hHeld.2.2.2.2.2.2.2.1, keep_cell hba hHeld.2.2.2.2.2.2.2.2.1, keep_lt hba hHeld.2.2.2.2.2.2.2.2.2.1, ex_trans hHeld.2.2.2.2.2.2.2.2.2.2.1 hba, ex_trans hHeld.2.2.2.2.2.2.2.2.2.2.2 hba⟩) (fun hNew => ?_)
              clear hK K hHeld
              have hHeld := hNew
              clear hNew
              try simp only [Act.put, List.setIfInBounds_toArray, List.set_cons_zero, List.set_cons_succ]
              refine held_one 4 (by kernel_rfl) rfl (fun K hK => ?_)
              go_simp
              have hFB : w2.heap.size ≤ wa.heap.size := (hHeld.2.2.2.2.2.2.2.2.2.2.2).size
              have hGl := blk_lt hga
              go_at_call 55
              refine (spec_CreateFile s0 A'3 s0.schema.length c'3 B'3 s0.files.length d'3 f1 A'4 f1.attrs.length c'4 _ (hR3.mono mFld (ex_trans (ex_trans (Below.refl _ _) hb4) hba)) (hQ3.mono mFil (ex_trans (ex_trans (Below.refl _ _) hb4) hba)) (hR4.mono mAtr (ex_trans (Below.refl _ _) hba)) hk0 hk1).mono ?_; rintro e w5 hN5
              rw [← HE0.out, ← HE1.out, ← HE2.out] at hN5
              obtain ⟨A105, c105, B105, d105, bs5, bt5, rfl, hW5, hX5, hF5, hb5⟩ := hN5.v
              have hL5 : Hid (∀ b ∈ bs5 ++ bt5, b < w5.heap.size) := Lib.hid (fun b hb => (List.mem_append.1 hb).elim (hW5.lt lFld b) (hX5.lt (lFil _) b))
              have hR5 := hW5.sl (R := RFld) (fun h => h.1)
              have hQ5 := hX5.sl (R := RFil) (fun h => h.r)
              go_wp2_with fail
              refine hK.out _ _ (by (try dsimp only); exact ⟨keep_cell hb5 hHeld.1, keep_cell hb5 hHeld.2.1, keep_cell hb5 hHeld.2.2.1, keep_lt hb5 hHeld.2.2.2.1, keep_cell hb5 hHeld.2.2.2.2.1, keep_cell hb5 hHeld.2.2.2.2.2.1, keep_cell hb5 hHeld.2.2.2.2.2.2.1, keep_cell hb5 hHeld.2.2.2.2.2.2.2.1, keep_cell hb5 hHeld.2.2.2.2.2.2.2.2.1, keep_lt hb5 hHeld.2.2.2.2.2.2.2.2.2.1, ex_trans hHeld.2.2.2.2.2.2.2.2.2.2.1 hb5, ex_trans hHeld.2.2.2.2.2.2.2.2.2.2.2 hb5⟩) (fun hNew => ?_)
              clear hK K hHeld
              have hHeld := hNew
              clear hNew
              try simp only [Act.put, List.setIfInBounds_toArray, List.set_cons_zero, List.set_cons_succ]
              replace hga := below_keep hb5 hga
              first | (refine held_take 5 rfl (by kernel_rfl) (by kernel_rfl) (by kernel_rfl) (by rfl) (fun _ _ _ h => h) (by assumption) (by intro w hSw; (try dsimp only at hSw); go_simp; first | done | with_reducible rfl) ?_) | (refine held_skip 5 rfl (by kernel_rfl) (by kernel_rfl) (by kernel_rfl) (by rfl) (fun _ _ _ h => h) (by assumption) ?_)
              simp only [Act.put, List.setIfInBounds_toArray, List.set_cons_zero, List.set_cons_succ]
              first | (refine held_take 6 rfl (by kernel_rfl) (by kernel_rfl) (by kernel_rfl) (by rfl) (fun _ _ _ h => h) (by assumption) (by intro w hSw; (try dsimp only at hSw); go_simp; first | done | with_reducible rfl) ?_) | (refine held_skip 6 rfl (by kernel_rfl) (by kernel_rfl) (by kernel_rfl) (by rfl) (fun _ _ _ h => h) (by assumption) ?_)
              simp only [Act.put, List.setIfInBounds_toArray, List.set_cons_zero, List.set_cons_succ]
              first | (refine held_take 7 rfl (by kernel_rfl) (by kernel_rfl) (by kernel_rfl) (by rfl) (fun _ _ _ h => h) (by assumption) (by intro w hSw; (try dsimp only at hSw); go_simp; first | done | with_reducible rfl) ?_) | (refine held_skip 7 rfl (by kernel_rfl) (by kernel_rfl) (by kernel_rfl) (by rfl) (fun _ _ _ h => h) (by assumption) ?_)
              simp only [Act.put, List.setIfInBounds_toArray, List.set_cons_zero, List.set_cons_succ]
              first | (refine held_take 8 rfl (by kernel_rfl) (by kernel_rfl) (by kernel_rfl) (by rfl) (fun _ _ _ h => h) (by assumption) (by intro w hSw; (try dsimp only at hSw); go_simp; first | done | with_reducible rfl) ?_) | (refine held_skip 8 rfl (by kernel_rfl) (by kernel_rfl) (by kernel_rfl) (by rfl) (fun _ _ _ h => h) (by assumption) ?_)
              simp only [Act.put, List.setIfInBounds_toArray, List.set_cons_zero, List.set_cons_succ]
              have gc := blk_cell? hga
              have gf := blk_free hga
              refine held_one 10 (by kernel_rfl) rfl (fun K hK => ?_)
              go_simp
              have hch : Chg [w4.heap.size] w5 (sets w5 (w4.heap.size) 0 [.slice A105 r0.schema.length c105, .slice B105 r0.files.length d105, .int .i64 r0.next]) := sets_chg (bs := [w4.heap.size]) (g := w4.heap.size) (w := w5) (w1 := w5) (by simp) _ _ 0 (Chg.refl _ _)
              have hgz : (sets w5 (w4.heap.size) 0 [.slice A105 r0.schema.length c105, .slice B105 r0.files.length d105, .int .i64 r0.next]).heap[w4.heap.size]? = some (.cells #[.slice A105 r0.schema.length c105, .slice B105 r0.files.length d105, .int .i64 r0.next] 68 (0, 0)) := sets_blk _ _ _ _ hga
              have hne : ∀ b ∈ (bs5 ++ bt5), b ≠ w4.heap.size := fun b hb => by have h1 := hF5.2 b hb; omega
              have hW5z := (hW5).loc (w' := (sets w5 (w4.heap.size) 0 [.slice A105 r0.schema.length c105, .slice B105 r0.files.length d105, .int .i64 r0.next])) lFld (fun b hb => hch.block b (hL5.out b (List.mem_append_left _ hb)) (fun h => hne b (List.mem_append_left _ hb) (by simpa using h)))
              have hX5z := (hX5).loc (w' := (sets w5 (w4.heap.size) 0 [.slice A105 r0.schema.length c105, .slice B105 r0.files.length d105, .int .i64 r0.next])) (lFil _) (fun b hb => hch.block b (hL5.out b (List.mem_append_right _ hb)) (fun h => hne b (List.mem_append_right _ hb) (by simpa using h)))
              refine hK.out _ _ (by (try dsimp only); exact ⟨hch.cell hHeld.1 (fun h => by simp only [List.mem_singleton] at h; omega), hch.cell hHeld.2.1 (fun h => by simp only [List.mem_singleton] at h; omega), hch.cell hHeld.2.2.1 (fun h => by simp only [List.mem_singleton] at h; omega), Nat.lt_of_lt_of_le hHeld.2.2.2.1 hch.size, hch.cell hHeld.2.2.2.2.1 (fun h => by simp only [List.mem_singleton] at h; omega), hch.cell hHeld.2.2.2.2.2.1 (fun h => by simp only [List.mem_singleton] at h; omega), hch.cell hHeld.2.2.2.2.2.2.1 (fun h => by simp only [List.mem_singleton] at h; omega), hch.cell hHeld.2.2.2.2.2.2.2.1 (fun h => by simp only [List.mem_singleton] at h; omega), hch.cell hHeld.2.2.2.2.2.2.2.2.1 (fun h => by simp only [List.mem_singleton] at h; omega), Nat.lt_of_lt_of_le hHeld.2.2.2.2.2.2.2.2.2.1 hch.size, Below.mark hHeld.2.2.2.2.2.2.2.2.2.2.1 hch (hHeld.2.2.2.2.2.2.2.2.2.2.1).size (fun b hb => by have h1 := hK0.size; simp only [List.mem_singleton] at hb; omega), Below.mark hHeld.2.2.2.2.2.2.2.2.2.2.2 hch (hHeld.2.2.2.2.2.2.2.2.2.2.2).size (fun b hb => by have h1 := hK908.size; simp only [List.mem_singleton] at hb; omega)⟩) (fun hNew => ?_)
              clear hK K hHeld
              have hHeld := hNew
              clear hNew
              try simp only [Act.put, List.setIfInBounds_toArray, List.set_cons_zero, List.set_cons_succ]
              first | (refine held_take 11 rfl (by kernel_rfl) (by kernel_rfl) (by kernel_rfl) (by rfl) (fun _ _ _ h => h) (by assumption) (by intro w hSw; (try dsimp only at hSw); go_simp; first | done | with_reducible rfl) ?_) | (refine held_skip 11 rfl (by kernel_rfl) (by kernel_rfl) (by kernel_rfl) (by rfl) (fun _ _ _ h => h) (by assumption) ?_)
              simp only [Act.put, List.setIfInBounds_toArray, List.set_cons_zero, List.set_cons_succ]
              first | (refine held_take 12 rfl (by kernel_rfl) (by kernel_rfl) (by kernel_rfl) (by rfl) (fun _ _ _ h => h) (by assumption) (by intro w hSw; (try dsimp only at hSw); go_simp; first | done | with_reducible rfl) ?_) | (refine held_skip 12 rfl (by kernel_rfl) (by kernel_rfl) (by kernel_rfl) (by rfl) (fun _ _ _ h => h) (by assumption) ?_)
              simp only [Act.put, List.setIfInBounds_toArray, List.set_cons_zero, List.set_cons_succ]
              refine wpAnyH_done (by kernel_rfl) ?_ _
              go_wp2_with fail
              go_meet
              exact ⟨w4.heap.size, A105, c105, B105, d105, bs5, bt5, rfl, rfl, rfl, hGs, hgz, hW5z, hX5z, ⟨hF5.1, fun b hb => Nat.le_trans (hFB) (hF5.2 b hb)⟩, fun h => hne _ h rfl, hHeld⟩
          · go_simp
            have hGs : w2.heap.size ≤ w3.heap.size := (hHeld.2.2.2.2.2.2.2.2.2.2.2).size
            generalize hwa : World.alloc w3 (.cells #[.slice none 0 0, .slice none 0 0, .int .i64 0] 68) = wa
            have hba : Below w3.heap.size w3 wa := by rw [← hwa]; exact (Below.refl _ _).alloc (Nat.le_refl _) _
            have hga : wa.heap[w3.heap.size]? = some (.cells #[.slice none 0 0, .slice none 0 0, .int .i64 0] 68 (0, 0)) := by rw [← hwa]; exact hp_new rfl
            clear hwa
            refine hK.out _ _ (by (try dsimp only); exact ⟨keep_cell hba hHeld.1, keep_cell hba hHeld.2.1, keep_cell hba hHeld.2.2.1, keep_lt hba hHeld.2.2.2.1, keep_cell hba hHeld.2.2.2.2.1, keep_cell hba hHeld.2.2.2.2.2.1, keep_cell hba hHeld.2.2.2.2.2.2.1, keep_cell hba hHeld.2.2.2.2.2.2.2.1, keep_cell hba hHeld.2.2.2.2.2.2.2.2.1, keep_lt hba hHeld.2.2.2.2.2.2.2.2.2.1, ex_trans hHeld.2.2.2.2.2.2.2.2.2.2.1 hba, ex_trans hHeld.2.2.2.2.2.2.2.2.2.2.2 hba⟩) (fun hNew => ?_)
            clear hK K hHeld
            have hHeld := hNew
            clear hNew
            try simp only [Act.put, List.setIfInBounds_toArray, List.set_cons_zero, List.set_cons_succ]
            refine held_one 3 (by kernel_rfl) rfl (fun K hK => ?_)
            go_simp
            have hFB : w2.heap.size ≤ wa.heap.size := (hHeld.2.2.2.2.2.2.2.2.2.2.2).size
            have hGl := blk_lt hga
            go_at_call 25
            refine (laws_toFile f1 A1 f1.attrs.length c1 _ (hS1.mono mAtr hHeld.2.2.2.2.2.2.2.2.2.2.1) hk1).mono ?_; rintro e w4 hN4
            obtain ⟨A'4, c'4, bs4, rfl, hcc4, hW4, hF4, hb4⟩ := hN4.out
            have hL4 := Lib.hid (hW4.lt lAtr)
            have hR4 := hW4.sl (R := RAtr) (fun h => h.1)
            go_wp2_with fail
            refine hK.out _ _ (by (try dsimp only); exact ⟨keep_cell hb4 hHeld.1, keep_cell hb4 hHeld.2.1, keep_cell hb4 hHeld.2.2.1, keep_lt hb4 hHeld.2.2.2.1, keep_cell hb4 hHeld.2.2.2.2.1, keep_cell hb4 hHeld.2.2.2.2.2.1, keep_cell hb4 hHeld.2.2.2.2.2.2.1, keep_cell hb4 hHeld.2.2.2.2.2.2.2.1, keep_cell hb4 hHeld.2.2.2.2.2.2.2.2.1, keep_lt hb4 hHeld.2.2.2.2.2.2.2.2.2.1, ex_trans hHeld.2.2.2.2.2.2.2.2.2.2.1 hb4, ex_trans hHeld.2.2.2.2.2.2.2.2.2.2.2 hb4⟩) (fun hNew => ?_)
            clear hK K hHeld
            have hHeld := hNew
            clear hNew
            try simp only [Act.put, List.setIfInBounds_toArray, List.set_cons_zero, List.set_cons_succ]
            replace hga := below_keep hb4 hga
            refine held_one 4 (by kernel_rfl) rfl (fun K hK => ?_)
            go_simp
            have hFB : w2.heap.size ≤ w4.heap.size := (hHeld.2.2.2.2.2.2.2.2.2.2.2).size
            have hGl := blk_lt hga
            go_at_call 55
            refine (spec_CreateFile s0 A'3 s0.schema.length c'3 B'3 s0.files.length d'3 f1 A'4 f1.attrs.length c'4 _ (hR3.mono mFld (ex_trans (ex_trans (Below.refl _ _) hba) hb4)) (hQ3.mono mFil (ex_trans (ex_trans (Below.refl _ _) hba) hb4)) (hR4.mono mAtr (Below.refl _ _)) hk0 hk1).mono ?_; rintro e w5 hN5
            rw [← HE0.out, ← HE1.out, ← HE2.out] at hN5
            obtain ⟨A105, c105, B105, d105, bs5, bt5, rfl, hW5, hX5, hF5, hb5⟩ := hN5.v
            have hL5 : Hid (∀ b ∈ bs5 ++ bt5, b < w5.heap.size) := Lib.hid (fun b hb => (List.mem_append.1 hb).elim (hW5.lt lFld b) (hX5.lt (lFil _) b))
            have hR5 := hW5.sl (R := RFld) (fun h => h.1)
            have hQ5 := hX5.sl (R := RFil) (fun h => h.r)
            go_wp2_with fail
            refine hK.out _ _ (by (try dsimp only); exact ⟨keep_cell hb5 hHeld.1, keep_cell hb5 hHeld.2.1, keep_cell hb5 hHeld.2.2.1, keep_lt hb5 hHeld.2.2.2.1, keep_cell hb5 hHeld.2.2.2.2.1, keep_cell hb5 hHeld.2.2.2.2.2.1, keep_cell hb5 hHeld.2.2.2.2.2.2.1, keep_cell hb5 hHeld.2.2.2.2.2.2.2.1, keep_cell hb5 hHeld.2.2.2.2.2.2.2.2.1, keep_lt hb5 hHeld.2.2.2.2.2.2.2.2.2.1, ex_trans hHeld.2.2.2.2.2.2.2.2.2.2.1 hb5, ex_trans hHeld.2.2.2.2.2.2.2.2.2.2.2 hb5⟩) (fun hNew => ?_)
            clear hK K hHeld
            have hHeld := hNew
            clear hNew
            try simp only [Act.put, List.setIfInBounds_toArray, List.set_cons_zero, List.set_cons_succ]
            replace hga := below_keep hb5 hga
            first | (refine held_take 5 rfl (by kernel_rfl) (by kernel_rfl) (by kernel_rfl) (by rfl) (fun _ _ _ h => h) (by assumption) (by intro w hSw; (try dsimp only at hSw); go_simp; first | done | with_reducible rfl) ?_) | (refine held_skip 5 rfl (by kernel_rfl) (by kernel_rfl) (by kernel_rfl) (by rfl) (fun _ _ _ h => h) (by assumption) ?_)
            simp only [Act.put, List.setIfInBounds_toArray, List.set_cons_zero, List.set_cons_succ]
            first | (refine held_take 6 rfl (by kernel_rfl) (by kernel_rfl) (by kernel_rfl) (by rfl) (fun _ _ _ h => h) (by assumption) (by intro w hSw; (try dsimp only at hSw); go_simp; first | done | with_reducible rfl) ?_) | (refine held_skip 6 rfl (by kernel_rfl) (by kernel_rfl) (by kernel_rfl) (by rfl) (fun _ _ _ h => h) (by assumption) ?_)
            simp only [Act.put, List.setIfInBounds_toArray, List.set_cons_zero, List.set_cons_succ]
            first | (refine held_take 7 rfl (by kernel_rfl) (by kernel_rfl) (by kernel_rfl) (by rfl) (fun _ _ _ h => h) (by assumption) (by intro w hSw; (try dsimp only at hSw); go_simp; first | done | with_reducible rfl) ?_) | (refine held_skip 7 rfl (by kernel_rfl) (by kernel_rfl) (by kernel_rfl) (by rfl) (fun _ _ _ h => h) (by assumption) ?_)
            simp only [Act.put, List.setIfInBounds_toArray, List.set_cons_zero, List.set_cons_succ]
            first | (refine held_take 8 rfl (by kernel_rfl) (by kernel_rfl) (by kernel_rfl) (by rfl) (fun _ _ _ h => h) (by assumption) (by intro w hSw; (try dsimp only at hSw); go_simp; first | done | with_reducible rfl) ?_) | (refine held_skip 8 rfl (by kernel_rfl) (by kernel_rfl) (by kernel_rfl) (by rfl) (fun _ _ _ h => h) (by assumption) ?_)
            simp only [Act.put, List.setIfInBounds_toArray, List.set_cons_zero, List.set_cons_succ]
            have gc := blk_cell? hga
            have gf := blk_free hga
            refine held_one 10 (by kernel_rfl) rfl (fun K hK => ?_)
            go_simp
            have hch : Chg [w3.heap.size] w5 (sets w5 (w3.heap.size) 0 [.slice A105 r0.schema.length c105, .slice B105 r0.files.length d105, .int .i64 r0.next]) := sets_chg (bs := [w3.heap.size]) (g := w3.heap.size) (w := w5) (w1 := w5) (by simp) _ _ 0 (Chg.refl _ _)
            have hgz : (sets w5 (w3.heap.size) 0 [.slice A105 r0.schema.length c105, .slice B105 r0.files.length d105, .int .i64 r0.next]).heap[w3.heap.size]? = some (.cells #[.slice A105 r0.schema.length c105, .slice B105 r0.files.length d105, .int .i64 r0.next] 68 (0, 0)) := sets_blk _ _ _ _ hga
            have hne : ∀ b ∈ (bs5 ++ bt5), b ≠ w3.heap.size := fun b hb => by have h1 := hF5.2 b hb; omega
            have hW5z := (hW5).loc (w' := (sets w5 (w3.heap.size) 0 [.slice A105 r0.schema.length c105, .slice B105 r0.files.length d105, .int .i64 r0.next])) lFld (fun b hb => hch.block b (hL5.out b (List.mem_append_left _ hb)) (fun h => hne b (List.mem_append_left _ hb) (by simpa using h)))
            have hX5z := (hX5).loc (w' := (sets w5 (w3.heap.size) 0 [.slice A105 r0.schema.length c105, .slice B105 r0.files.length d105, .int .i64 r0.next])) (lFil _) (fun b hb => hch.block b (hL5.out b (List.mem_append_right _ hb)) (fun h => hne b (List.mem_append_right _ hb) (by simpa using h)))
            refine hK.out _ _ (by (try dsimp only); exact ⟨hch.cell hHeld.1 (fun h => by simp only [List.mem_singleton] at h; omega), hch.cell hHeld.2.1 (fun h => by simp only [List.mem_singleton] at h; omega), hch.cell hHeld.2.2.1 (fun h => by simp only [List.mem_singleton] at h; omega), Nat.lt_of_lt_of_le hHeld.2.2.2.1 hch.size, hch.cell hHeld.2.2.2.2.1 (fun h => by simp only [List.mem_singleton] at h; omega), hch.cell hHeld.2.2.2.2.2.1 (fun h => by simp only [List.mem_singleton] at h; omega), hch.cell hHeld.2.2.2.2.2.2.1 (fun h => by simp only [List.mem_singleton] at h; omega), hch.cell hHeld.2.2.2.2.2.2.2.1 (fun h => by simp only [List.mem_singleton] at h; omega), hch.cell hHeld.2.2.2.2.2.2.2.2.1 (fun h => by simp only [List.mem_singleton] at h; omega), Nat.lt_of_lt_of_le hHeld.2.2.2.2.2.2.2.2.2.1 hch.size, Below.mark hHeld.2.2.2.2.2.2.2.2.2.2.1 hch (hHeld.2.2.2.2.2.2.2.2.2.2.1).size (fun b hb => by have h1 := hK0.size; simp only [List.mem_singleton] at hb; omega), Below.mark hHeld.2.2.2.2.2.2.2.2.2.2.2 hch (hHeld.2.2.2.2.2.2.2.2.2.2.2).size (fun b hb => by have h1 := hK908.size; simp only [List.mem_singleton] at hb; omega)⟩) (fun hNew => ?_)
            clear hK K hHeld
            have hHeld := hNew
            clear hNew
            try simp only [Act.put, List.setIfInBounds_toArray, List.set_cons_zero, List.set_cons_succ]
            first | (refine held_take 11 rfl (by kernel_rfl) (by kernel_rfl) (by kernel_rfl) (by rfl) (fun _ _ _ h => h) (by assumption) (by intro w hSw; (try dsimp only at hSw); go_simp; first | done | with_reducible rfl) ?_) | (refine held_skip 11 rfl (by kernel_rfl) (by kernel_rfl) (by kernel_rfl) (by rfl) (fun _ _ _ h => h) (by assumption) ?_)
            simp only [Act.put, List.setIfInBounds_toArray, List.set_cons_zero, List.set_cons_succ]
            first | (refine held_take 12 rfl (by kernel_rfl) (by kernel_rfl) (by kernel_rfl) (by rfl) (fun _ _ _ h => h) (by assumption) (by intro w hSw; (try dsimp only at hSw); go_simp; first | done | with_reducible rfl) ?_) | (refine held_skip 12 rfl (by kernel_rfl) (by kernel_rfl) (by kernel_rfl) (by rfl) (fun _ _ _ h => h) (by assumption) ?_)
            simp only [Act.put, List.setIfInBounds_toArray, List.set_cons_zero, List.set_cons_succ]
            refine wpAnyH_done (by kernel_rfl) ?_ _
            go_wp2_with fail
            go_meet
            exact ⟨w3.heap.size, A105, c105, B105, d105, bs5, bt5, rfl, rfl, rfl, hGs, hgz, hW5z, hX5z, ⟨hF5.1, fun b hb => Nat.le_trans (hFB) (hF5.2 b hb)⟩, fun h => hne _ h rfl, hHeld⟩
        · go_simp
          have hGs : w2.heap.size ≤ w2.heap.size := Nat.le_refl _
          generalize hwa : World.drew (World.alloc w2 (.cells #[.slice none 0 0, .slice none 0 0, .int .i64 0] 68)) = wa
          have hba : Below w2.drew.heap.size w2.drew wa := by rw [← hwa]; exact ((show Below w2.drew.heap.size w2.drew w2 from ⟨rfl, rfl, rfl, Nat.le_refl _, fun _ _ => rfl⟩).alloc (Nat.le_refl _) _).drew
          have hga : wa.heap[w2.heap.size]? = some (.cells #[.slice none 0 0, .slice none 0 0, .int .i64 0] 68 (0, 0)) := by rw [← hwa]; exact hp_new rfl
          clear hwa
          refine hK.out _ _ (by (try dsimp only); exact ⟨keep_cell hba hHeld.1, keep_cell hba hHeld.2.1, keep_cell hba hHeld.2.2.1, keep_lt hba hHeld.2.2.2.1, keep_cell hba hHeld.2.2.2.2.1, keep_cell hba hHeld.2.2.2.2.2.1, keep_cell hba hHeld.2.2.2.2.2.2.1, keep_cell hba hHeld.2.2.2.2.2.2.2.1, keep_cell hba hHeld.2.2.2.2.2.2.2.2.1, keep_lt hba hHeld.2.2.2.2.2.2.2.2.2.1, ex_trans hHeld.2.2.2.2.2.2.2.2.2.2.1 hba, ex_trans hHeld.2.2.2.2.2.2.2.2.2.2.2 hba⟩) (fun hNew => ?_)
          clear hK K hHeld
          have hHeld := hNew
          clear hNew
          try simp only [Act.put, List.setIfInBounds_toArray, List.set_cons_zero, List.set_cons_succ]
          refine held_one 1 (by kernel_rfl) rfl (fun K hK => ?_)
          go_simp
          have hFB : w2.heap.size ≤ wa.heap.size := (hHeld.2.2.2.2.2.2.2.2.2.2.2).size
          have hGl := blk_lt hga
          go_at_call 40
          refine (laws_toStore s0 A0 s0.schema.length c0 B0 s0.files.length d0 _ (hS0.mono mFld hHeld.2.2.2.2.2.2.2.2.2.2.1) (hT0.mono mFil hHeld.2.2.2.2.2.2.2.2.2.2.1) hk0).mono ?_; rintro e w3 hN3
          obtain ⟨A'3, c'3, B'3, d'3, bs3, bt3, rfl, hcc3, hcd3, hW3, hX3, hF3, hb3⟩ := hN3.out
          have hL3 : Hid (∀ b ∈ bs3 ++ bt3, b < w3.heap.size) := Lib.hid (fun b hb => (List.mem_append.1 hb).elim (hW3.lt lFld b) (hX3.lt (lFil _) b))
          have hR3 := hW3.sl (R := RFld) (fun h => h.1)
          have hQ3 := hX3.sl (R := RFil) (fun h => h.r)
          go_wp2_with fail
          refine hK.out _ _ (by (try dsimp only); exact ⟨keep_cell hb3 hHeld.1, keep_cell hb3 hHeld.2.1, keep_cell hb3 hHeld.2.2.1, keep_lt hb3 hHeld.2.2.2.1, keep_cell hb3 hHeld.2.2.2.2.1, keep_cell hb3 hHeld.2.2.2.2.2.1, keep_cell hb3 hHeld.2.2.2.2.2.2.1, keep_cell hb3 hHeld.2.2.2.2.2.2.2.1, keep_cell hb3 hHeld.2.2.2.2.2.2.2.2.1, keep_lt hb3 hHeld.2.2.2.2.2.2.2.2.2.1, ex_trans hHeld.2.2.2.2.2.2.2.2.2.2.1 hb3, ex_trans hHeld.2.2.2.2.2.2.2.2.2.2.2 hb3⟩) (fun hNew => ?_)
          clear hK K hHeld
          have hHeld := hNew
          clear hNew
          try simp only [Act.put, List.setIfInBounds_toArray, List.set_cons_zero, List.set_cons_succ]
          replace hga := below_keep hb3 hga
          refine held_one 3 (by kernel_rfl) rfl (fun K hK => ?_)
          go_simp
          have hFB : w2.heap.size ≤ w3.heap.size := (hHeld.2.2.2.2.2.2.2.2.2.2.2).size
          have hGl := blk_lt hga
          go_at_call 25
          refine (laws_toFile f1 A1 f1.attrs.length c1 _ (hS1.mono mAtr hHeld.2.2.2.2.2.2.2.2.2.2.1) hk1).mono ?_; rintro e w4 hN4
          obtain ⟨A'4, c'4, bs4, rfl, hcc4, hW4, hF4, hb4⟩ := hN4.out
          have hL4 := Lib.hid (hW4.lt lAtr)
          have hR4 := hW4.sl (R := RAtr) (fun h => h.1)
          go_wp2_with fail
          refine hK.out _ _ (by (try dsimp only); exact ⟨keep_cell hb4 hHeld.1, keep_cell hb4 hHeld.2.1, keep_cell hb4 hHeld.2.2.1, keep_lt hb4 hHeld.2.2.2.1, keep_cell hb4 hHeld.2.2.2.2.1, keep_cell hb4 hHeld.2.2.2.2.2.1, keep_cell hb4 hHeld.2.2.2.2.2.2.1, keep_cell hb4 hHeld.2.2.2.2.2.2.2.1, keep_cell hb4 hHeld.2.2.2.2.2.2.2.2.1, keep_lt hb4 hHeld.2.2.2.2.2.2.2.2.2.1, ex_trans hHeld.2.2.2.2.2.2.2.2.2.2.1 hb4, ex_trans hHeld.2.2.2.2.2.2.2.2.2.2.2 hb4⟩) (fun hNew => ?_)
          clear hK K hHeld
          have hHeld := hNew
          clear hNew
          try simp only [Act.put, List.setIfInBounds_toArray, List.set_cons_zero, List.set_cons_succ]
          replace hga := below_keep hb4 hga
          refine held_one 4 (by kernel_rfl) rfl (fun K hK => ?_)
          go_simp
          have hFB : w2.heap.size ≤ w4.heap.size := (hHeld.2.2.2.2.2.2.2.2.2.2.2).size
          have hGl := blk_lt hga
          go_at_call 55
          refine (spec_CreateFile s0 A'3 s0.schema.length c'3 B'3 s0.files.length d'3 f1 A'4 f1.attrs.length c'4 _ (hR3.mono mFld (ex_trans (Below.refl _ _) hb4)) (hQ3.mono mFil (ex_trans (Below.refl _ _) hb4)) (hR4.mono mAtr (Below.refl _ _)) hk0 hk1).mono ?_; rintro e w5 hN5
          rw [← HE0.out, ← HE1.out, ← HE2.out] at hN5
          obtain ⟨A105, c105, B105, d105, bs5, bt5, rfl, hW5, hX5, hF5, hb5⟩ := hN5.v
          have hL5 : Hid (∀ b ∈ bs5 ++ bt5, b < w5.heap.size) := Lib.hid (fun b hb => (List.mem_append.1 hb).elim (hW5.lt lFld b) (hX5.lt (lFil _) b))
          have hR5 := hW5.sl (R := RFld) (fun h => h.1)
          have hQ5 := hX5.sl (R := RFil) (fun h => h.r)
          go_wp2_with fail
          refine hK.out _ _ (by (try dsimp only); exact ⟨keep_cell hb5 hHeld.1, keep_cell hb5 hHeld.2.1, keep_cell hb5 hHeld.2.2.1, keep_lt hb5 hHeld.2.2.2.1, keep_cell hb5 hHeld.2.2.2.2.1, keep_cell hb5 hHeld.2.2.2.2.2.1, keep_cell hb5 hHeld.2.2.2.2.2.2.1, keep_cell hb5 hHeld.2.2.2.2.2.2.2.1, keep_cell hb5 hHeld.2.2.2.2.2.2.2.2.1, keep_lt hb5 hHeld.2.2.2.2.2.2.2.2.2.1, ex_trans hHeld.2.2.2.2.2.2.2.2.2.2.1 hb5, ex_trans hHeld.2.2.2.2.2.2.2.2.2.2.2 hb5⟩) (fun hNew => ?_)
          clear hK K hHeld
          have hHeld := hNew
          clear hNew
          try simp only [Act.put, List.setIfInBounds_toArray, List.set_cons_zero, List.set_cons_succ]
          replace hga := below_keep hb5 hga
          first | (refine held_take 5 rfl (by kernel_rfl) (by kernel_rfl) (by kernel_rfl) (by rfl) (fun _ _ _ h => h) (by assumption) (by intro w hSw; (try dsimp only at hSw); go_simp; first | done | with_reducible rfl) ?_) | (refine held_skip 5 rfl (by kernel_rfl) (by kernel_rfl) (by kernel_rfl) (by rfl) (fun _ _ _ h => h) (by assumption) ?_)
          simp only [Act.put, List.setIfInBounds_toArray, List.set_cons_zero, List.set_cons_succ]
          first | (refine held_take 6 rfl (by kernel_rfl) (by kernel_rfl) (by kernel_rfl) (by rfl) (fun _ _ _ h => h) (by assumption) (by intro w hSw; (try dsimp only at hSw); go_simp; first | done | with_reducible rfl) ?_) | (refine held_skip 6 rfl (by kernel_rfl) (by kernel_rfl) (by kernel_rfl) (by rfl) (fun _ _ _ h => h) (by assumption) ?_)
          simp only [Act.put, List.setIfInBounds_toArray, List.set_cons_zero, List.set_cons_succ]
          first | (refine held_take 7 rfl (by kernel_rfl) (by kernel_rfl) (by kernel_rfl) (by rfl) (fun _ _ _ h => h) (by assumption) (by intro w hSw; (try dsimp only at hSw); go_simp; first | done | with_reducible rfl) ?_) | (refine held_skip 7 rfl (by kernel_rfl) (by kernel_rfl) (by kernel_rfl) (by rfl) (fun _ _ _ h => h) (by assumption) ?_)
          simp only [Act.put, List.setIfInBounds_toArray, List.set_cons_zero, List.set_cons_succ]
          first | (refine held_take 8 rfl (by kernel_rfl) (by kernel_rfl) (by kernel_rfl) (by rfl) (fun _ _ _ h => h) (by assumption) (by intro w hSw; (try dsimp only at hSw); go_simp; first | done | with_reducible rfl) ?_) | (refine held_skip 8 rfl (by kernel_rfl) (by kernel_rfl) (by kernel_rfl) (by rfl) (fun _ _ _ h => h) (by assumption) ?_)
          simp only [Act.put, List.setIfInBounds_toArray, List.set_cons_zero, List.set_cons_succ]
          have gc := blk_cell? hga
          have gf := blk_free hga
          refine held_one 10 (by kernel_rfl) rfl (fun K hK => ?_)
          go_simp
          have hch : Chg [w2.heap.size] w5 (sets w5 (w2.heap.size) 0 [.slice A105 r0.schema.length c105, .slice B105 r0.files.length d105, .int .i64 r0.next]) := sets_chg (bs := [w2.heap.size]) (g := w2.heap.size) (w := w5) (w1 := w5) (by simp) _ _ 0 (Chg.refl _ _)
          have hgz : (sets w5 (w2.heap.size) 0 [.slice A105 r0.schema.length c105, .slice B105 r0.files.length d105, .int .i64 r0.next]).heap[w2.heap.size]? = some (.cells #[.slice A105 r0.schema.length c105, .slice B105 r0.files.length d105, .int .i64 r0.next] 68 (0, 0)) := sets_blk _ _ _ _ hga
          have hne : ∀ b ∈ (bs5 ++ bt5), b ≠ w2.heap.size := fun b hb => by have h1 := hF5.2 b hb; omega
          have hW5z := (hW5).loc (w' := (sets w5 (w2.heap.size) 0 [.slice A105 r0.schema.length c105, .slice B105 r0.files.length d105, .int .i64 r0.next])) lFld (fun b hb => hch.block b (hL5.out b (List.mem_append_left _ hb)) (fun h => hne b (List.mem_append_left _ hb) (by simpa using h)))
          have hX5z := (hX5).loc (w' := (sets w5 (w2.heap.size) 0 [.slice A105 r0.schema.length c105, .slice B105 r0.files.length d105, .int .i64 r0.next])) (lFil _) (fun b hb => hch.block b (hL5.out b (List.mem_append_right _ hb)) (fun h => hne b (List.mem_append_right _ hb) (by simpa using h)))
          refine hK.out _ _ (by (try dsimp only); exact ⟨hch.cell hHeld.1 (fun h => by simp only [List.mem_singleton] at h; omega), hch.cell hHeld.2.1 (fun h => by simp only [List.mem_singleton] at h; omega), hch.cell hHeld.2.2.1 (fun h => by simp only [List.mem_singleton] at h; omega), Nat.lt_of_lt_of_le hHeld.2.2.2.1 hch.size, hch.cell hHeld.2.2.2.2.1 (fun h => by simp only [List.mem_singleton] at h; omega), hch.cell hHeld.2.2.2.2.2.1 (fun h => by simp only [List.mem_singleton] at h; omega), hch.cell hHeld.2.2.2.2.2.2.1 (fun h => by simp only [List.mem_singleton] at h; omega), hch.cell hHeld.2.2.2.2.2.2.2.1 (fun h => by simp only [List.mem_singleton] at h; omega), hch.cell hHeld.2.2.2.2.2.2.2.2.1 (fun h => by simp only [List.mem_singleton] at h; omega), Nat.lt_of_lt_of_le hHeld.2.2.2.2.2.2.2.2.2.1 hch.size, Below.mark hHeld.2.2.2.2.2.2.2.2.2.2.1 hch (hHeld.2.2.2.2.2.2.2.2.2.2.1).size (fun b hb => by have h1 := hK0.size; simp only [List.mem_singleton] at hb; omega), Below.mark hHeld.2.2.2.2.2.2.2.2.2.2.2 hch (hHeld.2.2.2.2.2.2.2.2.2.2.2).size (fun b hb => by have h1 := hK908.size; simp only [List.mem_singleton] at hb; omega)⟩) (fun hNew => ?_)
          clear hK K hHeld
          have hHeld := hNew
          clear hNew
          try simp only [Act.put, List.setIfInBounds_toArray, List.set_cons_zero, List.set_cons_succ]
          first | (refine held_take 11 rfl (by kernel_rfl) (by kernel_rfl) (by kernel_rfl) (by rfl) (fun _ _ _ h => h) (by assumption) (by intro w hSw; (try dsimp only at hSw); go_simp; first | done | with_reducible rfl) ?_) | (refine held_skip 11 rfl (by kernel_rfl) (by kernel_rfl) (by kernel_rfl) (by rfl) (fun _ _ _ h => h) (by assumption) ?_)
          simp only [Act.put, List.setIfInBounds_toArray, List.set_cons_zero, List.set_cons_succ]
          first | (refine held_take 12 rfl (by kernel_rfl) (by kernel_rfl) (by kernel_rfl) (by rfl) (fun _ _ _ h => h) (by assumption) (by intro w hSw; (try dsimp only at hSw); go_simp; first | done | with_reducible rfl) ?_) | (refine held_skip 12 rfl (by kernel_rfl) (by kernel_rfl) (by kernel_rfl) (by rfl) (fun _ _ _ h => h) (by assumption) ?_)
          simp only [Act.put, List.setIfInBounds_toArray, List.set_cons_zero, List.set_cons_succ]
          refine wpAnyH_done (by kernel_rfl) ?_ _
          go_wp2_with fail
          go_meet
          exact ⟨w2.heap.size, A105, c105, B105, d105, bs5, bt5, rfl, rfl, rfl, hGs, hgz, hW5z, hX5z, ⟨hF5.1, fun b hb => Nat.le_trans (hFB) (hF5.2 b hb)⟩, fun h => hne _ h rfl, hHeld⟩
      case rest =>
        generalize wc = w5 at *
        obtain ⟨g5, A105, c105, B105, d105, bs5, bt5, rfl, rfl, rfl, hgs5, hga5, hW5, hX5, hF5, hgn5, x0_0', x0_1', x0_2', z0', x1_0', x1_1', x1_2', x1_3', x1_4', z1', hK0', hK908'⟩ := hcut
        have hL5 : Hid (∀ b ∈ (bs5 ++ bt5), b < w5.heap.size) := Lib.hid (fun b hb => (List.mem_append.1 hb).elim (hW5.lt lFld b) (hX5.lt (lFil _) b))
        have hR5 := hW5.sl (R := RFld) (fun h => h.1)
        have hQ5 := hX5.sl (R := RFil) (fun h => h.r)
        clear x0_0 x0_1 x0_2 z0 x1_0 x1_1 x1_2 x1_3 x1_4 z1 hK0 hK908 hgn5
        have x0_0 := x0_0'
        clear x0_0'
        have x0_1 := x0_1'
        clear x0_1'
        have x0_2 := x0_2'
        clear x0_2'
        have z0 := z0'
        clear z0'
        have x1_0 := x1_0'
        clear x1_0'
        have x1_1 := x1_1'
        clear x1_1'
        have x1_2 := x1_2'
        clear x1_2'
        have x1_3 := x1_3'
        clear x1_3'
        have x1_4 := x1_4'
        clear x1_4'
        have z1 := z1'
        clear z1'
        have hK0 := hK0'
        clear hK0'
        clear hK908'
        have x2_0 : w5.cell? ⟨g5, 0, none⟩ = some (.slice A105 r0.schema.length c105) := blk_cell? hga5 0
        have x2_1 : w5.cell? ⟨g5, 1, none⟩ = some (.slice B105 r0.files.length d105) := blk_cell? hga5 1
        have x2_2 : w5.cell? ⟨g5, 2, none⟩ = some (.int .i64 r0.next) := blk_cell? hga5 2
        have z2 : g5 < w5.heap.size := blk_lt hga5
        clear hga5 hgs5
        have hK5 := Below.refl w5.heap.size w5
        go_wp2_with fail
        refine (laws_toStore s0 A0 s0.schema.length c0 B0 s0.files.length d0 _ (hS0.mono mFld (ex_trans hK0 (by go_grown))) (hT0.mono mFil (ex_trans hK0 (by go_grown))) hk0).mono ?_; rintro e w6 hN6
        obtain ⟨A'6, c'6, B'6, d'6, bs6, bt6, rfl, hcc6, hcd6, hW6, hX6, hF6, hb6⟩ := hN6.out
        have hL6 : Hid (∀ b ∈ bs6 ++ bt6, b < w6.heap.size) := Lib.hid (fun b hb => (List.mem_append.1 hb).elim (hW6.lt lFld b) (hX6.lt (lFil _) b))
        have hR6 := hW6.sl (R := RFld) (fun h => h.1)
        have hQ6 := hX6.sl (R := RFil) (fun h => h.r)
        have hG6_0 : Hid (∀ b ∈ (bs6 ++ bt6), W.heap.size ≤ b) := Lib.hid (fun b hb => by have h1 := hF6.2 b hb; have h2 := hK0.size; (try simp at h1); omega)
        have hG6_5 : Hid (∀ b ∈ (bs6 ++ bt6), w5.heap.size ≤ b) := Lib.hid (fun b hb => by have h1 := hF6.2 b hb; have h2 := hK5.size; (try simp at h1); omega)
        have hN6_0 : Hid (W.heap.size ∉ (bs6 ++ bt6)) := Lib.hid (fun h => by have h1 := hF6.2 _ h; have h2 := z0; (try simp at h1); omega)
        have hN6_1 : Hid (W.heap.size + 1 ∉ (bs6 ++ bt6)) := Lib.hid (fun h => by have h1 := hF6.2 _ h; have h2 := z1; (try simp at h1); omega)
        have hN6_2 : Hid (g5 ∉ (bs6 ++ bt6)) := Lib.hid (fun h => by have h1 := hF6.2 _ h; have h2 := z2; (try simp at h1); omega)
        have hx6 : Below w5.heap.size w5 w6 := ex_trans (by go_grown) hb6
        replace hK0 := ex_trans hK0 hx6
        replace hK5 := ex_trans hK5 hx6
        replace x0_0 := keep_cell hx6 x0_0
        replace x0_1 := keep_cell hx6 x0_1
        replace x0_2 := keep_cell hx6 x0_2
        replace z0 := keep_lt hx6 z0
        replace x1_0 := keep_cell hx6 x1_0
        replace x1_1 := keep_cell hx6 x1_1
        replace x1_2 := keep_cell hx6 x1_2
        replace x1_3 := keep_cell hx6 x1_3
        replace x1_4 := keep_cell hx6 x1_4
        replace z1 := keep_lt hx6 z1
        replace x2_0 := keep_cell hx6 x2_0
        replace x2_1 := keep_cell hx6 x2_1
        replace x2_2 := keep_cell hx6 x2_2
        replace z2 := keep_lt hx6 z2
        have hK6 := Below.refl w6.heap.size w6
        go_wp2_with fail
        refine (laws_toFile f1 A1 f1.attrs.length c1 _ (hS1.mono mAtr (ex_trans hK0 (by go_grown))) hk1).mono ?_; rintro e w7 hN7
        obtain ⟨A'7, c'7, bs7, rfl, hcc7, hW7, hF7, hb7⟩ := hN7.out
        have hL7 := Lib.hid (hW7.lt lAtr)
        have hR7 := hW7.sl (R := RAtr) (fun h => h.1)
        have hG7_0 : Hid (∀ b ∈ bs7, W.heap.size ≤ b) := Lib.hid (fun b hb => by have h1 := hF7.2 b hb; have h2 := hK0.size; (try simp at h1); omega)
        have hG7_5 : Hid (∀ b ∈ bs7, w5.heap.size ≤ b) := Lib.hid (fun b hb => by have h1 := hF7.2 b hb; have h2 := hK5.size; (try simp at h1); omega)
        have hG7_6 : Hid (∀ b ∈ bs7, w6.heap.size ≤ b) := Lib.hid (fun b hb => by have h1 := hF7.2 b hb; have h2 := hK6.size; (try simp at h1); omega)
        have hD7_6 : Hid (∀ b ∈ bs7, b ∉ (bs6 ++ bt6)) := Lib.hid (fun b hb hb2 => by have h1 := hF7.2 b hb; have h2 := hL6.out b hb2; have h3 := hK6.size; (try simp at h1); omega)
        have hN7_0 : Hid (W.heap.size ∉ bs7) := Lib.hid (fun h => by have h1 := hF7.2 _ h; have h2 := z0; (try simp at h1); omega)
        have hN7_1 : Hid (W.heap.size + 1 ∉ bs7) := Lib.hid (fun h => by have h1 := hF7.2 _ h; have h2 := z1; (try simp at h1); omega)
        have hN7_2 : Hid (g5 ∉ bs7) := Lib.hid (fun h => by have h1 := hF7.2 _ h; have h2 := z2; (try simp at h1); omega)
        have hN7_3 : Hid (w6.heap.size ∉ bs7) := Lib.hid (fun h => by have h1 := hF7.2 _ h; (try simp at h1); omega)
        have hx7 : Below w6.heap.size w6 w7 := ex_trans (by go_grown) hb7
        have hN6_3 : Hid (w6.heap.size ∉ (bs6 ++ bt6)) := Lib.hid (fun h => by have h2 := hL6.out _ h; have h3 := hK6.size; omega)
        replace hK0 := ex_trans hK0 hx7
        replace hK5 := ex_trans hK5 hx7
        replace hK6 := ex_trans hK6 hx7
        replace x0_0 := keep_cell hx7 x0_0
        replace x0_1 := keep_cell hx7 x0_1
        replace x0_2 := keep_cell hx7 x0_2
        replace z0 := keep_lt hx7 z0
        replace x1_0 := keep_cell hx7 x1_0
        replace x1_1 := keep_cell hx7 x1_1
        replace x1_2 := keep_cell hx7 x1_2
        replace x1_3 := keep_cell hx7 x1_3
        replace x1_4 := keep_cell hx7 x1_4
        replace z1 := keep_lt hx7 z1
        replace x2_0 := keep_cell hx7 x2_0
        replace x2_1 := keep_cell hx7 x2_1
        replace x2_2 := keep_cell hx7 x2_2
        replace z2 := keep_lt hx7 z2
        have x3_0 : w7.cell? ⟨w6.heap.size, 0, none⟩ = some (.slice A'6 s0.schema.length c'6) := keep_cell hb7 (by go_simp)
        have x3_1 : w7.cell? ⟨w6.heap.size, 1, none⟩ = some (.slice B'6 s0.files.length d'6) := keep_cell hb7 (by go_simp)
        have x3_2 : w7.cell? ⟨w6.heap.size, 2, none⟩ = some (.int .i64 s0.next) := keep_cell hb7 (by go_simp)
        have z3 : w6.heap.size < w7.heap.size := keep_lt hb7 (by simp <;> omega)
        have hK7 := Below.refl w7.heap.size w7
        go_wp2_with fail
        refine (impl_CreateFile s0 A'6 s0.schema.length c'6 B'6 s0.files.length d'6 f1 A'7 f1.attrs.length c'7 _ (hR6.mono mFld (ex_trans hK6 (by go_grown))) (hQ6.mono mFil (ex_trans hK6 (by go_grown))) (hR7.mono mAtr (ex_trans hK7 (by go_grown))) hk0 hk1).mono ?_; rintro e w8 hN8
        rw [← HE0.out, ← HE1.out, ← HE2.out] at hN8
        obtain ⟨A108, c108, B108, d108, bs8, bt8, rfl, hW8, hX8, hF8, hb8⟩ := hN8.v
        have hL8 : Hid (∀ b ∈ bs8 ++ bt8, b < w8.heap.size) := Lib.hid (fun b hb => (List.mem_append.1 hb).elim (hW8.lt lFld b) (hX8.lt (lFil _) b))
        have hR8 := hW8.sl (R := RFld) (fun h => h.1)
        have hQ8 := hX8.sl (R := RFil) (fun h => h.r)
        have hG8_0 : Hid (∀ b ∈ (bs8 ++ bt8), W.heap.size ≤ b) := Lib.hid (fun b hb => by have h1 := hF8.2 b hb; have h2 := hK0.size; (try simp at h1); omega)
        have hG8_5 : Hid (∀ b ∈ (bs8 ++ bt8), w5.heap.size ≤ b) := Lib.hid (fun b hb => by have h1 := hF8.2 b hb; have h2 := hK5.size; (try simp at h1); omega)
        have hG8_6 : Hid (∀ b ∈ (bs8 ++ bt8), w6.heap.size ≤ b) := Lib.hid (fun b hb => by have h1 := hF8.2 b hb; have h2 := hK6.size; (try simp at h1); omega)
        have hG8_7 : Hid (∀ b ∈ (bs8 ++ bt8), w7.heap.size ≤ b) := Lib.hid (fun b hb => by have h1 := hF8.2 b hb; have h2 := hK7.size; (try simp at h1); omega)
        have hD8_6 : Hid (∀ b ∈ (bs8 ++ bt8), b ∉ (bs6 ++ bt6)) := Lib.hid (fun b hb hb2 => by have h1 := hF8.2 b hb; have h2 := hL6.out b hb2; have h3 := hK6.size; (try simp at h1); omega)
        have hD8_7 : Hid (∀ b ∈ (bs8 ++ bt8), b ∉ bs7) := Lib.hid (fun b hb hb2 => by have h1 := hF8.2 b hb; have h2 := hL7.out b hb2; have h3 := hK7.size; (try simp at h1); omega)
        have hN8_0 : Hid (W.heap.size ∉ (bs8 ++ bt8)) := Lib.hid (fun h => by have h1 := hF8.2 _ h; have h2 := z0; (try simp at h1); omega)
        have hN8_1 : Hid (W.heap.size + 1 ∉ (bs8 ++ bt8)) := Lib.hid (fun h => by have h1 := hF8.2 _ h; have h2 := z1; (try simp at h1); omega)
        have hN8_2 : Hid (g5 ∉ (bs8 ++ bt8)) := Lib.hid (fun h => by have h1 := hF8.2 _ h; have h2 := z2; (try simp at h1); omega)
        have hN8_3 : Hid (w6.heap.size ∉ (bs8 ++ bt8)) := Lib.hid (fun h => by have h1 := hF8.2 _ h; have h2 := z3; (try simp at h1); omega)
        have hN8_4 : Hid (w7.heap.size ∉ (bs8 ++ bt8)) := Lib.hid (fun h => by have h1 := hF8.2 _ h; (try simp at h1); omega)
        have hx8 : Below w7.heap.size w7 w8 := ex_trans (by go_grown) hb8
        have hN6_4 : Hid (w7.heap.size ∉ (bs6 ++ bt6)) := Lib.hid (fun h => by have h2 := hL6.out _ h; have h3 := hK6.size; omega)
        have hN7_4 : Hid (w7.heap.size ∉ bs7) := Lib.hid (fun h => by have h2 := hL7.out _ h; have h3 := hK7.size; omega)
        replace hK0 := ex_trans hK0 hx8
        replace hK5 := ex_trans hK5 hx8
        replace hK6 := ex_trans hK6 hx8
        replace hK7 := ex_trans hK7 hx8
        replace x0_0 := keep_cell hx8 x0_0
        replace x0_1 := keep_cell hx8 x0_1
        replace x0_2 := keep_cell hx8 x0_2
        replace z0 := keep_lt hx8 z0
        replace x1_0 := keep_cell hx8 x1_0
        replace x1_1 := keep_cell hx8 x1_1
        replace x1_2 := keep_cell hx8 x1_2
        replace x1_3 := keep_cell hx8 x1_3
        replace x1_4 := keep_cell hx8 x1_4
        replace z1 := keep_lt hx8 z1
        replace x2_0 := keep_cell hx8 x2_0
        replace x2_1 := keep_cell hx8 x2_1
        replace x2_2 := keep_cell hx8 x2_2
        replace z2 := keep_lt hx8 z2
        replace x3_0 := keep_cell hx8 x3_0
        replace x3_1 := keep_cell hx8 x3_1
        replace x3_2 := keep_cell hx8 x3_2
        replace z3 := keep_lt hx8 z3
        have x4_0 : w8.cell? ⟨w7.heap.size, 0, none⟩ = some (.int .i64 f1.id) := keep_cell hb8 (by go_simp)
        have x4_1 : w8.cell? ⟨w7.heap.size, 1, none⟩ = some (.int .i64 f1.owner) := keep_cell hb8 (by go_simp)
        have x4_2 : w8.cell? ⟨w7.heap.size, 2, none⟩ = some (.bool f1.shared) := keep_cell hb8 (by go_simp)
        have x4_3 : w8.cell? ⟨w7.heap.size, 3, none⟩ = some (.int .i64 f1.link) := keep_cell hb8 (by go_simp)
        have x4_4 : w8.cell? ⟨w7.heap.size, 4, none⟩ = some (.slice A'7 f1.attrs.length c'7) := keep_cell hb8 (by go_simp)
        have z4 : w7.heap.size < w8.heap.size := keep_lt hb8 (by simp <;> omega)
        have hK8 := Below.refl w8.heap.size w8
        go_wp2_with fail
        refine (laws_eqStore_same r0 A108 r0.schema.length c108 B108 r0.files.length d108 A105 r0.schema.length c105 B105 r0.files.length d105 _ (hR8.mono mFld (ex_trans hK8 (by go_grown))) (hQ8.mono mFil (ex_trans hK8 (by go_grown))) (hR5.mono mFld (ex_trans hK5 (by go_grown))) (hQ5.mono mFil (ex_trans hK5 (by go_grown))) hok0).mono ?_; rintro e w9 ⟨rfl, hb9⟩
        have hx9 : Below w8.heap.size w8 w9 := ex_trans (by go_grown) hb9
        have hN6_5 : Hid (w8.heap.size ∉ (bs6 ++ bt6)) := Lib.hid (fun h => by have h2 := hL6.out _ h; have h3 := hK6.size; omega)
        have hN7_5 : Hid (w8.heap.size ∉ bs7) := Lib.hid (fun h => by have h2 := hL7.out _ h; have h3 := hK7.size; omega)
        have hN8_5 : Hid (w8.heap.size ∉ (bs8 ++ bt8)) := Lib.hid (fun h => by have h2 := hL8.out _ h; have h3 := hK8.size; omega)
        replace hK0 := ex_trans hK0 hx9
        replace hK5 := ex_trans hK5 hx9
        replace hK6 := ex_trans hK6 hx9
        replace hK7 := ex_trans hK7 hx9
        replace hK8 := ex_trans hK8 hx9
        replace x0_0 := keep_cell hx9 x0_0
        replace x0_1 := keep_cell hx9 x0_1
        replace x0_2 := keep_cell hx9 x0_2
        replace z0 := keep_lt hx9 z0
        replace x1_0 := keep_cell hx9 x1_0
        replace x1_1 := keep_cell hx9 x1_1
        replace x1_2 := keep_cell hx9 x1_2
        replace x1_3 := keep_cell hx9 x1_3
        replace x1_4 := keep_cell hx9 x1_4
        replace z1 := keep_lt hx9 z1
        replace x2_0 := keep_cell hx9 x2_0
        replace x2_1 := keep_cell hx9 x2_1
        replace x2_2 := keep_cell hx9 x2_2
        replace z2 := keep_lt hx9 z2
        replace x3_0 := keep_cell hx9 x3_0
        replace x3_1 := keep_cell hx9 x3_1
        replace x3_2 := keep_cell hx9 x3_2
        replace z3 := keep_lt hx9 z3
        replace x4_0 := keep_cell hx9 x4_0
        replace x4_1 := keep_cell hx9 x4_1
        replace x4_2 := keep_cell hx9 x4_2
        replace x4_3 := keep_cell hx9 x4_3
        replace x4_4 := keep_cell hx9 x4_4
        replace z4 := keep_lt hx9 z4
        have x5_0 : w9.cell? ⟨w8.heap.size, 0, none⟩ = some (.slice A108 r0.schema.length c108) := keep_cell hb9 (by go_simp)
        have x5_1 : w9.cell? ⟨w8.heap.size, 1, none⟩ = some (.slice B108 r0.files.length d108) := keep_cell hb9 (by go_simp)
        have x5_2 : w9.cell? ⟨w8.heap.size, 2, none⟩ = some (.int .i64 r0.next) := keep_cell hb9 (by go_simp)
        have z5 : w8.heap.size < w9.heap.size := keep_lt hb9 (by simp <;> omega)
        go_wp2_with fail
        refine wp_region_held_drew (S := (fun w' => w'.cell? ⟨W.heap.size, 0, none⟩ = some (.slice A0 s0.schema.length c0) ∧ w'.cell? ⟨W.heap.size, 1, none⟩ = some (.slice B0 s0.files.length d0) ∧ w'.cell? ⟨W.heap.size, 2, none⟩ = some (.int .i64 s0.next) ∧ W.heap.size < w'.heap.size ∧ w'.cell? ⟨W.heap.size + 1, 0, none⟩ = some (.int .i64 f1.id) ∧ w'.cell? ⟨W.heap.size + 1, 1, none⟩ = some (.int .i64 f1.owner) ∧ w'.cell? ⟨W.heap.size + 1, 2, none⟩ = some (.bool f1.shared) ∧ w'.cell? ⟨W.heap.size + 1, 3, none⟩ = some (.int .i64 f1.link) ∧ w'.cell? ⟨W.heap.size + 1, 4, none⟩ = some (.slice A1 f1.attrs.length c1) ∧ W.heap.size + 1 < w'.heap.size ∧ w'.cell? ⟨g5, 0, none⟩ = some (.slice A105 r0.schema.length c105) ∧ w'.cell? ⟨g5, 1, none⟩ = some (.slice B105 r0.files.length d105) ∧ w'.cell? ⟨g5, 2, none⟩ = some (.int .i64 r0.next) ∧ g5 < w'.heap.size ∧ w'.cell? ⟨w6.heap.size, 0, none⟩ = some (.slice A'6 s0.schema.length c'6) ∧ w'.cell? ⟨w6.heap.size, 1, none⟩ = some (.slice B'6 s0.files.length d'6) ∧ w'.cell? ⟨w6.heap.size, 2, none⟩ = some (.int .i64 s0.next) ∧ w6.heap.size < w'.heap.size ∧ w'.cell? ⟨w7.heap.size, 0, none⟩ = some (.int .i64 f1.id) ∧ w'.cell? ⟨w7.heap.size, 1, none⟩ = some (.int .i64 f1.owner) ∧ w'.cell? ⟨w7.heap.size, 2, none⟩ = some (.bool f1.shared) ∧ w'.cell? ⟨w7.heap.size, 3, none⟩ = some (.int .i64 f1.link) ∧ w'.cell? ⟨w7.heap.size, 4, none⟩ = some (.slice A'7 f1.attrs.length c'7) ∧ w7.heap.size < w'.heap.size ∧ w'.cell? ⟨w8.heap.size, 0, none⟩ = some (.slice A108 r0.schema.length c108) ∧ w'.cell? ⟨w8.heap.size, 1, none⟩ = some (.slice B108 r0.files.length d108) ∧ w'.cell? ⟨w8.heap.size, 2, none⟩ = some (.int .i64 r0.next) ∧ w8.heap.size < w'.heap.size ∧ Below W.heap.size W w' ∧ Below w5.heap.size w5 w' ∧ Below w6.heap.size w6 w' ∧ Below w7.heap.size w7 w' ∧ Below w8.heap.size w8 w')) (by kernel_rfl) (by (try dsimp only); exact ⟨x0_0, x0_1, x0_2, z0, x1_0, x1_1, x1_2, x1_3, x1_4, z1, x2_0, x2_1, x2_2, z2, x3_0, x3_1, x3_2, z3, x4_0, x4_1, x4_2, x4_3, x4_4, z4, x5_0, x5_1, x5_2, z5, (hK0).drew, (hK5).drew, (hK6).drew, (hK7).drew, (hK8).drew⟩) (fun hHeld => ?_)
        first | (refine held_take 0 rfl (by kernel_rfl) (by kernel_rfl) (by kernel_rfl) (by rfl) (fun _ _ _ h => h) (by assumption) (by intro w hSw; (try dsimp only at hSw); go_simp; first | done | with_reducible rfl) ?_) | (refine held_skip 0 rfl (by kernel_rfl) (by kernel_rfl) (by kernel_rfl) (by rfl) (fun _ _ _ h => h) (by assumption) ?_)
        simp only [Act.put, List.setIfInBounds_toArray, List.set_cons_zero, List.set_cons_succ]
        first | (refine held_take 1 rfl (by kernel_rfl) (by kernel_rfl) (by kernel_rfl) (by rfl) (fun _ _ _ h => h) (by assumption) (by intro w hSw; (try dsimp only at hSw); go_simp; first | done | with_reducible rfl) ?_) | (refine held_skip 1 rfl (by kernel_rfl) (by kernel_rfl) (by kernel_rfl) (by rfl) (fun _ _ _ h => h) (by assumption) ?_)
        simp only [Act.put, List.setIfInBounds_toArray, List.set_cons_zero, List.set_cons_succ]
        refine held_one 2 (by kernel_rfl) rfl (fun K hK => ?_)
        go_simp
        go_at_call 40
        refine (laws_toStore s0 A0 s0.schema.length c0 B0 s0.files.length d0 _ (hS0.mono mFld hHeld.2.2.2.2.2.2.2.2.2.2.2.2.2.2.2.2.2.2.2.2.2.2.2.2.2.2.2.2.1) (hT0.mono mFil hHeld.2.2.2.2.2.2.2.2.2.2.2.2.2.2.2.2.2.2.2.2.2.2.2.2.2.2.2.2.1) hk0).mono ?_; rintro e w10 hN10
        obtain ⟨A'10, c'10, B'10, d'10, bs10, bt10, rfl, hcc10, hcd10, hW10, hX10, hF10, hb10⟩ := hN10.out
        have hL10 : Hid (∀ b ∈ bs10 ++ bt10, b < w10.heap.size) := Lib.hid (fun b hb => (List.mem_append.1 hb).elim (hW10.lt lFld b) (hX10.lt (lFil _) b))
        have hR10 := hW10.sl (R := RFld) (fun h => h.1)
        have hQ10 := hX10.sl (R := RFil) (fun h => h.r)
        go_wp2_with fail
        refine hK.out _ _ (by (try dsimp only); exact ⟨keep_cell hb10 hHeld.1, keep_cell hb10 hHeld.2.1, keep_cell hb10 hHeld.2.2.1, keep_lt hb10 hHeld.2.2.2.1, keep_cell hb10 hHeld.2.2.2.2.1, keep_cell hb10 hHeld.2.2.2.2.2.1, keep_cell hb10 hHeld.2.2.2.2.2.2.1, keep_cell hb10 hHeld.2.2.2.2.2.2.2.1, keep_cell hb10 hHeld.2.2.2.2.2.2.2.2.1, keep_lt hb10 hHeld.2.2.2.2.2.2.2.2.2.1, keep_cell hb10 hHeld.2.2.2.2.2.2.2.2.2.2.1, keep_cell hb10 hHeld.2.2.2.2.2.2.2.2.2.2.2.1, keep_cell hb10 hHeld.2.2.2.2.2.2.2.2.2.2.2.2.1, keep_lt hb10 hHeld.2.2.2.2.2.2.2.2.2.2.2.2.2.1, keep_cell hb10 hHeld.2.2.2.2.2.2.2.2.2.2.2.2.2.2.1, keep_cell hb10 hHeld.2.2.2.2.2.2.2.2.2.2.2.2.2.2.2.1, keep_cell hb10 hHeld.2.2.2.2.2.2.2.2.2.2.2.2.2.2.2.2.1, keep_lt hb10 hHeld.2.2.2.2.2.2.2.2.2.2.2.2.2.2.2.2.2.1, keep_cell hb10 hHeld.2.2.2.2.2.2.2.2.2.2.2.2.2.2.2.2.2.2.1, keep_cell hb10 hHeld.2.2.2.2.2.2.2.2.2.2.2.2.2.2.2.2.2.2.2.1, keep_cell hb10 hHeld.2.2.2.2.2.2.2.2.2.2.2.2.2.2.2.2.2.2.2.2.1, keep_cell hb10 hHeld.2.2.2.2.2.2.2.2.2.2.2.2.2.2.2.2.2.2.2.2.2.1, keep_cell hb10 hHeld.2.2.2.2.2.2.2.2.2.2.2.2.2.2.2.2.2.2.2.2.2.2.1, keep_lt hb10 hHeld.2.2.2.2.2.2.2.2.2.2.2.2.2.2.2.2.2.2.2.2.2.2.2.1, keep_cell hb10 hHeld.2.2.2.2.2.2.2.2.2.2.2.2.2.2.2.2.2.2.2.2.2.2.2.2.1, keep_cell hb10 hHeld.2.2.2.2.2.2.2.2.2.2.2.2.2.2.2.2.2.2.2.2.2.2.2.2.2.1, keep_cell hb10 hHeld.2.2.2.2.2.2.2.2.2.2.2.2.2.2.2.2.2.2.2.2.2.2.2.2.2.2.1, keep_lt hb10 hHeld.2.2.2.2.2.2.2.2.2.2.2.2.2.2.2.2.2.2.2.2.2.2.2.2.2.2.2.1, ex_trans hHeld.2.2.2.2.2.2.2.2.2.2.2.2.2.2.2.2.2.2.2.2.2.2.2.2.2.2.2.2.1 hb10, ex_trans hHeld.2.2.2.2.2.2.2.2.2.2.2.2.2.2.2.2.2.2.2.2.2.2.2.2.2.2.2.2.2.1 hb10, ex_trans hHeld.2.2.2.2.2.2.2.2.2.2.2.2.2.2.2.2.2.2.2.2.2.2.2.2.2.2.2.2.2.2.1 hb10, ex_trans hHeld.2.2.2.2.2.2.2.2.2.2.2.2.2.2.2.2.2.2.2.2.2.2.2.2.2.2.2.2.2.2.2.1 hb10, ex_trans hHeld.2.2.2.2.2.2.2.2.2.2.2.2.2.2.2.2.2.2.2.2.2.2.2.2.2.2.2.2.2.2.2.2 hb10⟩) (fun hNew => ?_)
        clear hK K hHeld
        have hHeld := hNew
        clear hNew
        try simp only [Act.put, List.setIfInBounds_toArray, List.set_cons_zero, List.set_cons_succ]
        refine held_one 3 (by kernel_rfl) rfl (fun K hK => ?_)
        go_simp
        go_at_call 42
        refine (laws_eqStore_same s0 A'6 s0.schema.length c'6 B'6 s0.files.length d'6 A'10 s0.schema.length c'10 B'10 s0.files.length d'10 _ (hR6.mono mFld hHeld.2.2.2.2.2.2.2.2.2.2.2.2.2.2.2.2.2.2.2.2.2.2.2.2.2.2.2.2.2.2.1) (hQ6.mono mFil hHeld.2.2.2.2.2.2.2.2.2.2.2.2.2.2.2.2.2.2.2.2.2.2.2.2.2.2.2.2.2.2.1) (hR10.mono mFld (Below.refl _ _)) (hQ10.mono mFil (Below.refl _ _)) hk0).mono ?_; rintro e w11 ⟨rfl, hb11⟩
        go_wp2_with fail
        refine hK.out _ _ (by (try dsimp only); exact ⟨keep_cell hb11 hHeld.1, keep_cell hb11 hHeld.2.1, keep_cell hb11 hHeld.2.2.1, keep_lt hb11 hHeld.2.2.2.1, keep_cell hb11 hHeld.2.2.2.2.1, keep_cell hb11 hHeld.2.2.2.2.2.1, keep_cell hb11 hHeld.2.2.2.2.2.2.1, keep_cell hb11 hHeld.2.2.2.2.2.2.2.1, keep_cell hb11 hHeld.2.2.2.2.2.2.2.2.1, keep_lt hb11 hHeld.2.2.2.2.2.2.2.2.2.1, keep_cell hb11 hHeld.2.2.2.2.2.2.2.2.2.2.1, keep_cell hb11 hHeld.2.2.2.2.2.2.2.2.2.2.2.1, keep_cell hb11 hHeld.2.2.2.2.2.2.2.2.2.2.2.2.1, keep_lt hb11 hHeld.2.2.2.2.2.2.2.2.2.2.2.2.2.1, keep_cell hb11 hHeld.2.2.2.2.2.2.2.2.2.2.2.2.2.2.1, keep_cell hb11 hHeld.2.2.2.2.2.2.2.2.2.2.2.2.2.2.2.1, keep_cell hb11 hHeld.2.2.2.2.2.2.2.2.2.2.2.2.2.2.2.2.1, keep_lt hb11 hHeld.2.2.2.2.2.2.2.2.2.2.2.2.2.2.2.2.2.1, keep_cell hb11 hHeld.2.2.2.2.2.2.2.2.2.2.2.2.2.2.2.2.2.2.1, keep_cell hb11 hHeld.2.2.2.2.2.2.2.2.2.2.2.2.2.2.2.2.2.2.2.1, keep_cell hb11 hHeld.2.2.2.2.2.2.2.2.2.2.2.2.2.2.2.2.2.2.2.2.1, keep_cell hb11 hHeld.2.2.2.2.2.2.2.2.2.2.2.2.2.2.2.2.2.2.2.2.2.1, keep_cell hb11 hHeld.2.2.2.2.2.2.2.2.2.2.2.2.2.2.2.2.2.2.2.2.2.2.1, keep_lt hb11 hHeld.2.2.2.2.2.2.2.2.2.2.2.2.2.2.2.2.2.2.2.2.2.2.2.1, keep_cell hb11 hHeld.2.2.2.2.2.2.2.2.2.2.2.2.2.2.2.2.2.2.2.2.2.2.2.2.1, keep_cell hb11 hHeld.2.2.2.2.2.2.2.2.2.2.2.2.2.2.2.2.2.2.2.2.2.2.2.2.2.1, keep_cell hb11 hHeld.2.2.2.2.2.2.2.2.2.2.2.2.2.2.2.2.2.2.2.2.2.2.2.2.2.2.1, keep_lt hb11 hHeld.2.2.2.2.2.2.2.2.2.2.2.2.2.2.2.2.2.2.2.2.2.2.2.2.2.2.2.1, ex_trans hHeld.2.2.2.2.2.2.2.2.2.2.2.2.2.2.2.2.2.2.2.2.2.2.2.2.2.2.2.2.1 hb11, ex_trans hHeld.2.2.2.2.2.2.2.2.2.2.2.2.2.2.2.2.2.2.2.2.2.2.2.2.2.2.2.2.2.1 hb11, ex_trans hHeld.2.2.2.2.2.2.2.2.2.2.2.2.2.2.2.2.2.2.2.2.2.2.2.2.2.2.2.2.2.2.1 hb11, ex_trans hHeld.2.2.2.2.2.2.2.2.2.2.2.2.2.2.2.2.2.2.2.2.2.2.2.2.2.2.2.2.2.2.2.1 hb11, ex_trans hHeld.2.2.2.2.2.2.2.2.2.2.2.2.2.2.2.2.2.2.2.2.2.2.2.2.2.2.2.2.2.2.2.2 hb11⟩) (fun hNew => ?_)
        clear hK K hHeld
        have hHeld := hNew
        clear hNew
        try simp only [Act.put, List.setIfInBounds_toArray, List.set_cons_zero, List.set_cons_succ]
        first | (refine held_take 4 rfl (by kernel_rfl) (by kernel_rfl) (by kernel_rfl) (by rfl) (fun _ _ _ h => h) (by assumption) (by intro w hSw; (try dsimp only at hSw); go_simp; first | done | with_reducible rfl) ?_) | (refine held_skip 4 rfl (by kernel_rfl) (by kernel_rfl) (by kernel_rfl) (by rfl) (fun _ _ _ h => h) (by assumption) ?_)
        simp only [Act.put, List.setIfInBounds_toArray, List.set_cons_zero, List.set_cons_succ]
        refine wpAnyH_done (by kernel_rfl) ?_ _
        obtain ⟨x0_0', x0_1', x0_2', z0', x1_0', x1_1', x1_2', x1_3', x1_4', z1', x2_0', x2_1', x2_2', z2', x3_0', x3_1', x3_2', z3', x4_0', x4_1', x4_2', x4_3', x4_4', z4', x5_0', x5_1', x5_2', z5', hK0', hK5', hK6', hK7', hK8'⟩ := hHeld
        clear x0_0 x0_1 x0_2 z0 x1_0 x1_1 x1_2 x1_3 x1_4 z1 x2_0 x2_1 x2_2 z2 x3_0 x3_1 x3_2 z3 x4_0 x4_1 x4_2 x4_3 x4_4 z4 x5_0 x5_1 x5_2 z5 hK0 hK5 hK6 hK7 hK8
        have x0_0 := x0_0'
        clear x0_0'
        have x0_1 := x0_1'
        clear x0_1'
        have x0_2 := x0_2'
        clear x0_2'
        have z0 := z0'
        clear z0'
        have x1_0 := x1_0'
        clear x1_0'
        have x1_1 := x1_1'
        clear x1_1'
        have x1_2 := x1_2'
        clear x1_2'
        have x1_3 := x1_3'
        clear x1_3'
        have x1_4 := x1_4'
        clear x1_4'
        have z1 := z1'
        clear z1'
        have x2_0 := x2_0'
        clear x2_0'
        have x2_1 := x2_1'
        clear x2_1'
        have x2_2 := x2_2'
        clear x2_2'
        have z2 := z2'
        clear z2'
        have x3_0 := x3_0'
        clear x3_0'
        have x3_1 := x3_1'
        clear x3_1'
        have x3_2 := x3_2'
        clear x3_2'
        have z3 := z3'
        clear z3'
        have x4_0 := x4_0'
        clear x4_0'
        have x4_1 := x4_1'
        clear x4_1'
        have x4_2 := x4_2'
        clear x4_2'
        have x4_3 := x4_3'
        clear x4_3'
        have x4_4 := x4_4'
        clear x4_4'
        have z4 := z4'
        clear z4'
        have x5_0 := x5_0'
        clear x5_0'
        have x5_1 := x5_1'
        clear x5_1'
        have x5_2 := x5_2'
        clear x5_2'
        have z5 := z5'
        clear z5'
        have hK0 := hK0'
        clear hK0'
        have hK5 := hK5'
        clear hK5'
        have hK6 := hK6'
        clear hK6'
        have hK7 := hK7'
        clear hK7'
        have hK8 := hK8'
        clear hK8'
        have hK10 : Below w10.heap.size w10 w11 := (ex_trans (Below.refl _ _) hb11)
        go_wp2_with fail
        refine wp_region_held_drew (S := (fun w' => w'.cell? ⟨W.heap.size, 0, none⟩ = some (.slice A0 s0.schema.length c0) ∧ w'.cell? ⟨W.heap.size, 1, none⟩ = some (.slice B0 s0.files.length d0) ∧ w'.cell? ⟨W.heap.size, 2, none⟩ = some (.int .i64 s0.next) ∧ W.heap.size < w'.heap.size ∧ w'.cell? ⟨W.heap.size + 1, 0, none⟩ = some (.int .i64 f1.id) ∧ w'.cell? ⟨W.heap.size + 1, 1, none⟩ = some (.int .i64 f1.owner) ∧ w'.cell? ⟨W.heap.size + 1, 2, none⟩ = some (.bool f1.shared) ∧ w'.cell? ⟨W.heap.size + 1, 3, none⟩ = some (.int .i64 f1.link) ∧ w'.cell? ⟨W.heap.size + 1, 4, none⟩ = some (.slice A1 f1.attrs.length c1) ∧ W.heap.size + 1 < w'.heap.size ∧ w'.cell? ⟨g5, 0, none⟩ = some (.slice A105 r0.schema.length c105) ∧ w'.cell? ⟨g5, 1, none⟩ = some (.slice B105 r0.files.length d105) ∧ w'.cell? ⟨g5, 2, none⟩ = some (.int .i64 r0.next) ∧ g5 < w'.heap.size ∧ w'.cell? ⟨w6.heap.size, 0, none⟩ = some (.slice A'6 s0.schema.length c'6) ∧ w'.cell? ⟨w6.heap.size, 1, none⟩ = some (.slice B'6 s0.files.length d'6) ∧ w'.cell? ⟨w6.heap.size, 2, none⟩ = some (.int .i64 s0.next) ∧ w6.heap.size < w'.heap.size ∧ w'.cell? ⟨w7.heap.size, 0, none⟩ = some (.int .i64 f1.id) ∧ w'.cell? ⟨w7.heap.size, 1, none⟩ = some (.int .i64 f1.owner) ∧ w'.cell? ⟨w7.heap.size, 2, none⟩ = some (.bool f1.shared) ∧ w'.cell? ⟨w7.heap.size, 3, none⟩ = some (.int .i64 f1.link) ∧ w'.cell? ⟨w7.heap.size, 4, none⟩ = some (.slice A'7 f1.attrs.length c'7) ∧ w7.heap.size < w'.heap.size ∧ w'.cell? ⟨w8.heap.size, 0, none⟩ = some (.slice A108 r0.schema.length c108) ∧ w'.cell? ⟨w8.heap.size, 1, none⟩ = some (.slice B108 r0.files.length d108) ∧ w'.cell? ⟨w8.heap.size, 2, none⟩ = some (.int .i64 r0.next) ∧ w8.heap.size < w'.heap.size ∧ Below W.heap.size W w' ∧ Below w5.heap.size w5 w' ∧ Below w6.heap.size w6 w' ∧ Below w7.heap.size w7 w' ∧ Below w8.heap.size w8 w' ∧ Below w10.heap.size w10 w')) (by kernel_rfl) (by (try dsimp only); exact ⟨x0_0, x0_1, x0_2, z0, x1_0, x1_1, x1_2, x1_3, x1_4, z1, x2_0, x2_1, x2_2, z2, x3_0, x3_1, x3_2, z3, x4_0, x4_1, x4_2, x4_3, x4_4, z4, x5_0, x5_1, x5_2, z5, (hK0).drew, (hK5).drew, (hK6).drew, (hK7).drew, (hK8).drew, (hK10).drew⟩) (fun hHeld => ?_)
        first | (refine held_take 0 rfl (by kernel_rfl) (by kernel_rfl) (by kernel_rfl) (by rfl) (fun _ _ _ h => h) (by assumption) (by intro w hSw; (try dsimp only at hSw); go_simp; first | done | with_reducible rfl) ?_) | (refine held_skip 0 rfl (by kernel_rfl) (by kernel_rfl) (by kernel_rfl) (by rfl) (fun _ _ _ h => h) (by assumption) ?_)
        simp only [Act.put, List.setIfInBounds_toArray, List.set_cons_zero, List.set_cons_succ]
        first | (refine held_take 1 rfl (by kernel_rfl) (by kernel_rfl) (by kernel_rfl) (by rfl) (fun _ _ _ h => h) (by assumption) (by intro w hSw; (try dsimp only at hSw); go_simp; first | done | with_reducible rfl) ?_) | (refine held_skip 1 rfl (by kernel_rfl) (by kernel_rfl) (by kernel_rfl) (by rfl) (fun _ _ _ h => h) (by assumption) ?_)
        simp only [Act.put, List.setIfInBounds_toArray, List.set_cons_zero, List.set_cons_succ]
        refine held_one 2 (by kernel_rfl) rfl (fun K hK => ?_)
        go_simp
        go_at_call 25
        refine (laws_toFile f1 A1 f1.attrs.length c1 _ (hS1.mono mAtr hHeld.2.2.2.2.2.2.2.2.2.2.2.2.2.2.2.2.2.2.2.2.2.2.2.2.2.2.2.2.1) hk1).mono ?_; rintro e w12 hN12
        obtain ⟨A'12, c'12, bs12, rfl, hcc12, hW12, hF12, hb12⟩ := hN12.out
        have hL12 := Lib.hid (hW12.lt lAtr)
        have hR12 := hW12.sl (R := RAtr) (fun h => h.1)
        go_wp2_with fail
        refine hK.out _ _ (by (try dsimp only); exact ⟨keep_cell hb12 hHeld.1, keep_cell hb12 hHeld.2.1, keep_cell hb12 hHeld.2.2.1, keep_lt hb12 hHeld.2.2.2.1, keep_cell hb12 hHeld.2.2.2.2.1, keep_cell hb12 hHeld.2.2.2.2.2.1, keep_cell hb12 hHeld.2.2.2.2.2.2.1, keep_cell hb12 hHeld.2.2.2.2.2.2.2.1, keep_cell hb12 hHeld.2.2.2.2.2.2.2.2.1, keep_lt hb12 hHeld.2.2.2.2.2.2.2.2.2.1, keep_cell hb12 hHeld.2.2.2.2.2.2.2.2.2.2.1, keep_cell hb12 hHeld.2.2.2.2.2.2.2.2.2.2.2.1, keep_cell hb12 hHeld.2.2.2.2.2.2.2.2.2.2.2.2.1, keep_lt hb12 hHeld.2.2.2.2.2.2.2.2.2.2.2.2.2.1, keep_cell hb12 hHeld.2.2.2.2.2.2.2.2.2.2.2.2.2.2.1, keep_cell hb12 hHeld.2.2.2.2.2.2.2.2.2.2.2.2.2.2.2.1, keep_cell hb12 hHeld.2.2.2.2.2.2.2.2.2.2.2.2.2.2.2.2.1, keep_lt hb12 hHeld.2.2.2.2.2.2.2.2.2.2.2.2.2.2.2.2.2.1, keep_cell hb12 hHeld.2.2.2.2.2.2.2.2.2.2.2.2.2.2.2.2.2.2.1, keep_cell hb12 hHeld.2.2.2.2.2.2.2.2.2.2.2.2.2.2.2.2.2.2.2.1, keep_cell hb12 hHeld.2.2.2.2.2.2.2.2.2.2.2.2.2.2.2.2.2.2.2.2.1, keep_cell hb12 hHeld.2.2.2.2.2.2.2.2.2.2.2.2.2.2.2.2.2.2.2.2.2.1, keep_cell hb12 hHeld.2.2.2.2.2.2.2.2.2.2.2.2.2.2.2.2.2.2.2.2.2.2.1, keep_lt hb12 hHeld.2.2.2.2.2.2.2.2.2.2.2.2.2.2.2.2.2.2.2.2.2.2.2.1, keep_cell hb12 hHeld.2.2.2.2.2.2.2.2.2.2.2.2.2.2.2.2.2.2.2.2.2.2.2.2.1, keep_cell hb12 hHeld.2.2.2.2.2.2.2.2.2.2.2.2.2.2.2.2.2.2.2.2.2.2.2.2.2.1, keep_cell hb12 hHeld.2.2.2.2.2.2.2.2.2.2.2.2.2.2.2.2.2.2.2.2.2.2.2.2.2.2.1, keep_lt hb12 hHeld.2.2.2.2.2.2.2.2.2.2.2.2.2.2.2.2.2.2.2.2.2.2.2.2.2.2.2.1, ex_trans hHeld.2.2.2.2.2.2.2.2.2.2.2.2.2.2.2.2.2.2.2.2.2.2.2.2.2.2.2.2.1 hb12, ex_trans hHeld.2.2.2.2.2.2.2.2.2.2.2.2.2.2.2.2.2.2.2.2.2.2.2.2.2.2.2.2.2.1 hb12, ex_trans hHeld.2.2.2.2.2.2.2.2.2.2.2.2.2.2.2.2.2.2.2.2.2.2.2.2.2.2.2.2.2.2.1 hb12, ex_trans hHeld.2.2.2.2.2.2.2.2.2.2.2.2.2.2.2.2.2.2.2.2.2.2.2.2.2.2.2.2.2.2.2.1 hb12, ex_trans hHeld.2.2.2.2.2.2.2.2.2.2.2.2.2.2.2.2.2.2.2.2.2.2.2.2.2.2.2.2.2.2.2.2.1 hb12, ex_trans hHeld.2.2.2.2.2.2.2.2.2.2.2.2.2.2.2.2.2.2.2.2.2.2.2.2.2.2.2.2.2.2.2.2.2 hb12⟩) (fun hNew => ?_)
        clear hK K hHeld
        have hHeld := hNew
        clear hNew
        try simp only [Act.put, List.setIfInBounds_toArray, List.set_cons_zero, List.set_cons_succ]
        refine held_one 3 (by kernel_rfl) rfl (fun K hK => ?_)
        go_simp
        go_at_call 28
        refine (laws_eqFile_same f1 A'7 f1.attrs.length c'7 A'12 f1.attrs.length c'12 _ (hR7.mono mAtr hHeld.2.2.2.2.2.2.2.2.2.2.2.2.2.2.2.2.2.2.2.2.2.2.2.2.2.2.2.2.2.2.2.1) (hR12.mono mAtr (Below.refl _ _)) hk1).mono ?_; rintro e w13 ⟨rfl, hb13⟩
        go_wp2_with fail
        refine hK.out _ _ (by (try dsimp only); exact ⟨keep_cell hb13 hHeld.1, keep_cell hb13 hHeld.2.1, keep_cell hb13 hHeld.2.2.1, keep_lt hb13 hHeld.2.2.2.1, keep_cell hb13 hHeld.2.2.2.2.1, keep_cell hb13 hHeld.2.2.2.2.2.1, keep_cell hb13 hHeld.2.2.2.2.2.2.1, keep_cell hb13 hHeld.2.2.2.2.2.2.2.1, keep_cell hb13 hHeld.2.2.2.2.2.2.2.2.1, keep_lt hb13 hHeld.2.2.2.2.2.2.2.2.2.1, keep_cell hb13 hHeld.2.2.2.2.2.2.2.2.2.2.1, keep_cell hb13 hHeld.2.2.2.2.2.2.2.2.2.2.2.1, keep_cell hb13 hHeld.2.2.2.2.2.2.2.2.2.2.2.2.1, keep_lt hb13 hHeld.2.2.2.2.2.2.2.2.2.2.2.2.2.1, keep_cell hb13 hHeld.2.2.2.2.2.2.2.2.2.2.2.2.2.2.1, keep_cell hb13 hHeld.2.2.2.2.2.2.2.2.2.2.2.2.2.2.2.1, keep_cell hb13 hHeld.2.2.2.2.2.2.2.2.2.2.2.2.2.2.2.2.1, keep_lt hb13 hHeld.2.2.2.2.2.2.2.2.2.2.2.2.2.2.2.2.2.1, keep_cell hb13 hHeld.2.2.2.2.2.2.2.2.2.2.2.2.2.2.2.2.2.2.1, keep_cell hb13 hHeld.2.2.2.2.2.2.2.2.2.2.2.2.2.2.2.2.2.2.2.1, keep_cell hb13 hHeld.2.2.2.2.2.2.2.2.2.2.2.2.2.2.2.2.2.2.2.2.1, keep_cell hb13 hHeld.2.2.2.2.2.2.2.2.2.2.2.2.2.2.2.2.2.2.2.2.2.1, keep_cell hb13 hHeld.2.2.2.2.2.2.2.2.2.2.2.2.2.2.2.2.2.2.2.2.2.2.1, keep_lt hb13 hHeld.2.2.2.2.2.2.2.2.2.2.2.2.2.2.2.2.2.2.2.2.2.2.2.1, keep_cell hb13 hHeld.2.2.2.2.2.2.2.2.2.2.2.2.2.2.2.2.2.2.2.2.2.2.2.2.1, keep_cell hb13 hHeld.2.2.2.2.2.2.2.2.2.2.2.2.2.2.2.2.2.2.2.2.2.2.2.2.2.1, keep_cell hb13 hHeld.2.2.2.2.2.2.2.2.2.2.2.2.2.2.2.2.2.2.2.2.2.2.2.2.2.2.1, keep_lt hb13 hHeld.2.2.2.2.2.2.2.2.2.2.2.2.2.2.2.2.2.2.2.2.2.2.2.2.2.2.2.1, ex_trans hHeld.2.2.2.2.2.2.2.2.2.2.2.2.2.2.2.2.2.2.2.2.2.2.2.2.2.2.2.2.1 hb13, ex_trans hHeld.2.2.2.2.2.2.2.2.2.2.2.2.2.2.2.2.2.2.2.2.2.2.2.2.2.2.2.2.2.1 hb13, ex_trans hHeld.2.2.2.2.2.2.2.2.2.2.2.2.2.2.2.2.2.2.2.2.2.2.2.2.2.2.2.2.2.2.1 hb13, ex_trans hHeld.2.2.2.2.2.2.2.2.2.2.2.2.2.2.2.2.2.2.2.2.2.2.2.2.2.2.2.2.2.2.2.1 hb13, ex_trans hHeld.2.2.2.2.2.2.2.2.2.2.2.2.2.2.2.2.2.2.2.2.2.2.2.2.2.2.2.2.2.2.2.2.1 hb13, ex_trans hHeld.2.2.2.2.2.2.2.2.2.2.2.2.2.2.2.2.2.2.2.2.2.2.2.2.2.2.2.2.2.2.2.2.2 hb13⟩) (fun hNew => ?_)
        clear hK K hHeld
        have hHeld := hNew
        clear hNew
        try simp only [Act.put, List.setIfInBounds_toArray, List.set_cons_zero, List.set_cons_succ]
        first | (refine held_take 4 rfl (by kernel_rfl) (by kernel_rfl) (by kernel_rfl) (by rfl) (fun _ _ _ h => h) (by assumption) (by intro w hSw; (try dsimp only at hSw); go_simp; first | done | with_reducible rfl) ?_) | (refine held_skip 4 rfl (by kernel_rfl) (by kernel_rfl) (by kernel_rfl) (by rfl) (fun _ _ _ h => h) (by assumption) ?_)
        simp only [Act.put, List.setIfInBounds_toArray, List.set_cons_zero, List.set_cons_succ]
        refine wpAnyH_done (by kernel_rfl) ?_ _
        obtain ⟨x0_0', x0_1', x0_2', z0', x1_0', x1_1', x1_2', x1_3', x1_4', z1', x2_0', x2_1', x2_2', z2', x3_0', x3_1', x3_2', z3', x4_0', x4_1', x4_2', x4_3', x4_4', z4', x5_0', x5_1', x5_2', z5', hK0', hK5', hK6', hK7', hK8', hK10'⟩ := hHeld
        clear x0_0 x0_1 x0_2 z0 x1_0 x1_1 x1_2 x1_3 x1_4 z1 x2_0 x2_1 x2_2 z2 x3_0 x3_1 x3_2 z3 x4_0 x4_1 x4_2 x4_3 x4_4 z4 x5_0 x5_1 x5_2 z5 hK0 hK5 hK6 hK7 hK8 hK10
        have x0_0 := x0_0'
        clear x0_0'
        have x0_1 := x0_1'
        clear x0_1'
        have x0_2 := x0_2'
        clear x0_2'
        have z0 := z0'
        clear z0'
        have x1_0 := x1_0'
        clear x1_0'
        have x1_1 := x1_1'
        clear x1_1'
        have x1_2 := x1_2'
        clear x1_2'
        have x1_3 := x1_3'
        clear x1_3'
        have x1_4 := x1_4'
        clear x1_4'
        have z1 := z1'
        clear z1'
        have x2_0 := x2_0'
        clear x2_0'
        have x2_1 := x2_1'
        clear x2_1'
        have x2_2 := x2_2'
        clear x2_2'
        have z2 := z2'
        clear z2'
        have x3_0 := x3_0'
        clear x3_0'
        have x3_1 := x3_1'
        clear x3_1'
        have x3_2 := x3_2'
        clear x3_2'
        have z3 := z3'
        clear z3'
        have x4_0 := x4_0'
        clear x4_0'
        have x4_1 := x4_1'
        clear x4_1'
        have x4_2 := x4_2'
        clear x4_2'
        have x4_3 := x4_3'
        clear x4_3'
        have x4_4 := x4_4'
        clear x4_4'
        have z4 := z4'
        clear z4'
        have x5_0 := x5_0'
        clear x5_0'
        have x5_1 := x5_1'
        clear x5_1'
        have x5_2 := x5_2'
        clear x5_2'
        have z5 := z5'
        clear z5'
        have hK0 := hK0'
        clear hK0'
        have hK5 := hK5'
        clear hK5'
        have hK6 := hK6'
        clear hK6'
        have hK7 := hK7'
        clear hK7'
        have hK8 := hK8'
        clear hK8'
        have hK10 := hK10'
        clear hK10'
        have hK12 : Below w12.heap.size w12 w13 := (ex_trans (Below.refl _ _) hb13)
        go_wp2_with fail
        refine (laws_markStore s0 A'6 s0.schema.length c'6 B'6 s0.files.length d'6 _ _ 1 _ (hW6.below lFld (ex_trans hK6 (by go_grown))) (hX6.below (lFil _) (ex_trans hK6 (by go_grown))) hF6.1 (by omega) (by omega) (Nat.le_trans hcnt0 (by omega)) (by omega) (by omega)).mono ?_; rintro e w14 ⟨rfl, hW6', hX6', hc14⟩
        replace hW6 := hW6'
        replace hX6 := hX6'
        have hkt14 : 1 ≤ kat 4 (s0.files.map (·.cnt)) (1 + 2 * s0.schema.length) s0.files.length ∧ kat 4 (s0.files.map (·.cnt)) (1 + 2 * s0.schema.length) s0.files.length ≤ 1 + 2 * s0.schema.length + 4 * s0.files.length + 4 * 1073741824 := ⟨by unfold kat; omega, Nat.le_trans (kat_le 4 _ _ (by simp)) (by have h := (show (s0.files.map (·.cnt)).sum ≤ 1073741824 from (Nat.le_trans hcnt0 (by omega))); simp only [List.length_map]; omega)⟩
        replace hK0 := Below.mark hK0 hc14 hK0.size hG6_0.out
        replace hK5 := Below.mark hK5 hc14 hK5.size hG6_5.out
        replace x0_0 := hc14.cell x0_0 hN6_0.out
        replace x0_1 := hc14.cell x0_1 hN6_0.out
        replace x0_2 := hc14.cell x0_2 hN6_0.out
        replace z0 := Nat.lt_of_lt_of_le z0 hc14.size
        replace x1_0 := hc14.cell x1_0 hN6_1.out
        replace x1_1 := hc14.cell x1_1 hN6_1.out
        replace x1_2 := hc14.cell x1_2 hN6_1.out
        replace x1_3 := hc14.cell x1_3 hN6_1.out
        replace x1_4 := hc14.cell x1_4 hN6_1.out
        replace z1 := Nat.lt_of_lt_of_le z1 hc14.size
        replace x2_0 := hc14.cell x2_0 hN6_2.out
        replace x2_1 := hc14.cell x2_1 hN6_2.out
        replace x2_2 := hc14.cell x2_2 hN6_2.out
        replace z2 := Nat.lt_of_lt_of_le z2 hc14.size
        replace x3_0 := hc14.cell x3_0 hN6_3.out
        replace x3_1 := hc14.cell x3_1 hN6_3.out
        replace x3_2 := hc14.cell x3_2 hN6_3.out
        replace z3 := Nat.lt_of_lt_of_le z3 hc14.size
        replace x4_0 := hc14.cell x4_0 hN6_4.out
        replace x4_1 := hc14.cell x4_1 hN6_4.out
        replace x4_2 := hc14.cell x4_2 hN6_4.out
        replace x4_3 := hc14.cell x4_3 hN6_4.out
        replace x4_4 := hc14.cell x4_4 hN6_4.out
        replace z4 := Nat.lt_of_lt_of_le z4 hc14.size
        replace x5_0 := hc14.cell x5_0 hN6_5.out
        replace x5_1 := hc14.cell x5_1 hN6_5.out
        replace x5_2 := hc14.cell x5_2 hN6_5.out
        replace z5 := Nat.lt_of_lt_of_le z5 hc14.size
        replace hW7 := (hW7.below lAtr hK7).loc lAtr (fun b hb => hc14.block b (Nat.lt_of_lt_of_le (hL7.out b hb) hK7.size) (hD7_6.out b hb))
        replace hL7 : Hid (∀ b ∈ bs7, b < w14.heap.size) := Lib.hid (fun b hb => Nat.lt_of_lt_of_le (hL7.out b hb) (Nat.le_trans hK7.size hc14.size))
        have hHR14_hW7 := hW7.sl (R := RAtr) (fun h => h.1)
        replace hW8 := (hW8.below lFld hK8).loc lFld (fun b hb => hc14.block b (Nat.lt_of_lt_of_le (hL8.out b (List.mem_append_left _ hb)) hK8.size) (hD8_6.out b (List.mem_append_left _ hb)))
        replace hX8 := (hX8.below (lFil _) hK8).loc (lFil _) (fun b hb => hc14.block b (Nat.lt_of_lt_of_le (hL8.out b (List.mem_append_right _ hb)) hK8.size) (hD8_6.out b (List.mem_append_right _ hb)))
        replace hL8 : Hid (∀ b ∈ (bs8 ++ bt8), b < w14.heap.size) := Lib.hid (fun b hb => Nat.lt_of_lt_of_le (hL8.out b hb) (Nat.le_trans hK8.size hc14.size))
        have hHR14_hW8 := hW8.sl (R := RFld) (fun h => h.1)
        have hHR14_hX8 := hX8.sl (R := RFil) (fun h => h.r)
        have hK14 := Below.refl w14.heap.size w14
        -- marked
        have hMR14_hW6 := hW6.sl (R := RFld) (fun h => h.1)
        have hMR14_hX6 := hX6.sl (R := RFil) (fun h => h.r)
        go_wp2_with fail
        refine (laws_markFile f1 A'7 f1.attrs.length c'7 _ (kat 4 (s0.files.map (·.cnt)) (1 + 2 * s0.schema.length) s0.files.length) _ (hW7.below lAtr (ex_trans hK14 (by go_grown))) hF7.1 (by omega) (by omega) (by omega)).mono ?_; rintro e w15 ⟨rfl, hW7', hc15⟩
        replace hW7 := hW7'
        replace hK0 := Below.mark hK0 hc15 hK0.size hG7_0.out
        replace hK5 := Below.mark hK5 hc15 hK5.size hG7_5.out
        replace x0_0 := hc15.cell x0_0 hN7_0.out
        replace x0_1 := hc15.cell x0_1 hN7_0.out
        replace x0_2 := hc15.cell x0_2 hN7_0.out
        replace z0 := Nat.lt_of_lt_of_le z0 hc15.size
        replace x1_0 := hc15.cell x1_0 hN7_1.out
        replace x1_1 := hc15.cell x1_1 hN7_1.out
        replace x1_2 := hc15.cell x1_2 hN7_1.out
        replace x1_3 := hc15.cell x1_3 hN7_1.out
        replace x1_4 := hc15.cell x1_4 hN7_1.out
        replace z1 := Nat.lt_of_lt_of_le z1 hc15.size
        replace x2_0 := hc15.cell x2_0 hN7_2.out
        replace x2_1 := hc15.cell x2_1 hN7_2.out
        replace x2_2 := hc15.cell x2_2 hN7_2.out
        replace z2 := Nat.lt_of_lt_of_le z2 hc15.size
        replace x3_0 := hc15.cell x3_0 hN7_3.out
        replace x3_1 := hc15.cell x3_1 hN7_3.out
        replace x3_2 := hc15.cell x3_2 hN7_3.out
        replace z3 := Nat.lt_of_lt_of_le z3 hc15.size
        replace x4_0 := hc15.cell x4_0 hN7_4.out
        replace x4_1 := hc15.cell x4_1 hN7_4.out
        replace x4_2 := hc15.cell x4_2 hN7_4.out
        replace x4_3 := hc15.cell x4_3 hN7_4.out
        replace x4_4 := hc15.cell x4_4 hN7_4.out
        replace z4 := Nat.lt_of_lt_of_le z4 hc15.size
        replace x5_0 := hc15.cell x5_0 hN7_5.out
        replace x5_1 := hc15.cell x5_1 hN7_5.out
        replace x5_2 := hc15.cell x5_2 hN7_5.out
        replace z5 := Nat.lt_of_lt_of_le z5 hc15.size
        replace hW8 := (hW8.below lFld hK14).loc lFld (fun b hb => hc15.block b (Nat.lt_of_lt_of_le (hL8.out b (List.mem_append_left _ hb)) hK14.size) (hD8_7.out b (List.mem_append_left _ hb)))
        replace hX8 := (hX8.below (lFil _) hK14).loc (lFil _) (fun b hb => hc15.block b (Nat.lt_of_lt_of_le (hL8.out b (List.mem_append_right _ hb)) hK14.size) (hD8_7.out b (List.mem_append_right _ hb)))
        replace hL8 : Hid (∀ b ∈ (bs8 ++ bt8), b < w15.heap.size) := Lib.hid (fun b hb => Nat.lt_of_lt_of_le (hL8.out b hb) (Nat.le_trans hK14.size hc15.size))
        have hHR15_hW8 := hW8.sl (R := RFld) (fun h => h.1)
        have hHR15_hX8 := hX8.sl (R := RFil) (fun h => h.r)
        have hK15 := Below.refl w15.heap.size w15
        -- marked
        have hMR15_hW7 := hW7.sl (R := RAtr) (fun h => h.1)
        go_wp2_with fail
        refine (laws_eqStore_same r0 A108 r0.schema.length c108 B108 r0.files.length d108 A105 r0.schema.length c105 B105 r0.files.length d105 _ (hHR15_hW8.mono mFld (ex_trans hK15 (by go_grown))) (hHR15_hX8.mono mFil (ex_trans hK15 (by go_grown))) (hR5.mono mFld (ex_trans hK5 (by go_grown))) (hQ5.mono mFil (ex_trans hK5 (by go_grown))) hok0).mono ?_; rintro e w16 ⟨rfl, hb16⟩
        have hx16 : Below w15.heap.size w15 w16 := ex_trans (by go_grown) hb16
        replace hK0 := ex_trans hK0 hx16
        replace hK5 := ex_trans hK5 hx16
        replace hK15 := ex_trans hK15 hx16
        replace x0_0 := keep_cell hx16 x0_0
        replace x0_1 := keep_cell hx16 x0_1
        replace x0_2 := keep_cell hx16 x0_2
        replace z0 := keep_lt hx16 z0
        replace x1_0 := keep_cell hx16 x1_0
        replace x1_1 := keep_cell hx16 x1_1
        replace x1_2 := keep_cell hx16 x1_2
        replace x1_3 := keep_cell hx16 x1_3
        replace x1_4 := keep_cell hx16 x1_4
        replace z1 := keep_lt hx16 z1
        replace x2_0 := keep_cell hx16 x2_0
        replace x2_1 := keep_cell hx16 x2_1
        replace x2_2 := keep_cell hx16 x2_2
        replace z2 := keep_lt hx16 z2
        replace x3_0 := keep_cell hx16 x3_0
        replace x3_1 := keep_cell hx16 x3_1
        replace x3_2 := keep_cell hx16 x3_2
        replace z3 := keep_lt hx16 z3
        replace x4_0 := keep_cell hx16 x4_0
        replace x4_1 := keep_cell hx16 x4_1
        replace x4_2 := keep_cell hx16 x4_2
        replace x4_3 := keep_cell hx16 x4_3
        replace x4_4 := keep_cell hx16 x4_4
        replace z4 := keep_lt hx16 z4
        replace x5_0 := keep_cell hx16 x5_0
        replace x5_1 := keep_cell hx16 x5_1
        replace x5_2 := keep_cell hx16 x5_2
        replace z5 := keep_lt hx16 z5
        go_wp2_with fail
        refine (laws_markStore r0 A108 r0.schema.length c108 B108 r0.files.length d108 _ _ 1 _ (hW8.below lFld (ex_trans hK15 (by go_grown))) (hX8.below (lFil _) (ex_trans hK15 (by go_grown))) hF8.1 (by omega) (by omega) hcr0 (by omega) (by omega)).mono ?_; rintro e w17 ⟨rfl, hW8', hX8', hc17⟩
        replace hW8 := hW8'
        replace hX8 := hX8'
        have hkt17 : 1 ≤ kat 4 (r0.files.map (·.cnt)) (1 + 2 * r0.schema.length) r0.files.length ∧ kat 4 (r0.files.map (·.cnt)) (1 + 2 * r0.schema.length) r0.files.length ≤ 1 + 2 * r0.schema.length + 4 * r0.files.length + 4 * 1073741824 := ⟨by unfold kat; omega, Nat.le_trans (kat_le 4 _ _ (by simp)) (by have h := (show (r0.files.map (·.cnt)).sum ≤ 1073741824 from hcr0); simp only [List.length_map]; omega)⟩
        replace hK0 := Below.mark hK0 hc17 hK0.size hG8_0.out
        replace hK5 := Below.mark hK5 hc17 hK5.size hG8_5.out
        replace x0_0 := hc17.cell x0_0 hN8_0.out
        replace x0_1 := hc17.cell x0_1 hN8_0.out
        replace x0_2 := hc17.cell x0_2 hN8_0.out
        replace z0 := Nat.lt_of_lt_of_le z0 hc17.size
        replace x1_0 := hc17.cell x1_0 hN8_1.out
        replace x1_1 := hc17.cell x1_1 hN8_1.out
        replace x1_2 := hc17.cell x1_2 hN8_1.out
        replace x1_3 := hc17.cell x1_3 hN8_1.out
        replace x1_4 := hc17.cell x1_4 hN8_1.out
        replace z1 := Nat.lt_of_lt_of_le z1 hc17.size
        replace x2_0 := hc17.cell x2_0 hN8_2.out
        replace x2_1 := hc17.cell x2_1 hN8_2.out
        replace x2_2 := hc17.cell x2_2 hN8_2.out
        replace z2 := Nat.lt_of_lt_of_le z2 hc17.size
        replace x3_0 := hc17.cell x3_0 hN8_3.out
        replace x3_1 := hc17.cell x3_1 hN8_3.out
        replace x3_2 := hc17.cell x3_2 hN8_3.out
        replace z3 := Nat.lt_of_lt_of_le z3 hc17.size
        replace x4_0 := hc17.cell x4_0 hN8_4.out
        replace x4_1 := hc17.cell x4_1 hN8_4.out
        replace x4_2 := hc17.cell x4_2 hN8_4.out
        replace x4_3 := hc17.cell x4_3 hN8_4.out
        replace x4_4 := hc17.cell x4_4 hN8_4.out
        replace z4 := Nat.lt_of_lt_of_le z4 hc17.size
        replace x5_0 := hc17.cell x5_0 hN8_5.out
        replace x5_1 := hc17.cell x5_1 hN8_5.out
        replace x5_2 := hc17.cell x5_2 hN8_5.out
        replace z5 := Nat.lt_of_lt_of_le z5 hc17.size
        have hK17 := Below.refl w17.heap.size w17
        -- marked
        have hMR17_hW8 := hW8.sl (R := RFld) (fun h => h.1)
        have hMR17_hX8 := hX8.sl (R := RFil) (fun h => h.r)
        go_wp2_with fail
        refine (laws_heldStore r0 A108 r0.schema.length c108 B108 r0.files.length d108 (r0.files.map (·.cnt)) 1 _ (hMR17_hW8.mono mFld (ex_trans hK17 (by go_grown))) (hMR17_hX8.mono mFil (ex_trans hK17 (by go_grown))) (by omega) (by omega) hcr0 (by omega) (by omega)).mono ?_; rintro e w18 ⟨rfl, hb18⟩
        have hx18 : Below w17.heap.size w17 w18 := ex_trans (by go_grown) hb18
        replace hK0 := ex_trans hK0 hx18
        replace hK5 := ex_trans hK5 hx18
        replace hK17 := ex_trans hK17 hx18
        replace x0_0 := keep_cell hx18 x0_0
        replace x0_1 := keep_cell hx18 x0_1
        replace x0_2 := keep_cell hx18 x0_2
        replace z0 := keep_lt hx18 z0
        replace x1_0 := keep_cell hx18 x1_0
        replace x1_1 := keep_cell hx18 x1_1
        replace x1_2 := keep_cell hx18 x1_2
        replace x1_3 := keep_cell hx18 x1_3
        replace x1_4 := keep_cell hx18 x1_4
        replace z1 := keep_lt hx18 z1
        replace x2_0 := keep_cell hx18 x2_0
        replace x2_1 := keep_cell hx18 x2_1
        replace x2_2 := keep_cell hx18 x2_2
        replace z2 := keep_lt hx18 z2
        replace x3_0 := keep_cell hx18 x3_0
        replace x3_1 := keep_cell hx18 x3_1
        replace x3_2 := keep_cell hx18 x3_2
        replace z3 := keep_lt hx18 z3
        replace x4_0 := keep_cell hx18 x4_0
        replace x4_1 := keep_cell hx18 x4_1
        replace x4_2 := keep_cell hx18 x4_2
        replace x4_3 := keep_cell hx18 x4_3
        replace x4_4 := keep_cell hx18 x4_4
        replace z4 := keep_lt hx18 z4
        replace x5_0 := keep_cell hx18 x5_0
        replace x5_1 := keep_cell hx18 x5_1
        replace x5_2 := keep_cell hx18 x5_2
        replace z5 := keep_lt hx18 z5
        go_upto_region 31 with fail
        have hK931 := Below.refl w18.heap.size w18
        go_cut [17, 18, 19] (fun sa17 sa18 sa19 w' => ∃ (g : Nat) (A121 : Option Addr) (c121 : Nat) (B121 : Option Addr) (d121 : Nat) (bs21 bt21 : List Nat), sa17 = .pointer (some ⟨g, 0, none⟩) ∧ sa18 = .int .i64 q0 ∧ sa19 = .bool q1 ∧ w18.heap.size ≤ g ∧ w'.heap[g]? = some (.cells #[.slice A121 r0.schema.length c121, .slice B121 r0.files.length d121, .int .i64 r0.next] 68 (0, 0)) ∧ OSl 31 2 OFld w' A121 r0.schema.length r0.schema bs21 ∧ OSl 45 5 (OFil 93) w' B121 r0.files.length r0.files bt21 ∧ Fresh w18 (bs21 ++ bt21) ∧ g ∉ (bs21 ++ bt21) ∧ (w'.cell? ⟨W.heap.size, 0, none⟩ = some (.slice A0 s0.schema.length c0) ∧ w'.cell? ⟨W.heap.size, 1, none⟩ = some (.slice B0 s0.files.length d0) ∧ w'.cell? ⟨W.heap.size, 2, none⟩ = some (.int .i64 s0.next) ∧ W.heap.size < w'.heap.size ∧ w'.cell? ⟨W.heap.size + 1, 0, none⟩ = some (.int .i64 f1.id) ∧ w'.cell? ⟨W.heap.size + 1, 1, none⟩ = some (.int .i64 f1.owner) ∧ w'.cell? ⟨W.heap.size + 1, 2, none⟩ = some (.bool f1.shared) ∧ w'.cell? ⟨W.heap.size + 1, 3, none⟩ = some (.int .i64 f1.link) ∧ w'.cell? ⟨W.heap.size + 1, 4, none⟩ = some (.slice A1 f1.attrs.length c1) ∧ W.heap.size + 1 < w'.heap.size ∧ w'.cell? ⟨g5, 0, none⟩ = some (.slice A105 r0.schema.length c105) ∧ w'.cell? ⟨g5, 1, none⟩ = some (.slice B105 r0.files.length d105) ∧ w'.cell? ⟨g5, 2, none⟩ = some (.int .i64 r0.next) ∧ g5 < w'.heap.size ∧ w'.cell? ⟨w6.heap.size, 0, none⟩ = some (.slice A'6 s0.schema.length c'6) ∧ w'.cell? ⟨w6.heap.size, 1, none⟩ = some (.slice B'6 s0.files.length d'6) ∧ w'.cell? ⟨w6.heap.size, 2, none⟩ = some (.int .i64 s0.next) ∧ w6.heap.size < w'.heap.size ∧ w'.cell? ⟨w7.heap.size, 0, none⟩ = some (.int .i64 f1.id) ∧ w'.cell? ⟨w7.heap.size, 1, none⟩ = some (.int .i64 f1.owner) ∧ w'.cell? ⟨w7.heap.size, 2, none⟩ = some (.bool f1.shared) ∧ w'.cell? ⟨w7.heap.size, 3, none⟩ = some (.int .i64 f1.link) ∧ w'.cell? ⟨w7.heap.size, 4, none⟩ = some (.slice A'7 f1.attrs.length c'7) ∧ w7.heap.size < w'.heap.size ∧ w'.cell? ⟨w8.heap.size, 0, none⟩ = some (.slice A108 r0.schema.length c108) ∧ w'.cell? ⟨w8.heap.size, 1, none⟩ = some (.slice B108 r0.files.length d108) ∧ w'.cell? ⟨w8.heap.size, 2, none⟩ = some (.int .i64 r0.next) ∧ w8.heap.size < w'.heap.size ∧ Below W.heap.size W w' ∧ Below w5.heap.size w5 w' ∧ Below w17.heap.size w17 w' ∧ Below w18.heap.size w18 w'))
        case first =>
          refine wp_region_held_drew (S := (fun w' => w'.cell? ⟨W.heap.size, 0, none⟩ = some (.slice A0 s0.schema.length c0) ∧ w'.cell? ⟨W.heap.size, 1, none⟩ = some (.slice B0 s0.files.length d0) ∧ w'.cell? ⟨W.heap.size, 2, none⟩ = some (.int .i64 s0.next) ∧ W.heap.size < w'.heap.size ∧ w'.cell? ⟨W.heap.size + 1, 0, none⟩ = some (.int .i64 f1.id) ∧ w'.cell? ⟨W.heap.size + 1, 1, none⟩ = some (.int .i64 f1.owner) ∧ w'.cell? ⟨W.heap.size + 1, 2, none⟩ = some (.bool f1.shared) ∧ w'.cell? ⟨W.heap.size + 1, 3, none⟩ = some (.int .i64 f1.link) ∧ w'.cell? ⟨W.heap.size + 1, 4, none⟩ = some (.slice A1 f1.attrs.length c1) ∧ W.heap.size + 1 < w'.heap.size ∧ w'.cell? ⟨g5, 0, none⟩ = some (.slice A105 r0.schema.length c105) ∧ w'.cell? ⟨g5, 1, none⟩ = some (.slice B105 r0.files.length d105) ∧ w'.cell? ⟨g5, 2, none⟩ = some (.int .i64 r0.next) ∧ g5 < w'.heap.size ∧ w'.cell? ⟨w6.heap.size, 0, none⟩ = some (.slice A'6 s0.schema.length c'6) ∧ w'.cell? ⟨w6.heap.size, 1, none⟩ = some (.slice B'6 s0.files.length d'6) ∧ w'.cell? ⟨w6.heap.size, 2, none⟩ = some (.int .i64 s0.next) ∧ w6.heap.size < w'.heap.size ∧ w'.cell? ⟨w7.heap.size, 0, none⟩ = some (.int .i64 f1.id) ∧ w'.cell? ⟨w7.heap.size, 1, none⟩ = some (.int .i64 f1.owner) ∧ w'.cell? ⟨w7.heap.size, 2, none⟩ = some (.bool f1.shared) ∧ w'.cell? ⟨w7.heap.size, 3, none⟩ = some (.int .i64 f1.link) ∧ w'.cell? ⟨w7.heap.size, 4, none⟩ = some (.slice A'7 f1.attrs.length c'7) ∧ w7.heap.size < w'.heap.size ∧ w'.cell? ⟨w8.heap.size, 0, none⟩ = some (.slice A108 r0.schema.length c108) ∧ w'.cell? ⟨w8.heap.size, 1, none⟩ = some (.slice B108 r0.files.length d108) ∧ w'.cell? ⟨w8.heap.size, 2, none⟩ = some (.int .i64 r0.next) ∧ w8.heap.size < w'.heap.size ∧ Below W.heap.size W w' ∧ Below w5.heap.size w5 w' ∧ Below w17.heap.size w17 w' ∧ Below w18.heap.size w18 w')) (by kernel_rfl) (by (try dsimp only); exact ⟨x0_0, x0_1, x0_2, z0, x1_0, x1_1, x1_2, x1_3, x1_4, z1, x2_0, x2_1, x2_2, z2, x3_0, x3_1, x3_2, z3, x4_0, x4_1, x4_2, x4_3, x4_4, z4, x5_0, x5_1, x5_2, z5, (hK0).drew, (hK5).drew, (hK17).drew, (hK931).drew⟩) (fun hHeld => ?_)
          first | (refine held_take 0 rfl (by kernel_rfl) (by kernel_rfl) (by kernel_rfl) (by rfl) (fun _ _ _ h => h) (by assumption) (by intro w hSw; (try dsimp only at hSw); go_simp; first | done | with_reducible rfl) ?_) | (refine held_skip 0 rfl (by kernel_rfl) (by kernel_rfl) (by kernel_rfl) (by rfl) (fun _ _ _ h => h) (by assumption) ?_)
          simp only [Act.put, List.setIfInBounds_toArray, List.set_cons_zero, List.set_cons_succ]
          first | (refine held_take 2 rfl (by kernel_rfl) (by kernel_rfl) (by kernel_rfl) (by rfl) (fun _ _ _ h => h) (by assumption) (by intro w hSw; (try dsimp only at hSw); go_simp; first | done | with_reducible rfl) ?_) | (refine held_skip 2 rfl (by kernel_rfl) (by kernel_rfl) (by kernel_rfl) (by rfl) (fun _ _ _ h => h) (by assumption) ?_)
          simp only [Act.put, List.setIfInBounds_toArray, List.set_cons_zero, List.set_cons_succ]
          refine held_two 1 9 (by kernel_rfl) rfl rfl (fun K hK => ?_) (fun K hK => ?_)
          · go_simp
            have hFB : w18.heap.size ≤ w18.heap.size := Nat.le_refl _
            go_at_call 40
            refine (laws_toStore s0 A0 s0.schema.length c0 B0 s0.files.length d0 _ (hS0.mono mFld hHeld.2.2.2.2.2.2.2.2.2.2.2.2.2.2.2.2.2.2.2.2.2.2.2.2.2.2.2.2.1) (hT0.mono mFil hHeld.2.2.2.2.2.2.2.2.2.2.2.2.2.2.2.2.2.2.2.2.2.2.2.2.2.2.2.2.1) hk0).mono ?_; rintro e w19 hN19
            obtain ⟨A'19, c'19, B'19, d'19, bs19, bt19, rfl, hcc19, hcd19, hW19, hX19, hF19, hb19⟩ := hN19.out
            have hL19 : Hid (∀ b ∈ bs19 ++ bt19, b < w19.heap.size) := Lib.hid (fun b hb => (List.mem_append.1 hb).elim (hW19.lt lFld b) (hX19.lt (lFil _) b))
            have hR19 := hW19.sl (R := RFld) (fun h => h.1)
            have hQ19 := hX19.sl (R := RFil) (fun h => h.r)
            go_wp2_with fail
            refine hK.out _ _ (by (try dsimp only); exact ⟨keep_cell hb19 hHeld.1, keep_cell hb19 hHeld.2.1, keep_cell hb19 hHeld.2.2.1, keep_lt hb19 hHeld.2.2.2.1, keep_cell hb19 hHeld.2.2.2.2.1, keep_cell hb19 hHeld.2.2.2.2.2.1, keep_cell hb19 hHeld.2.2.2.2.2.2.1, keep_cell hb19 hHeld.2.2.2.2.2.2.2.1, keep_cell hb19 hHeld.2.2.2.2.2.2.2.2.1, keep_lt hb19 hHeld.2.2.2.2.2.2.2.2.2.1, keep_cell hb19 hHeld.2.2.2.2.2.2.2.2.2.2.1, keep_cell hb19 hHeld.2.2.2.2.2.2.2.2.2.2.2.1, keep_cell hb19 hHeld.2.2.2.2.2.2.2.2.2.2.2.2.1, keep_lt hb19 hHeld.2.2.2.2.2.2.2.2.2.2.2.2.2.1, keep_cell hb19 hHeld.2.2.2.2.2.2.2.2.2.2.2.2.2.2.1, keep_cell hb19 hHeld.2.2.2.2.2.2.2.2.2.2.2.2.2.2.2.1, keep_cell hb19 hHeld.2.2.2.2.2.2.2.2.2.2.2.2.2.2.2.2.1, keep_lt hb19 hHeld.2.2.2.2.2.2.2.2.2.2.2.2.2.2.2.2.2.1, keep_cell hb19 hHeld.2.2.2.2.2.2.2.2.2.2.2.2.2.2.2.2.2.2.1, keep_cell hb19 hHeld.2.2.2.2.2.2.2.2.2.2.2.2.2.2.2.2.2.2.2.1, keep_cell hb19 hHeld.2.2.2.2.2.2.2.2.2.2.2.2.2.2.2.2.2.2.2.2.1, keep_cell hb19 hHeld.2.2.2.2.2.2.2.2.2.2.2.2.2.2.2.2.2.2.2.2.2.1, keep_cell hb19 hHeld.2.2.2.2.2.2.2.2.2.2.2.2.2.2.2.2.2.2.2.2.2.2.1, keep_lt hb19 hHeld.2.2.2.2.2.2.2.2.2.2.2.2.2.2.2.2.2.2.2.2.2.2.2.1, keep_cell hb19 hHeld.2.2.2.2.2.2.2.2.2.2.2.2.2.2.2.2.2.2.2.2.2.2.2.2.1, keep_cell hb19 hHeld.2.2.2.2.2.2.2.2.2.2.2.2.2.2.2.2.2.2.2.2.2.2.2.2.2.1, keep_cell hb19 hHeld.2.2.2.2.2.2.2.2.2.2.2.2.2.2.2.2.2.2.2.2.2.2.2.2.2.2.1, keep_lt hb19 hHeld.2.2.2.2.2.2.2.2.2.2.2.2.2.2.2.2.2.2.2.2.2.2.2.2.2.2.2.1, ex_trans hHeld.2.2.2.2.2.2.2.2.2.2.2.2.2.2.2.2.2.2.2.2.2.2.2.2.2.2.2.2.1 hb19, ex_trans hHeld.2.2.2.2.2.2.2.2.2.2.2.2.2.2.2.2.2.2.2.2.2.2.2.2.2.2.2.2.2.1 hb19, ex_trans hHeld.2.2.2.2.2.2.2.2.2.2.2.2.2.2.2.2.2.2.2.2.2.2.2.2.2.2.2.2.2.2.1 hb19, ex_trans hHeld.2.2.2.2.2.2.2.2.2.2.2.2.2.2.2.2.2.2.2.2.2.2.2.2.2.2.2.2.2.2.2 hb19⟩) (fun hNew => ?_)
            clear hK K hHeld
            have hHeld := hNew
            clear hNew
            try simp only [Act.put, List.setIfInBounds_toArray, List.set_cons_zero, List.set_cons_succ]
            refine held_two 3 9 (by kernel_rfl) rfl rfl (fun K hK => ?_) (fun K hK => ?_)
            · go_simp
              have hFB : w18.heap.size ≤ w19.heap.size := (hHeld.2.2.2.2.2.2.2.2.2.2.2.2.2.2.2.2.2.2.2.2.2.2.2.2.2.2.2.2.2.2.2).size
              go_at_call 25
              refine (laws_toFile f1 A1 f1.attrs.length c1 _ (hS1.mono mAtr hHeld.2.2.2.2.2.2.2.2.2.2.2.2.2.2.2.2.2.2.2.2.2.2.2.2.2.2.2.2.1) hk1).mono ?_; rintro e w20 hN20
              obtain ⟨A'20, c'20, bs20, rfl, hcc20, hW20, hF20, hb20⟩ := hN20.out
              have hL20 := Lib.hid (hW20.lt lAtr)
              have hR20 := hW20.sl (R := RAtr) (fun h => h.1)
              go_wp2_with fail
              refine hK.out _ _ (by (try dsimp only); exact ⟨keep_cell hb20 hHeld.1, keep_cell hb20 hHeld.2.1, keep_cell hb20 hHeld.2.2.1, keep_lt hb20 hHeld.2.2.2.1, keep_cell hb20 hHeld.2.2.2.2.1, keep_cell hb20 hHeld.2.2.2.2.2.1, keep_cell hb20 hHeld.2.2.2.2.2.2.1, keep_cell hb20 hHeld.2.2.2.2.2.2.2.1, keep_cell hb20 hHeld.2.2.2.2.2.2.2.2.1, keep_lt hb20 hHeld.2.2.2.2.2.2.2.2.2.1, keep_cell hb20 hHeld.2.2.2.2.2.2.2.2.2.2.1, keep_cell hb20 hHeld.2.2.2.2.2.2.2.2.2.2.2.1, keep_cell hb20 hHeld.2.2.2.2.2.2.2.2.2.2.2.2.1, keep_lt hb20 hHeld.2.2.2.2.2.2.2.2.2.2.2.2.2.1, keep_cell hb20 hHeld.2.2.2.2.2.2.2.2.2.2.2.2.2.2.1, keep_cell hb20 hHeld.2.2.2.2.2.2.2.2.2.2.2.2.2.2.2.1, keep_cell hb20 hHeld.2.2.2.2.2.2.2.2.2.2.2.2.2.2.2.2.1, keep_lt hb20 hHeld.2.2.2.2.2.2.2.2.2.2.2.2.2.2.2.2.2.1, keep_cell hb20 hHeld.2.2.2.2.2.2.2.2.2.2.2.2.2.2.2.2.2.2.1, keep_cell hb20 hHeld.2.2.2.2.2.2.2.2.2.2.2.2.2.2.2.2.2.2.2.1, keep_cell hb20 hHeld.2.2.2.2.2.2.2.2.2.2.2.2.2.2.2.2.2.2.2.2.1, keep_cell hb20 hHeld.2.2.2.2.2.2.2.2.2.2.2.2.2.2.2.2.2.2.2.2.2.1, keep_cell hb20 hHeld.2.2.2.2.2.2.2.2.2.2.2.2.2.2.2.2.2.2.2.2.2.2.1, keep_lt hb20 hHeld.2.2.2.2.2.2.2.2.2.2.2.2.2.2.2.2.2.2.2.2.2.2.2.1, keep_cell hb20 hHeld.2.2.2.2.2.2.2.2.2.2.2.2.2.2.2.2.2.2.2.2.2.2.2.2.1, keep_cell hb20 hHeld.2.2.2.2.2.2.2.2.2.2.2.2.2.2.2.2.2.2.2.2.2.2.2.2.2.1, keep_cell hb20 hHeld.2.2.2.2.2.2.2.2.2.2.2.2.2.2.2.2.2.2.2.2.2.2.2.2.2.2.1, keep_lt hb20 hHeld.2.2.2.2.2.2.2.2.2.2.2.2.2.2.2.2.2.2.2.2.2.2.2.2.2.2.2.1, ex_trans hHeld.2.2.2.2.2.2.2.2.2.2.2.2.2.2.2.2.2.2.2.2.2.2.2.2.2.2.2.2.1 hb20, ex_trans hHeld.2.2.2.2.2.2.2.2.2.2.2.2.2.2.2.2.2.2.2.2.2.2.2.2.2.2.2.2.2.1 hb20, ex_trans hHeld.2.2.2.2.2.2.2.2.2.2.2.2.2.2.2.2.2.2.2.2.2.2.2.2.2.2.2.2.2.2.1 hb20, ex_trans hHeld.2.2.2.2.2.2.2.2.2.2.2.2.2.2.2.2.2.2.2.2.2.2.2.2.2.2.2.2.2.2.2 hb20⟩) (fun hNew => ?_)
              clear hK K hHeld
              have hHeld := hNew
              clear hNew
              try simp only [Act.put, List.setIfInBounds_toArray, List.set_cons_zero, List.set_cons_succ]
              refine held_two 4 9 (by kernel_rfl) rfl rfl (fun K hK => ?_) (fun K hK => ?_)
              · go_simp
                have hFB : w18.heap.size ≤ w20.heap.size := (hHeld.2.2.2.2.2.2.2.2.2.2.2.2.2.2.2.2.2.2.2.2.2.2.2.2.2.2.2.2.2.2.2).size
                go_at_call 56
                refine (impl_CreateFile s0 A'19 s0.schema.length c'19 B'19 s0.files.length d'19 f1 A'20 f1.attrs.length c'20 _ (hR19.mono mFld (ex_trans (Below.refl _ _) hb20)) (hQ19.mono mFil (ex_trans (Below.refl _ _) hb20)) (hR20.mono mAtr (Below.refl _ _)) hk0 hk1).mono ?_; rintro e w21 hN21
                rw [← HE0.out, ← HE1.out, ← HE2.out] at hN21
                obtain ⟨A121, c121, B121, d121, bs21, bt21, rfl, hW21, hX21, hF21, hb21⟩ := hN21.v
                have hL21 : Hid (∀ b ∈ bs21 ++ bt21, b < w21.heap.size) := Lib.hid (fun b hb => (List.mem_append.1 hb).elim (hW21.lt lFld b) (hX21.lt (lFil _) b))
                have hR21 := hW21.sl (R := RFld) (fun h => h.1)
                have hQ21 := hX21.sl (R := RFil) (fun h => h.r)
                go_wp2_with fail
                refine hK.out _ _ (by (try dsimp only); exact ⟨keep_cell hb21 hHeld.1, keep_cell hb21 hHeld.2.1, keep_cell hb21 hHeld.2.2.1, keep_lt hb21 hHeld.2.2.2.1, keep_cell hb21 hHeld.2.2.2.2.1, keep_cell hb21 hHeld.2.2.2.2.2.1, keep_cell hb21 hHeld.2.2.2.2.2.2.1, keep_cell hb21 hHeld.2.2.2.2.2.2.2.1, keep_cell hb21 hHeld.2.2.2.2.2.2.2.2.1, keep_lt hb21 hHeld.2.2.2.2.2.2.2.2.2.1, keep_cell hb21 hHeld.2.2.2.2.2.2.2.2.2.2.1, keep_cell hb21 hHeld.2.2.2.2.2.2.2.2.2.2.2.1, keep_cell hb21 hHeld.2.2.2.2.2.2.2.2.2.2.2.2.1, keep_lt hb21 hHeld.2.2.2.2.2.2.2.2.2.2.2.2.2.1, keep_cell hb21 hHeld.2.2.2.2.2.2.2.2.2.2.2.2.2.2.1, keep_cell hb21 hHeld.2.2.2.2.2.2.2.2.2.2.2.2.2.2.2.1, keep_cell hb21 hHeld.2.2.2.2.2.2.2.2.2.2.2.2.2.2.2.2.1, keep_lt hb21 hHeld.2.2.2.2.2.2.2.2.2.2.2.2.2.2.2.2.2.1, keep_cell hb21 hHeld.2.2.2.2.2.2.2.2.2.2.2.2.2.2.2.2.2.2.1, keep_cell hb21 hHeld.2.2.2.2.2.2.2.2.2.2.2.2.2.2.2.2.2.2.2.1, keep_cell hb21 hHeld.2.2.2.2.2.2.2.2.2.2.2.2.2.2.2.2.2.2.2.2.1, keep_cell hb21 hHeld.2.2.2.2.2.2.2.2.2.2.2.2.2.2.2.2.2.2.2.2.2.1, keep_cell hb21 hHeld.2.2.2.2.2.2.2.2.2.2.2.2.2.2.2.2.2.2.2.2.2.2.1, keep_lt hb21 hHeld.2.2.2.2.2.2.2.2.2.2.2.2.2.2.2.2.2.2.2.2.2.2.2.1, keep_cell hb21 hHeld.2.2.2.2.2.2.2.2.2.2.2.2.2.2.2.2.2.2.2.2.2.2.2.2.1, keep_cell hb21 hHeld.2.2.2.2.2.2.2.2.2.2.2.2.2.2.2.2.2.2.2.2.2.2.2.2.2.1, keep_cell hb21 hHeld.2.2.2.2.2.2.2.2.2.2.2.2.2.2.2.2.2.2.2.2.2.2.2.2.2.2.1, keep_lt hb21 hHeld.2.2.2.2.2.2.2.2.2.2.2.2.2.2.2.2.2.2.2.2.2.2.2.2.2.2.2.1, ex_trans hHeld.2.2.2.2.2.2.2.2.2.2.2.2.2.2.2.2.2.2.2.2.2.2.2.2.2.2.2.2.1 hb21, ex_trans hHeld.2.2.2.2.2.2.2.2.2.2.2.2.2.2.2.2.2.2.2.2.2.2.2.2.2.2.2.2.2.1 hb21, ex_trans hHeld.2.2.2.2.2.2.2.2.2.2.2.2.2.2.2.2.2.2.2.2.2.2.2.2.2.2.2.2.2.2.1 hb21, ex_trans hHeld.2.2.2.2.2.2.2.2.2.2.2.2.2.2.2.2.2.2.2.2.2.2.2.2.2.2.2.2.2.2.2 hb21⟩) (fun hNew => ?_)
                clear hK K hHeld
                have hHeld := hNew
                clear hNew
                try simp only [Act.put, List.setIfInBounds_toArray, List.set_cons_zero, List.set_cons_succ]
                first | (refine held_take 5 rfl (by kernel_rfl) (by kernel_rfl) (by kernel_rfl) (by rfl) (fun _ _ _ h => h) (by assumption) (by intro w hSw; (try dsimp only at hSw); go_simp; first | done | with_reducible rfl) ?_) | (refine held_skip 5 rfl (by kernel_rfl) (by kernel_rfl) (by kernel_rfl) (by rfl) (fun _ _ _ h => h) (by assumption) ?_)
                simp only [Act.put, List.setIfInBounds_toArray, List.set_cons_zero, List.set_cons_succ]
                first | (refine held_take 6 rfl (by kernel_rfl) (by kernel_rfl) (by kernel_rfl) (by rfl) (fun _ _ _ h => h) (by assumption) (by intro w hSw; (try dsimp only at hSw); go_simp; first | done | with_reducible rfl) ?_) | (refine held_skip 6 rfl (by kernel_rfl) (by kernel_rfl) (by kernel_rfl) (by rfl) (fun _ _ _ h => h) (by assumption) ?_)
                simp only [Act.put, List.setIfInBounds_toArray, List.set_cons_zero, List.set_cons_succ]
                first | (refine held_take 7 rfl (by kernel_rfl) (by kernel_rfl) (by kernel_rfl) (by rfl) (fun _ _ _ h => h) (by assumption) (by intro w hSw; (try dsimp only at hSw); go_simp; first | done | with_reducible rfl) ?_) | (refine held_skip 7 rfl (by kernel_rfl) (by kernel_rfl) (by kernel_rfl) (by rfl) (fun _ _ _ h => h) (by assumption) ?_)
                simp only [Act.put, List.setIfInBounds_toArray, List.set_cons_zero, List.set_cons_succ]
                first | (refine held_take 8 rfl (by kernel_rfl) (by kernel_rfl) (by kernel_rfl) (by rfl) (fun _ _ _ h => h) (by assumption) (by intro w hSw; (try dsimp only at hSw); go_simp; first | done | with_reducible rfl) ?_) | (refine held_skip 8 rfl (by kernel_rfl) (by kernel_rfl) (by kernel_rfl) (by rfl) (fun _ _ _ h => h) (by assumption) ?_)
                simp only [Act.put, List.setIfInBounds_toArray, List.set_cons_zero, List.set_cons_succ]
                refine held_one 9 (by kernel_rfl) rfl (fun K hK => ?_)
                go_simp
                have hGs : w18.heap.size ≤ w21.heap.size := (hHeld.2.2.2.2.2.2.2.2.2.2.2.2.2.2.2.2.2.2.2.2.2.2.2.2.2.2.2.2.2.2.2).size
                generalize hwa : World.alloc w21 (.cells #[.slice none 0 0, .slice none 0 0, .int .i64 0] 68) = wa
                have hba : Below w21.heap.size w21 wa := by rw [← hwa]; exact (Below.refl _ _).alloc (Nat.le_refl _) _
                have hga : wa.heap[w21.heap.size]? = some (.cells #[.slice none 0 0, .slice none 0 0, .int .i64 0] 68 (0, 0)) := by rw [← hwa]; exact hp_new rfl
                clear hwa
                refine hK.out _ _ (by (try dsimp only); exact ⟨keep_cell hba hHeld.1, keep_cell hba hHeld.2.1, keep_cell hba hHeld.2.2.1, keep_lt hba hHeld.2.2.2.1, keep_cell hba hHeld.2.2.2.2.1, keep_cell hba hHeld.2.2.2.2.2.1, keep_cell hba hHeld.2.2.2.2.2.2.1, keep_cell hba hHeld.2.2.2.2.2.2.2.1, keep_cell hba hHeld.2.2.2.2.2.2.2.2.1, keep_lt hba hHeld.2.2.2.2.2.2.2.2.2.1, keep_cell hba hHeld.2.2.2.2.2.2.2.2.2.2.1, keep_cell hba hHeld.2.2.2.2.2.2.2.2.2.2.2.1, keep_cell hba hHeld.2.2.2.2.2.2.2.2.2.2.2.2.1, keep_lt hba hHeld.2.2.2.2.2.2.2.2.2.2.2.2.2.1, keep_cell hba hHeld.2.2.2.2.2.2.2.2.2.2.2.2.2.2.1, keep_cell hba hHeld.2.2.2.2.2.2.2.2.2.2.2.2.2.2.2.1, keep_cell hba hHeld.2.2.2.2.2.2.2.2.2.2.2.2.2.2.2.2.1, keep_lt hba hHeld.2.2.2.2.2.2.2.2.2.2.2.2.2.2.2.2.2.1, keep_cell hba hHeld.2.2.2.2.2.2.2.2.2.2.2.2.2.2.2.2.2.2.1, keep_cell hba hHeld.2.2.2.2.2.2.2.2.2.2.2.2.2.2.2.2.2.2.2.1, keep_cell hba hHeld.2.2.2.2.2.2.2.2.2.2.2.2.2.2.2.2.2.2.2.2.1, keep_cell hba hHeld.2.2.2.2.2.2.2.2.2.2.2.2.2.2.2.2.2.2.2.2.2.1, keep_cell hba hHeld.2.2.2.2.2.2.2.2.2.2.2.2.2.2.2.2.2.2.2.2.2.2.1, keep_lt hba hHeld.2.2.2.2.2.2.2.2.2.2.2.2.2.2.2.2.2.2.2.2.2.2.2.1, keep_cell hba hHeld.2.2.2.2.2.2.2.2.2.2.2.2.2.2.2.2.2.2.2.2.2.2.2.2.1, keep_cell hba hHeld.2.2.2.2.2.2.2.2.2.2.2.2.2.2.2.2.2.2.2.2.2.2.2.2.2.1, keep_cell hba hHeld.2.2.2.2.2.2.2.2.2.2.2.2.2.2.2.2.2.2.2.2.2.2.2.2.2.2.1, keep_lt hba hHeld.2.2.2.2.2.2.2.2.2.2.2.2.2.2.2.2.2.2.2.2.2.2.2.2.2.2.2.1, ex_trans hHeld.2.2.2.2.2.2.2.2.2.2.2.2.2.2.2.2.2.2.2.2.2.2.2.2.2.2.2.2.1 hba, ex_trans hHeld.2.2.2.2.2.2.2.2.2.2.2.2.2.2.2.2.2.2.2.2.2.2.2.2.2.2.2.2.2.1 hba, ex_trans hHeld.2.2.2.2.2.2.2.2.2.2.2.2.2.2.2.2.2.2.2.2.2.2.2.2.2.2.2.2.2.2.1 hba, ex_trans hHeld.2.2.2.2.2.2.2.2.2.2.2.2.2.2.2.2.2.2.2.2.2.2.2.2.2.2.2.2.2.2.2 hba⟩) (fun hNew => ?_)
                clear hK K hHeld
                have hHeld := hNew
                clear hNew
                try simp only [Act.put, List.setIfInBounds_toArray, List.set_cons_zero, List.set_cons_succ]
                have gc := blk_cell? hga
                have gf := blk_free hga
                refine held_one 10 (by kernel_rfl) rfl (fun K hK => ?_)
                go_simp
                have hch : Chg [w21.heap.size] wa (sets wa (w21.heap.size) 0 [.slice A121 r0.schema.length c121, .slice B121 r0.files.length d121, .int .i64 r0.next]) := sets_chg (bs := [w21.heap.size]) (g := w21.heap.size) (w := wa) (w1 := wa) (by simp) _ _ 0 (Chg.refl _ _)
                have hgz : (sets wa (w21.heap.size) 0 [.slice A121 r0.schema.length c121, .slice B121 r0.files.length d121, .int .i64 r0.next]).heap[w21.heap.size]? = some (.cells #[.slice A121 r0.schema.length c121, .slice B121 r0.files.length d121, .int .i64 r0.next] 68 (0, 0)) := sets_blk _ _ _ _ hga
                have hne : ∀ b ∈ (bs21 ++ bt21), b ≠ w21.heap.size := fun b hb => by have h1 := hL21.out b hb; omega
                have hW21z := (hW21.below lFld hba).loc (w' := (sets wa (w21.heap.size) 0 [.slice A121 r0.schema.length c121, .slice B121 r0.files.length d121, .int .i64 r0.next])) lFld (fun b hb => hch.block b (keep_lt hba (hL21.out b (List.mem_append_left _ hb))) (fun h => hne b (List.mem_append_left _ hb) (by simpa using h)))
                have hX21z := (hX21.below (lFil _) hba).loc (w' := (sets wa (w21.heap.size) 0 [.slice A121 r0.schema.length c121, .slice B121 r0.files.length d121, .int .i64 r0.next])) (lFil _) (fun b hb => hch.block b (keep_lt hba (hL21.out b (List.mem_append_right _ hb))) (fun h => hne b (List.mem_append_right _ hb) (by simpa using h)))
                refine hK.out _ _ (by (try dsimp only); exact ⟨hch.cell hHeld.1 (fun h => by simp only [List.mem_singleton] at h; omega), hch.cell hHeld.2.1 (fun h => by simp only [List.mem_singleton] at h; omega), hch.cell hHeld.2.2.1 (fun h => by simp only [List.mem_singleton] at h; omega), Nat.lt_of_lt_of_le hHeld.2.2.2.1 hch.size, hch.cell hHeld.2.2.2.2.1 (fun h => by simp only [List.mem_singleton] at h; omega), hch.cell hHeld.2.2.2.2.2.1 (fun h => by simp only [List.mem_singleton] at h; omega), hch.cell hHeld.2.2.2.2.2.2.1 (fun h => by simp only [List.mem_singleton] at h; omega), hch.cell hHeld.2.2.2.2.2.2.2.1 (fun h => by simp only [List.mem_singleton] at h; omega), hch.cell hHeld.2.2.2.2.2.2.2.2.1 (fun h => by simp only [List.mem_singleton] at h; omega), Nat.lt_of_lt_of_le hHeld.2.2.2.2.2.2.2.2.2.1 hch.size, hch.cell hHeld.2.2.2.2.2.2.2.2.2.2.1 (fun h => by simp only [List.mem_singleton] at h; omega), hch.cell hHeld.2.2.2.2.2.2.2.2.2.2.2.1 (fun h => by simp only [List.mem_singleton] at h; omega), hch.cell hHeld.2.2.2.2.2.2.2.2.2.2.2.2.1 (fun h => by simp only [List.mem_singleton] at h; omega), Nat.lt_of_lt_of_le hHeld.2.2.2.2.2.2.2.2.2.2.2.2.2.1 hch.size, hch.cell hHeld.2.2.2.2.2.2.2.2.2.2.2.2.2.2.1 (fun h => by simp only [List.mem_singleton] at h; omega), hch.cell hHeld.2.2.2.2.2.2.2.2.2.2.2.2.2.2.2.1 (fun h => by simp only [List.mem_singleton] at h; omega), hch.cell hHeld.2.2.2.2.2.2.2.2.2.2.2.2.2.2.2.2.1 (fun h => by simp only [List.mem_singleton] at h; omega), Nat.lt_of_lt_of_le hHeld.2.2.2.2.2.2.2.2.2.2.2.2.2.2.2.2.2.1 hch.size, hch.cell hHeld.2.2.2.2.2.2.2.2.2.2.2.2.2.2.2.2.2.2.1 (fun h => by simp only [List.mem_singleton] at h; omega), hch.cell hHeld.2.2.2.2.2.2.2.2.2.2.2.2.2.2.2.2.2.2.2.1 (fun h => by simp only [List.mem_singleton] at h; omega), hch.cell hHeld.2.2.2.2.2.2.2.2.2.2.2.2.2.2.2.2.2.2.2.2.1 (fun h => by simp only [List.mem_singleton] at h; omega), hch.cell hHeld.2.2.2.2.2.2.2.2.2.2.2.2.2.2.2.2.2.2.2.2.2.1 (fun h => by simp only [List.mem_singleton] at h; omega), hch.cell hHeld.2.2.2.2.2.2.2.2.2.2.2.2.2.2.2.2.2.2.2.2.2.2.1 (fun h => by simp only [List.mem_singleton] at h; omega), Nat.lt_of_lt_of_le hHeld.2.2.2.2.2.2.2.2.2.2.2.2.2.2.2.2.2.2.2.2.2.2.2.1 hch.size, hch.cell hHeld.2.2.2.2.2.2.2.2.2.2.2.2.2.2.2.2.2.2.2.2.2.2.2.2.1 (fun h => by simp only [List.mem_singleton] at h; omega), hch.cell hHeld.2.2.2.2.2.2.2.2.2.2.2.2.2.2.2.2.2.2.2.2.2.2.2.2.2.1 (fun h => by simp only [List.mem_singleton] at h; omega), hch.cell hHeld.2.2.2.2.2.2.2.2.2.2.2.2.2.2.2.2.2.2.2.2.2.2.2.2.2.2.1 (fun h => by simp only [List.mem_singleton] at h; omega), Nat.lt_of_lt_of_le hHeld.2.2.2.2.2.2.2.2.2.2.2.2.2.2.2.2.2.2.2.2.2.2.2.2.2.2.2.1 hch.size, Below.mark hHeld.2.2.2.2.2.2.2.2.2.2.2.2.2.2.2.2.2.2.2.2.2.2.2.2.2.2.2.2.1 hch (hHeld.2.2.2.2.2.2.2.2.2.2.2.2.2.2.2.2.2.2.2.2.2.2.2.2.2.2.2.2.1).size (fun b hb => by have h1 := hK0.size; simp only [List.mem_singleton] at hb; omega), Below.mark hHeld.2.2.2.2.2.2.2.2.2.2.2.2.2.2.2.2.2.2.2.2.2.2.2.2.2.2.2.2.2.1 hch (hHeld.2.2.2.2.2.2.2.2.2.2.2.2.2.2.2.2.2.2.2.2.2.2.2.2.2.2.2.2.2.1).size (fun b hb => by have h1 := hK5.size; simp only [List.mem_singleton] at hb; omega), Below.mark hHeld.2.2.2.2.2.2.2.2.2.2.2.2.2.2.2.2.2.2.2.2.2.2.2.2.2.2.2.2.2.2.1 hch (hHeld.2.2.2.2.2.2.2.2.2.2.2.2.2.2.2.2.2.2.2.2.2.2.2.2.2.2.2.2.2.2.1).size (fun b hb => by have h1 := hK17.size; simp only [List.mem_singleton] at hb; omega), Below.mark hHeld.2.2.2.2.2.2.2.2.2.2.2.2.2.2.2.2.2.2.2.2.2.2.2.2.2.2.2.2.2.2.2 hch (hHeld.2.2.2.2.2.2.2.2.2.2.2.2.2.2.2.2.2.2.2.2.2.2.2.2.2.2.2.2.2.2.2).size (fun b hb => by have h1 := hK931.size; simp only [List.mem_singleton] at hb; omega)⟩) (fun hNew => ?_)
                clear hK K hHeld
                have hHeld := hNew
                clear hNew
                try simp only [Act.put, List.setIfInBounds_toArray, List.set_cons_zero, List.set_cons_succ]
                first | (refine held_take 11 rfl (by kernel_rfl) (by kernel_rfl) (by kernel_rfl) (by rfl) (fun _ _ _ h => h) (by assumption) (by intro w hSw; (try dsimp only at hSw); go_simp; first | done | with_reducible rfl) ?_) | (refine held_skip 11 rfl (by kernel_rfl) (by kernel_rfl) (by kernel_rfl) (by rfl) (fun _ _ _ h => h) (by assumption) ?_)
                simp only [Act.put, List.setIfInBounds_toArray, List.set_cons_zero, List.set_cons_succ]
                first | (refine held_take 12 rfl (by kernel_rfl) (by kernel_rfl) (by kernel_rfl) (by rfl) (fun _ _ _ h => h) (by assumption) (by intro w hSw; (try dsimp only at hSw); go_simp; first | done | with_reducible rfl) ?_) | (refine held_skip 12 rfl (by kernel_rfl) (by kernel_rfl) (by kernel_rfl) (by rfl) (fun _ _ _ h => h) (by assumption) ?_)
                simp only [Act.put, List.setIfInBounds_toArray, List.set_cons_zero, List.set_cons_succ]
                refine wpAnyH_done (by kernel_rfl) ?_ _
                go_wp2_with fail
                go_meet
                exact ⟨w21.heap.size, A121, c121, B121, d121, bs21, bt21, rfl, rfl, rfl, hGs, hgz, hW21z, hX21z, ⟨hF21.1, fun b hb => Nat.le_trans (hFB) (hF21.2 b hb)⟩, fun h => hne _ h rfl, hHeld⟩
              · go_simp
                have hGs : w18.heap.size ≤ w20.heap.size := (hHeld.2.2.2.2.2.2.2.2.2.2.2.2.2.2.2.2.2.2.2.2.2.2.2.2.2.2.2.2.2.2.2).size
                generalize hwa : World.alloc w20 (.cells #[.slice none 0 0, .slice none 0 0, .int .i64 0] 68) = wa
                have hba : Below w20.heap.size w20 wa := by rw [← hwa]; exact (Below.refl _ _).alloc (Nat.le_refl _) _
                have hga : wa.heap[w20.heap.size]? = some (.cells #[.slice none 0 0, .slice none 0 0, .int .i64 0] 68 (0, 0)) := by rw [← hwa]; exact hp_new rfl
                clear hwa
                refine hK.out _ _ (by (try dsimp only); exact ⟨keep_cell hba hHeld.1, keep_cell hba hHeld.2.1, keep_cell hba hHeld.2.2.1, keep_lt hba hHeld.2.2.2.1, keep_cell hba hHeld.2.2.2.2.1, keep_cell hba hHeld.2.2.2.2.2.1, keep_cell hba hHeld.2.2.2.2.2.2.1, keep_cell hba hHeld.2.2.2.2.2.2.2.1, keep_cell hba hHeld.2.2.2.2.2.2.2.2.1, keep_lt hba hHeld.2.2.2.2.2.2.2.2.2.1, keep_cell hba hHeld.2.2.2.2.2.2.2.2.2.2.1, keep_cell hba hHeld.2.2.2.2.2.2.2.2.2.2.2.1, keep_cell hba hHeld.2.2.2.2.2.2.2.2.2.2.2.2.1, keep_lt hba hHeld.2.2.2.2.2.2.2.2.2.2.2.2.2.1, keep_cell hba hHeld.2.2.2.2.2.2.2.2.2.2.2.2.2.2.1, keep_cell hba hHeld.2.2.2.2.2.2.2.2.2.2.2.2.2.2.2.1, keep_cell hba hHeld.2.2.2.2.2.2.2.2.2.2.2.2.2.2.2.2.1, keep_lt hba hHeld.2.2.2.2.2.2.2.2.2.2.2.2.2.2.2.2.2.1, keep_cell hba hHeld.2.2.2.2.2.2.2.2.2.2.2.2.2.2.2.2.2.2.1, keep_cell hba hHeld.2.2.2.2.2.2.2.2.2.2.2.2.2.2.2.2.2.2.2.1, keep_cell hba hHeld.2.2.2.2.2.2.2.2.2.2.2.2.2.2.2.2.2.2.2.2.1, keep_cell hba hHeld.2.2.2.2.2.2.2.2.2.2.2.2.2.2.2.2.2.2.2.2.2.1, keep_cell hba hHeld.2.2.2.2.2.2.2.2.2.2.2.2.2.2.2.2.2.2.2.2.2.2.1, keep_lt hba hHeld.2.2.2.2.2.2.2.2.2.2.2.2.2.2.2.2.2.2.2.2.2.2.2.1, keep_cell hba hHeld.2.2.2.2.2.2.2.2.2.2.2.2.2.2.2.2.2.2.2.2.2.2.2.2.1, keep_cell hba hHeld.2.2.2.2.2.2.2.2.2.2.2.2.2.2.2.2.2.2.2.2.2.2.2.2.2.1, keep_cell hba hHeld.2.2.2.2.2.2.2.2.2.2.2.2.2.2.2.2.2.2.2.2.2.2.2.2.2.2.1, keep_lt hba hHeld.2.2.2.2.2.2.2.2.2.2.2.2.2.2.2.2.2.2.2.2.2.2.2.2.2.2.2.1, ex_trans hHeld.2.2.2.2.2.2.2.2.2.2.2.2.2.2.2.2.2.2.2.2.2.2.2.2.2.2.2.2.1 hba, ex_trans hHeld.2.2.2.2.2.2.2.2.2.2.2.2.2.2.2.2.2.2.2.2.2.2.2.2.2.2.2.2.2.1 hba, ex_trans hHeld.2.2.2.2.2.2.2.2.2.2.2.2.2.2.2.2.2.2.2.2.2.2.2.2.2.2.2.2.2.2.1 hba, ex_trans hHeld.2.2.2.2.2.2.2.2.2.2.2.2.2.2.2.2.2.2.2.2.2.2.2.2.2.2.2.2.2.2.2 hba⟩) (fun hNew => ?_)
                clear hK K hHeld
                have hHeld := hNew
                clear hNew
                try simp only [Act.put, List.setIfInBounds_toArray, List.set_cons_zero, List.set_cons_succ]
                refine held_one 4 (by kernel_rfl) rfl (fun K hK => ?_)
                go_simp
                have hFB : w18.heap.size ≤ wa.heap.size := (hHeld.2.2.2.2.2.2.2.2.2.2.2.2.2.2.2.2.2.2.2.2.2.2.2.2.2.2.2.2.2.2.2).size
                have hGl := blk_lt hga
                go_at_call 56
                refine (impl_CreateFile s0 A'19 s0.schema.length c'19 B'19 s0.files.length d'19 f1 A'20 f1.attrs.length c'20 _ (hR19.mono mFld (ex_trans (ex_trans (Below.refl _ _) hb20) hba)) (hQ19.mono mFil (ex_trans (ex_trans (Below.refl _ _) hb20) hba)) (hR20.mono mAtr (ex_trans (Below.refl _ _) hba)) hk0 hk1).mono ?_; rintro e w21 hN21
                rw [← HE0.out, ← HE1.out, ← HE2.out] at hN21
                obtain ⟨A121, c121, B121, d121, bs21, bt21, rfl, hW21, hX21, hF21, hb21⟩ := hN21.v
                have hL21 : Hid (∀ b ∈ bs21 ++ bt21, b < w21.heap.size) := Lib.hid (fun b hb => (List.mem_append.1 hb).elim (hW21.lt lFld b) (hX21.lt (lFil _) b))
                have hR21 := hW21.sl (R := RFld) (fun h => h.1)
                have hQ21 := hX21.sl (R := RFil) (fun h => h.r)
                go_wp2_with fail
                refine hK.out _ _ (by (try dsimp only); exact ⟨keep_cell hb21 hHeld.1, keep_cell hb21 hHeld.2.1, keep_cell hb21 hHeld.2.2.1, keep_lt hb21 hHeld.2.2.2.1, keep_cell hb21 hHeld.2.2.2.2.1, keep_cell hb21 hHeld.2.2.2.2.2.1, keep_cell hb21 hHeld.2.2.2.2.2.2.1, keep_cell hb21 hHeld.2.2.2.2.2.2.2.1, keep_cell hb21 hHeld.2.2.2.2.2.2.2.2.1, keep_lt hb21 hHeld.2.2.2.2.2.2.2.2.2.1, keep_cell hb21 hHeld.2.2.2.2.2.2.2.2.2.2.1, keep_cell hb21 hHeld.2.2.2.2.2.2.2.2.2.2.2.1, keep_cell hb21 hHeld.2.2.2.2.2.2.2.2.2.2.2.2.1, keep_lt hb21 hHeld.2.2.2.2.2.2.2.2.2.2.2.2.2.1, keep_cell hb21 hHeld.2.2.2.2.2.2.2.2.2.2.2.2.2.2.1, keep_cell hb21 hHeld.2.2.2.2.2.2.2.2.2.2.2.2.2.2.2.1, keep_cell hb21 hHeld.2.2.2.2.2.2.2.2.2.2.2.2.2.2.2.2.1, keep_lt hb21 hHeld.2.2.2.2.2.2.2.2.2.2.2.2.2.2.2.2.2.1, keep_cell hb21 hHeld.2.2.2.2.2.2.2.2.2.2.2.2.2.2.2.2.2.2.1, keep_cell hb21 hHeld.2.2.2.2.2.2.2.2.2.2.2.2.2.2.2.2.2.2.2.1, keep_cell hb21 hHeld.2.2.2.2.2.2.2.2.2.2.2.2.2.2.2.2.2.2.2.2.1, keep_cell hb21 hHeld.2.2.2.2.2.2.2.2.2.2.2.2.2.2.2.2.2.2.2.2.2.1, keep_cell hb21 hHeld.2.2.2.2.2.2.2.2.2.2.2.2.2.2.2.2.2.2.2.2.2.2.1, keep_lt hb21 hHeld.2.2.2.2.2.2.2.2.2.2.2.2.2.2.2.2.2.2.2.2.2.2.2.1, keep_cell hb21 hHeld.2.2.2.2.2.2.2.2.2.2.2.2.2.2.2.2.2.2.2.2.2.2.2.2.1, keep_cell hb21 hHeld.2.2.2.2.2.2.2.2.2.2.2.2.2.2.2.2.2.2.2.2.2.2.2.2.2.1, keep_cell hb21 hHeld.2.2.2.2.2.2.2.2.2.2.2.2.2.2.2.2.2.2.2.2.2.2.2.2.2.2.1, keep_lt hb21 hHeld.2.2.2.2.2.2.2.2.2.2.2.2.2.2.2.2.2.2.2.2.2.2.2.2.2.2.2.1, ex_trans hHeld.2.2.2.2.2.2.2.2.2.2.2.2.2.2.2.2.2.2.2.2.2.2.2.2.2.2.2.2.1 hb21, ex_trans hHeld.2.2.2.2.2.2.2.2.2.2.2.2.2.2.2.2.2.2.2.2.2.2.2.2.2.2.2.2.2.1 hb21, ex_trans hHeld.2.2.2.2.2.2.2.2.2.2.2.2.2.2.2.2.2.2.2.2.2.2.2.2.2.2.2.2.2.2.1 hb21, ex_trans hHeld.2.2.2.2.2.2.2.2.2.2.2.2.2.2.2.2.2.2.2.2.2.2.2.2.2.2.2.2.2.2.2 hb21⟩) (fun hNew => ?_)
                clear hK K hHeld
                have hHeld := hNew
                clear hNew
                try simp only [Act.put, List.setIfInBounds_toArray, List.set_cons_zero, List.set_cons_succ]
                replace hga := below_keep hb21 hga
                first | (refine held_take 5 rfl (by kernel_rfl) (by kernel_rfl) (by kernel_rfl) (by rfl) (fun _ _ _ h => h) (by assumption) (by intro w hSw; (try dsimp only at hSw); go_simp; first | done | with_reducible rfl) ?_) | (refine held_skip 5 rfl (by kernel_rfl) (by kernel_rfl) (by kernel_rfl) (by rfl) (fun _ _ _ h => h) (by assumption) ?_)
                simp only [Act.put, List.setIfInBounds_toArray, List.set_cons_zero, List.set_cons_succ]
                first | (refine held_take 6 rfl (by kernel_rfl) (by kernel_rfl) (by kernel_rfl) (by rfl) (fun _ _ _ h => h) (by assumption) (by intro w hSw; (try dsimp only at hSw); go_simp; first | done | with_reducible rfl) ?_) | (refine held_skip 6 rfl (by kernel_rfl) (by kernel_rfl) (by kernel_rfl) (by rfl) (fun _ _ _ h => h) (by assumption) ?_)
                simp only [Act.put, List.setIfInBounds_toArray, List.set_cons_zero, List.set_cons_succ]
                first | (refine held_take 7 rfl (by kernel_rfl) (by kernel_rfl) (by kernel_rfl) (by rfl) (fun _ _ _ h => h) (by assumption) (by intro w hSw; (try dsimp only at hSw); go_simp; first | done | with_reducible rfl) ?_) | (refine held_skip 7 rfl (by kernel_rfl) (by kernel_rfl) (by kernel_rfl) (by rfl) (fun _ _ _ h => h) (by assumption) ?_)
                simp only [Act.put, List.setIfInBounds_toArray, List.set_cons_zero, List.set_cons_succ]
                first | (refine held_take 8 rfl (by kernel_rfl) (by kernel_rfl) (by kernel_rfl) (by rfl) (fun _ _ _ h => h) (by assumption) (by intro w hSw; (try dsimp only at hSw); go_simp; first | done | with_reducible rfl) ?_) | (refine held_skip 8 rfl (by kernel_rfl) (by kernel_rfl) (by kernel_rfl) (by rfl) (fun _ _ _ h => h) (by assumption) ?_)
                simp only [Act.put, List.setIfInBounds_toArray, List.set_cons_zero, List.set_cons_succ]
                have gc := blk_cell? hga
                have gf := blk_free hga
                refine held_one 10 (by kernel_rfl) rfl (fun K hK => ?_)
                go_simp
                have hch : Chg [w20.heap.size] w21 (sets w21 (w20.heap.size) 0 [.slice A121 r0.schema.length c121, .slice B121 r0.files.length d121, .int .i64 r0.next]) := sets_chg (bs := [w20.heap.size]) (g := w20.heap.size) (w := w21) (w1 := w21) (by simp) _ _ 0 (Chg.refl _ _)
                have hgz : (sets w21 (w20.heap.size) 0 [.slice A121 r0.schema.length c121, .slice B121 r0.files.length d121, .int .i64 r0.next]).heap[w20.heap.size]? = some (.cells #[.slice A121 r0.schema.length c121, .slice B121 r0.files.length d121, .int .i64 r0.next] 68 (0, 0)) := sets_blk _ _ _ _ hga
                have hne : ∀ b ∈ (bs21 ++ bt21), b ≠ w20.heap.size := fun b hb => by have h1 := hF21.2 b hb; omega
                have hW21z := (hW21).loc (w' := (sets w21 (w20.heap.size) 0 [.slice A121 r0.schema.length c121, .slice B121 r0.files.length d121, .int .i64 r0.next])) lFld (fun b hb => hch.block b (hL21.out b (List.mem_append_left _ hb)) (fun h => hne b (List.mem_append_left _ hb) (by simpa using h)))
                have hX21z := (hX21).loc (w' := (sets w21 (w20.heap.size) 0 [.slice A121 r0.schema.length c121, .slice B121 r0.files.length d121, .int .i64 r0.next])) (lFil _) (fun b hb => hch.block b (hL21.out b (List.mem_append_right _ hb)) (fun h => hne b (List.mem_append_right _ hb) (by simpa using h)))
                refine hK.out _ _ (by (try dsimp only); exact ⟨hch.cell hHeld.1 (fun h => by simp only [List.mem_singleton] at h; omega), hch.cell hHeld.2.1 (fun h => by simp only [List.mem_singleton] at h; omega), hch.cell hHeld.2.2.1 (fun h => by simp only [List.mem_singleton] at h; omega), Nat.lt_of_lt_of_le hHeld.2.2.2.1 hch.size, hch.cell hHeld.2.2.2.2.1 (fun h => by simp only [List.mem_singleton] at h; omega), hch.cell hHeld.2.2.2.2.2.1 (fun h => by simp only [List.mem_singleton] at h; omega), hch.cell hHeld.2.2.2.2.2.2.1 (fun h => by simp only [List.mem_singleton] at h; omega), hch.cell hHeld.2.2.2.2.2.2.2.1 (fun h => by simp only [List.mem_singleton] at h; omega), hch.cell hHeld.2.2.2.2.2.2.2.2.1 (fun h => by simp only [List.mem_singleton] at h; omega), Nat.lt_of_lt_of_le hHeld.2.2.2.2.2.2.2.2.2.1 hch.size, hch.cell hHeld.2.2.2.2.2.2.2.2.2.2.1 (fun h => by simp only [List.mem_singleton] at h; omega), hch.cell hHeld.2.2.2.2.2.2.2.2.2.2.2.1 (fun h => by simp only [List.mem_singleton] at h; omega), hch.cell hHeld.2.2.2.2.2.2.2.2.2.2.2.2.1 (fun h => by simp only [List.mem_singleton] at h; omega), Nat.lt_of_lt_of_le hHeld.2.2.2.2.2.2.2.2.2.2.2.2.2.1 hch.size, hch.cell hHeld.2.2.2.2.2.2.2.2.2.2.2.2.2.2.1 (fun h => by simp only [List.mem_singleton] at h; omega), hch.cell hHeld.2.2.2.2.2.2.2.2.2.2.2.2.2.2.2.1 (fun h => by simp only [List.mem_singleton] at h; omega), hch.cell hHeld.2.2.2.2.2.2.2.2.2.2.2.2.2.2.2.2.1 (fun h => by simp only [List.mem_singleton] at h; omega), Nat.lt_of_lt_of_le hHeld.2.2.2.2.2.2.2.2.2.2.2.2.2.2.2.2.2.1 hch.size, hch.cell hHeld.2.2.2.2.2.2.2.2.2.2.2.2.2.2.2.2.2.2.1 (fun h => by simp only [List.mem_singleton] at h; omega), hch.cell hHeld.2.2.2.2.2.2.2.2.2.2.2.2.2.2.2.2.2.2.2.1 (fun h => by simp only [List.mem_singleton] at h; omega), hch.cell hHeld.2.2.2.2.2.2.2.2.2.2.2.2.2.2.2.2.2.2.2.2.1 (fun h => by simp only [List.mem_singleton] at h; omega), hch.cell hHeld.2.2.2.2.2.2.2.2.2.2.2.2.2.2.2.2.2.2.2.2.2.1 (fun h => by simp only [List.mem_singleton] at h; omega), hch.cell hHeld.2.2.2.2.2.2.2.2.2.2.2.2.2.2.2.2.2.2.2.2.2.2.1 (fun h => by simp only [List.mem_singleton] at h; omega), Nat.lt_of_lt_of_le hHeld.2.2.2.2.2.2.2.2.2.2.2.2.2.2.2.2.2.2.2.2.2.2.2.1 hch.size, hch.cell hHeld.2.2.2.2.2.2.2.2.2.2.2.2.2.2.2.2.2.2.2.2.2.2.2.2.1 (fun h => by simp only [List.mem_singleton] at h; omega), hch.cell hHeld.2.2.2.2.2.2.2.2.2.2.2.2.2.2.2.2.2.2.2.2.2.2.2.2.2.1 (fun h => by simp only [List.mem_singleton] at h; omega), hch.cell hHeld.2.2.2.2.2.2.2.2.2.2.2.2.2.2.2.2.2.2.2.2.2.2.2.2.2.2.1 (fun h => by simp only [List.mem_singleton] at h; omega), Nat.lt_of_lt_of_le hHeld.2.2.2.2.2.2.2.2.2.2.2.2.2.2.2.2.2.2.2.2.2.2.2.2.2.2.2.1 hch.size, Below.mark hHeld.2.2.2.2.2.2.2.2.2.2.2.2.2.2.2.2.2.2.2.2.2.2.2.2.2.2.2.2.1 hch (hHeld.2.2.2.2.2.2.2.2.2.2.2.2.2.2.2.2.2.2.2.2.2.2.2.2.2.2.2.2.1).size (fun b hb => by have h1 := hK0.size; simp only [List.mem_singleton] at hb; omega), Below.mark hHeld.2.2.2.2.2.2.2.2.2.2.2.2.2.2.2.2.2.2.2.2.2.2.2.2.2.2.2.2.2.1 hch (hHeld.2.2.2.2.2.2.2.2.2.2.2.2.2.2.2.2.2.2.2.2.2.2.2.2.2.2.2.2.2.1).size (fun b hb => by have h1 := hK5.size; simp only [List.mem_singleton] at hb; omega), Below.mark hHeld.2.2.2.2.2.2.2.2.2.2.2.2.2.2.2.2.2.2.2.2.2.2.2.2.2.2.2.2.2.2.1 hch (hHeld.2.2.2.2.2.2.2.2.2.2.2.2.2.2.2.2.2.2.2.2.2.2.2.2.2.2.2.2.2.2.1).size (fun b hb => by have h1 := hK17.size; simp only [List.mem_singleton] at hb; omega), Below.mark hHeld.2.2.2.2.2.2.2.2.2.2.2.2.2.2.2.2.2.2.2.2.2.2.2.2.2.2.2.2.2.2.2 hch (hHeld.2.2.2.2.2.2.2.2.2.2.2.2.2.2.2.2.2.2.2.2.2.2.2.2.2.2.2.2.2.2.2).size (fun b hb => by have h1 := hK931.size; simp only [List.mem_singleton] at hb; omega)⟩) (fun hNew => ?_)
                clear hK K hHeld
                have hHeld := hNew
                clear hNew
                try simp only [Act.put, List.setIfInBounds_toArray, List.set_cons_zero, List.set_cons_succ]
                first | (refine held_take 11 rfl (by kernel_rfl) (by kernel_rfl) (by kernel_rfl) (by rfl) (fun _ _ _ h => h) (by assumption) (by intro w hSw; (try dsimp only at hSw); go_simp; first | done | with_reducible rfl) ?_) | (refine held_skip 11 rfl (by kernel_rfl) (by kernel_rfl) (by kernel_rfl) (by rfl) (fun _ _ _ h => h) (by assumption) ?_)
                simp only [Act.put, List.setIfInBounds_toArray, List.set_cons_zero, List.set_cons_succ]
                first | (refine held_take 12 rfl (by kernel_rfl) (by kernel_rfl) (by kernel_rfl) (by rfl) (fun _ _ _ h => h) (by assumption) (by intro w hSw; (try dsimp only at hSw); go_simp; first | done | with_reducible rfl) ?_) | (refine held_skip 12 rfl (by kernel_rfl) (by kernel_rfl) (by kernel_rfl) (by rfl) (fun _ _ _ h => h) (by assumption) ?_)
                simp only [Act.put, List.setIfInBounds_toArray, List.set_cons_zero, List.set_cons_succ]
                refine wpAnyH_done (by kernel_rfl) ?_ _
                go_wp2_with fail
                go_meet
                exact ⟨w20.heap.size, A121, c121, B121, d121, bs21, bt21, rfl, rfl, rfl, hGs, hgz, hW21z, hX21z, ⟨hF21.1, fun b hb => Nat.le_trans (hFB) (hF21.2 b hb)⟩, fun h => hne _ h rfl, hHeld⟩
            · go_simp
              have hGs : w18.heap.size ≤ w19.heap.size := (hHeld.2.2.2.2.2.2.2.2.2.2.2.2.2.2.2.2.2.2.2.2.2.2.2.2.2.2.2.2.2.2.2).size
              generalize hwa : World.alloc w19 (.cells #[.slice none 0 0, .slice none 0 0, .int .i64 0] 68) = wa
              have hba : Below w19.heap.size w19 wa := by rw [← hwa]; exact (Below.refl _ _).alloc (Nat.le_refl _) _
              have hga : wa.heap[w19.heap.size]? = some (.cells #[.slice none 0 0, .slice none 0 0, .int .i64 0] 68 (0, 0)) := by rw [← hwa]; exact hp_new rfl
              clear hwa
              refine hK.out _ _ (by (try dsimp only); exact ⟨keep_cell hba hHeld.1, keep_cell hba hHeld.2.1, keep_cell hba hHeld.2.2.1, keep_lt hba hHeld.2.2.2.1, keep_cell hba hHeld.2.2.2.2.1, keep_cell hba hHeld.2.2.2.2.2.1, keep_cell hba hHeld.2.2.2.2.2.2.1, keep_cell hba hHeld.2.2.2.2.2.2.2.1, keep_cell hba hHeld.2.2.2.2.2.2.2.2.1, keep_lt hba hHeld.2.2.2.2.2.2.2.2.2.1, keep_cell hba hHeld.2.2.2.2.2.2.2.2.2.2.1, keep_cell hba hHeld.2.2.2.2.2.2.2.2.2.2.2.1, keep_cell hba hHeld.2.2.2.2.2.2.2.2.2.2.2.2.1, keep_lt hba hHeld.2.2.2.2.2.2.2.2.2.2.2.2.2.1, keep_cell hba hHeld.2.2.2.2.2.2.2.2.2.2.2.2.2.2.1, keep_cell hba hHeld.2.2.2.2.2.2.2.2.2.2.2.2.2.2.2.1, keep_cell hba hHeld.2.2.2.2.2.2.2.2.2.2.2.2.2.2.2.2.1, keep_lt hba hHeld.2.2.2.2.2.2.2.2.2.2.2.2.2.2.2.2.2.1, keep_cell hba hHeld.2.2.2.2.2.2.2.2.2.2.2.2.2.2.2.2.2.2.1, keep_cell hba hHeld.2.2.2.2.2.2.2.2.2.2.2.2.2.2.2.2.2.2.2.1, keep_cell hba hHeld.2.2.2.2.2.2.2.2.2.2.2.2.2.2.2.2.2.2.2.2.1, keep_cell hba hHeld.2.2.2.2.2.2.2.2.2.2.2.2.2.2.2.2.2.2.2.2.2.1, keep_cell hba hHeld.2.2.2.2.2.2.2.2.2.2.2.2.2.2.2.2.2.2.2.2.2.2.1, keep_lt hba hHeld.2.2.2.2.2.2.2.2.2.2.2.2.2.2.2.2.2.2.2.2.2.2.2.1, keep_cell hba hHeld.2.2.2.2.2.2.2.2.2.2.2.2.2.2.2.2.2.2.2.2.2.2.2.2.1, keep_cell hba hHeld.2.2.2.2.2.2.2.2.2.2.2.2.2.2.2.2.2.2.2.2.2.2.2.2.2.1, keep_cell hba hHeld.2.2.2.2.2.2.2.2.2.2.2.2.2.2.2.2.2.2.2.2.2.2.2.2.2.2.1, keep_lt hba hHeld.2.2.2.2.2.2.2.2.2.2.2.2.2.2.2.2.2.2.2.2.2.2.2.2.2.2.2.1, ex_trans hHeld.2.2.2.2.2.2.2.2.2.2.2.2.2.2.2.2.2.2.2.2.2.2.2.2.2.2.2.2.1 hba, ex_trans hHeld.2.2.2.2.2.2.2.2.2.2.2.2.2.2.2.2.2.2.2.2.2.2.2.2.2.2.2.2.2.1 hba, ex_trans hHeld.2.2.2.2.2.2.2.2.2.2.2.2.2.2.2.2.2.2.2.2.2.2.2.2.2.2.2.2.2.2.1 hba, ex_trans hHeld.2.2.2.2.2.2.2.2.2.2.2.2.2.2.2.2.2.2.2.2.2.2.2.2.2.2.2.2.2.2.2 hba⟩) (fun hNew => ?_)
              clear hK K hHeld
              have hHeld := hNew
              clear hNew
              try simp only [Act.put, List.setIfInBounds_toArray, List.set_cons_zero, List.set_cons_succ]
              refine held_one 3 (by kernel_rfl) rfl (fun K hK => ?_)
              go_simp
              have hFB : w18.heap.size ≤ wa.heap.size := (hHeld.2.2.2.2.2.2.2.2.2.2.2.2.2.2.2.2.2.2.2.2.2.2.2.2.2.2.2.2.2.2.2).size
              have hGl := blk_lt hga
              go_at_call 25
              refine (laws_toFile f1 A1 f1.attrs.length c1 _ (hS1.mono mAtr hHeld.2.2.2.2.2.2.2.2.2.2.2.2.2.2.2.2.2.2.2.2.2.2.2.2.2.2.2.2.1) hk1).mono ?_; rintro e w20 hN20
              obtain ⟨A'20, c'20, bs20, rfl, hcc20, hW20, hF20, hb20⟩ := hN20.out
              have hL20 := Lib.hid (hW20.lt lAtr)
              have hR20 := hW20.sl (R := RAtr) (fun h => h.1)
              go_wp2_with fail
              refine hK.out _ _ (by (try dsimp only); exact ⟨keep_cell hb20 hHeld.1, keep_cell hb20 hHeld.2.1, keep_cell hb20 hHeld.2.2.1, keep_lt hb20 hHeld.2.2.2.1, keep_cell hb20 hHeld.2.2.2.2.1, keep_cell hb20 hHeld.2.2.2.2.2.1, keep_cell hb20 hHeld.2.2.2.2.2.2.1, keep_cell hb20 hHeld.2.2.2.2.2.2.2.1, keep_cell hb20 hHeld.2.2.2.2.2.2.2.2.1, keep_lt hb20 hHeld.2.2.2.2.2.2.2.2.2.1, keep_cell hb20 hHeld.2.2.2.2.2.2.2.2.2.2.1, keep_cell hb20 hHeld.2.2.2.2.2.2.2.2.2.2.2.1, keep_cell hb20 hHeld.2.2.2.2.2.2.2.2.2.2.2.2.1, keep_lt hb20 hHeld.2.2.2.2.2.2.2.2.2.2.2.2.2.1, keep_cell hb20 hHeld.2.2.2.2.2.2.2.2.2.2.2.2.2.2.1, keep_cell hb20 hHeld.2.2.2.2.2.2.2.2.2.2.2.2.2.2.2.1, keep_cell hb20 hHeld.2.2.2.2.2.2.2.2.2.2.2.2.2.2.2.2.1, keep_lt hb20 hHeld.2.2.2.2.2.2.2.2.2.2.2.2.2.2.2.2.2.1, keep_cell hb20 hHeld.2.2.2.2.2.2.2.2.2.2.2.2.2.2.2.2.2.2.1, keep_cell hb20 hHeld.2.2.2.2.2.2.2.2.2.2.2.2.2.2.2.2.2.2.2.1, keep_cell hb20 hHeld.2.2.2.2.2.2.2.2.2.2.2.2.2.2.2.2.2.2.2.2.1, keep_cell hb20 hHeld.2.2.2.2.2.2.2.2.2.2.2.2.2.2.2.2.2.2.2.2.2.1, keep_cell hb20 hHeld.2.2.2.2.2.2.2.2.2.2.2.2.2.2.2.2.2.2.2.2.2.2.1, keep_lt hb20 hHeld.2.2.2.2.2.2.2.2.2.2.2.2.2.2.2.2.2.2.2.2.2.2.2.1, keep_cell hb20 hHeld.2.2.2.2.2.2.2.2.2.2.2.2.2.2.2.2.2.2.2.2.2.2.2.2.1, keep_cell hb20 hHeld.2.2.2.2.2.2.2.2.2.2.2.2.2.2.2.2.2.2.2.2.2.2.2.2.2.1, keep_cell hb20 hHeld.2.2.2.2.2.2.2.2.2.2.2.2.2.2.2.2.2.2.2.2.2.2.2.2.2.2.1, keep_lt hb20 hHeld.2.2.2.2.2.2.2.2.2.2.2.2.2.2.2.2.2.2.2.2.2.2.2.2.2.2.2.1, ex_trans hHeld.2.2.2.2.2.2.2.2.2.2.2.2.2.2.2.2.2.2.2.2.2.2.2.2.2.2.2.2.1 hb20, ex_trans hHeld.2.2.2.2.2.2.2.2.2.2.2.2.2.2.2.2.2.2.2.2.2.2.2.2.2.2.2.2.2.1 hb20, ex_trans hHeld.2.2.2.2.2.2.2.2.2.2.2.2.2.2.2.2.2.2.2.2.2.2.2.2.2.2.2.2.2.2.1 hb20, ex_trans hHeld.2.2.2.2.2.2.2.2.2.2.2.2.2.2.2.2.2.2.2.2.2.2.2.2.2.2.2.2.2.2.2 hb20⟩) (fun hNew => ?_)
              clear hK K hHeld
              have hHeld := hNew
              clear hNew
              try simp only [Act.put, List.setIfInBounds_toArray, List.set_cons_zero, List.set_cons_succ]
              replace hga := below_keep hb20 hga
              refine held_one 4 (by kernel_rfl) rfl (fun K hK => ?_)
              go_simp
              have hFB : w18.heap.size ≤ w20.heap.size := (hHeld.2.2.2.2.2.2.2.2.2.2.2.2.2.2.2.2.2.2.2.2.2.2.2.2.2.2.2.2.2.2.2).size
              have hGl := blk_lt hga
              go_at_call 56
              refine (impl_CreateFile s0 A'19 s0.schema.length c'19 B'19 s0.files.length d'19 f1 A'20 f1.attrs.length c'20 _ (hR19.mono mFld (ex_trans (ex_trans (Below.refl _ _) hba) hb20)) (hQ19.mono mFil (ex_trans (ex_trans (Below.refl _ _) hba) hb20)) (hR20.mono mAtr (Below.refl _ _)) hk0 hk1).mono ?_; rintro e w21 hN21
              rw [← HE0.out, ← HE1.out, ← HE2.out] at hN21
              obtain ⟨A121, c121, B121, d121, bs21, bt21, rfl, hW21, hX21, hF21, hb21⟩ := hN21.v
              have hL21 : Hid (∀ b ∈ bs21 ++ bt21, b < w21.heap.size) := Lib.hid (fun b hb => (List.mem_append.1 hb).elim (hW21.lt lFld b) (hX21.lt (lFil _) b))
              have hR21 := hW21.sl (R := RFld) (fun h => h.1)
              have hQ21 := hX21.sl (R := RFil) (fun h => h.r)
              go_wp2_with fail
              refine hK.out _ _ (by (try dsimp only); exact ⟨keep_cell hb21 hHeld.1, keep_cell hb21 hHeld.2.1, keep_cell hb21 hHeld.2.2.1, keep_lt hb21 hHeld.2.2.2.1, keep_cell hb21 hHeld.2.2.2.2.1, keep_cell hb21 hHeld.2.2.2.2.2.1, keep_cell hb21 hHeld.2.2.2.2.2.2.1, keep_cell hb21 hHeld.2.2.2.2.2.2.2.1, keep_cell hb21 hHeld.2.2.2.2.2.2.2.2.1, keep_lt hb21 hHeld.2.2.2.2.2.2.2.2.2.1, keep_cell hb21 hHeld.2.2.2.2.2.2.2.2.2.2.1, keep_cell hb21 hHeld.2.2.2.2.2.2.2.2.2.2.2.1, keep_cell hb21 hHeld.2.2.2.2.2.2.2.2.2.2.2.2.1, keep_lt hb21 hHeld.2.2.2.2.2.2.2.2.2.2.2.2.2.1, keep_cell hb21 hHeld.2.2.2.2.2.2.2.2.2.2.2.2.2.2.1, keep_cell hb21 hHeld.2.2.2.2.2.2.2.2.2.2.2.2.2.2.2.1, keep_cell hb21 hHeld.2.2.2.2.2.2.2.2.2.2.2.2.2.2.2.2.1, keep_lt hb21 hHeld.2.2.2.2.2.2.2.2.2.2.2.2.2.2.2.2.2.1, keep_cell hb21 hHeld.2.2.2.2.2.2.2.2.2.2.2.2.2.2.2.2.2.2.1, keep_cell hb21 hHeld.2.2.2.2.2.2.2.2.2.2.2.2.2.2.2.2.2.2.2.1, keep_cell hb21 hHeld.2.2.2.2.2.2.2.2.2.2.2.2.2.2.2.2.2.2.2.2.1, keep_cell hb21 hHeld.2.2.2.2.2.2.2.2.2.2.2.2.2.2.2.2.2.2.2.2.2.1, keep_cell hb21 hHeld.2.2.2.2.2.2.2.2.2.2.2.2.2.2.2.2.2.2.2.2.2.2.1, keep_lt hb21 hHeld.2.2.2.2.2.2.2.2.2.2.2.2.2.2.2.2.2.2.2.2.2.2.2.1, keep_cell hb21 hHeld.2.2.2.2.2.2.2.2.2.2.2.2.2.2.2.2.2.2.2.2.2.2.2.2.1, keep_cell hb21 hHeld.2.2.2.2.2.2.2.2.2.2.2.2.2.2.2.2.2.2.2.2.2.2.2.2.2.1, keep_cell hb21 hHeld.2.2.2.2.2.2.2.2.2.2.2.2.2.2.2.2.2.2.2.2.2.2.2.2.2.2.1, keep_lt hb21 hHeld.2.2.2.2.2.2.2.2.2.2.2.2.2.2.2.2.2.2.2.2.2.2.2.2.2.2.2.1, ex_trans hHeld.2.2.2.2.2.2.2.2.2.2.2.2.2.2.2.2.2.2.2.2.2.2.2.2.2.2.2.2.1 hb21, ex_trans hHeld.2.2.2.2.2.2.2.2.2.2.2.2.2.2.2.2.2.2.2.2.2.2.2.2.2.2.2.2.2.1 hb21, ex_trans hHeld.2.2.2.2.2.2.2.2.2.2.2.2.2.2.2.2.2.2.2.2.2.2.2.2.2.2.2.2.2.2.1 hb21, ex_trans hHeld.2.2.2.2.2.2.2.2.2.2.2.2.2.2.2.2.2.2.2.2.2.2.2.2.2.2.2.2.2.2.2 hb21⟩) (fun hNew => ?_)
              clear hK K hHeld
              have hHeld := hNew
              clear hNew
              try simp only [Act.put, List.setIfInBounds_toArray, List.set_cons_zero, List.set_cons_succ]
              replace hga := below_keep hb21 hga
              first | (refine held_take 5 rfl (by kernel_rfl) (by kernel_rfl) (by kernel_rfl) (by rfl) (fun _ _ _ h => h) (by assumption) (by intro w hSw; (try dsimp only at hSw); go_simp; first | done | with_reducible rfl) ?_) | (refine held_skip 5 rfl (by kernel_rfl) (by kernel_rfl) (by kernel_rfl) (by rfl) (fun _ _ _ h => h) (by assumption) ?_)
              simp only [Act.put, List.setIfInBounds_toArray, List.set_cons_zero, List.set_cons_succ]
              first | (refine held_take 6 rfl (by kernel_rfl) (by kernel_rfl) (by kernel_rfl) (by rfl) (fun _ _ _ h => h) (by assumption) (by intro w hSw; (try dsimp only at hSw); go_simp; first | done | with_reducible rfl) ?_) | (refine held_skip 6 rfl (by kernel_rfl) (by kernel_rfl) (by kernel_rfl) (by rfl) (fun _ _ _ h => h) (by assumption) ?_)
              simp only [Act.put, List.setIfInBounds_toArray, List.set_cons_zero, List.set_cons_succ]
              first | (refine held_take 7 rfl (by kernel_rfl) (by kernel_rfl) (by kernel_rfl) (by rfl) (fun _ _ _ h => h) (by assumption) (by intro w hSw; (try dsimp only at hSw); go_simp; first | done | with_reducible rfl) ?_) | (refine held_skip 7 rfl (by kernel_rfl) (by kernel_rfl) (by kernel_rfl) (by rfl) (fun _ _ _ h => h) (by assumption) ?_)
              simp only [Act.put, List.setIfInBounds_toArray, List.set_cons_zero, List.set_cons_succ]
              first | (refine held_take 8 rfl (by kernel_rfl) (by kernel_rfl) (by kernel_rfl) (by rfl) (fun _ _ _ h => h) (by assumption) (by intro w hSw; (try dsimp only at hSw); go_simp; first | done | with_reducible rfl) ?_) | (refine held_skip 8 rfl (by kernel_rfl) (by kernel_rfl) (by kernel_rfl) (by rfl) (fun _ _ _ h => h) (by assumption) ?_)
              simp only [Act.put, List.setIfInBounds_toArray, List.set_cons_zero, List.set_cons_succ]
              have gc := blk_cell? hga
              have gf := blk_free hga
              refine held_one 10 (by kernel_rfl) rfl (fun K hK => ?_)
              go_simp
              have hch : Chg [w19.heap.size] w21 (sets w21 (w19.heap.size) 0 [.slice A121 r0.schema.length c121, .slice B121 r0.files.length d121, .int .i64 r0.next]) := sets_chg (bs := [w19.heap.size]) (g := w19.heap.size) (w := w21) (w1 := w21) (by simp) _ _ 0 (Chg.refl _ _)
              have hgz : (sets w21 (w19.heap.size) 0 [.slice A121 r0.schema.length c121, .slice B121 r0.files.length d121, .int .i64 r0.next]).heap[w19.heap.size]? = some (.cells #[.slice A121 r0.schema.length c121, .slice B121 r0.files.length d121, .int .i64 r0.next] 68 (0, 0)) := sets_blk _ _ _ _ hga
              have hne : ∀ b ∈ (bs21 ++ bt21), b ≠ w19.heap.size := fun b hb => by have h1 := hF21.2 b hb; omega
              have hW21z := (hW21).loc (w' := (sets w21 (w19.heap.size) 0 [.slice A121 r0.schema.length c121, .slice B121 r0.files.length d121, .int .i64 r0.next])) lFld (fun b hb => hch.block b (hL21.out b (List.mem_append_left _ hb)) (fun h => hne b (List.mem_append_left _ hb) (by simpa using h)))
              have hX21z := (hX21).loc (w' := (sets w21 (w19.heap.size) 0 [.slice A121 r0.schema.length c121, .slice B121 r0.files.length d121, .int .i64 r0.next])) (lFil _) (fun b hb => hch.block b (hL21.out b (List.mem_append_right _ hb)) (fun h => hne b (List.mem_append_right _ hb) (by simpa using h)))
              refine hK.out _ _ (by (try dsimp only); exact ⟨hch.cell hHeld.1 (fun h => by simp only [List.mem_singleton] at h; omega), hch.cell hHeld.2.1 (fun h => by simp only [List.mem_singleton] at h; omega), hch.cell hHeld.2.2.1 (fun h => by simp only [List.mem_singleton] at h; omega), Nat.lt_of_lt_of_le hHeld.2.2.2.1 hch.size, hch.cell hHeld.2.2.2.2.1 (fun h => by simp only [List.mem_singleton] at h; omega), hch.cell hHeld.2.2.2.2.2.1 (fun h => by simp only [List.mem_singleton] at h; omega), hch.cell hHeld.2.2.2.2.2.2.1 (fun h => by simp only [List.mem_singleton] at h; omega), hch.cell hHeld.2.2.2.2.2.2.2.1 (fun h => by simp only [List.mem_singleton] at h; omega), hch.cell hHeld.2.2.2.2.2.2.2.2.1 (fun h => by simp only [List.mem_singleton] at h; omega), Nat.lt_of_lt_of_le hHeld.2.2.2.2.2.2.2.2.2.1 hch.size, hch.cell hHeld.2.2.2.2.2.2.2.2.2.2.1 (fun h => by simp only [List.mem_singleton] at h; omega), hch.cell hHeld.2.2.2.2.2.2.2.2.2.2.2.1 (fun h => by simp only [List.mem_singleton] at h; omega), hch.cell hHeld.2.2.2.2.2.2.2.2.2.2.2.2.1 (fun h => by simp only [List.mem_singleton] at h; omega), Nat.lt_of_lt_of_le hHeld.2.2.2.2.2.2.2.2.2.2.2.2.2.1 hch.size, hch.cell hHeld.2.2.2.2.2.2.2.2.2.2.2.2.2.2.1 (fun h => by simp only [List.mem_singleton] at h; omega), hch.cell hHeld.2.2.2.2.2.2.2.2.2.2.2.2.2.2.2.1 (fun h => by simp only [List.mem_singleton] at h; omega), hch.cell hHeld.2.2.2.2.2.2.2.2.2.2.2.2.2.2.2.2.1 (fun h => by simp only [List.mem_singleton] at h; omega), Nat.lt_of_lt_of_le hHeld.2.2.2.2.2.2.2.2.2.2.2.2.2.2.2.2.2.1 hch.size, hch.cell hHeld.2.2.2.2.2.2.2.2.2.2.2.2.2.2.2.2.2.2.1 (fun h => by simp only [List.mem_singleton] at h; omega), hch.cell hHeld.2.2.2.2.2.2.2.2.2.2.2.2.2.2.2.2.2.2.2.1 (fun h => by simp only [List.mem_singleton] at h; omega), hch.cell hHeld.2.2.2.2.2.2.2.2.2.2.2.2.2.2.2.2.2.2.2.2.1 (fun h => by simp only [List.mem_singleton] at h; omega), hch.cell hHeld.2.2.2.2.2.2.2.2.2.2.2.2.2.2.2.2.2.2.2.2.2.1 (fun h => by simp only [List.mem_singleton] at h; omega), hch.cell hHeld.2.2.2.2.2.2.2.2.2.2.2.2.2.2.2.2.2.2.2.2.2.2.1 (fun h => by simp only [List.mem_singleton] at h; omega), Nat.lt_of_lt_of_le hHeld.2.2.2.2.2.2.2.2.2.2.2.2.2.2.2.2.2.2.2.2.2.2.2.1 hch.size, hch.cell hHeld.2.2.2.2.2.2.2.2.2.2.2.2.2.2.2.2.2.2.2.2.2.2.2.2.1 (fun h => by simp only [List.mem_singleton] at h; omega), hch.cell hHeld.2.2.2.2.2.2.2.2.2.2.2.2.2.2.2.2.2.2.2.2.2.2.2.2.2.1 (fun h => by simp only [List.mem_singleton] at h; omega), hch.cell hHeld.2.2.2.2.2.2.2.2.2.2.2.2.2.2.2.2.2.2.2.2.2.2.2.2.2.2.1 (fun h => by simp only [List.mem_singleton] at h; omega), Nat.lt_of_lt_of_le hHeld.2.2.2.2.2.2.2.2.2.2.2.2.2.2.2.2.2.2.2.2.2.2.2.2.2.2.2.1 hch.size, Below.mark hHeld.2.2.2.2.2.2.2.2.2.2.2.2.2.2.2.2.2.2.2.2.2.2.2.2.2.2.2.2.1 hch (hHeld.2.2.2.2.2.2.2.2.2.2.2.2.2.2.2.2.2.2.2.2.2.2.2.2.2.2.2.2.1).size (fun b hb => by have h1 := hK0.size; simp only [List.mem_singleton] at hb; omega), Below.mark hHeld.2.2.2.2.2.2.2.2.2.2.2.2.2.2.2.2.2.2.2.2.2.2.2.2.2.2.2.2.2.1 hch (hHeld.2.2.2.2.2.2.2.2.2.2.2.2.2.2.2.2.2.2.2.2.2.2.2.2.2.2.2.2.2.1).size (fun b hb => by have h1 := hK5.size; simp only [List.mem_singleton] at hb; omega), Below.mark hHeld.2.2.2.2.2.2.2.2.2.2.2.2.2.2.2.2.2.2.2.2.2.2.2.2.2.2.2.2.2.2.1 hch (hHeld.2.2.2.2.2.2.2.2.2.2.2.2.2.2.2.2.2.2.2.2.2.2.2.2.2.2.2.2.2.2.1).size (fun b hb => by have h1 := hK17.size; simp only [List.mem_singleton] at hb; omega), Below.mark hHeld.2.2.2.2.2.2.2.2.2.2.2.2.2.2.2.2.2.2.2.2.2.2.2.2.2.2.2.2.2.2.2 hch (hHeld.2.2.2.2.2.2.2.2.2.2.2.2.2.2.2.2.2.2.2.2.2.2.2.2.2.2.2.2.2.2.2).size (fun b hb => by have h1 := hK931.size; simp only [List.mem_singleton] at hb; omega)⟩) (fun hNew => ?_)
              clear hK K hHeld
              have hHeld := hNew
              clear hNew
              try simp only [Act.put, List.setIfInBounds_toArray, List.set_cons_zero, List.set_cons_succ]
              first | (refine held_take 11 rfl (by kernel_rfl) (by kernel_rfl) (by kernel_rfl) (by rfl) (fun _ _ _ h => h) (by assumption) (by intro w hSw; (try dsimp only at hSw); go_simp; first | done | with_reducible rfl) ?_) | (refine held_skip 11 rfl (by kernel_rfl) (by kernel_rfl) (by kernel_rfl) (by rfl) (fun _ _ _ h => h) (by assumption) ?_)
              simp only [Act.put, List.setIfInBounds_toArray, List.set_cons_zero, List.set_cons_succ]
              first | (refine held_take 12 rfl (by kernel_rfl) (by kernel_rfl) (by kernel_rfl) (by rfl) (fun _ _ _ h => h) (by assumption) (by intro w hSw; (try dsimp only at hSw); go_simp; first | done | with_reducible rfl) ?_) | (refine held_skip 12 rfl (by kernel_rfl) (by kernel_rfl) (by kernel_rfl) (by rfl) (fun _ _ _ h => h) (by assumption) ?_)
              simp only [Act.put, List.setIfInBounds_toArray, List.set_cons_zero, List.set_cons_succ]
              refine wpAnyH_done (by kernel_rfl) ?_ _
              go_wp2_with fail
              go_meet
              exact ⟨w19.heap.size, A121, c121, B121, d121, bs21, bt21, rfl, rfl, rfl, hGs, hgz, hW21z, hX21z, ⟨hF21.1, fun b hb => Nat.le_trans (hFB) (hF21.2 b hb)⟩, fun h => hne _ h rfl, hHeld⟩
          · go_simp
            have hGs : w18.heap.size ≤ w18.heap.size := Nat.le_refl _
            generalize hwa : World.drew (World.alloc w18 (.cells #[.slice none 0 0, .slice none 0 0, .int .i64 0] 68)) = wa
            have hba : Below w18.drew.heap.size w18.drew wa := by rw [← hwa]; exact ((show Below w18.drew.heap.size w18.drew w18 from ⟨rfl, rfl, rfl, Nat.le_refl _, fun _ _ => rfl⟩).alloc (Nat.le_refl _) _).drew
            have hga : wa.heap[w18.heap.size]? = some (.cells #[.slice none 0 0, .slice none 0 0, .int .i64 0] 68 (0, 0)) := by rw [← hwa]; exact hp_new rfl
            clear hwa
            refine hK.out _ _ (by (try dsimp only); exact ⟨keep_cell hba hHeld.1, keep_cell hba hHeld.2.1, keep_cell hba hHeld.2.2.1, keep_lt hba hHeld.2.2.2.1, keep_cell hba hHeld.2.2.2.2.1, keep_cell hba hHeld.2.2.2.2.2.1, keep_cell hba hHeld.2.2.2.2.2.2.1, keep_cell hba hHeld.2.2.2.2.2.2.2.1, keep_cell hba hHeld.2.2.2.2.2.2.2.2.1, keep_lt hba hHeld.2.2.2.2.2.2.2.2.2.1, keep_cell hba hHeld.2.2.2.2.2.2.2.2.2.2.1, keep_cell hba hHeld.2.2.2.2.2.2.2.2.2.2.2.1, keep_cell hba hHeld.2.2.2.2.2.2.2.2.2.2.2.2.1, keep_lt hba hHeld.2.2.2.2.2.2.2.2.2.2.2.2.2.1, keep_cell hba hHeld.2.2.2.2.2.2.2.2.2.2.2.2.2.2.1, keep_cell hba hHeld.2.2.2.2.2.2.2.2.2.2.2.2.2.2.2.1, keep_cell hba hHeld.2.2.2.2.2.2.2.2.2.2.2.2.2.2.2.2.1, keep_lt hba hHeld.2.2.2.2.2.2.2.2.2.2.2.2.2.2.2.2.2.1, keep_cell hba hHeld.2.2.2.2.2.2.2.2.2.2.2.2.2.2.2.2.2.2.1, keep_cell hba hHeld.2.2.2.2.2.2.2.2.2.2.2.2.2.2.2.2.2.2.2.1, keep_cell hba hHeld.2.2.2.2.2.2.2.2.2.2.2.2.2.2.2.2.2.2.2.2.1, keep_cell hba hHeld.2.2.2.2.2.2.2.2.2.2.2.2.2.2.2.2.2.2.2.2.2.1, keep_cell hba hHeld.2.2.2.2.2.2.2.2.2.2.2.2.2.2.2.2.2.2.2.2.2.2.1, keep_lt hba hHeld.2.2.2.2.2.2.2.2.2.2.2.2.2.2.2.2.2.2.2.2.2.2.2.1, keep_cell hba hHeld.2.2.2.2.2.2.2.2.2.2.2.2.2.2.2.2.2.2.2.2.2.2.2.2.1, keep_cell hba hHeld.2.2.2.2.2.2.2.2.2.2.2.2.2.2.2.2.2.2.2.2.2.2.2.2.2.1, keep_cell hba hHeld.2.2.2.2.2.2.2.2.2.2.2.2.2.2.2.2.2.2.2.2.2.2.2.2.2.2.1, keep_lt hba hHeld.2.2.2.2.2.2.2.2.2.2.2.2.2.2.2.2.2.2.2.2.2.2.2.2.2.2.2.1, ex_trans hHeld.2.2.2.2.2.2.2.2.2.2.2.2.2.2.2.2.2.2.2.2.2.2.2.2.2.2.2.2.1 hba, ex_trans hHeld.2.2.2.2.2.2.2.2.2.2.2.2.2.2.2.2.2.2.2.2.2.2.2.2.2.2.2.2.2.1 hba, ex_trans hHeld.2.2.2.2.2.2.2.2.2.2.2.2.2.2.2.2.2.2.2.2.2.2.2.2.2.2.2.2.2.2.1 hba, ex_trans hHeld.2.2.2.2.2.2.2.2.2.2.2.2.2.2.2.2.2.2.2.2.2.2.2.2.2.2.2.2.2.2.2 hba⟩) (fun hNew => ?_)
            clear hK K hHeld
            have hHeld := hNew
            clear hNew
            try simp only [Act.put, List.setIfInBounds_toArray, List.set_cons_zero, List.set_cons_succ]
            refine held_one 1 (by kernel_rfl) rfl (fun K hK => ?_)
            go_simp
            have hFB : w18.heap.size ≤ wa.heap.size := (hHeld.2.2.2.2.2.2.2.2.2.2.2.2.2.2.2.2.2.2.2.2.2.2.2.2.2.2.2.2.2.2.2).size
            have hGl := blk_lt hga
            go_at_call 40
            refine (laws_toStore s0 A0 s0.schema.length c0 B0 s0.files.length d0 _ (hS0.mono mFld hHeld.2.2.2.2.2.2.2.2.2.2.2.2.2.2.2.2.2.2.2.2.2.2.2.2.2.2.2.2.1) (hT0.mono mFil hHeld.2.2.2.2.2.2.2.2.2.2.2.2.2.2.2.2.2.2.2.2.2.2.2.2.2.2.2.2.1) hk0).mono ?_; rintro e w19 hN19
            obtain ⟨A'19, c'19, B'19, d'19, bs19, bt19, rfl, hcc19, hcd19, hW19, hX19, hF19, hb19⟩ := hN19.out
            have hL19 : Hid (∀ b ∈ bs19 ++ bt19, b < w19.heap.size) := Lib.hid (fun b hb => (List.mem_append.1 hb).elim (hW19.lt lFld b) (hX19.lt (lFil _) b))
            have hR19 := hW19.sl (R := RFld) (fun h => h.1)
            have hQ19 := hX19.sl (R := RFil) (fun h => h.r)
            go_wp2_with fail
            refine hK.out _ _ (by (try dsimp only); exact ⟨keep_cell hb19 hHeld.1, keep_cell hb19 hHeld.2.1, keep_cell hb19 hHeld.2.2.1, keep_lt hb19 hHeld.2.2.2.1, keep_cell hb19 hHeld.2.2.2.2.1, keep_cell hb19 hHeld.2.2.2.2.2.1, keep_cell hb19 hHeld.2.2.2.2.2.2.1, keep_cell hb19 hHeld.2.2.2.2.2.2.2.1, keep_cell hb19 hHeld.2.2.2.2.2.2.2.2.1, keep_lt hb19 hHeld.2.2.2.2.2.2.2.2.2.1, keep_cell hb19 hHeld.2.2.2.2.2.2.2.2.2.2.1, keep_cell hb19 hHeld.2.2.2.2.2.2.2.2.2.2.2.1, keep_cell hb19 hHeld.2.2.2.2.2.2.2.2.2.2.2.2.1, keep_lt hb19 hHeld.2.2.2.2.2.2.2.2.2.2.2.2.2.1, keep_cell hb19 hHeld.2.2.2.2.2.2.2.2.2.2.2.2.2.2.1, keep_cell hb19 hHeld.2.2.2.2.2.2.2.2.2.2.2.2.2.2.2.1, keep_cell hb19 hHeld.2.2.2.2.2.2.2.2.2.2.2.2.2.2.2.2.1, keep_lt hb19 hHeld.2.2.2.2.2.2.2.2.2.2.2.2.2.2.2.2.2.1, keep_cell hb19 hHeld.2.2.2.2.2.2.2.2.2.2.2.2.2.2.2.2.2.2.1, keep_cell hb19 hHeld.2.2.2.2.2.2.2.2.2.2.2.2.2.2.2.2.2.2.2.1, keep_cell hb19 hHeld.2.2.2.2.2.2.2.2.2.2.2.2.2.2.2.2.2.2.2.2.1, keep_cell hb19 hHeld.2.2.2.2.2.2.2.2.2.2.2.2.2.2.2.2.2.2.2.2.2.1, keep_cell hb19 hHeld.2.2.2.2.2.2.2.2.2.2.2.2.2.2.2.2.2.2.2.2.2.2.1, keep_lt hb19 hHeld.2.2.2.2.2.2.2.2.2.2.2.2.2.2.2.2.2.2.2.2.2.2.2.1, keep_cell hb19 hHeld.2.2.2.2.2.2.2.2.2.2.2.2.2.2.2.2.2.2.2.2.2.2.2.2.1, keep_cell hb19 hHeld.2.2.2.2.2.2.2.2.2.2.2.2.2.2.2.2.2.2.2.2.2.2.2.2.2.1, keep_cell hb19 hHeld.2.2.2.2.2.2.2.2.2.2.2.2.2.2.2.2.2.2.2.2.2.2.2.2.2.2.1, keep_lt hb19 hHeld.2.2.2.2.2.2.2.2.2.2.2.2.2.2.2.2.2.2.2.2.2.2.2.2.2.2.2.1, ex_trans hHeld.2.2.2.2.2.2.2.2.2.2.2.2.2.2.2.2.2.2.2.2.2.2.2.2.2.2.2.2.1 hb19, ex_trans hHeld.2.2.2.2.2.2.2.2.2.2.2.2.2.2.2.2.2.2.2.2.2.2.2.2.2.2.2.2.2.1 hb19, ex_trans hHeld.2.2.2.2.2.2.2.2.2.2.2.2.2.2.2.2.2.2.2.2.2.2.2.2.2.2.2.2.2.2.1 hb19, ex_trans hHeld.2.2.2.2.2.2.2.2.2.2.2.2.2.2.2.2.2.2.2.2.2.2.2.2.2.2.2.2.2.2.2 hb19⟩) (fun hNew => ?_)
            clear hK K hHeld
            have hHeld := hNew
            clear hNew
            try simp only [Act.put, List.setIfInBounds_toArray, List.set_cons_zero, List.set_cons_succ]
            replace hga := below_keep hb19 hga
            refine held_one 3 (by kernel_rfl) rfl (fun K hK => ?_)
            go_simp
            have hFB : w18.heap.size ≤ w19.heap.size := (hHeld.2.2.2.2.2.2.2.2.2.2.2.2.2.2.2.2.2.2.2.2.2.2.2.2.2.2.2.2.2.2.2).size
            have hGl := blk_lt hga
            go_at_call 25
            refine (laws_toFile f1 A1 f1.attrs.length c1 _ (hS1.mono mAtr hHeld.2.2.2.2.2.2.2.2.2.2.2.2.2.2.2.2.2.2.2.2.2.2.2.2.2.2.2.2.1) hk1).mono ?_; rintro e w20 hN20
            obtain ⟨A'20, c'20, bs20, rfl, hcc20, hW20, hF20, hb20⟩ := hN20.out
            have hL20 := Lib.hid (hW20.lt lAtr)
            have hR20 := hW20.sl (R := RAtr) (fun h => h.1)
            go_wp2_with fail
            refine hK.out _ _ (by (try dsimp only); exact ⟨keep_cell hb20 hHeld.1, keep_cell hb20 hHeld.2.1, keep_cell hb20 hHeld.2.2.1, keep_lt hb20 hHeld.2.2.2.1, keep_cell hb20 hHeld.2.2.2.2.1, keep_cell hb20 hHeld.2.2.2.2.2.1, keep_cell hb20 hHeld.2.2.2.2.2.2.1, keep_cell hb20 hHeld.2.2.2.2.2.2.2.1, keep_cell hb20 hHeld.2.2.2.2.2.2.2.2.1, keep_lt hb20 hHeld.2.2.2.2.2.2.2.2.2.1, keep_cell hb20 hHeld.2.2.2.2.2.2.2.2.2.2.1, keep_cell hb20 hHeld.2.2.2.2.2.2.2.2.2.2.2.1, keep_cell hb20 hHeld.2.2.2.2.2.2.2.2.2.2.2.2.1, keep_lt hb20 hHeld.2.2.2.2.2.2.2.2.2.2.2.2.2.1, keep_cell hb20 hHeld.2.2.2.2.2.2.2.2.2.2.2.2.2.2.1, keep_cell hb20 hHeld.2.2.2.2.2.2.2.2.2.2.2.2.2.2.2.1, keep_cell hb20 hHeld.2.2.2.2.2.2.2.2.2.2.2.2.2.2.2.2.1, keep_lt hb20 hHeld.2.2.2.2.2.2.2.2.2.2.2.2.2.2.2.2.2.1, keep_cell hb20 hHeld.2.2.2.2.2.2.2.2.2.2.2.2.2.2.2.2.2.2.1, keep_cell hb20 hHeld.2.2.2.2.2.2.2.2.2.2.2.2.2.2.2.2.2.2.2.1, keep_cell hb20 hHeld.2.2.2.2.2.2.2.2.2.2.2.2.2.2.2.2.2.2.2.2.1, keep_cell hb20 hHeld.2.2.2.2.2.2.2.2.2.2.2.2.2.2.2.2.2.2.2.2.2.1, keep_cell hb20 hHeld.2.2.2.2.2.2.2.2.2.2.2.2.2.2.2.2.2.2.2.2.2.2.1, keep_lt hb20 hHeld.2.2.2.2.2.2.2.2.2.2.2.2.2.2.2.2.2.2.2.2.2.2.2.1, keep_cell hb20 hHeld.2.2.2.2.2.2.2.2.2.2.2.2.2.2.2.2.2.2.2.2.2.2.2.2.1, keep_cell hb20 hHeld.2.2.2.2.2.2.2.2.2.2.2.2.2.2.2.2.2.2.2.2.2.2.2.2.2.1, keep_cell hb20 hHeld.2.2.2.2.2.2.2.2.2.2.2.2.2.2.2.2.2.2.2.2.2.2.2.2.2.2.1, keep_lt hb20 hHeld.2.2.2.2.2.2.2.2.2.2.2.2.2.2.2.2.2.2.2.2.2.2.2.2.2.2.2.1, ex_trans hHeld.2.2.2.2.2.2.2.2.2.2.2.2.2.2.2.2.2.2.2.2.2.2.2.2.2.2.2.2.1 hb20, ex_trans hHeld.2.2.2.2.2.2.2.2.2.2.2.2.2.2.2.2.2.2.2.2.2.2.2.2.2.2.2.2.2.1 hb20, ex_trans hHeld.2.2.2.2.2.2.2.2.2.2.2.2.2.2.2.2.2.2.2.2.2.2.2.2.2.2.2.2.2.2.1 hb20, ex_trans hHeld.2.2.2.2.2.2.2.2.2.2.2.2.2.2.2.2.2.2.2.2.2.2.2.2.2.2.2.2.2.2.2 hb20⟩) (fun hNew => ?_)
            clear hK K hHeld
            have hHeld := hNew
            clear hNew
            try simp only [Act.put, List.setIfInBounds_toArray, List.set_cons_zero, List.set_cons_succ]
            replace hga := below_keep hb20 hga
            refine held_one 4 (by kernel_rfl) rfl (fun K hK => ?_)
            go_simp
            have hFB : w18.heap.size ≤ w20.heap.size := (hHeld.2.2.2.2.2.2.2.2.2.2.2.2.2.2.2.2.2.2.2.2.2.2.2.2.2.2.2.2.2.2.2).size
            have hGl := blk_lt hga
            go_at_call 56
            refine (impl_CreateFile s0 A'19 s0.schema.length c'19 B'19 s0.files.length d'19 f1 A'20 f1.attrs.length c'20 _ (hR19.mono mFld (ex_trans (Below.refl _ _) hb20)) (hQ19.mono mFil (ex_trans (Below.refl _ _) hb20)) (hR20.mono mAtr (Below.refl _ _)) hk0 hk1).mono ?_; rintro e w21 hN21
            rw [← HE0.out, ← HE1.out, ← HE2.out] at hN21
            obtain ⟨A121, c121, B121, d121, bs21, bt21, rfl, hW21, hX21, hF21, hb21⟩ := hN21.v
            have hL21 : Hid (∀ b ∈ bs21 ++ bt21, b < w21.heap.size) := Lib.hid (fun b hb => (List.mem_append.1 hb).elim (hW21.lt lFld b) (hX21.lt (lFil _) b))
            have hR21 := hW21.sl (R := RFld) (fun h => h.1)
            have hQ21 := hX21.sl (R := RFil) (fun h => h.r)
            go_wp2_with fail
            refine hK.out _ _ (by (try dsimp only); exact ⟨keep_cell hb21 hHeld.1, keep_cell hb21 hHeld.2.1, keep_cell hb21 hHeld.2.2.1, keep_lt hb21 hHeld.2.2.2.1, keep_cell hb21 hHeld.2.2.2.2.1, keep_cell hb21 hHeld.2.2.2.2.2.1, keep_cell hb21 hHeld.2.2.2.2.2.2.1, keep_cell hb21 hHeld.2.2.2.2.2.2.2.1, keep_cell hb21 hHeld.2.2.2.2.2.2.2.2.1, keep_lt hb21 hHeld.2.2.2.2.2.2.2.2.2.1, keep_cell hb21 hHeld.2.2.2.2.2.2.2.2.2.2.1, keep_cell hb21 hHeld.2.2.2.2.2.2.2.2.2.2.2.1, keep_cell hb21 hHeld.2.2.2.2.2.2.2.2.2.2.2.2.1, keep_lt hb21 hHeld.2.2.2.2.2.2.2.2.2.2.2.2.2.1, keep_cell hb21 hHeld.2.2.2.2.2.2.2.2.2.2.2.2.2.2.1, keep_cell hb21 hHeld.2.2.2.2.2.2.2.2.2.2.2.2.2.2.2.1, keep_cell hb21 hHeld.2.2.2.2.2.2.2.2.2.2.2.2.2.2.2.2.1, keep_lt hb21 hHeld.2.2.2.2.2.2.2.2.2.2.2.2.2.2.2.2.2.1, keep_cell hb21 hHeld.2.2.2.2.2.2.2.2.2.2.2.2.2.2.2.2.2.2.1, keep_cell hb21 hHeld.2.2.2.2.2.2.2.2.2.2.2.2.2.2.2.2.2.2.2.1, keep_cell hb21 hHeld.2.2.2.2.2.2.2.2.2.2.2.2.2.2.2.2.2.2.2.2.1, keep_cell hb21 hHeld.2.2.2.2.2.2.2.2.2.2.2.2.2.2.2.2.2.2.2.2.2.1, keep_cell hb21 hHeld.2.2.2.2.2.2.2.2.2.2.2.2.2.2.2.2.2.2.2.2.2.2.1, keep_lt hb21 hHeld.2.2.2.2.2.2.2.2.2.2.2.2.2.2.2.2.2.2.2.2.2.2.2.1, keep_cell hb21 hHeld.2.2.2.2.2.2.2.2.2.2.2.2.2.2.2.2.2.2.2.2.2.2.2.2.1, keep_cell hb21 hHeld.2.2.2.2.2.2.2.2.2.2.2.2.2.2.2.2.2.2.2.2.2.2.2.2.2.1, keep_cell hb21 hHeld.2.2.2.2.2.2.2.2.2.2.2.2.2.2.2.2.2.2.2.2.2.2.2.2.2.2.1, keep_lt hb21 hHeld.2.2.2.2.2.2.2.2.2.2.2.2.2.2.2.2.2.2.2.2.2.2.2.2.2.2.2.1, ex_trans hHeld.2.2.2.2.2.2.2.2.2.2.2.2.2.2.2.2.2.2.2.2.2.2.2.2.2.2.2.2.1 hb21, ex_trans hHeld.2.2.2.2.2.2.2.2.2.2.2.2.2.2.2.2.2.2.2.2.2.2.2.2.2.2.2.2.2.1 hb21, ex_trans hHeld.2.2.2.2.2.2.2.2.2.2.2.2.2.2.2.2.2.2.2.2.2.2.2.2.2.2.2.2.2.2.1 hb21, ex_trans hHeld.2.2.2.2.2.2.2.2.2.2.2.2.2.2.2.2.2.2.2.2.2.2.2.2.2.2.2.2.2.2.2 hb21⟩) (fun hNew => ?_)
            clear hK K hHeld
            have hHeld := hNew
            clear hNew
            try simp only [Act.put, List.setIfInBounds_toArray, List.set_cons_zero, List.set_cons_succ]
            replace hga := below_keep hb21 hga
            first | (refine held_take 5 rfl (by kernel_rfl) (by kernel_rfl) (by kernel_rfl) (by rfl) (fun _ _ _ h => h) (by assumption) (by intro w hSw; (try dsimp only at hSw); go_simp; first | done | with_reducible rfl) ?_) | (refine held_skip 5 rfl (by kernel_rfl) (by kernel_rfl) (by kernel_rfl) (by rfl) (fun _ _ _ h => h) (by assumption) ?_)
            simp only [Act.put, List.setIfInBounds_toArray, List.set_cons_zero, List.set_cons_succ]
            first | (refine held_take 6 rfl (by kernel_rfl) (by kernel_rfl) (by kernel_rfl) (by rfl) (fun _ _ _ h => h) (by assumption) (by intro w hSw; (try dsimp only at hSw); go_simp; first | done | with_reducible rfl) ?_) | (refine held_skip 6 rfl (by kernel_rfl) (by kernel_rfl) (by kernel_rfl) (by rfl) (fun _ _ _ h => h) (by assumption) ?_)
            simp only [Act.put, List.setIfInBounds_toArray, List.set_cons_zero, List.set_cons_succ]
            first | (refine held_take 7 rfl (by kernel_rfl) (by kernel_rfl) (by kernel_rfl) (by rfl) (fun _ _ _ h => h) (by assumption) (by intro w hSw; (try dsimp only at hSw); go_simp; first | done | with_reducible rfl) ?_) | (refine held_skip 7 rfl (by kernel_rfl) (by kernel_rfl) (by kernel_rfl) (by rfl) (fun _ _ _ h => h) (by assumption) ?_)
            simp only [Act.put, List.setIfInBounds_toArray, List.set_cons_zero, List.set_cons_succ]
            first | (refine held_take 8 rfl (by kernel_rfl) (by kernel_rfl) (by kernel_rfl) (by rfl) (fun _ _ _ h => h) (by assumption) (by intro w hSw; (try dsimp only at hSw); go_simp; first | done | with_reducible rfl) ?_) | (refine held_skip 8 rfl (by kernel_rfl) (by kernel_rfl) (by kernel_rfl) (by rfl) (fun _ _ _ h => h) (by assumption) ?_)
            simp only [Act.put, List.setIfInBounds_toArray, List.set_cons_zero, List.set_cons_succ]
            have gc := blk_cell? hga
            have gf := blk_free hga
            refine held_one 10 (by kernel_rfl) rfl (fun K hK => ?_)
            go_simp
            have hch : Chg [w18.heap.size] w21 (sets w21 (w18.heap.size) 0 [.slice A121 r0.schema.length c121, .slice B121 r0.files.length d121, .int .i64 r0.next]) := sets_chg (bs := [w18.heap.size]) (g := w18.heap.size) (w := w21) (w1 := w21) (by simp) _ _ 0 (Chg.refl _ _)
            have hgz : (sets w21 (w18.heap.size) 0 [.slice A121 r0.schema.length c121, .slice B121 r0.files.length d121, .int .i64 r0.next]).heap[w18.heap.size]? = some (.cells #[.slice A121 r0.schema.length c121, .slice B121 r0.files.length d121, .int .i64 r0.next] 68 (0, 0)) := sets_blk _ _ _ _ hga
            have hne : ∀ b ∈ (bs21 ++ bt21), b ≠ w18.heap.size := fun b hb => by have h1 := hF21.2 b hb; omega
            have hW21z := (hW21).loc (w' := (sets w21 (w18.heap.size) 0 [.slice A121 r0.schema.length c121, .slice B121 r0.files.length d121, .int .i64 r0.next])) lFld (fun b hb => hch.block b (hL21.out b (List.mem_append_left _ hb)) (fun h => hne b (List.mem_append_left _ hb) (by simpa using h)))
            have hX21z := (hX21).loc (w' := (sets w21 (w18.heap.size) 0 [.slice A121 r0.schema.length c121, .slice B121 r0.files.length d121, .int .i64 r0.next])) (lFil _) (fun b hb => hch.block b (hL21.out b (List.mem_append_right _ hb)) (fun h => hne b (List.mem_append_right _ hb) (by simpa using h)))
            refine hK.out _ _ (by (try dsimp only); exact ⟨hch.cell hHeld.1 (fun h => by simp only [List.mem_singleton] at h; omega), hch.cell hHeld.2.1 (fun h => by simp only [List.mem_singleton] at h; omega), hch.cell hHeld.2.2.1 (fun h => by simp only [List.mem_singleton] at h; omega), Nat.lt_of_lt_of_le hHeld.2.2.2.1 hch.size, hch.cell hHeld.2.2.2.2.1 (fun h => by simp only [List.mem_singleton] at h; omega), hch.cell hHeld.2.2.2.2.2.1 (fun h => by simp only [List.mem_singleton] at h; omega), hch.cell hHeld.2.2.2.2.2.2.1 (fun h => by simp only [List.mem_singleton] at h; omega), hch.cell hHeld.2.2.2.2.2.2.2.1 (fun h => by simp only [List.mem_singleton] at h; omega), hch.cell hHeld.2.2.2.2.2.2.2.2.1 (fun h => by simp only [List.mem_singleton] at h; omega), Nat.lt_of_lt_of_le hHeld.2.2.2.2.2.2.2.2.2.1 hch.size, hch.cell hHeld.2.2.2.2.2.2.2.2.2.2.1 (fun h => by simp only [List.mem_singleton] at h; omega), hch.cell hHeld.2.2.2.2.2.2.2.2.2.2.2.1 (fun h => by simp only [List.mem_singleton] at h; omega), hch.cell hHeld.2.2.2.2.2.2.2.2.2.2.2.2.1 (fun h => by simp only [List.mem_singleton] at h; omega), Nat.lt_of_lt_of_le hHeld.2.2.2.2.2.2.2.2.2.2.2.2.2.1 hch.size, hch.cell hHeld.2.2.2.2.2.2.2.2.2.2.2.2.2.2.1 (fun h => by simp only [List.mem_singleton] at h; omega), hch.cell hHeld.2.2.2.2.2.2.2.2.2.2.2.2.2.2.2.1 (fun h => by simp only [List.mem_singleton] at h; omega), hch.cell hHeld.2.2.2.2.2.2.2.2.2.2.2.2.2.2.2.2.1 (fun h => by simp only [List.mem_singleton] at h; omega), Nat.lt_of_lt_of_le hHeld.2.2.2.2.2.2.2.2.2.2.2.2.2.2.2.2.2.1 hch.size, hch.cell hHeld.2.2.2.2.2.2.2.2.2.2.2.2.2.2.2.2.2.2.1 (fun h => by simp only [List.mem_singleton] at h; omega), hch.cell hHeld.2.2.2.2.2.2.2.2.2.2.2.2.2.2.2.2.2.2.2.1 (fun h => by simp only [List.mem_singleton] at h; omega), hch.cell hHeld.2.2.2.2.2.2.2.2.2.2.2.2.2.2.2.2.2.2.2.2.1 (fun h => by simp only [List.mem_singleton] at h; omega), hch.cell hHeld.2.2.2.2.2.2.2.2.2.2.2.2.2.2.2.2.2.2.2.2.2.1 (fun h => by simp only [List.mem_singleton] at h; omega), hch.cell hHeld.2.2.2.2.2.2.2.2.2.2.2.2.2.2.2.2.2.2.2.2.2.2.1 (fun h => by simp only [List.mem_singleton] at h; omega), Nat.lt_of_lt_of_le hHeld.2.2.2.2.2.2.2.2.2.2.2.2.2.2.2.2.2.2.2.2.2.2.2.1 hch.size, hch.cell hHeld.2.2.2.2.2.2.2.2.2.2.2.2.2.2.2.2.2.2.2.2.2.2.2.2.1 (fun h => by simp only [List.mem_singleton] at h; omega), hch.cell hHeld.2.2.2.2.2.2.2.2.2.2.2.2.2.2.2.2.2.2.2.2.2.2.2.2.2.1 (fun h => by simp only [List.mem_singleton] at h; omega), hch.cell hHeld.2.2.2.2.2.2.2.2.2.2.2.2.2.2.2.2.2.2.2.2.2.2.2.2.2.2.1 (fun h => by simp only [List.mem_singleton] at h; omega), Nat.lt_of_lt_of_le hHeld.2.2.2.2.2.2.2.2.2.2.2.2.2.2.2.2.2.2.2.2.2.2.2.2.2.2.2.1 hch.size, Below.mark hHeld.2.2.2.2.2.2.2.2.2.2.2.2.2.2.2.2.2.2.2.2.2.2.2.2.2.2.2.2.1 hch (hHeld.2.2.2.2.2.2.2.2.2.2.2.2.2.2.2.2.2.2.2.2.2.2.2.2.2.2.2.2.1).size (fun b hb => by have h1 := hK0.size; simp only [List.mem_singleton] at hb; omega), Below.mark hHeld.2.2.2.2.2.2.2.2.2.2.2.2.2.2.2.2.2.2.2.2.2.2.2.2.2.2.2.2.2.1 hch (hHeld.2.2.2.2.2.2.2.2.2.2.2.2.2.2.2.2.2.2.2.2.2.2.2.2.2.2.2.2.2.1).size (fun b hb => by have h1 := hK5.size; simp only [List.mem_singleton] at hb; omega), Below.mark hHeld.2.2.2.2.2.2.2.2.2.2.2.2.2.2.2.2.2.2.2.2.2.2.2.2.2.2.2.2.2.2.1 hch (hHeld.2.2.2.2.2.2.2.2.2.2.2.2.2.2.2.2.2.2.2.2.2.2.2.2.2.2.2.2.2.2.1).size (fun b hb => by have h1 := hK17.size; simp only [List.mem_singleton] at hb; omega), Below.mark hHeld.2.2.2.2.2.2.2.2.2.2.2.2.2.2.2.2.2.2.2.2.2.2.2.2.2.2.2.2.2.2.2 hch (hHeld.2.2.2.2.2.2.2.2.2.2.2.2.2.2.2.2.2.2.2.2.2.2.2.2.2.2.2.2.2.2.2).size (fun b hb => by have h1 := hK931.size; simp only [List.mem_singleton] at hb; omega)⟩) (fun hNew => ?_)
            clear hK K hHeld
            have hHeld := hNew
            clear hNew
            try simp only [Act.put, List.setIfInBounds_toArray, List.set_cons_zero, List.set_cons_succ]
            first | (refine held_take 11 rfl (by kernel_rfl) (by kernel_rfl) (by kernel_rfl) (by rfl) (fun _ _ _ h => h) (by assumption) (by intro w hSw; (try dsimp only at hSw); go_simp; first | done | with_reducible rfl) ?_) | (refine held_skip 11 rfl (by kernel_rfl) (by kernel_rfl) (by kernel_rfl) (by rfl) (fun _ _ _ h => h) (by assumption) ?_)
            simp only [Act.put, List.setIfInBounds_toArray, List.set_cons_zero, List.set_cons_succ]
            first | (refine held_take 12 rfl (by kernel_rfl) (by kernel_rfl) (by kernel_rfl) (by rfl) (fun _ _ _ h => h) (by assumption) (by intro w hSw; (try dsimp only at hSw); go_simp; first | done | with_reducible rfl) ?_) | (refine held_skip 12 rfl (by kernel_rfl) (by kernel_rfl) (by kernel_rfl) (by rfl) (fun _ _ _ h => h) (by assumption) ?_)
            simp only [Act.put, List.setIfInBounds_toArray, List.set_cons_zero, List.set_cons_succ]
            refine wpAnyH_done (by kernel_rfl) ?_ _
            go_wp2_with fail
            go_meet
            exact ⟨w18.heap.size, A121, c121, B121, d121, bs21, bt21, rfl, rfl, rfl, hGs, hgz, hW21z, hX21z, ⟨hF21.1, fun b hb => Nat.le_trans (hFB) (hF21.2 b hb)⟩, fun h => hne _ h rfl, hHeld⟩
        case rest =>
          generalize wc = w21 at *
          obtain ⟨g21, A121, c121, B121, d121, bs21, bt21, rfl, rfl, rfl, hgs21, hga21, hW21, hX21, hF21, hgn21, x0_0', x0_1', x0_2', z0', x1_0', x1_1', x1_2', x1_3', x1_4', z1', x2_0', x2_1', x2_2', z2', x3_0', x3_1', x3_2', z3', x4_0', x4_1', x4_2', x4_3', x4_4', z4', x5_0', x5_1', x5_2', z5', hK0', hK5', hK17', hK931'⟩ := hcut
          have hL21 : Hid (∀ b ∈ (bs21 ++ bt21), b < w21.heap.size) := Lib.hid (fun b hb => (List.mem_append.1 hb).elim (hW21.lt lFld b) (hX21.lt (lFil _) b))
          have hR21 := hW21.sl (R := RFld) (fun h => h.1)
          have hQ21 := hX21.sl (R := RFil) (fun h => h.r)
          clear x0_0 x0_1 x0_2 z0 x1_0 x1_1 x1_2 x1_3 x1_4 z1 x2_0 x2_1 x2_2 z2 x3_0 x3_1 x3_2 z3 x4_0 x4_1 x4_2 x4_3 x4_4 z4 x5_0 x5_1 x5_2 z5 hK0 hK5 hK17 hK931 hgn21
          have x0_0 := x0_0'
          clear x0_0'
          have x0_1 := x0_1'
          clear x0_1'
          have x0_2 := x0_2'
          clear x0_2'
          have z0 := z0'
          clear z0'
          have x1_0 := x1_0'
          clear x1_0'
          have x1_1 := x1_1'
          clear x1_1'
          have x1_2 := x1_2'
          clear x1_2'
          have x1_3 := x1_3'
          clear x1_3'
          have x1_4 := x1_4'
          clear x1_4'
          have z1 := z1'
          clear z1'
          have x2_0 := x2_0'
          clear x2_0'
          have x2_1 := x2_1'
          clear x2_1'
          have x2_2 := x2_2'
          clear x2_2'
          have z2 := z2'
          clear z2'
          have x3_0 := x3_0'
          clear x3_0'
          have x3_1 := x3_1'
          clear x3_1'
          have x3_2 := x3_2'
          clear x3_2'
          have z3 := z3'
          clear z3'
          have x4_0 := x4_0'
          clear x4_0'
          have x4_1 := x4_1'
          clear x4_1'
          have x4_2 := x4_2'
          clear x4_2'
          have x4_3 := x4_3'
          clear x4_3'
          have x4_4 := x4_4'
          clear x4_4'
          have z4 := z4'
          clear z4'
          have x5_0 := x5_0'
          clear x5_0'
          have x5_1 := x5_1'
          clear x5_1'
          have x5_2 := x5_2'
          clear x5_2'
          have z5 := z5'
          clear z5'
          have hK0 := hK0'
          clear hK0'
          have hK5 := hK5'
          clear hK5'
          have hK17 := hK17'
          clear hK17'
          clear hK931'
          have x6_0 : w21.cell? ⟨g21, 0, none⟩ = some (.slice A121 r0.schema.length c121) := blk_cell? hga21 0
          have x6_1 : w21.cell? ⟨g21, 1, none⟩ = some (.slice B121 r0.files.length d121) := blk_cell? hga21 1
          have x6_2 : w21.cell? ⟨g21, 2, none⟩ = some (.int .i64 r0.next) := blk_cell? hga21 2
          have z6 : g21 < w21.heap.size := blk_lt hga21
          clear hga21 hgs21
          have hK21 := Below.refl w21.heap.size w21
          go_wp2_with fail
          refine (laws_eqStore_same r0 A121 r0.schema.length c121 B121 r0.files.length d121 A105 r0.schema.length c105 B105 r0.files.length d105 _ (hR21.mono mFld (ex_trans hK21 (by go_grown))) (hQ21.mono mFil (ex_trans hK21 (by go_grown))) (hR5.mono mFld (ex_trans hK5 (by go_grown))) (hQ5.mono mFil (ex_trans hK5 (by go_grown))) hok0).mono ?_; rintro e w22 ⟨rfl, hb22⟩
          have hx22 : Below w21.heap.size w21 w22 := ex_trans (by go_grown) hb22
          replace hK0 := ex_trans hK0 hx22
          replace hK5 := ex_trans hK5 hx22
          replace hK17 := ex_trans hK17 hx22
          replace hK21 := ex_trans hK21 hx22
          replace x0_0 := keep_cell hx22 x0_0
          replace x0_1 := keep_cell hx22 x0_1
          replace x0_2 := keep_cell hx22 x0_2
          replace z0 := keep_lt hx22 z0
          replace x1_0 := keep_cell hx22 x1_0
          replace x1_1 := keep_cell hx22 x1_1
          replace x1_2 := keep_cell hx22 x1_2
          replace x1_3 := keep_cell hx22 x1_3
          replace x1_4 := keep_cell hx22 x1_4
          replace z1 := keep_lt hx22 z1
          replace x2_0 := keep_cell hx22 x2_0
          replace x2_1 := keep_cell hx22 x2_1
          replace x2_2 := keep_cell hx22 x2_2
          replace z2 := keep_lt hx22 z2
          replace x3_0 := keep_cell hx22 x3_0
          replace x3_1 := keep_cell hx22 x3_1
          replace x3_2 := keep_cell hx22 x3_2
          replace z3 := keep_lt hx22 z3
          replace x4_0 := keep_cell hx22 x4_0
          replace x4_1 := keep_cell hx22 x4_1
          replace x4_2 := keep_cell hx22 x4_2
          replace x4_3 := keep_cell hx22 x4_3
          replace x4_4 := keep_cell hx22 x4_4
          replace z4 := keep_lt hx22 z4
          replace x5_0 := keep_cell hx22 x5_0
          replace x5_1 := keep_cell hx22 x5_1
          replace x5_2 := keep_cell hx22 x5_2
          replace z5 := keep_lt hx22 z5
          replace x6_0 := keep_cell hx22 x6_0
          replace x6_1 := keep_cell hx22 x6_1
          replace x6_2 := keep_cell hx22 x6_2
          replace z6 := keep_lt hx22 z6
          go_wp2_with fail
          refine (laws_heldStore r0 A108 r0.schema.length c108 B108 r0.files.length d108 (r0.files.map (·.cnt)) 1 _ (hMR17_hW8.mono mFld (ex_trans hK17 (by go_grown))) (hMR17_hX8.mono mFil (ex_trans hK17 (by go_grown))) (by omega) (by omega) hcr0 (by omega) (by omega)).mono ?_; rintro e w23 ⟨rfl, hb23⟩
          have hx23 : Below w22.heap.size w22 w23 := ex_trans (by go_grown) hb23
          replace hK0 := ex_trans hK0 hx23
          replace hK5 := ex_trans hK5 hx23
          replace hK17 := ex_trans hK17 hx23
          replace hK21 := ex_trans hK21 hx23
          replace x0_0 := keep_cell hx23 x0_0
          replace x0_1 := keep_cell hx23 x0_1
          replace x0_2 := keep_cell hx23 x0_2
          replace z0 := keep_lt hx23 z0
          replace x1_0 := keep_cell hx23 x1_0
          replace x1_1 := keep_cell hx23 x1_1
          replace x1_2 := keep_cell hx23 x1_2
          replace x1_3 := keep_cell hx23 x1_3
          replace x1_4 := keep_cell hx23 x1_4
          replace z1 := keep_lt hx23 z1
          replace x2_0 := keep_cell hx23 x2_0
          replace x2_1 := keep_cell hx23 x2_1
          replace x2_2 := keep_cell hx23 x2_2
          replace z2 := keep_lt hx23 z2
          replace x3_0 := keep_cell hx23 x3_0
          replace x3_1 := keep_cell hx23 x3_1
          replace x3_2 := keep_cell hx23 x3_2
          replace z3 := keep_lt hx23 z3
          replace x4_0 := keep_cell hx23 x4_0
          replace x4_1 := keep_cell hx23 x4_1
          replace x4_2 := keep_cell hx23 x4_2
          replace x4_3 := keep_cell hx23 x4_3
          replace x4_4 := keep_cell hx23 x4_4
          replace z4 := keep_lt hx23 z4
          replace x5_0 := keep_cell hx23 x5_0
          replace x5_1 := keep_cell hx23 x5_1
          replace x5_2 := keep_cell hx23 x5_2
          replace z5 := keep_lt hx23 z5
          replace x6_0 := keep_cell hx23 x6_0
          replace x6_1 := keep_cell hx23 x6_1
          replace x6_2 := keep_cell hx23 x6_2
          replace z6 := keep_lt hx23 z6
          go_wp2_with fail
          go_returns
          exact ⟨rfl, hK0⟩
    · have g1 : (-1 : Int) < 0 := by omega
      have hK0 := Below.refl W.heap.size W
      go_enter Try.func12, Try.ntmps12
      go_wp2_with fail
      refine (laws_szStore_ok s0 A0 s0.schema.length c0 B0 s0.files.length d0 1048576 _ (hS0.mono mFld (ex_trans hK0 (by go_grown))) (hT0.mono mFil (ex_trans hK0 (by go_grown))) hs0 (by omega) (by omega) (by omega)).mono ?_; rintro e w1 ⟨rfl, hb1⟩
      have hx1 : Below W.heap.size W w1 := ex_trans (by go_grown) hb1
      replace hK0 := ex_trans hK0 hx1
      have x0_0 : w1.cell? ⟨W.heap.size, 0, none⟩ = some (.slice A0 s0.schema.length c0) := keep_cell hb1 (by go_simp)
      have x0_1 : w1.cell? ⟨W.heap.size, 1, none⟩ = some (.slice B0 s0.files.length d0) := keep_cell hb1 (by go_simp)
      have x0_2 : w1.cell? ⟨W.heap.size, 2, none⟩ = some (.int .i64 s0.next) := keep_cell hb1 (by go_simp)
      have z0 : W.heap.size < w1.heap.size := keep_lt hb1 (by simp <;> omega)
      have x1_0 : w1.cell? ⟨W.heap.size + 1, 0, none⟩ = some (.int .i64 f1.id) := keep_cell hb1 (by go_simp)
      have x1_1 : w1.cell? ⟨W.heap.size + 1, 1, none⟩ = some (.int .i64 f1.owner) := keep_cell hb1 (by go_simp)
      have x1_2 : w1.cell? ⟨W.heap.size + 1, 2, none⟩ = some (.bool f1.shared) := keep_cell hb1 (by go_simp)
      have x1_3 : w1.cell? ⟨W.heap.size + 1, 3, none⟩ = some (.int .i64 f1.link) := keep_cell hb1 (by go_simp)
      have x1_4 : w1.cell? ⟨W.heap.size + 1, 4, none⟩ = some (.slice A1 f1.attrs.length c1) := keep_cell hb1 (by go_simp)
      have z1 : W.heap.size + 1 < w1.heap.size := keep_lt hb1 (by simp <;> omega)
      go_wp2_with fail
      refine (laws_szFile_no f1 A1 f1.attrs.length c1 (1048576 - s0.sz) _ (hS1.mono mAtr (ex_trans hK0 (by go_grown))) hf1 (by omega) (by omega) (by omega)).mono ?_; rintro e w2 ⟨rfl, hb2⟩
      have hx2 : Below w1.heap.size w1 w2 := ex_trans (by go_grown) hb2
      replace hK0 := ex_trans hK0 hx2
      replace x0_0 := keep_cell hx2 x0_0
      replace x0_1 := keep_cell hx2 x0_1
      replace x0_2 := keep_cell hx2 x0_2
      replace z0 := keep_lt hx2 z0
      replace x1_0 := keep_cell hx2 x1_0
      replace x1_1 := keep_cell hx2 x1_1
      replace x1_2 := keep_cell hx2 x1_2
      replace x1_3 := keep_cell hx2 x1_3
      replace x1_4 := keep_cell hx2 x1_4
      replace z1 := keep_lt hx2 z1
      go_wp2_with fail
      go_returns
      exact ⟨rfl, hK0⟩
  · have g0 : (-1 : Int) < 0 := by omega
    have hK0 := Below.refl W.heap.size W
    go_enter Try.func12, Try.ntmps12
    go_wp2_with fail
    refine (laws_szStore_no s0 A0 s0.schema.length c0 B0 s0.files.length d0 1048576 _ (hS0.mono mFld (ex_trans hK0 (by go_grown))) (hT0.mono mFil (ex_trans hK0 (by go_grown))) hs0 (by omega) (by omega) (by omega)).mono ?_; rintro e w1 ⟨rfl, hb1⟩
    have hx1 : Below W.heap.size W w1 := ex_trans (by go_grown) hb1
    replace hK0 := ex_trans hK0 hx1
    have x0_0 : w1.cell? ⟨W.heap.size, 0, none⟩ = some (.slice A0 s0.schema.length c0) := keep_cell hb1 (by go_simp)
    have x0_1 : w1.cell? ⟨W.heap.size, 1, none⟩ = some (.slice B0 s0.files.length d0) := keep_cell hb1 (by go_simp)
    have x0_2 : w1.cell? ⟨W.heap.size, 2, none⟩ = some (.int .i64 s0.next) := keep_cell hb1 (by go_simp)
    have z0 : W.heap.size < w1.heap.size := keep_lt hb1 (by simp <;> omega)
    have x1_0 : w1.cell? ⟨W.heap.size + 1, 0, none⟩ = some (.int .i64 f1.id) := keep_cell hb1 (by go_simp)
    have x1_1 : w1.cell? ⟨W.heap.size + 1, 1, none⟩ = some (.int .i64 f1.owner) := keep_cell hb1 (by go_simp)
    have x1_2 : w1.cell? ⟨W.heap.size + 1, 2, none⟩ = some (.bool f1.shared) := keep_cell hb1 (by go_simp)
    have x1_3 : w1.cell? ⟨W.heap.size + 1, 3, none⟩ = some (.int .i64 f1.link) := keep_cell hb1 (by go_simp)
    have x1_4 : w1.cell? ⟨W.heap.size + 1, 4, none⟩ = some (.slice A1 f1.attrs.length c1) := keep_cell hb1 (by go_simp)
    have z1 : W.heap.size + 1 < w1.heap.size := keep_lt hb1 (by simp <;> omega)
    go_wp2_with fail
    go_returns
    exact ⟨rfl, hK0⟩
theorem core_FnExactCreateFile {H : Type} (enc : TypeId × Value → H) (W : World) (base : Nat) (args : Array Value) (ds : List (DataW H)) (p : List MemPlace)
    (hA : DataW.TrodAll enc Try.prog W 0 (fun _ => true) true Try.f12.params.toList args.toList ds p)
    (hval : ∀ (j : Nat) t v, Try.f12.params[j]? = some t → args[j]? = some v → Value.okWide Try.prog W .any base t v) :
    Calls Try.prog 12 args W fun e W' => e = .returned (.bool true) ∧ Below W.heap.size W W' := by
  rw [Try.params12] at hA hval
  obtain ⟨u0, vs0, d0, ds0, p0, q0, hargs, rfl, rfl, h0, r0⟩ := trodAll_cons hA
  obtain ⟨u1, vs1, d1, ds1, p1, q1, rfl, rfl, rfl, h1, r1⟩ := trodAll_cons r0
  obtain ⟨rfl, rfl, rfl⟩ := trodAll_nil r1
  obtain rfl : args = #[u0, u1] := by cases args; simp_all
  obtain ⟨fu0, g0⟩ := h0
  obtain ⟨x0, e0, ok0⟩ := Op_Store.2 _ _ _ g0
  obtain ⟨A0, n0, c0, B0, m0, d'0, e0, hS0, hT0⟩ := e0
  have z0 := agg_of Try.underlying63 (hval 0 63 u0 rfl rfl)
  have y0 : u0 = .agg ⟨_⟩ := z0.trans (congrArg (fun l => Value.agg ⟨l⟩) e0)
  subst y0
  obtain ⟨fu1, g1⟩ := h1
  obtain ⟨x1, e1, ok1⟩ := Op_File.2 _ _ _ g1
  obtain ⟨A1, n1, c1, e1, hS1⟩ := e1
  have z1 := agg_of Try.underlying38 (hval 1 38 u1 rfl rfl)
  have y1 : u1 = .agg ⟨_⟩ := z1.trans (congrArg (fun l => Value.agg ⟨l⟩) e1)
  subst y1
  exact walk_FnExactCreateFile W x0 A0 n0 c0 B0 m0 d'0 hS0 hT0 ok0 x1 A1 n1 c1 hS1 ok1
set_option maxRecDepth 100000 in
theorem lifted_FnExactCreateFile (os : Os) (started : os.Started) (H : Type) (enc : TypeId × Value → H) :
    ReturnsInHanded {} Try.checked os 12 .any (Rows.fnExactCreateFileSpec.pre6 enc Try.prog Try.f12 Rows.fnExactCreateFileRow.domain false) (Rows.fnExactCreateFileSpec.post enc Try.prog Try.f12 false true false false) :=
  law_lifted (C := Try.checked) (tb := 4) (n := 2) own started (by kernel_rfl) Try.func12 rfl (by kernel_rfl) Try.underlying4 (by kernel_rfl)
    (fun ds h => by match ds, h with | [_, _], _ => rfl) laidOut' (by kernel_rfl)
    (ChangeSpec.witness6 (enc := enc) (C := Try.checked) false ⟨#[], #[.agg #[.slice none 0 0, .slice none 0 0, .int .i64 0], .agg #[.int .i64 0, .int .i64 0, .bool false, .int .i64 0, .slice none 0 0]], []⟩ 8 (by kernel_rfl) (by kernel_rfl) (by kernel_rfl) (by kernel_rfl))
    (fun W base args ds p hA hval => core_FnExactCreateFile enc W base args ds p hA hval)
theorem holds_FnExactCreateFile : Rows.FnExactCreateFileSaid :=
  OpenClaim.holds_of_wide 12 Try.f12 rfl rfl rfl rfl rfl rfl rfl ⟨rfl, rfl, rfl, rfl, rfl⟩ rfl rfl rfl rfl rfl (by kernel_rfl) Try.func12 (by kernel_rfl)
    (of_decide_eq_true (by kernel_rfl)) (by unfold Func.isWrapper; first | (rw [if_pos (by decide +kernel)]; kernel_rfl) | (rw [if_neg (by decide +kernel)]; exact ⟨rfl, rfl⟩))
    (fun os started H enc _ => lifted_FnExactCreateFile os started H enc)
end Go.Proofs.Ytkpdnklaopbllaa
