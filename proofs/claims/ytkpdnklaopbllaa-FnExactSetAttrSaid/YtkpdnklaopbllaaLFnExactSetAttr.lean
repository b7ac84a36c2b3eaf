/-
  FnExactSetAttr RETURNS true AND LEAVES ITS ARGUMENTS AS THEY WERE, FOR EVERY INPUT THAT THE STATEMENT SPEAKS OF. No condition.
-/
import Derived.WalkKit
import Derived.ProofKit
import Derived.OpenShut
import Derived.Handy
import Derived.Lib.Hide
import Derived.Deep.QuietTactic
import Derived.BigQuiet
import Derived.Deep.RegionHeld3
import Derived.Deep.DeepCutAuto
import Derived.Test.YtkpdnklaopbllaaLib
import Derived.Test.YtkpdnklaopbllaaOp
import Derived.Test.YtkpdnklaopbllaaC1
import Derived.Test.YtkpdnklaopbllaaC2
import Derived.Test.YtkpdnklaopbllaaOwn
import Derived.Test.YtkpdnklaopbllaaRow
import Derived.Test.YtkpdnklaopbllaaHld
import Derived.Test.YtkpdnklaopbllaaT1
import Derived.Test.YtkpdnklaopbllaaSz
import Derived.Test.YtkpdnklaopbllaaM0
import Derived.Test.YtkpdnklaopbllaaM1
import Derived.Test.YtkpdnklaopbllaaD1
import Derived.Test.YtkpdnklaopbllaaT2
import Derived.Test.YtkpdnklaopbllaaT3
import Derived.Test.YtkpdnklaopbllaaM2
import Derived.Test.YtkpdnklaopbllaaC4
import Derived.Test.YtkpdnklaopbllaaN0
import Derived.Test.YtkpdnklaopbllaaD3
import Derived.Test.YtkpdnklaopbllaaD4
import Derived.Test.YtkpdnklaopbllaaD5
import Derived.Test.YtkpdnklaopbllaaH1
import Derived.Test.YtkpdnklaopbllaaE4
import Derived.Test.YtkpdnklaopbllaaRaw
import Derived.Test.YtkpdnklaopbllaaI1
import Derived.Test.YtkpdnklaopbllaaI2
import Derived.Test.YtkpdnklaopbllaaD7
import Derived.Test.YtkpdnklaopbllaaD8
import Derived.Test.YtkpdnklaopbllaaRows
namespace Go.Proofs.Ytkpdnklaopbllaa
open Go.RowKit Go.ChangeShapes Go.WideShapes Go.ChangeAt Go.ChangeMaps
set_option linter.unusedVariables false
set_option maxRecDepth 100000
set_option maxHeartbeats 16000000 in
theorem walk_FnExactSetAttr (W : World) (f0 : Fil) (A0 : Option Addr) (n0 c0 : Nat) (hS0 : Sl 4 RAtr W A0 n0 f0.attrs) (hf0 : f0.ok maxLen) (s1 : ByteArray) (hs1 : s1.size ≤ maxLen) (v2 : Vl) (hv2 : v2.ok maxLen) : Calls Try.prog 4 #[.agg #[.int .i64 f0.id, .int .i64 f0.owner, .bool f0.shared, .int .i64 f0.link, .slice A0 n0 c0], .string s1, .agg #[.int .i64 v2.kind, .int .i64 v2.int, .string v2.str]] W fun e w' => e = .returned (.bool true) ∧ Below W.heap.size W w' := by
  obtain rfl : f0.attrs.length = n0 := hS0.len
  unfold maxLen at hs1
  by_cases hc1 : s1.size ≤ 1048576
  · have hd1 : (s1.size : Int) ≤ 1048576 := by omega
    have nn0 := Fil.sz_nn f0
    by_cases hc0 : f0.sz ≤ 1048576
    · obtain ⟨hk0, hm0⟩ := Fil.okB (show f0.sz ≤ 1048576 by omega)
      have g0 : 0 ≤ 1048576 - f0.sz := by omega
      have nn2 := Vl.sz_nn v2
      by_cases hc2 : v2.sz ≤ 1048576 - f0.sz
      · have hk2 := Vl.okB (show v2.sz ≤ 1048576 by omega)
        have g2 : 0 ≤ 1048576 - f0.sz - v2.sz := by omega
        obtain ⟨r0, er0⟩ : ∃ r, r = setA f0 s1 v2 := ⟨_, rfl⟩
        have hok0 : r0.ok 1073741824 := by rw [er0]; exact setA_ok hk0 (by omega) (by omega) hk2
        have hln0 : r0.attrs.length ≤ 1073741824 := hok0.1
        have HE0 := Lib.hid er0
        clear er0
        have hK0 := Below.refl W.heap.size W
        go_enter Try.func4, Try.ntmps4
        go_wp2_with fail
        refine (laws_szFile_ok f0 A0 f0.attrs.length c0 1048576 _ (hS0.mono mAtr (ex_trans hK0 (by go_grown))) hf0 (by omega) (by omega) (by omega)).mono ?_; rintro e w1 ⟨rfl, hb1⟩
        have hx1 : Below W.heap.size W w1 := ex_trans (by go_grown) hb1
        replace hK0 := ex_trans hK0 hx1
        have x0_0 : w1.cell? ⟨W.heap.size, 0, none⟩ = some (.int .i64 f0.id) := keep_cell hb1 (by go_simp)
        have x0_1 : w1.cell? ⟨W.heap.size, 1, none⟩ = some (.int .i64 f0.owner) := keep_cell hb1 (by go_simp)
        have x0_2 : w1.cell? ⟨W.heap.size, 2, none⟩ = some (.bool f0.shared) := keep_cell hb1 (by go_simp)
        have x0_3 : w1.cell? ⟨W.heap.size, 3, none⟩ = some (.int .i64 f0.link) := keep_cell hb1 (by go_simp)
        have x0_4 : w1.cell? ⟨W.heap.size, 4, none⟩ = some (.slice A0 f0.attrs.length c0) := keep_cell hb1 (by go_simp)
        have z0 : W.heap.size < w1.heap.size := keep_lt hb1 (by simp <;> omega)
        have x1_0 : w1.cell? ⟨W.heap.size + 1, 0, none⟩ = some (.int .i64 v2.kind) := keep_cell hb1 (by go_simp)
        have x1_1 : w1.cell? ⟨W.heap.size + 1, 1, none⟩ = some (.int .i64 v2.int) := keep_cell hb1 (by go_simp)
        have x1_2 : w1.cell? ⟨W.heap.size + 1, 2, none⟩ = some (.string v2.str) := keep_cell hb1 (by go_simp)
        have z1 : W.heap.size + 1 < w1.heap.size := keep_lt hb1 (by simp <;> omega)
        go_wp2_with fail
        refine (laws_szValue_ok v2 (1048576 - f0.sz) _ hv2 (by omega) (by omega) (by omega)).mono ?_; rintro e w2 ⟨rfl, hb2⟩
        have hx2 : Below w1.heap.size w1 w2 := ex_trans (by go_grown) hb2
        replace hK0 := ex_trans hK0 hx2
        replace x0_0 := keep_cell hx2 x0_0
        replace x0_1 := keep_cell hx2 x0_1
        replace x0_2 := keep_cell hx2 x0_2
        replace x0_3 := keep_cell hx2 x0_3
        replace x0_4 := keep_cell hx2 x0_4
        replace z0 := keep_lt hx2 z0
        replace x1_0 := keep_cell hx2 x1_0
        replace x1_1 := keep_cell hx2 x1_1
        replace x1_2 := keep_cell hx2 x1_2
        replace z1 := keep_lt hx2 z1
        go_upto_region 10 with fail
        have hK910 := Below.refl w2.heap.size w2
        go_cut [8] (fun sa8 w' => ∃ (g : Nat) (A105 : Option Addr) (c105 : Nat) (bs5 : List Nat), sa8 = .pointer (some ⟨g, 0, none⟩) ∧ w2.heap.size ≤ g ∧ w'.heap[g]? = some (.cells #[.int .i64 r0.id, .int .i64 r0.owner, .bool r0.shared, .int .i64 r0.link, .slice A105 r0.attrs.length c105] 45 (0, 0)) ∧ OSl 93 4 OAtr w' A105 r0.attrs.length r0.attrs bs5 ∧ Fresh w2 bs5 ∧ g ∉ bs5 ∧ (w'.cell? ⟨W.heap.size, 0, none⟩ = some (.int .i64 f0.id) ∧ w'.cell? ⟨W.heap.size, 1, none⟩ = some (.int .i64 f0.owner) ∧ w'.cell? ⟨W.heap.size, 2, none⟩ = some (.bool f0.shared) ∧ w'.cell? ⟨W.heap.size, 3, none⟩ = some (.int .i64 f0.link) ∧ w'.cell? ⟨W.heap.size, 4, none⟩ = some (.slice A0 f0.attrs.length c0) ∧ W.heap.size < w'.heap.size ∧ w'.cell? ⟨W.heap.size + 1, 0, none⟩ = some (.int .i64 v2.kind) ∧ w'.cell? ⟨W.heap.size + 1, 1, none⟩ = some (.int .i64 v2.int) ∧ w'.cell? ⟨W.heap.size + 1, 2, none⟩ = some (.string v2.str) ∧ W.heap.size + 1 < w'.heap.size ∧ Below W.heap.size W w' ∧ Below w2.heap.size w2 w'))
        case first =>
          refine wp_region_held_drew (S := (fun w' => w'.cell? ⟨W.heap.size, 0, none⟩ = some (.int .i64 f0.id) ∧ w'.cell? ⟨W.heap.size, 1, none⟩ = some (.int .i64 f0.owner) ∧ w'.cell? ⟨W.heap.size, 2, none⟩ = some (.bool f0.shared) ∧ w'.cell? ⟨W.heap.size, 3, none⟩ = some (.int .i64 f0.link) ∧ w'.cell? ⟨W.heap.size, 4, none⟩ = some (.slice A0 f0.attrs.length c0) ∧ W.heap.size < w'.heap.size ∧ w'.cell? ⟨W.heap.size + 1, 0, none⟩ = some (.int .i64 v2.kind) ∧ w'.cell? ⟨W.heap.size + 1, 1, none⟩ = some (.int .i64 v2.int) ∧ w'.cell? ⟨W.heap.size + 1, 2, none⟩ = some (.string v2.str) ∧ W.heap.size + 1 < w'.heap.size ∧ Below W.heap.size W w' ∧ Below w2.heap.size w2 w')) (by kernel_rfl) (by (try dsimp only); exact ⟨x0_0, x0_1, x0_2, x0_3, x0_4, z0, x1_0, x1_1, x1_2, z1, (hK0).drew, (hK910).drew⟩) (fun hHeld => ?_)
          first | (refine held_take 0 rfl (by kernel_rfl) (by kernel_rfl) (by kernel_rfl) (by rfl) (fun _ _ _ h => h) (by assumption) (by intro w hSw; (try dsimp only at hSw); go_simp; first | done | with_reducible rfl) ?_) | (refine held_skip 0 rfl (by kernel_rfl) (by kernel_rfl) (by kernel_rfl) (by rfl) (fun _ _ _ h => h) (by assumption) ?_)
          simp only [Act.put, List.setIfInBounds_toArray, List.set_cons_zero, List.set_cons_succ]
          first | (refine held_take 2 rfl (by kernel_rfl) (by kernel_rfl) (by kernel_rfl) (by rfl) (fun _ _ _ h => h) (by assumption) (by intro w hSw; (try dsimp only at hSw); go_simp; first | done | with_reducible rfl) ?_) | (refine held_skip 2 rfl (by kernel_rfl) (by kernel_rfl) (by kernel_rfl) (by rfl) (fun _ _ _ h => h) (by assumption) ?_)
          simp only [Act.put, List.setIfInBounds_toArray, List.set_cons_zero, List.set_cons_succ]
          first | (refine held_take 3 rfl (by kernel_rfl) (by kernel_rfl) (by kernel_rfl) (by rfl) (fun _ _ _ h => h) (by assumption) (by intro w hSw; (try dsimp only at hSw); go_simp; first | done | with_reducible rfl) ?_) | (refine held_skip 3 rfl (by kernel_rfl) (by kernel_rfl) (by kernel_rfl) (by rfl) (fun _ _ _ h => h) (by assumption) ?_)
          simp only [Act.put, List.setIfInBounds_toArray, List.set_cons_zero, List.set_cons_succ]
          refine held_two 1 6 (by kernel_rfl) rfl rfl (fun K hK => ?_) (fun K hK => ?_)
          · go_simp
            have hFB : w2.heap.size ≤ w2.heap.size := Nat.le_refl _
            go_at_call 25
            refine (laws_toFile f0 A0 f0.attrs.length c0 _ (hS0.mono mAtr hHeld.2.2.2.2.2.2.2.2.2.2.1) hk0).mono ?_; rintro e w3 hN3
            obtain ⟨A'3, c'3, bs3, rfl, hcc3, hW3, hF3, hb3⟩ := hN3.out
            have hL3 := Lib.hid (hW3.lt lAtr)
            have hR3 := hW3.sl (R := RAtr) (fun h => h.1)
            go_wp2_with fail
            refine hK.out _ _ (by (try dsimp only); exact ⟨keep_cell hb3 hHeld.1, keep_cell hb3 hHeld.2.1, keep_cell hb3 hHeld.2.2.1, keep_cell hb3 hHeld.2.2.2.1, keep_cell hb3 hHeld.2.2.2.2.1, keep_lt hb3 hHeld.2.2.2.2.2.1, keep_cell hb3 hHeld.2.2.2.2.2.2.1, keep_cell hb3 hHeld.2.2.2.2.2.2.2.1, keep_cell hb3 hHeld.2.2.2.2.2.2.2.2.1, keep_lt hb3 hHeld.2.2.2.2.2.2.2.2.2.1, ex_trans hHeld.2.2.2.2.2.2.2.2.2.2.1 hb3, ex_trans hHeld.2.2.2.2.2.2.2.2.2.2.2 hb3⟩) (fun hNew => ?_)
            clear hK K hHeld
            have hHeld := hNew
            clear hNew
            try simp only [Act.put, List.setIfInBounds_toArray, List.set_cons_zero, List.set_cons_succ]
            refine held_two 4 6 (by kernel_rfl) rfl rfl (fun K hK => ?_) (fun K hK => ?_)
            · go_simp
              have hFB : w2.heap.size ≤ w3.heap.size := (hHeld.2.2.2.2.2.2.2.2.2.2.2).size
              go_at_call 26
              refine (laws_toValue v2 _).mono ?_; rintro e w4 ⟨rfl, hb4⟩
              go_wp2_with fail
              refine hK.out _ _ (by (try dsimp only); exact ⟨keep_cell hb4 hHeld.1, keep_cell hb4 hHeld.2.1, keep_cell hb4 hHeld.2.2.1, keep_cell hb4 hHeld.2.2.2.1, keep_cell hb4 hHeld.2.2.2.2.1, keep_lt hb4 hHeld.2.2.2.2.2.1, keep_cell hb4 hHeld.2.2.2.2.2.2.1, keep_cell hb4 hHeld.2.2.2.2.2.2.2.1, keep_cell hb4 hHeld.2.2.2.2.2.2.2.2.1, keep_lt hb4 hHeld.2.2.2.2.2.2.2.2.2.1, ex_trans hHeld.2.2.2.2.2.2.2.2.2.2.1 hb4, ex_trans hHeld.2.2.2.2.2.2.2.2.2.2.2 hb4⟩) (fun hNew => ?_)
              clear hK K hHeld
              have hHeld := hNew
              clear hNew
              try simp only [Act.put, List.setIfInBounds_toArray, List.set_cons_zero, List.set_cons_succ]
              refine held_two 5 6 (by kernel_rfl) rfl rfl (fun K hK => ?_) (fun K hK => ?_)
              · go_simp
                have hFB : w2.heap.size ≤ w4.heap.size := (hHeld.2.2.2.2.2.2.2.2.2.2.2).size
                go_at_call 24
                refine (spec_SetAttr f0 A'3 f0.attrs.length c'3 s1 v2 _ (hR3.mono mAtr (ex_trans (Below.refl _ _) hb4)) (by omega)).mono ?_; rintro e w5 hN5
                rw [← HE0.out] at hN5
                obtain ⟨A105, c105, bs5, rfl, hW5, hF5, hb5⟩ := hN5.v
                have hL5 := Lib.hid (hW5.lt lAtr)
                have hR5 := hW5.sl (R := RAtr) (fun h => h.1)
                go_wp2_with fail
                refine hK.out _ _ (by (try dsimp only); exact ⟨keep_cell hb5 hHeld.1, keep_cell hb5 hHeld.2.1, keep_cell hb5 hHeld.2.2.1, keep_cell hb5 hHeld.2.2.2.1, keep_cell hb5 hHeld.2.2.2.2.1, keep_lt hb5 hHeld.2.2.2.2.2.1, keep_cell hb5 hHeld.2.2.2.2.2.2.1, keep_cell hb5 hHeld.2.2.2.2.2.2.2.1, keep_cell hb5 hHeld.2.2.2.2.2.2.2.2.1, keep_lt hb5 hHeld.2.2.2.2.2.2.2.2.2.1, ex_trans hHeld.2.2.2.2.2.2.2.2.2.2.1 hb5, ex_trans hHeld.2.2.2.2.2.2.2.2.2.2.2 hb5⟩) (fun hNew => ?_)
                clear hK K hHeld
                have hHeld := hNew
                clear hNew
                try simp only [Act.put, List.setIfInBounds_toArray, List.set_cons_zero, List.set_cons_succ]
                refine held_one 6 (by kernel_rfl) rfl (fun K hK => ?_)
                go_simp
                have hGs : w2.heap.size ≤ w5.heap.size := (hHeld.2.2.2.2.2.2.2.2.2.2.2).size
                generalize hwa : World.alloc w5 (.cells #[.int .i64 0, .int .i64 0, .bool false, .int .i64 0, .slice none 0 0] 45) = wa
                have hba : Below w5.heap.size w5 wa := by rw [← hwa]; exact (Below.refl _ _).alloc (Nat.le_refl _) _
                have hga : wa.heap[w5.heap.size]? = some (.cells #[.int .i64 0, .int .i64 0, .bool false, .int .i64 0, .slice none 0 0] 45 (0, 0)) := by rw [← hwa]; exact hp_new rfl
                clear hwa
                refine hK.out _ _ (by (try dsimp only); exact ⟨keep_cell hba hHeld.1, keep_cell hba hHeld.2.1, keep_cell hba hHeld.2.2.1, keep_cell hba hHeld.2.2.2.1, keep_cell hba hHeld.2.2.2.2.1, keep_lt hba hHeld.2.2.2.2.2.1, keep_cell hba hHeld.2.2.2.2.2.2.1, keep_cell hba hHeld.2.2.2.2.2.2.2.1, keep_cell hba hHeld.2.2.2.2.2.2.2.2.1, keep_lt hba hHeld.2.2.2.2.2.2.2.2.2.1, ex_trans hHeld.2.2.2.2.2.2.2.2.2.2.1 hba, ex_trans hHeld.2.2.2.2.2.2.2.2.2.2.2 hba⟩) (fun hNew => ?_)
                clear hK K hHeld
                have hHeld := hNew
                clear hNew
                try simp only [Act.put, List.setIfInBounds_toArray, List.set_cons_zero, List.set_cons_succ]
                have gc := blk_cell? hga
                have gf := blk_free hga
                refine held_one 7 (by kernel_rfl) rfl (fun K hK => ?_)
                go_simp
                have hch : Chg [w5.heap.size] wa (sets wa (w5.heap.size) 0 [.int .i64 r0.id, .int .i64 r0.owner, .bool r0.shared, .int .i64 r0.link, .slice A105 r0.attrs.length c105]) := sets_chg (bs := [w5.heap.size]) (g := w5.heap.size) (w := wa) (w1 := wa) (by simp) _ _ 0 (Chg.refl _ _)
                have hgz : (sets wa (w5.heap.size) 0 [.int .i64 r0.id, .int .i64 r0.owner, .bool r0.shared, .int .i64 r0.link, .slice A105 r0.attrs.length c105]).heap[w5.heap.size]? = some (.cells #[.int .i64 r0.id, .int .i64 r0.owner, .bool r0.shared, .int .i64 r0.link, .slice A105 r0.attrs.length c105] 45 (0, 0)) := sets_blk _ _ _ _ hga
                have hne : ∀ b ∈ bs5, b ≠ w5.heap.size := fun b hb => by have h1 := hL5.out b hb; omega
                have hW5z := (hW5.below lAtr hba).loc (w' := (sets wa (w5.heap.size) 0 [.int .i64 r0.id, .int .i64 r0.owner, .bool r0.shared, .int .i64 r0.link, .slice A105 r0.attrs.length c105])) lAtr (fun b hb => hch.block b (keep_lt hba (hL5.out b hb)) (fun h => hne b hb (by simpa using h)))
                refine hK.out _ _ (by (try dsimp only); exact ⟨hch.cell hHeld.1 (fun h => by simp only [List.mem_singleton] at h; omega), hch.cell hHeld.2.1 (fun h => by simp only [List.mem_singleton] at h; omega), hch.cell hHeld.2.2.1 (fun h => by simp only [List.mem_singleton] at h; omega), hch.cell hHeld.2.2.2.1 (fun h => by simp only [List.mem_singleton] at h; omega), hch.cell hHeld.2.2.2.2.1 (fun h => by simp only [List.mem_singleton] at h; omega), Nat.lt_of_lt_of_le hHeld.2.2.2.2.2.1 hch.size, hch.cell hHeld.2.2.2.2.2.2.1 (fun h => by simp only [List.mem_singleton] at h; omega), hch.cell hHeld.2.2.2.2.2.2.2.1 (fun h => by simp only [List.mem_singleton] at h; omega), hch.cell hHeld.2.2.2.2.2.2.2.2.1 (fun h => by simp only [List.mem_singleton] at h; omega), Nat.lt_of_lt_of_le hHeld.2.2.2.2.2.2.2.2.2.1 hch.size, Below.mark hHeld.2.2.2.2.2.2.2.2.2.2.1 hch (hHeld.2.2.2.2.2.2.2.2.2.2.1).size (fun b hb => by have h1 := hK0.size; simp only [List.mem_singleton] at hb; omega), Below.mark hHeld.2.2.2.2.2.2.2.2.2.2.2 hch (hHeld.2.2.2.2.2.2.2.2.2.2.2).size (fun b hb => by have h1 := hK910.size; simp only [List.mem_singleton] at hb; omega)⟩) (fun hNew => ?_)
                clear hK K hHeld
                have hHeld := hNew
                clear hNew
                try simp only [Act.put, List.setIfInBounds_toArray, List.set_cons_zero, List.set_cons_succ]
                refine wpAnyH_done (by kernel_rfl) ?_ _
                go_wp2_with fail
                go_meet
                exact ⟨w5.heap.size, A105, c105, bs5, rfl, hGs, hgz, hW5z, ⟨hF5.1, fun b hb => Nat.le_trans (hFB) (hF5.2 b hb)⟩, fun h => hne _ h rfl, hHeld⟩
              · go_simp
                have hGs : w2.heap.size ≤ w4.heap.size := (hHeld.2.2.2.2.2.2.2.2.2.2.2).size
                generalize hwa : World.alloc w4 (.cells #[.int .i64 0, .int .i64 0, .bool false, .int .i64 0, .slice none 0 0] 45) = wa
                have hba : Below w4.heap.size w4 wa := by rw [← hwa]; exact (Below.refl _ _).alloc (Nat.le_refl _) _
                have hga : wa.heap[w4.heap.size]? = some (.cells #[.int .i64 0, .int .i64 0, .bool false, .int .i64 0, .slice none 0 0] 45 (0, 0)) := by rw [← hwa]; exact hp_new rfl
                clear hwa
                refine hK.out _ _ (by (try dsimp only); exact ⟨keep_cell hba hHeld.1, keep_cell hba hHeld.2.1, keep_cell hba hHeld.2.2.1, keep_cell hba hHeld.2.2.2.1, keep_cell hba hHeld.2.2.2.2.1, keep_lt hba hHeld.2.2.2.2.2.1, keep_cell hba hHeld.2.2.2.2.2.2.1, keep_cell hba hHeld.2.2.2.2.2.2.2.1, keep_cell hba hHeld.2.2.2.2.2.2.2.2.1, keep_lt hba hHeld.2.2.2.2.2.2.2.2.2.1, ex_trans hHeld.2.2.2.2.2.2.2.2.2.2.1 hba, ex_trans hHeld.2.2.2.2.2.2.2.2.2.2.2 hba⟩) (fun hNew => ?_)
                clear hK K hHeld
                have hHeld := hNew
                clear hNew
                try simp only [Act.put, List.setIfInBounds_toArray, List.set_cons_zero, List.set_cons_succ]
                refine held_one 5 (by kernel_rfl) rfl (fun K hK => ?_)
                go_simp
                have hFB : w2.heap.size ≤ wa.heap.size := (hHeld.2.2.2.2.2.2.2.2.2.2.2).size
                have hGl := blk_lt hga
                go_at_call 24
                refine (spec_SetAttr f0 A'3 f0.attrs.length c'3 s1 v2 _ (hR3.mono mAtr (ex_trans (ex_trans (Below.refl _ _) hb4) hba)) (by omega)).mono ?_; rintro e w5 hN5
                rw [← HE0.out] at hN5
                obtain ⟨A105, c105, bs5, rfl, hW5, hF5, hb5⟩ := hN5.v
                have hL5 := Lib.hid (hW5.lt lAtr)
                have hR5 := hW5.sl (R := RAtr) (fun h => h.1)
                go_wp2_with fail
                refine hK.out _ _ (by (try dsimp only); exact ⟨keep_cell hb5 hHeld.1, keep_cell hb5 hHeld.2.1, keep_cell hb5 hHeld.2.2.1, keep_cell hb5 hHeld.2.2.2.1, keep_cell hb5 hHeld.2.2.2.2.1, keep_lt hb5 hHeld.2.2.2.2.2.1, keep_cell hb5 hHeld.2.2.2.2.2.2.1, keep_cell hb5 hHeld.2.2.2.2.2.2.2.1, keep_cell hb5 hHeld.2.2.2.2.2.2.2.2.1, keep_lt hb5 hHeld.2.2.2.2.2.2.2.2.2.1, ex_trans hHeld.2.2.2.2.2.2.2.2.2.2.1 hb5, ex_trans hHeld.2.2.2.2.2.2.2.2.2.2.2 hb5⟩) (fun hNew => ?_)
                clear hK K hHeld
                have hHeld := hNew
                clear hNew
                try simp only [Act.put, List.setIfInBounds_toArray, List.set_cons_zero, List.set_cons_succ]
                replace hga := below_keep hb5 hga
                have gc := blk_cell? hga
                have gf := blk_free hga
                refine held_one 7 (by kernel_rfl) rfl (fun K hK => ?_)
                go_simp
                have hch : Chg [w4.heap.size] w5 (sets w5 (w4.heap.size) 0 [.int .i64 r0.id, .int .i64 r0.owner, .bool r0.shared, .int .i64 r0.link, .slice A105 r0.attrs.length c105]) := sets_chg (bs := [w4.heap.size]) (g := w4.heap.size) (w := w5) (w1 := w5) (by simp) _ _ 0 (Chg.refl _ _)
                have hgz : (sets w5 (w4.heap.size) 0 [.int .i64 r0.id, .int .i64 r0.owner, .bool r0.shared, .int .i64 r0.link, .slice A105 r0.attrs.length c105]).heap[w4.heap.size]? = some (.cells #[.int .i64 r0.id, .int .i64 r0.owner, .bool r0.shared, .int .i64 r0.link, .slice A105 r0.attrs.length c105] 45 (0, 0)) := sets_blk _ _ _ _ hga
                have hne : ∀ b ∈ bs5, b ≠ w4.heap.size := fun b hb => by have h1 := hF5.2 b hb; omega
                have hW5z := (hW5).loc (w' := (sets w5 (w4.heap.size) 0 [.int .i64 r0.id, .int .i64 r0.owner, .bool r0.shared, .int .i64 r0.link, .slice A105 r0.attrs.length c105])) lAtr (fun b hb => hch.block b (hL5.out b hb) (fun h => hne b hb (by simpa using h)))
                refine hK.out _ _ (by (try dsimp only); exact ⟨hch.cell hHeld.1 (fun h => by simp only [List.mem_singleton] at h; omega), hch.cell hHeld.2.1 (fun h => by simp only [List.mem_singleton] at h; omega), hch.cell hHeld.2.2.1 (fun h => by simp only [List.mem_singleton] at h; omega), hch.cell hHeld.2.2.2.1 (fun h => by simp only [List.mem_singleton] at h; omega), hch.cell hHeld.2.2.2.2.1 (fun h => by simp only [List.mem_singleton] at h; omega), Nat.lt_of_lt_of_le hHeld.2.2.2.2.2.1 hch.size, hch.cell hHeld.2.2.2.2.2.2.1 (fun h => by simp only [List.mem_singleton] at h; omega), hch.cell hHeld.2.2.2.2.2.2.2.1 (fun h => by simp only [List.mem_singleton] at h; omega), hch.cell hHeld.2.2.2.2.2.2.2.2.1 (fun h => by simp only [List.mem_singleton] at h; omega), Nat.lt_of_lt_of_le hHeld.2.2.2.2.2.2.2.2.2.1 hch.size, Below.mark hHeld.2.2.2.2.2.2.2.2.2.2.1 hch (hHeld.2.2.2.2.2.2.2.2.2.2.1).size (fun b hb => by have h1 := hK0.size; simp only [List.mem_singleton] at hb; omega), Below.mark hHeld.2.2.2.2.2.2.2.2.2.2.2 hch (hHeld.2.2.2.2.2.2.2.2.2.2.2).size (fun b hb => by have h1 := hK910.size; simp only [List.mem_singleton] at hb; omega)⟩) (fun hNew => ?_)
                clear hK K hHeld
                have hHeld := hNew
                clear hNew
                try simp only [Act.put, List.setIfInBounds_toArray, List.set_cons_zero, List.set_cons_succ]
                refine wpAnyH_done (by kernel_rfl) ?_ _
                go_wp2_with fail
                go_meet
                exact ⟨w4.heap.size, A105, c105, bs5, rfl, hGs, hgz, hW5z, ⟨hF5.1, fun b hb => Nat.le_trans (hFB) (hF5.2 b hb)⟩, fun h => hne _ h rfl, hHeld⟩
            · go_simp
              have hGs : w2.heap.size ≤ w3.heap.size := (hHeld.2.2.2.2.2.2.2.2.2.2.2).size
              generalize hwa : World.alloc w3 (.cells #[.int .i64 0, .int .i64 0, .bool false, .int .i64 0, .slice none 0 0] 45) = wa
              have hba : Below w3.heap.size w3 wa := by rw [← hwa]; exact (Below.refl _ _).alloc (Nat.le_refl _) _
              have hga : wa.heap[w3.heap.size]? = some (.cells #[.int .i64 0, .int .i64 0, .bool false, .int .i64 0, .slice none 0 0] 45 (0, 0)) := by rw [← hwa]; exact hp_new rfl
              clear hwa
              refine hK.out _ _ (by (try dsimp only); exact ⟨keep_cell hba hHeld.1, keep_cell hba hHeld.2.1, keep_cell hba hHeld.2.2.1, keep_cell hba hHeld.2.2.2.1, keep_cell hba hHeld.2.2.2.2.1, keep_lt hba hHeld.2.2.2.2.2.1, keep_cell hba hHeld.2.2.2.2.2.2.1, keep_cell hba hHeld.2.2.2.2.2.2.2.1, keep_cell hba hHeld.2.2.2.2.2.2.2.2.1, keep_lt hba hHeld.2.2.2.2.2.2.2.2.2.1, ex_trans hHeld.2.2.2.2.2.2.2.2.2.2.1 hba, ex_trans hHeld.2.2.2.2.2.2.2.2.2.2.2 hba⟩) (fun hNew => ?_)
              clear hK K hHeld
              have hHeld := hNew
              clear hNew
              try simp only [Act.put, List.setIfInBounds_toArray, List.set_cons_zero, List.set_cons_succ]
              refine held_one 4 (by kernel_rfl) rfl (fun K hK => ?_)
              go_simp
              have hFB : w2.heap.size ≤ wa.heap.size := (hHeld.2.2.2.2.2.2.2.2.2.2.2).size
              have hGl := blk_lt hga
              go_at_call 26
              refine (laws_toValue v2 _).mono ?_; rintro e w4 ⟨rfl, hb4⟩
              go_wp2_with fail
              refine hK.out _ _ (by (try dsimp only); exact ⟨keep_cell hb4 hHeld.1, keep_cell hb4 hHeld.2.1, keep_cell hb4 hHeld.2.2.1, keep_cell hb4 hHeld.2.2.2.1, keep_cell hb4 hHeld.2.2.2.2.1, keep_lt hb4 hHeld.2.2.2.2.2.1, keep_cell hb4 hHeld.2.2.2.2.2.2.1, keep_cell hb4 hHeld.2.2.2.2.2.2.2.1, keep_cell hb4 hHeld.2.2.2.2.2.2.2.2.1, keep_lt hb4 hHeld.2.2.2.2.2.2.2.2.2.1, ex_trans hHeld.2.2.2.2.2.2.2.2.2.2.1 hb4, ex_trans hHeld.2.2.2.2.2.2.2.2.2.2.2 hb4⟩) (fun hNew => ?_)
              clear hK K hHeld
              have hHeld := hNew
              clear hNew
              try simp only [Act.put, List.setIfInBounds_toArray, List.set_cons_zero, List.set_cons_succ]
              replace hga := below_keep hb4 hga
              refine held_one 5 (by kernel_rfl) rfl (fun K hK => ?_)
              go_simp
              have hFB : w2.heap.size ≤ w4.heap.size := (hHeld.2.2.2.2.2.2.2.2.2.2.2).size
              have hGl := blk_lt hga
              go_at_call 24
              refine (spec_SetAttr f0 A'3 f0.attrs.length c'3 s1 v2 _ (hR3.mono mAtr (ex_trans (ex_trans (Below.refl _ _) hba) hb4)) (by omega)).mono ?_; rintro e w5 hN5
              rw [← HE0.out] at hN5
              obtain ⟨A105, c105, bs5, rfl, hW5, hF5, hb5⟩ := hN5.v
              have hL5 := Lib.hid (hW5.lt lAtr)
              have hR5 := hW5.sl (R := RAtr) (fun h => h.1)
              go_wp2_with fail
              refine hK.out _ _ (by (try dsimp only); exact ⟨keep_cell hb5 hHeld.1, keep_cell hb5 hHeld.2.1, keep_cell hb5 hHeld.2.2.1, keep_cell hb5 hHeld.2.2.2.1, keep_cell hb5 hHeld.2.2.2.2.1, keep_lt hb5 hHeld.2.2.2.2.2.1, keep_cell hb5 hHeld.2.2.2.2.2.2.1, keep_cell hb5 hHeld.2.2.2.2.2.2.2.1, keep_cell hb5 hHeld.2.2.2.2.2.2.2.2.1, keep_lt hb5 hHeld.2.2.2.2.2.2.2.2.2.1, ex_trans hHeld.2.2.2.2.2.2.2.2.2.2.1 hb5, ex_trans hHeld.2.2.2.2.2.2.2.2.2.2.2 hb5⟩) (fun hNew => ?_)
              clear hK K hHeld
              have hHeld := hNew
              clear hNew
              try simp only [Act.put, List.setIfInBounds_toArray, List.set_cons_zero, List.set_cons_succ]
              replace hga := below_keep hb5 hga
              have gc := blk_cell? hga
              have gf := blk_free hga
              refine held_one 7 (by kernel_rfl) rfl (fun K hK => ?_)
              go_simp
              have hch : Chg [w3.heap.size] w5 (sets w5 (w3.heap.size) 0 [.int .i64 r0.id, .int .i64 r0.owner, .bool r0.shared, .int .i64 r0.link, .slice A105 r0.attrs.length c105]) := sets_chg (bs := [w3.heap.size]) (g := w3.heap.size) (w := w5) (w1 := w5) (by simp) _ _ 0 (Chg.refl _ _)
              have hgz : (sets w5 (w3.heap.size) 0 [.int .i64 r0.id, .int .i64 r0.owner, .bool r0.shared, .int .i64 r0.link, .slice A105 r0.attrs.length c105]).heap[w3.heap.size]? = some (.cells #[.int .i64 r0.id, .int .i64 r0.owner, .bool r0.shared, .int .i64 r0.link, .slice A105 r0.attrs.length c105] 45 (0, 0)) := sets_blk _ _ _ _ hga
              have hne : ∀ b ∈ bs5, b ≠ w3.heap.size := fun b hb => by have h1 := hF5.2 b hb; omega
              have hW5z := (hW5).loc (w' := (sets w5 (w3.heap.size) 0 [.int .i64 r0.id, .int .i64 r0.owner, .bool r0.shared, .int .i64 r0.link, .slice A105 r0.attrs.length c105])) lAtr (fun b hb => hch.block b (hL5.out b hb) (fun h => hne b hb (by simpa using h)))
              refine hK.out _ _ (by (try dsimp only); exact ⟨hch.cell hHeld.1 (fun h => by simp only [List.mem_singleton] at h; omega), hch.cell hHeld.2.1 (fun h => by simp only [List.mem_singleton] at h; omega), hch.cell hHeld.2.2.1 (fun h => by simp only [List.mem_singleton] at h; omega), hch.cell hHeld.2.2.2.1 (fun h => by simp only [List.mem_singleton] at h; omega), hch.cell hHeld.2.2.2.2.1 (fun h => by simp only [List.mem_singleton] at h; omega), Nat.lt_of_lt_of_le hHeld.2.2.2.2.2.1 hch.size, hch.cell hHeld.2.2.2.2.2.2.1 (fun h => by simp only [List.mem_singleton] at h; omega), hch.cell hHeld.2.2.2.2.2.2.2.1 (fun h => by simp only [List.mem_singleton] at h; omega), hch.cell hHeld.2.2.2.2.2.2.2.2.1 (fun h => by simp only [List.mem_singleton] at h; omega), Nat.lt_of_lt_of_le hHeld.2.2.2.2.2.2.2.2.2.1 hch.size, Below.mark hHeld.2.2.2.2.2.2.2.2.2.2.1 hch (hHeld.2.2.2.2.2.2.2.2.2.2.1).size (fun b hb => by have h1 := hK0.size; simp only [List.mem_singleton] at hb; omega), Below.mark hHeld.2.2.2.2.2.2.2.2.2.2.2 hch (hHeld.2.2.2.2.2.2.2.2.2.2.2).size (fun b hb => by have h1 := hK910.size; simp only [List.mem_singleton] at hb; omega)⟩) (fun hNew => ?_)
              clear hK K hHeld
              have hHeld := hNew
              clear hNew
              try simp only [Act.put, List.setIfInBounds_toArray, List.set_cons_zero, List.set_cons_succ]
              refine wpAnyH_done (by kernel_rfl) ?_ _
              go_wp2_with fail
              go_meet
              exact ⟨w3.heap.size, A105, c105, bs5, rfl, hGs, hgz, hW5z, ⟨hF5.1, fun b hb => Nat.le_trans (hFB) (hF5.2 b hb)⟩, fun h => hne _ h rfl, hHeld⟩
          · go_simp
            have hGs : w2.heap.size ≤ w2.heap.size := Nat.le_refl _
            generalize hwa : World.drew (World.alloc w2 (.cells #[.int .i64 0, .int .i64 0, .bool false, .int .i64 0, .slice none 0 0] 45)) = wa
            have hba : Below w2.drew.heap.size w2.drew wa := by rw [← hwa]; exact ((show Below w2.drew.heap.size w2.drew w2 from ⟨rfl, rfl, rfl, Nat.le_refl _, fun _ _ => rfl⟩).alloc (Nat.le_refl _) _).drew
            have hga : wa.heap[w2.heap.size]? = some (.cells #[.int .i64 0, .int .i64 0, .bool false, .int .i64 0, .slice none 0 0] 45 (0, 0)) := by rw [← hwa]; exact hp_new rfl
            clear hwa
            refine hK.out _ _ (by (try dsimp only); exact ⟨keep_cell hba hHeld.1, keep_cell hba hHeld.2.1, keep_cell hba hHeld.2.2.1, keep_cell hba hHeld.2.2.2.1, keep_cell hba hHeld.2.2.2.2.1, keep_lt hba hHeld.2.2.2.2.2.1, keep_cell hba hHeld.2.2.2.2.2.2.1, keep_cell hba hHeld.2.2.2.2.2.2.2.1, keep_cell hba hHeld.2.2.2.2.2.2.2.2.1, keep_lt hba hHeld.2.2.2.2.2.2.2.2.2.1, ex_trans hHeld.2.2.2.2.2.2.2.2.2.2.1 hba, ex_trans hHeld.2.2.2.2.2.2.2.2.2.2.2 hba⟩) (fun hNew => ?_)
            clear hK K hHeld
            have hHeld := hNew
            clear hNew
            try simp only [Act.put, List.setIfInBounds_toArray, List.set_cons_zero, List.set_cons_succ]
            refine held_one 1 (by kernel_rfl) rfl (fun K hK => ?_)
            go_simp
            have hFB : w2.heap.size ≤ wa.heap.size := (hHeld.2.2.2.2.2.2.2.2.2.2.2).size
            have hGl := blk_lt hga
            go_at_call 25
            refine (laws_toFile f0 A0 f0.attrs.length c0 _ (hS0.mono mAtr hHeld.2.2.2.2.2.2.2.2.2.2.1) hk0).mono ?_; rintro e w3 hN3
            obtain ⟨A'3, c'3, bs3, rfl, hcc3, hW3, hF3, hb3⟩ := hN3.out
            have hL3 := Lib.hid (hW3.lt lAtr)
            have hR3 := hW3.sl (R := RAtr) (fun h => h.1)
            go_wp2_with fail
            refine hK.out _ _ (by (try dsimp only); exact ⟨keep_cell hb3 hHeld.1, keep_cell hb3 hHeld.2.1, keep_cell hb3 hHeld.2.2.1, keep_cell hb3 hHeld.2.2.2.1, keep_cell hb3 hHeld.2.2.2.2.1, keep_lt hb3 hHeld.2.2.2.2.2.1, keep_cell hb3 hHeld.2.2.2.2.2.2.1, keep_cell hb3 hHeld.2.2.2.2.2.2.2.1, keep_cell hb3 hHeld.2.2.2.2.2.2.2.2.1, keep_lt hb3 hHeld.2.2.2.2.2.2.2.2.2.1, ex_trans hHeld.2.2.2.2.2.2.2.2.2.2.1 hb3, ex_trans hHeld.2.2.2.2.2.2.2.2.2.2.2 hb3⟩) (fun hNew => ?_)
            clear hK K hHeld
            have hHeld := hNew
            clear hNew
            try simp only [Act.put, List.setIfInBounds_toArray, List.set_cons_zero, List.set_cons_succ]
            replace hga := below_keep hb3 hga
            refine held_one 4 (by kernel_rfl) rfl (fun K hK => ?_)
            go_simp
            have hFB : w2.heap.size ≤ w3.heap.size := (hHeld.2.2.2.2.2.2.2.2.2.2.2).size
            have hGl := blk_lt hga
            go_at_call 26
            refine (laws_toValue v2 _).mono ?_; rintro e w4 ⟨rfl, hb4⟩
            go_wp2_with fail
            refine hK.out _ _ (by (try dsimp only); exact ⟨keep_cell hb4 hHeld.1, keep_cell hb4 hHeld.2.1, keep_cell hb4 hHeld.2.2.1, keep_cell hb4 hHeld.2.2.2.1, keep_cell hb4 hHeld.2.2.2.2.1, keep_lt hb4 hHeld.2.2.2.2.2.1, keep_cell hb4 hHeld.2.2.2.2.2.2.1, keep_cell hb4 hHeld.2.2.2.2.2.2.2.1, keep_cell hb4 hHeld.2.2.2.2.2.2.2.2.1, keep_lt hb4 hHeld.2.2.2.2.2.2.2.2.2.1, ex_trans hHeld.2.2.2.2.2.2.2.2.2.2.1 hb4, ex_trans hHeld.2.2.2.2.2.2.2.2.2.2.2 hb4⟩) (fun hNew => ?_)
            clear hK K hHeld
            have hHeld := hNew
            clear hNew
            try simp only [Act.put, List.setIfInBounds_toArray, List.set_cons_zero, List.set_cons_succ]
            replace hga := below_keep hb4 hga
            refine held_one 5 (by kernel_rfl) rfl (fun K hK => ?_)
            go_simp
            have hFB : w2.heap.size ≤ w4.heap.size := (hHeld.2.2.2.2.2.2.2.2.2.2.2).size
            have hGl := blk_lt hga
            go_at_call 24
            refine (spec_SetAttr f0 A'3 f0.attrs.length c'3 s1 v2 _ (hR3.mono mAtr (ex_trans (Below.refl _ _) hb4)) (by omega)).mono ?_; rintro e w5 hN5
            rw [← HE0.out] at hN5
            obtain ⟨A105, c105, bs5, rfl, hW5, hF5, hb5⟩ := hN5.v
            have hL5 := Lib.hid (hW5.lt lAtr)
            have hR5 := hW5.sl (R := RAtr) (fun h => h.1)
            go_wp2_with fail
            refine hK.out _ _ (by (try dsimp only); exact ⟨keep_cell hb5 hHeld.1, keep_cell hb5 hHeld.2.1, keep_cell hb5 hHeld.2.2.1, keep_cell hb5 hHeld.2.2.2.1, keep_cell hb5 hHeld.2.2.2.2.1, keep_lt hb5 hHeld.2.2.2.2.2.1, keep_cell hb5 hHeld.2.2.2.2.2.2.1, keep_cell hb5 hHeld.2.2.2.2.2.2.2.1, keep_cell hb5 hHeld.2.2.2.2.2.2.2.2.1, keep_lt hb5 hHeld.2.2.2.2.2.2.2.2.2.1, ex_trans hHeld.2.2.2.2.2.2.2.2.2.2.1 hb5, ex_trans hHeld.2.2.2.2.2.2.2.2.2.2.2 hb5⟩) (fun hNew => ?_)
            clear hK K hHeld
            have hHeld := hNew
            clear hNew
            try simp only [Act.put, List.setIfInBounds_toArray, List.set_cons_zero, List.set_cons_succ]
            replace hga := below_keep hb5 hga
            have gc := blk_cell? hga
            have gf := blk_free hga
            refine held_one 7 (by kernel_rfl) rfl (fun K hK => ?_)
            go_simp
            have hch : Chg [w2.heap.size] w5 (sets w5 (w2.heap.size) 0 [.int .i64 r0.id, .int .i64 r0.owner, .bool r0.shared, .int .i64 r0.link, .slice A105 r0.attrs.length c105]) := sets_chg (bs := [w2.heap.size]) (g := w2.heap.size) (w := w5) (w1 := w5) (by simp) _ _ 0 (Chg.refl _ _)
            have hgz : (sets w5 (w2.heap.size) 0 [.int .i64 r0.id, .int .i64 r0.owner, .bool r0.shared, .int .i64 r0.link, .slice A105 r0.attrs.length c105]).heap[w2.heap.size]? = some (.cells #[.int .i64 r0.id, .int .i64 r0.owner, .bool r0.shared, .int .i64 r0.link, .slice A105 r0.attrs.length c105] 45 (0, 0)) := sets_blk _ _ _ _ hga
            have hne : ∀ b ∈ bs5, b ≠ w2.heap.size := fun b hb => by have h1 := hF5.2 b hb; omega
            have hW5z := (hW5).loc (w' := (sets w5 (w2.heap.size) 0 [.int .i64 r0.id, .int .i64 r0.owner, .bool r0.shared, .int .i64 r0.link, .slice A105 r0.attrs.length c105])) lAtr (fun b hb => hch.block b (hL5.out b hb) (fun h => hne b hb (by simpa using h)))
            refine hK.out _ _ (by (try dsimp only); exact ⟨hch.cell hHeld.1 (fun h => by simp only [List.mem_singleton] at h; omega), hch.cell hHeld.2.1 (fun h => by simp only [List.mem_singleton] at h; omega), hch.cell hHeld.2.2.1 (fun h => by simp only [List.mem_singleton] at h; omega), hch.cell hHeld.2.2.2.1 (fun h => by simp only [List.mem_singleton] at h; omega), hch.cell hHeld.2.2.2.2.1 (fun h => by simp only [List.mem_singleton] at h; omega), Nat.lt_of_lt_of_le hHeld.2.2.2.2.2.1 hch.size, hch.cell hHeld.2.2.2.2.2.2.1 (fun h => by simp only [List.mem_singleton] at h; omega), hch.cell hHeld.2.2.2.2.2.2.2.1 (fun h => by simp only [List.mem_singleton] at h; omega), hch.cell hHeld.2.2.2.2.2.2.2.2.1 (fun h => by simp only [List.mem_singleton] at h; omega), Nat.lt_of_lt_of_le hHeld.2.2.2.2.2.2.2.2.2.1 hch.size, Below.mark hHeld.2.2.2.2.2.2.2.2.2.2.1 hch (hHeld.2.2.2.2.2.2.2.2.2.2.1).size (fun b hb => by have h1 := hK0.size; simp only [List.mem_singleton] at hb; omega), Below.mark hHeld.2.2.2.2.2.2.2.2.2.2.2 hch (hHeld.2.2.2.2.2.2.2.2.2.2.2).size (fun b hb => by have h1 := hK910.size; simp only [List.mem_singleton] at hb; omega)⟩) (fun hNew => ?_)
            clear hK K hHeld
            have hHeld := hNew
            clear hNew
            try simp only [Act.put, List.setIfInBounds_toArray, List.set_cons_zero, List.set_cons_succ]
            refine wpAnyH_done (by kernel_rfl) ?_ _
            go_wp2_with fail
            go_meet
            exact ⟨w2.heap.size, A105, c105, bs5, rfl, hGs, hgz, hW5z, ⟨hF5.1, fun b hb => Nat.le_trans (hFB) (hF5.2 b hb)⟩, fun h => hne _ h rfl, hHeld⟩
        case rest =>
          generalize wc = w5 at *
          obtain ⟨g5, A105, c105, bs5, rfl, hgs5, hga5, hW5, hF5, hgn5, x0_0', x0_1', x0_2', x0_3', x0_4', z0', x1_0', x1_1', x1_2', z1', hK0', hK910'⟩ := hcut
          have hL5 := Lib.hid (hW5.lt lAtr)
          have hR5 := hW5.sl (R := RAtr) (fun h => h.1)
          clear x0_0 x0_1 x0_2 x0_3 x0_4 z0 x1_0 x1_1 x1_2 z1 hK0 hK910 hgn5
          have x0_0 := x0_0'
          clear x0_0'
          have x0_1 := x0_1'
          clear x0_1'
          have x0_2 := x0_2'
          clear x0_2'
          have x0_3 := x0_3'
          clear x0_3'
          have x0_4 := x0_4'
          clear x0_4'
          have z0 := z0'
          clear z0'
          have x1_0 := x1_0'
          clear x1_0'
          have x1_1 := x1_1'
          clear x1_1'
          have x1_2 := x1_2'
          clear x1_2'
          have z1 := z1'
          clear z1'
          have hK0 := hK0'
          clear hK0'
          clear hK910'
          have x2_0 : w5.cell? ⟨g5, 0, none⟩ = some (.int .i64 r0.id) := blk_cell? hga5 0
          have x2_1 : w5.cell? ⟨g5, 1, none⟩ = some (.int .i64 r0.owner) := blk_cell? hga5 1
          have x2_2 : w5.cell? ⟨g5, 2, none⟩ = some (.bool r0.shared) := blk_cell? hga5 2
          have x2_3 : w5.cell? ⟨g5, 3, none⟩ = some (.int .i64 r0.link) := blk_cell? hga5 3
          have x2_4 : w5.cell? ⟨g5, 4, none⟩ = some (.slice A105 r0.attrs.length c105) := blk_cell? hga5 4
          have z2 : g5 < w5.heap.size := blk_lt hga5
          clear hga5 hgs5
          have hK5 := Below.refl w5.heap.size w5
          go_wp2_with fail
          refine (laws_toFile f0 A0 f0.attrs.length c0 _ (hS0.mono mAtr (ex_trans hK0 (by go_grown))) hk0).mono ?_; rintro e w6 hN6
          obtain ⟨A'6, c'6, bs6, rfl, hcc6, hW6, hF6, hb6⟩ := hN6.out
          have hL6 := Lib.hid (hW6.lt lAtr)
          have hR6 := hW6.sl (R := RAtr) (fun h => h.1)
          have hG6_0 : Hid (∀ b ∈ bs6, W.heap.size ≤ b) := Lib.hid (fun b hb => by have h1 := hF6.2 b hb; have h2 := hK0.size; (try simp at h1); omega)
          have hG6_5 : Hid (∀ b ∈ bs6, w5.heap.size ≤ b) := Lib.hid (fun b hb => by have h1 := hF6.2 b hb; have h2 := hK5.size; (try simp at h1); omega)
          have hN6_0 : Hid (W.heap.size ∉ bs6) := Lib.hid (fun h => by have h1 := hF6.2 _ h; have h2 := z0; (try simp at h1); omega)
          have hN6_1 : Hid (W.heap.size + 1 ∉ bs6) := Lib.hid (fun h => by have h1 := hF6.2 _ h; have h2 := z1; (try simp at h1); omega)
          have hN6_2 : Hid (g5 ∉ bs6) := Lib.hid (fun h => by have h1 := hF6.2 _ h; have h2 := z2; (try simp at h1); omega)
          have hx6 : Below w5.heap.size w5 w6 := ex_trans (by go_grown) hb6
          replace hK0 := ex_trans hK0 hx6
          replace hK5 := ex_trans hK5 hx6
          replace x0_0 := keep_cell hx6 x0_0
          replace x0_1 := keep_cell hx6 x0_1
          replace x0_2 := keep_cell hx6 x0_2
          replace x0_3 := keep_cell hx6 x0_3
          replace x0_4 := keep_cell hx6 x0_4
          replace z0 := keep_lt hx6 z0
          replace x1_0 := keep_cell hx6 x1_0
          replace x1_1 := keep_cell hx6 x1_1
          replace x1_2 := keep_cell hx6 x1_2
          replace z1 := keep_lt hx6 z1
          replace x2_0 := keep_cell hx6 x2_0
          replace x2_1 := keep_cell hx6 x2_1
          replace x2_2 := keep_cell hx6 x2_2
          replace x2_3 := keep_cell hx6 x2_3
          replace x2_4 := keep_cell hx6 x2_4
          replace z2 := keep_lt hx6 z2
          have hK6 := Below.refl w6.heap.size w6
          go_upto_region 12 with fail
          generalize hwp : World.alloc w6 _ = wp12
          have hbp12 : Below w6.heap.size w6 wp12 := by rw [← hwp]; clear hwp; go_grown
          have hN6_3 : Hid (w6.heap.size ∉ bs6) := Lib.hid (fun h => by have h2 := hL6.out _ h; have h3 := hK6.size; omega)
          replace hK0 := ex_trans hK0 hbp12
          replace hK5 := ex_trans hK5 hbp12
          replace hK6 := ex_trans hK6 hbp12
          replace x0_0 := keep_cell hbp12 x0_0
          replace x0_1 := keep_cell hbp12 x0_1
          replace x0_2 := keep_cell hbp12 x0_2
          replace x0_3 := keep_cell hbp12 x0_3
          replace x0_4 := keep_cell hbp12 x0_4
          replace z0 := keep_lt hbp12 z0
          replace x1_0 := keep_cell hbp12 x1_0
          replace x1_1 := keep_cell hbp12 x1_1
          replace x1_2 := keep_cell hbp12 x1_2
          replace z1 := keep_lt hbp12 z1
          replace x2_0 := keep_cell hbp12 x2_0
          replace x2_1 := keep_cell hbp12 x2_1
          replace x2_2 := keep_cell hbp12 x2_2
          replace x2_3 := keep_cell hbp12 x2_3
          replace x2_4 := keep_cell hbp12 x2_4
          replace z2 := keep_lt hbp12 z2
          have x3_0 : wp12.cell? ⟨w6.heap.size, 0, none⟩ = some (.int .i64 f0.id) := by rw [← hwp]; clear hwp; go_simp
          have x3_1 : wp12.cell? ⟨w6.heap.size, 1, none⟩ = some (.int .i64 f0.owner) := by rw [← hwp]; clear hwp; go_simp
          have x3_2 : wp12.cell? ⟨w6.heap.size, 2, none⟩ = some (.bool f0.shared) := by rw [← hwp]; clear hwp; go_simp
          have x3_3 : wp12.cell? ⟨w6.heap.size, 3, none⟩ = some (.int .i64 f0.link) := by rw [← hwp]; clear hwp; go_simp
          have x3_4 : wp12.cell? ⟨w6.heap.size, 4, none⟩ = some (.slice A'6 f0.attrs.length c'6) := by rw [← hwp]; clear hwp; go_simp
          have z3 : w6.heap.size < wp12.heap.size := by rw [← hwp]; clear hwp; simp <;> omega
          clear hwp
          have hK912 := Below.refl wp12.heap.size wp12
          go_cut [10] (fun sa10 w' => ∃ (g : Nat) (A108 : Option Addr) (c108 : Nat) (bs8 : List Nat), sa10 = .pointer (some ⟨g, 0, none⟩) ∧ wp12.heap.size ≤ g ∧ w'.heap[g]? = some (.cells #[.int .i64 r0.id, .int .i64 r0.owner, .bool r0.shared, .int .i64 r0.link, .slice A108 r0.attrs.length c108] 45 (0, 0)) ∧ OSl 93 4 OAtr w' A108 r0.attrs.length r0.attrs bs8 ∧ Fresh wp12 bs8 ∧ g ∉ bs8 ∧ (w'.cell? ⟨W.heap.size, 0, none⟩ = some (.int .i64 f0.id) ∧ w'.cell? ⟨W.heap.size, 1, none⟩ = some (.int .i64 f0.owner) ∧ w'.cell? ⟨W.heap.size, 2, none⟩ = some (.bool f0.shared) ∧ w'.cell? ⟨W.heap.size, 3, none⟩ = some (.int .i64 f0.link) ∧ w'.cell? ⟨W.heap.size, 4, none⟩ = some (.slice A0 f0.attrs.length c0) ∧ W.heap.size < w'.heap.size ∧ w'.cell? ⟨W.heap.size + 1, 0, none⟩ = some (.int .i64 v2.kind) ∧ w'.cell? ⟨W.heap.size + 1, 1, none⟩ = some (.int .i64 v2.int) ∧ w'.cell? ⟨W.heap.size + 1, 2, none⟩ = some (.string v2.str) ∧ W.heap.size + 1 < w'.heap.size ∧ w'.cell? ⟨g5, 0, none⟩ = some (.int .i64 r0.id) ∧ w'.cell? ⟨g5, 1, none⟩ = some (.int .i64 r0.owner) ∧ w'.cell? ⟨g5, 2, none⟩ = some (.bool r0.shared) ∧ w'.cell? ⟨g5, 3, none⟩ = some (.int .i64 r0.link) ∧ w'.cell? ⟨g5, 4, none⟩ = some (.slice A105 r0.attrs.length c105) ∧ g5 < w'.heap.size ∧ w'.cell? ⟨w6.heap.size, 0, none⟩ = some (.int .i64 f0.id) ∧ w'.cell? ⟨w6.heap.size, 1, none⟩ = some (.int .i64 f0.owner) ∧ w'.cell? ⟨w6.heap.size, 2, none⟩ = some (.bool f0.shared) ∧ w'.cell? ⟨w6.heap.size, 3, none⟩ = some (.int .i64 f0.link) ∧ w'.cell? ⟨w6.heap.size, 4, none⟩ = some (.slice A'6 f0.attrs.length c'6) ∧ w6.heap.size < w'.heap.size ∧ Below W.heap.size W w' ∧ Below w5.heap.size w5 w' ∧ Below w6.heap.size w6 w' ∧ Below wp12.heap.size wp12 w'))
          case first =>
            refine wp_region_held_drew (S := (fun w' => w'.cell? ⟨W.heap.size, 0, none⟩ = some (.int .i64 f0.id) ∧ w'.cell? ⟨W.heap.size, 1, none⟩ = some (.int .i64 f0.owner) ∧ w'.cell? ⟨W.heap.size, 2, none⟩ = some (.bool f0.shared) ∧ w'.cell? ⟨W.heap.size, 3, none⟩ = some (.int .i64 f0.link) ∧ w'.cell? ⟨W.heap.size, 4, none⟩ = some (.slice A0 f0.attrs.length c0) ∧ W.heap.size < w'.heap.size ∧ w'.cell? ⟨W.heap.size + 1, 0, none⟩ = some (.int .i64 v2.kind) ∧ w'.cell? ⟨W.heap.size + 1, 1, none⟩ = some (.int .i64 v2.int) ∧ w'.cell? ⟨W.heap.size + 1, 2, none⟩ = some (.string v2.str) ∧ W.heap.size + 1 < w'.heap.size ∧ w'.cell? ⟨g5, 0, none⟩ = some (.int .i64 r0.id) ∧ w'.cell? ⟨g5, 1, none⟩ = some (.int .i64 r0.owner) ∧ w'.cell? ⟨g5, 2, none⟩ = some (.bool r0.shared) ∧ w'.cell? ⟨g5, 3, none⟩ = some (.int .i64 r0.link) ∧ w'.cell? ⟨g5, 4, none⟩ = some (.slice A105 r0.attrs.length c105) ∧ g5 < w'.heap.size ∧ w'.cell? ⟨w6.heap.size, 0, none⟩ = some (.int .i64 f0.id) ∧ w'.cell? ⟨w6.heap.size, 1, none⟩ = some (.int .i64 f0.owner) ∧ w'.cell? ⟨w6.heap.size, 2, none⟩ = some (.bool f0.shared) ∧ w'.cell? ⟨w6.heap.size, 3, none⟩ = some (.int .i64 f0.link) ∧ w'.cell? ⟨w6.heap.size, 4, none⟩ = some (.slice A'6 f0.attrs.length c'6) ∧ w6.heap.size < w'.heap.size ∧ Below W.heap.size W w' ∧ Below w5.heap.size w5 w' ∧ Below w6.heap.size w6 w' ∧ Below wp12.heap.size wp12 w')) (by kernel_rfl) (by (try dsimp only); exact ⟨x0_0, x0_1, x0_2, x0_3, x0_4, z0, x1_0, x1_1, x1_2, z1, x2_0, x2_1, x2_2, x2_3, x2_4, z2, x3_0, x3_1, x3_2, x3_3, x3_4, z3, (hK0).drew, (hK5).drew, (hK6).drew, (hK912).drew⟩) (fun hHeld => ?_)
            first | (refine held_take 0 rfl (by kernel_rfl) (by kernel_rfl) (by kernel_rfl) (by rfl) (fun _ _ _ h => h) (by assumption) (by intro w hSw; (try dsimp only at hSw); go_simp; first | done | with_reducible rfl) ?_) | (refine held_skip 0 rfl (by kernel_rfl) (by kernel_rfl) (by kernel_rfl) (by rfl) (fun _ _ _ h => h) (by assumption) ?_)
            simp only [Act.put, List.setIfInBounds_toArray, List.set_cons_zero, List.set_cons_succ]
            first | (refine held_take 1 rfl (by kernel_rfl) (by kernel_rfl) (by kernel_rfl) (by rfl) (fun _ _ _ h => h) (by assumption) (by intro w hSw; (try dsimp only at hSw); go_simp; first | done | with_reducible rfl) ?_) | (refine held_skip 1 rfl (by kernel_rfl) (by kernel_rfl) (by kernel_rfl) (by rfl) (fun _ _ _ h => h) (by assumption) ?_)
            simp only [Act.put, List.setIfInBounds_toArray, List.set_cons_zero, List.set_cons_succ]
            first | (refine held_take 2 rfl (by kernel_rfl) (by kernel_rfl) (by kernel_rfl) (by rfl) (fun _ _ _ h => h) (by assumption) (by intro w hSw; (try dsimp only at hSw); go_simp; first | done | with_reducible rfl) ?_) | (refine held_skip 2 rfl (by kernel_rfl) (by kernel_rfl) (by kernel_rfl) (by rfl) (fun _ _ _ h => h) (by assumption) ?_)
            simp only [Act.put, List.setIfInBounds_toArray, List.set_cons_zero, List.set_cons_succ]
            refine held_two 3 5 (by kernel_rfl) rfl rfl (fun K hK => ?_) (fun K hK => ?_)
            · go_simp
              have hFB : wp12.heap.size ≤ wp12.heap.size := Nat.le_refl _
              go_at_call 26
              refine (laws_toValue v2 _).mono ?_; rintro e w7 ⟨rfl, hb7⟩
              go_wp2_with fail
              refine hK.out _ _ (by (try dsimp only); exact ⟨keep_cell hb7 hHeld.1, keep_cell hb7 hHeld.2.1, keep_cell hb7 hHeld.2.2.1, keep_cell hb7 hHeld.2.2.2.1, keep_cell hb7 hHeld.2.2.2.2.1, keep_lt hb7 hHeld.2.2.2.2.2.1, keep_cell hb7 hHeld.2.2.2.2.2.2.1, keep_cell hb7 hHeld.2.2.2.2.2.2.2.1, keep_cell hb7 hHeld.2.2.2.2.2.2.2.2.1, keep_lt hb7 hHeld.2.2.2.2.2.2.2.2.2.1, keep_cell hb7 hHeld.2.2.2.2.2.2.2.2.2.2.1, keep_cell hb7 hHeld.2.2.2.2.2.2.2.2.2.2.2.1, keep_cell hb7 hHeld.2.2.2.2.2.2.2.2.2.2.2.2.1, keep_cell hb7 hHeld.2.2.2.2.2.2.2.2.2.2.2.2.2.1, keep_cell hb7 hHeld.2.2.2.2.2.2.2.2.2.2.2.2.2.2.1, keep_lt hb7 hHeld.2.2.2.2.2.2.2.2.2.2.2.2.2.2.2.1, keep_cell hb7 hHeld.2.2.2.2.2.2.2.2.2.2.2.2.2.2.2.2.1, keep_cell hb7 hHeld.2.2.2.2.2.2.2.2.2.2.2.2.2.2.2.2.2.1, keep_cell hb7 hHeld.2.2.2.2.2.2.2.2.2.2.2.2.2.2.2.2.2.2.1, keep_cell hb7 hHeld.2.2.2.2.2.2.2.2.2.2.2.2.2.2.2.2.2.2.2.1, keep_cell hb7 hHeld.2.2.2.2.2.2.2.2.2.2.2.2.2.2.2.2.2.2.2.2.1, keep_lt hb7 hHeld.2.2.2.2.2.2.2.2.2.2.2.2.2.2.2.2.2.2.2.2.2.1, ex_trans hHeld.2.2.2.2.2.2.2.2.2.2.2.2.2.2.2.2.2.2.2.2.2.2.1 hb7, ex_trans hHeld.2.2.2.2.2.2.2.2.2.2.2.2.2.2.2.2.2.2.2.2.2.2.2.1 hb7, ex_trans hHeld.2.2.2.2.2.2.2.2.2.2.2.2.2.2.2.2.2.2.2.2.2.2.2.2.1 hb7, ex_trans hHeld.2.2.2.2.2.2.2.2.2.2.2.2.2.2.2.2.2.2.2.2.2.2.2.2.2 hb7⟩) (fun hNew => ?_)
              clear hK K hHeld
              have hHeld := hNew
              clear hNew
              try simp only [Act.put, List.setIfInBounds_toArray, List.set_cons_zero, List.set_cons_succ]
              refine held_two 4 5 (by kernel_rfl) rfl rfl (fun K hK => ?_) (fun K hK => ?_)
              · go_simp
                have hFB : wp12.heap.size ≤ w7.heap.size := (hHeld.2.2.2.2.2.2.2.2.2.2.2.2.2.2.2.2.2.2.2.2.2.2.2.2.2).size
                go_at_call 27
                refine (impl_SetAttr f0 A'6 f0.attrs.length c'6 s1 v2 _ (hR6.mono mAtr hHeld.2.2.2.2.2.2.2.2.2.2.2.2.2.2.2.2.2.2.2.2.2.2.2.2.1) (by omega)).mono ?_; rintro e w8 hN8
                rw [← HE0.out] at hN8
                obtain ⟨A108, c108, bs8, rfl, hW8, hF8, hb8⟩ := hN8.v
                have hL8 := Lib.hid (hW8.lt lAtr)
                have hR8 := hW8.sl (R := RAtr) (fun h => h.1)
                go_wp2_with fail
                refine hK.out _ _ (by (try dsimp only); exact ⟨keep_cell hb8 hHeld.1, keep_cell hb8 hHeld.2.1, keep_cell hb8 hHeld.2.2.1, keep_cell hb8 hHeld.2.2.2.1, keep_cell hb8 hHeld.2.2.2.2.1, keep_lt hb8 hHeld.2.2.2.2.2.1, keep_cell hb8 hHeld.2.2.2.2.2.2.1, keep_cell hb8 hHeld.2.2.2.2.2.2.2.1, keep_cell hb8 hHeld.2.2.2.2.2.2.2.2.1, keep_lt hb8 hHeld.2.2.2.2.2.2.2.2.2.1, keep_cell hb8 hHeld.2.2.2.2.2.2.2.2.2.2.1, keep_cell hb8 hHeld.2.2.2.2.2.2.2.2.2.2.2.1, keep_cell hb8 hHeld.2.2.2.2.2.2.2.2.2.2.2.2.1, keep_cell hb8 hHeld.2.2.2.2.2.2.2.2.2.2.2.2.2.1, keep_cell hb8 hHeld.2.2.2.2.2.2.2.2.2.2.2.2.2.2.1, keep_lt hb8 hHeld.2.2.2.2.2.2.2.2.2.2.2.2.2.2.2.1, keep_cell hb8 hHeld.2.2.2.2.2.2.2.2.2.2.2.2.2.2.2.2.1, keep_cell hb8 hHeld.2.2.2.2.2.2.2.2.2.2.2.2.2.2.2.2.2.1, keep_cell hb8 hHeld.2.2.2.2.2.2.2.2.2.2.2.2.2.2.2.2.2.2.1, keep_cell hb8 hHeld.2.2.2.2.2.2.2.2.2.2.2.2.2.2.2.2.2.2.2.1, keep_cell hb8 hHeld.2.2.2.2.2.2.2.2.2.2.2.2.2.2.2.2.2.2.2.2.1, keep_lt hb8 hHeld.2.2.2.2.2.2.2.2.2.2.2.2.2.2.2.2.2.2.2.2.2.1, ex_trans hHeld.2.2.2.2.2.2.2.2.2.2.2.2.2.2.2.2.2.2.2.2.2.2.1 hb8, ex_trans hHeld.2.2.2.2.2.2.2.2.2.2.2.2.2.2.2.2.2.2.2.2.2.2.2.1 hb8, ex_trans hHeld.2.2.2.2.2.2.2.2.2.2.2.2.2.2.2.2.2.2.2.2.2.2.2.2.1 hb8, ex_trans hHeld.2.2.2.2.2.2.2.2.2.2.2.2.2.2.2.2.2.2.2.2.2.2.2.2.2 hb8⟩) (fun hNew => ?_)
                clear hK K hHeld
                have hHeld := hNew
                clear hNew
                try simp only [Act.put, List.setIfInBounds_toArray, List.set_cons_zero, List.set_cons_succ]
                refine held_one 5 (by kernel_rfl) rfl (fun K hK => ?_)
                go_simp
                have hGs : wp12.heap.size ≤ w8.heap.size := (hHeld.2.2.2.2.2.2.2.2.2.2.2.2.2.2.2.2.2.2.2.2.2.2.2.2.2).size
                generalize hwa : World.alloc w8 (.cells #[.int .i64 0, .int .i64 0, .bool false, .int .i64 0, .slice none 0 0] 45) = wa
                have hba : Below w8.heap.size w8 wa := by rw [← hwa]; exact (Below.refl _ _).alloc (Nat.le_refl _) _
                have hga : wa.heap[w8.heap.size]? = some (.cells #[.int .i64 0, .int .i64 0, .bool false, .int .i64 0, .slice none 0 0] 45 (0, 0)) := by rw [← hwa]; exact hp_new rfl
                clear hwa
                refine hK.out _ _ (by (try dsimp only); exact ⟨keep_cell hba hHeld.1, keep_cell hba hHeld.2.1, keep_cell hba hHeld.2.2.1, keep_cell hba hHeld.2.2.2.1, keep_cell hba hHeld.2.2.2.2.1, keep_lt hba hHeld.2.2.2.2.2.1, keep_cell hba hHeld.2.2.2.2.2.2.1, keep_cell hba hHeld.2.2.2.2.2.2.2.1, keep_cell hba hHeld.2.2.2.2.2.2.2.2.1, keep_lt hba hHeld.2.2.2.2.2.2.2.2.2.1, keep_cell hba hHeld.2.2.2.2.2.2.2.2.2.2.1, keep_cell hba hHeld.2.2.2.2.2.2.2.2.2.2.2.1, keep_cell hba hHeld.2.2.2.2.2.2.2.2.2.2.2.2.1, keep_cell hba hHeld.2.2.2.2.2.2.2.2.2.2.2.2.2.1, keep_cell hba hHeld.2.2.2.2.2.2.2.2.2.2.2.2.2.2.1, keep_lt hba hHeld.2.2.2.2.2.2.2.2.2.2.2.2.2.2.2.1, keep_cell hba hHeld.2.2.2.2.2.2.2.2.2.2.2.2.2.2.2.2.1, keep_cell hba hHeld.2.2.2.2.2.2.2.2.2.2.2.2.2.2.2.2.2.1, keep_cell hba hHeld.2.2.2.2.2.2.2.2.2.2.2.2.2.2.2.2.2.2.1, keep_cell hba hHeld.2.2.2.2.2.2.2.2.2.2.2.2.2.2.2.2.2.2.2.1, keep_cell hba hHeld.2.2.2.2.2.2.2.2.2.2.2.2.2.2.2.2.2.2.2.2.1, keep_lt hba hHeld.2.2.2.2.2.2.2.2.2.2.2.2.2.2.2.2.2.2.2.2.2.1, ex_trans hHeld.2.2.2.2.2.2.2.2.2.2.2.2.2.2.2.2.2.2.2.2.2.2.1 hba, ex_trans hHeld.2.2.2.2.2.2.2.2.2.2.2.2.2.2.2.2.2.2.2.2.2.2.2.1 hba, ex_trans hHeld.2.2.2.2.2.2.2.2.2.2.2.2.2.2.2.2.2.2.2.2.2.2.2.2.1 hba, ex_trans hHeld.2.2.2.2.2.2.2.2.2.2.2.2.2.2.2.2.2.2.2.2.2.2.2.2.2 hba⟩) (fun hNew => ?_)
                clear hK K hHeld
                have hHeld := hNew
                clear hNew
                try simp only [Act.put, List.setIfInBounds_toArray, List.set_cons_zero, List.set_cons_succ]
                have gc := blk_cell? hga
                have gf := blk_free hga
                refine held_one 6 (by kernel_rfl) rfl (fun K hK => ?_)
                go_simp
                have hch : Chg [w8.heap.size] wa (sets wa (w8.heap.size) 0 [.int .i64 r0.id, .int .i64 r0.owner, .bool r0.shared, .int .i64 r0.link, .slice A108 r0.attrs.length c108]) := sets_chg (bs := [w8.heap.size]) (g := w8.heap.size) (w := wa) (w1 := wa) (by simp) _ _ 0 (Chg.refl _ _)
                have hgz : (sets wa (w8.heap.size) 0 [.int .i64 r0.id, .int .i64 r0.owner, .bool r0.shared, .int .i64 r0.link, .slice A108 r0.attrs.length c108]).heap[w8.heap.size]? = some (.cells #[.int .i64 r0.id, .int .i64 r0.owner, .bool r0.shared, .int .i64 r0.link, .slice A108 r0.attrs.length c108] 45 (0, 0)) := sets_blk _ _ _ _ hga
                have hne : ∀ b ∈ bs8, b ≠ w8.heap.size := fun b hb => by have h1 := hL8.out b hb; omega
                have hW8z := (hW8.below lAtr hba).loc (w' := (sets wa (w8.heap.size) 0 [.int .i64 r0.id, .int .i64 r0.owner, .bool r0.shared, .int .i64 r0.link, .slice A108 r0.attrs.length c108])) lAtr (fun b hb => hch.block b (keep_lt hba (hL8.out b hb)) (fun h => hne b hb (by simpa using h)))
                refine hK.out _ _ (by (try dsimp only); exact ⟨hch.cell hHeld.1 (fun h => by simp only [List.mem_singleton] at h; omega), hch.cell hHeld.2.1 (fun h => by simp only [List.mem_singleton] at h; omega), hch.cell hHeld.2.2.1 (fun h => by simp only [List.mem_singleton] at h; omega), hch.cell hHeld.2.2.2.1 (fun h => by simp only [List.mem_singleton] at h; omega), hch.cell hHeld.2.2.2.2.1 (fun h => by simp only [List.mem_singleton] at h; omega), Nat.lt_of_lt_of_le hHeld.2.2.2.2.2.1 hch.size, hch.cell hHeld.2.2.2.2.2.2.1 (fun h => by simp only [List.mem_singleton] at h; omega), hch.cell hHeld.2.2.2.2.2.2.2.1 (fun h => by simp only [List.mem_singleton] at h; omega), hch.cell hHeld.2.2.2.2.2.2.2.2.1 (fun h => by simp only [List.mem_singleton] at h; omega), Nat.lt_of_lt_of_le hHeld.2.2.2.2.2.2.2.2.2.1 hch.size, hch.cell hHeld.2.2.2.2.2.2.2.2.2.2.1 (fun h => by simp only [List.mem_singleton] at h; omega), hch.cell hHeld.2.2.2.2.2.2.2.2.2.2.2.1 (fun h => by simp only [List.mem_singleton] at h; omega), hch.cell hHeld.2.2.2.2.2.2.2.2.2.2.2.2.1 (fun h => by simp only [List.mem_singleton] at h; omega), hch.cell hHeld.2.2.2.2.2.2.2.2.2.2.2.2.2.1 (fun h => by simp only [List.mem_singleton] at h; omega), hch.cell hHeld.2.2.2.2.2.2.2.2.2.2.2.2.2.2.1 (fun h => by simp only [List.mem_singleton] at h; omega), Nat.lt_of_lt_of_le hHeld.2.2.2.2.2.2.2.2.2.2.2.2.2.2.2.1 hch.size, hch.cell hHeld.2.2.2.2.2.2.2.2.2.2.2.2.2.2.2.2.1 (fun h => by simp only [List.mem_singleton] at h; omega), hch.cell hHeld.2.2.2.2.2.2.2.2.2.2.2.2.2.2.2.2.2.1 (fun h => by simp only [List.mem_singleton] at h; omega), hch.cell hHeld.2.2.2.2.2.2.2.2.2.2.2.2.2.2.2.2.2.2.1 (fun h => by simp only [List.mem_singleton] at h; omega), hch.cell hHeld.2.2.2.2.2.2.2.2.2.2.2.2.2.2.2.2.2.2.2.1 (fun h => by simp only [List.mem_singleton] at h; omega), hch.cell hHeld.2.2.2.2.2.2.2.2.2.2.2.2.2.2.2.2.2.2.2.2.1 (fun h => by simp only [List.mem_singleton] at h; omega), Nat.lt_of_lt_of_le hHeld.2.2.2.2.2.2.2.2.2.2.2.2.2.2.2.2.2.2.2.2.2.1 hch.size, Below.mark hHeld.2.2.2.2.2.2.2.2.2.2.2.2.2.2.2.2.2.2.2.2.2.2.1 hch (hHeld.2.2.2.2.2.2.2.2.2.2.2.2.2.2.2.2.2.2.2.2.2.2.1).size (fun b hb => by have h1 := hK0.size; simp only [List.mem_singleton] at hb; omega), Below.mark hHeld.2.2.2.2.2.2.2.2.2.2.2.2.2.2.2.2.2.2.2.2.2.2.2.1 hch (hHeld.2.2.2.2.2.2.2.2.2.2.2.2.2.2.2.2.2.2.2.2.2.2.2.1).size (fun b hb => by have h1 := hK5.size; simp only [List.mem_singleton] at hb; omega), Below.mark hHeld.2.2.2.2.2.2.2.2.2.2.2.2.2.2.2.2.2.2.2.2.2.2.2.2.1 hch (hHeld.2.2.2.2.2.2.2.2.2.2.2.2.2.2.2.2.2.2.2.2.2.2.2.2.1).size (fun b hb => by have h1 := hK6.size; simp only [List.mem_singleton] at hb; omega), Below.mark hHeld.2.2.2.2.2.2.2.2.2.2.2.2.2.2.2.2.2.2.2.2.2.2.2.2.2 hch (hHeld.2.2.2.2.2.2.2.2.2.2.2.2.2.2.2.2.2.2.2.2.2.2.2.2.2).size (fun b hb => by have h1 := hK912.size; simp only [List.mem_singleton] at hb; omega)⟩) (fun hNew => ?_)
                clear hK K hHeld
                have hHeld := hNew
                clear hNew
                try simp only [Act.put, List.setIfInBounds_toArray, List.set_cons_zero, List.set_cons_succ]
                refine wpAnyH_done (by kernel_rfl) ?_ _
                go_wp2_with fail
                go_meet
                exact ⟨w8.heap.size, A108, c108, bs8, rfl, hGs, hgz, hW8z, ⟨hF8.1, fun b hb => Nat.le_trans (hFB) (hF8.2 b hb)⟩, fun h => hne _ h rfl, hHeld⟩
              · go_simp
                have hGs : wp12.heap.size ≤ w7.heap.size := (hHeld.2.2.2.2.2.2.2.2.2.2.2.2.2.2.2.2.2.2.2.2.2.2.2.2.2).size
                generalize hwa : World.alloc w7 (.cells #[.int .i64 0, .int .i64 0, .bool false, .int .i64 0, .slice none 0 0] 45) = wa
                have hba : Below w7.heap.size w7 wa := by rw [← hwa]; exact (Below.refl _ _).alloc (Nat.le_refl _) _
                have hga : wa.heap[w7.heap.size]? = some (.cells #[.int .i64 0, .int .i64 0, .bool false, .int .i64 0, .slice none 0 0] 45 (0, 0)) := by rw [← hwa]; exact hp_new rfl
                clear hwa
                refine hK.out _ _ (by (try dsimp only); exact ⟨keep_cell hba hHeld.1, keep_cell hba hHeld.2.1, keep_cell hba hHeld.2.2.1, keep_cell hba hHeld.2.2.2.1, keep_cell hba hHeld.2.2.2.2.1, keep_lt hba hHeld.2.2.2.2.2.1, keep_cell hba hHeld.2.2.2.2.2.2.1, keep_cell hba hHeld.2.2.2.2.2.2.2.1, keep_cell hba hHeld.2.2.2.2.2.2.2.2.1, keep_lt hba hHeld.2.2.2.2.2.2.2.2.2.1, keep_cell hba hHeld.2.2.2.2.2.2.2.2.2.2.1, keep_cell hba hHeld.2.2.2.2.2.2.2.2.2.2.2.1, keep_cell hba hHeld.2.2.2.2.2.2.2.2.2.2.2.2.1, keep_cell hba hHeld.2.2.2.2.2.2.2.2.2.2.2.2.2.1, keep_cell hba hHeld.2.2.2.2.2.2.2.2.2.2.2.2.2.2.1, keep_lt hba hHeld.2.2.2.2.2.2.2.2.2.2.2.2.2.2.2.1, keep_cell hba hHeld.2.2.2.2.2.2.2.2.2.2.2.2.2.2.2.2.1, keep_cell hba hHeld.2.2.2.2.2.2.2.2.2.2.2.2.2.2.2.2.2.1, keep_cell hba hHeld.2.2.2.2.2.2.2.2.2.2.2.2.2.2.2.2.2.2.1, keep_cell hba hHeld.2.2.2.2.2.2.2.2.2.2.2.2.2.2.2.2.2.2.2.1, keep_cell hba hHeld.2.2.2.2.2.2.2.2.2.2.2.2.2.2.2.2.2.2.2.2.1, keep_lt hba hHeld.2.2.2.2.2.2.2.2.2.2.2.2.2.2.2.2.2.2.2.2.2.1, ex_trans hHeld.2.2.2.2.2.2.2.2.2.2.2.2.2.2.2.2.2.2.2.2.2.2.1 hba, ex_trans hHeld.2.2.2.2.2.2.2.2.2.2.2.2.2.2.2.2.2.2.2.2.2.2.2.1 hba, ex_trans hHeld.2.2.2.2.2.2.2.2.2.2.2.2.2.2.2.2.2.2.2.2.2.2.2.2.1 hba, ex_trans hHeld.2.2.2.2.2.2.2.2.2.2.2.2.2.2.2.2.2.2.2.2.2.2.2.2.2 hba⟩) (fun hNew => ?_)
                clear hK K hHeld
                have hHeld := hNew
                clear hNew
                try simp only [Act.put, List.setIfInBounds_toArray, List.set_cons_zero, List.set_cons_succ]
                refine held_one 4 (by kernel_rfl) rfl (fun K hK => ?_)
                go_simp
                have hFB : wp12.heap.size ≤ wa.heap.size := (hHeld.2.2.2.2.2.2.2.2.2.2.2.2.2.2.2.2.2.2.2.2.2.2.2.2.2).size
                have hGl := blk_lt hga
                go_at_call 27
                refine (impl_SetAttr f0 A'6 f0.attrs.length c'6 s1 v2 _ (hR6.mono mAtr hHeld.2.2.2.2.2.2.2.2.2.2.2.2.2.2.2.2.2.2.2.2.2.2.2.2.1) (by omega)).mono ?_; rintro e w8 hN8
                rw [← HE0.out] at hN8
                obtain ⟨A108, c108, bs8, rfl, hW8, hF8, hb8⟩ := hN8.v
                have hL8 := Lib.hid (hW8.lt lAtr)
                have hR8 := hW8.sl (R := RAtr) (fun h => h.1)
                go_wp2_with fail
                refine hK.out _ _ (by (try dsimp only); exact ⟨keep_cell hb8 hHeld.1, keep_cell hb8 hHeld.2.1, keep_cell hb8 hHeld.2.2.1, keep_cell hb8 hHeld.2.2.2.1, keep_cell hb8 hHeld.2.2.2.2.1, keep_lt hb8 hHeld.2.2.2.2.2.1, keep_cell hb8 hHeld.2.2.2.2.2.2.1, keep_cell hb8 hHeld.2.2.2.2.2.2.2.1, keep_cell hb8 hHeld.2.2.2.2.2.2.2.2.1, keep_lt hb8 hHeld.2.2.2.2.2.2.2.2.2.1, keep_cell hb8 hHeld.2.2.2.2.2.2.2.2.2.2.1, keep_cell hb8 hHeld.2.2.2.2.2.2.2.2.2.2.2.1, keep_cell hb8 hHeld.2.2.2.2.2.2.2.2.2.2.2.2.1, keep_cell hb8 hHeld.2.2.2.2.2.2.2.2.2.2.2.2.2.1, keep_cell hb8 hHeld.2.2.2.2.2.2.2.2.2.2.2.2.2.2.1, keep_lt hb8 hHeld.2.2.2.2.2.2.2.2.2.2.2.2.2.2.2.1, keep_cell hb8 hHeld.2.2.2.2.2.2.2.2.2.2.2.2.2.2.2.2.1, keep_cell hb8 hHeld.2.2.2.2.2.2.2.2.2.2.2.2.2.2.2.2.2.1, keep_cell hb8 hHeld.2.2.2.2.2.2.2.2.2.2.2.2.2.2.2.2.2.2.1, keep_cell hb8 hHeld.2.2.2.2.2.2.2.2.2.2.2.2.2.2.2.2.2.2.2.1, keep_cell hb8 hHeld.2.2.2.2.2.2.2.2.2.2.2.2.2.2.2.2.2.2.2.2.1, keep_lt hb8 hHeld.2.2.2.2.2.2.2.2.2.2.2.2.2.2.2.2.2.2.2.2.2.1, ex_trans hHeld.2.2.2.2.2.2.2.2.2.2.2.2.2.2.2.2.2.2.2.2.2.2.1 hb8, ex_trans hHeld.2.2.2.2.2.2.2.2.2.2.2.2.2.2.2.2.2.2.2.2.2.2.2.1 hb8, ex_trans hHeld.2.2.2.2.2.2.2.2.2.2.2.2.2.2.2.2.2.2.2.2.2.2.2.2.1 hb8, ex_trans hHeld.2.2.2.2.2.2.2.2.2.2.2.2.2.2.2.2.2.2.2.2.2.2.2.2.2 hb8⟩) (fun hNew => ?_)
                clear hK K hHeld
                have hHeld := hNew
                clear hNew
                try simp only [Act.put, List.setIfInBounds_toArray, List.set_cons_zero, List.set_cons_succ]
                replace hga := below_keep hb8 hga
                have gc := blk_cell? hga
                have gf := blk_free hga
                refine held_one 6 (by kernel_rfl) rfl (fun K hK => ?_)
                go_simp
                have hch : Chg [w7.heap.size] w8 (sets w8 (w7.heap.size) 0 [.int .i64 r0.id, .int .i64 r0.owner, .bool r0.shared, .int .i64 r0.link, .slice A108 r0.attrs.length c108]) := sets_chg (bs := [w7.heap.size]) (g := w7.heap.size) (w := w8) (w1 := w8) (by simp) _ _ 0 (Chg.refl _ _)
                have hgz : (sets w8 (w7.heap.size) 0 [.int .i64 r0.id, .int .i64 r0.owner, .bool r0.shared, .int .i64 r0.link, .slice A108 r0.attrs.length c108]).heap[w7.heap.size]? = some (.cells #[.int .i64 r0.id, .int .i64 r0.owner, .bool r0.shared, .int .i64 r0.link, .slice A108 r0.attrs.length c108] 45 (0, 0)) := sets_blk _ _ _ _ hga
                have hne : ∀ b ∈ bs8, b ≠ w7.heap.size := fun b hb => by have h1 := hF8.2 b hb; omega
                have hW8z := (hW8).loc (w' := (sets w8 (w7.heap.size) 0 [.int .i64 r0.id, .int .i64 r0.owner, .bool r0.shared, .int .i64 r0.link, .slice A108 r0.attrs.length c108])) lAtr (fun b hb => hch.block b (hL8.out b hb) (fun h => hne b hb (by simpa using h)))
                refine hK.out _ _ (by (try dsimp only); exact ⟨hch.cell hHeld.1 (fun h => by simp only [List.mem_singleton] at h; omega), hch.cell hHeld.2.1 (fun h => by simp only [List.mem_singleton] at h; omega), hch.cell hHeld.2.2.1 (fun h => by simp only [List.mem_singleton] at h; omega), hch.cell hHeld.2.2.2.1 (fun h => by simp only [List.mem_singleton] at h; omega), hch.cell hHeld.2.2.2.2.1 (fun h => by simp only [List.mem_singleton] at h; omega), Nat.lt_of_lt_of_le hHeld.2.2.2.2.2.1 hch.size, hch.cell hHeld.2.2.2.2.2.2.1 (fun h => by simp only [List.mem_singleton] at h; omega), hch.cell hHeld.2.2.2.2.2.2.2.1 (fun h => by simp only [List.mem_singleton] at h; omega), hch.cell hHeld.2.2.2.2.2.2.2.2.1 (fun h => by simp only [List.mem_singleton] at h; omega), Nat.lt_of_lt_of_le hHeld.2.2.2.2.2.2.2.2.2.1 hch.size, hch.cell hHeld.2.2.2.2.2.2.2.2.2.2.1 (fun h => by simp only [List.mem_singleton] at h; omega), hch.cell hHeld.2.2.2.2.2.2.2.2.2.2.2.1 (fun h => by simp only [List.mem_singleton] at h; omega), hch.cell hHeld.2.2.2.2.2.2.2.2.2.2.2.2.1 (fun h => by simp only [List.mem_singleton] at h; omega), hch.cell hHeld.2.2.2.2.2.2.2.2.2.2.2.2.2.1 (fun h => by simp only [List.mem_singleton] at h; omega), hch.cell hHeld.2.2.2.2.2.2.2.2.2.2.2.2.2.2.1 (fun h => by simp only [List.mem_singleton] at h; omega), Nat.lt_of_lt_of_le hHeld.2.2.2.2.2.2.2.2.2.2.2.2.2.2.2.1 hch.size, hch.cell hHeld.2.2.2.2.2.2.2.2.2.2.2.2.2.2.2.2.1 (fun h => by simp only [List.mem_singleton] at h; omega), hch.cell hHeld.2.2.2.2.2.2.2.2.2.2.2.2.2.2.2.2.2.1 (fun h => by simp only [List.mem_singleton] at h; omega), hch.cell hHeld.2.2.2.2.2.2.2.2.2.2.2.2.2.2.2.2.2.2.1 (fun h => by simp only [List.mem_singleton] at h; omega), hch.cell hHeld.2.2.2.2.2.2.2.2.2.2.2.2.2.2.2.2.2.2.2.1 (fun h => by simp only [List.mem_singleton] at h; omega), hch.cell hHeld.2.2.2.2.2.2.2.2.2.2.2.2.2.2.2.2.2.2.2.2.1 (fun h => by simp only [List.mem_singleton] at h; omega), Nat.lt_of_lt_of_le hHeld.2.2.2.2.2.2.2.2.2.2.2.2.2.2.2.2.2.2.2.2.2.1 hch.size, Below.mark hHeld.2.2.2.2.2.2.2.2.2.2.2.2.2.2.2.2.2.2.2.2.2.2.1 hch (hHeld.2.2.2.2.2.2.2.2.2.2.2.2.2.2.2.2.2.2.2.2.2.2.1).size (fun b hb => by have h1 := hK0.size; simp only [List.mem_singleton] at hb; omega), Below.mark hHeld.2.2.2.2.2.2.2.2.2.2.2.2.2.2.2.2.2.2.2.2.2.2.2.1 hch (hHeld.2.2.2.2.2.2.2.2.2.2.2.2.2.2.2.2.2.2.2.2.2.2.2.1).size (fun b hb => by have h1 := hK5.size; simp only [List.mem_singleton] at hb; omega), Below.mark hHeld.2.2.2.2.2.2.2.2.2.2.2.2.2.2.2.2.2.2.2.2.2.2.2.2.1 hch (hHeld.2.2.2.2.2.2.2.2.2.2.2.2.2.2.2.2.2.2.2.2.2.2.2.2.1).size (fun b hb => by have h1 := hK6.size; simp only [List.mem_singleton] at hb; omega), Below.mark hHeld.2.2.2.2.2.2.2.2.2.2.2.2.2.2.2.2.2.2.2.2.2.2.2.2.2 hch (hHeld.2.2.2.2.2.2.2.2.2.2.2.2.2.2.2.2.2.2.2.2.2.2.2.2.2).size (fun b hb => by have h1 := hK912.size; simp only [List.mem_singleton] at hb; omega)⟩) (fun hNew => ?_)
                clear hK K hHeld
                have hHeld := hNew
                clear hNew
                try simp only [Act.put, List.setIfInBounds_toArray, List.set_cons_zero, List.set_cons_succ]
                refine wpAnyH_done (by kernel_rfl) ?_ _
                go_wp2_with fail
                go_meet
                exact ⟨w7.heap.size, A108, c108, bs8, rfl, hGs, hgz, hW8z, ⟨hF8.1, fun b hb => Nat.le_trans (hFB) (hF8.2 b hb)⟩, fun h => hne _ h rfl, hHeld⟩
            · go_simp
              have hGs : wp12.heap.size ≤ wp12.heap.size := Nat.le_refl _
              generalize hwa : World.drew (World.alloc wp12 (.cells #[.int .i64 0, .int .i64 0, .bool false, .int .i64 0, .slice none 0 0] 45)) = wa
              have hba : Below wp12.drew.heap.size wp12.drew wa := by rw [← hwa]; exact ((show Below wp12.drew.heap.size wp12.drew wp12 from ⟨rfl, rfl, rfl, Nat.le_refl _, fun _ _ => rfl⟩).alloc (Nat.le_refl _) _).drew
              have hga : wa.heap[wp12.heap.size]? = some (.cells #[.int .i64 0, .int .i64 0, .bool false, .int .i64 0, .slice none 0 0] 45 (0, 0)) := by rw [← hwa]; exact hp_new rfl
              clear hwa
              refine hK.out _ _ (by (try dsimp only); exact ⟨keep_cell hba hHeld.1, keep_cell hba hHeld.2.1, keep_cell hba hHeld.2.2.1, keep_cell hba hHeld.2.2.2.1, keep_cell hba hHeld.2.2.2.2.1, keep_lt hba hHeld.2.2.2.2.2.1, keep_cell hba hHeld.2.2.2.2.2.2.1, keep_cell hba hHeld.2.2.2.2.2.2.2.1, keep_cell hba hHeld.2.2.2.2.2.2.2.2.1, keep_lt hba hHeld.2.2.2.2.2.2.2.2.2.1, keep_cell hba hHeld.2.2.2.2.2.2.2.2.2.2.1, keep_cell hba hHeld.2.2.2.2.2.2.2.2.2.2.2.1, keep_cell hba hHeld.2.2.2.2.2.2.2.2.2.2.2.2.1, keep_cell hba hHeld.2.2.2.2.2.2.2.2.2.2.2.2.2.1, keep_cell hba hHeld.2.2.2.2.2.2.2.2.2.2.2.2.2.2.1, keep_lt hba hHeld.2.2.2.2.2.2.2.2.2.2.2.2.2.2.2.1, keep_cell hba hHeld.2.2.2.2.2.2.2.2.2.2.2.2.2.2.2.2.1, keep_cell hba hHeld.2.2.2.2.2.2.2.2.2.2.2.2.2.2.2.2.2.1, keep_cell hba hHeld.2.2.2.2.2.2.2.2.2.2.2.2.2.2.2.2.2.2.1, keep_cell hba hHeld.2.2.2.2.2.2.2.2.2.2.2.2.2.2.2.2.2.2.2.1, keep_cell hba hHeld.2.2.2.2.2.2.2.2.2.2.2.2.2.2.2.2.2.2.2.2.1, keep_lt hba hHeld.2.2.2.2.2.2.2.2.2.2.2.2.2.2.2.2.2.2.2.2.2.1, ex_trans hHeld.2.2.2.2.2.2.2.2.2.2.2.2.2.2.2.2.2.2.2.2.2.2.1 hba, ex_trans hHeld.2.2.2.2.2.2.2.2.2.2.2.2.2.2.2.2.2.2.2.2.2.2.2.1 hba, ex_trans hHeld.2.2.2.2.2.2.2.2.2.2.2.2.2.2.2.2.2.2.2.2.2.2.2.2.1 hba, ex_trans hHeld.2.2.2.2.2.2.2.2.2.2.2.2.2.2.2.2.2.2.2.2.2.2.2.2.2 hba⟩) (fun hNew => ?_)
              clear hK K hHeld
              have hHeld := hNew
              clear hNew
              try simp only [Act.put, List.setIfInBounds_toArray, List.set_cons_zero, List.set_cons_succ]
              refine held_one 3 (by kernel_rfl) rfl (fun K hK => ?_)
              go_simp
              have hFB : wp12.heap.size ≤ wa.heap.size := (hHeld.2.2.2.2.2.2.2.2.2.2.2.2.2.2.2.2.2.2.2.2.2.2.2.2.2).size
              have hGl := blk_lt hga
              go_at_call 26
              refine (laws_toValue v2 _).mono ?_; rintro e w7 ⟨rfl, hb7⟩
              go_wp2_with fail
              refine hK.out _ _ (by (try dsimp only); exact ⟨keep_cell hb7 hHeld.1, keep_cell hb7 hHeld.2.1, keep_cell hb7 hHeld.2.2.1, keep_cell hb7 hHeld.2.2.2.1, keep_cell hb7 hHeld.2.2.2.2.1, keep_lt hb7 hHeld.2.2.2.2.2.1, keep_cell hb7 hHeld.2.2.2.2.2.2.1, keep_cell hb7 hHeld.2.2.2.2.2.2.2.1, keep_cell hb7 hHeld.2.2.2.2.2.2.2.2.1, keep_lt hb7 hHeld.2.2.2.2.2.2.2.2.2.1, keep_cell hb7 hHeld.2.2.2.2.2.2.2.2.2.2.1, keep_cell hb7 hHeld.2.2.2.2.2.2.2.2.2.2.2.1, keep_cell hb7 hHeld.2.2.2.2.2.2.2.2.2.2.2.2.1, keep_cell hb7 hHeld.2.2.2.2.2.2.2.2.2.2.2.2.2.1, keep_cell hb7 hHeld.2.2.2.2.2.2.2.2.2.2.2.2.2.2.1, keep_lt hb7 hHeld.2.2.2.2.2.2.2.2.2.2.2.2.2.2.2.1, keep_cell hb7 hHeld.2.2.2.2.2.2.2.2.2.2.2.2.2.2.2.2.1, keep_cell hb7 hHeld.2.2.2.2.2.2.2.2.2.2.2.2.2.2.2.2.2.1, keep_cell hb7 hHeld.2.2.2.2.2.2.2.2.2.2.2.2.2.2.2.2.2.2.1, keep_cell hb7 hHeld.2.2.2.2.2.2.2.2.2.2.2.2.2.2.2.2.2.2.2.1, keep_cell hb7 hHeld.2.2.2.2.2.2.2.2.2.2.2.2.2.2.2.2.2.2.2.2.1, keep_lt hb7 hHeld.2.2.2.2.2.2.2.2.2.2.2.2.2.2.2.2.2.2.2.2.2.1, ex_trans hHeld.2.2.2.2.2.2.2.2.2.2.2.2.2.2.2.2.2.2.2.2.2.2.1 hb7, ex_trans hHeld.2.2.2.2.2.2.2.2.2.2.2.2.2.2.2.2.2.2.2.2.2.2.2.1 hb7, ex_trans hHeld.2.2.2.2.2.2.2.2.2.2.2.2.2.2.2.2.2.2.2.2.2.2.2.2.1 hb7, ex_trans hHeld.2.2.2.2.2.2.2.2.2.2.2.2.2.2.2.2.2.2.2.2.2.2.2.2.2 hb7⟩) (fun hNew => ?_)
              clear hK K hHeld
              have hHeld := hNew
              clear hNew
              try simp only [Act.put, List.setIfInBounds_toArray, List.set_cons_zero, List.set_cons_succ]
              replace hga := below_keep hb7 hga
              refine held_one 4 (by kernel_rfl) rfl (fun K hK => ?_)
              go_simp
              have hFB : wp12.heap.size ≤ w7.heap.size := (hHeld.2.2.2.2.2.2.2.2.2.2.2.2.2.2.2.2.2.2.2.2.2.2.2.2.2).size
              have hGl := blk_lt hga
              go_at_call 27
              refine (impl_SetAttr f0 A'6 f0.attrs.length c'6 s1 v2 _ (hR6.mono mAtr hHeld.2.2.2.2.2.2.2.2.2.2.2.2.2.2.2.2.2.2.2.2.2.2.2.2.1) (by omega)).mono ?_; rintro e w8 hN8
              rw [← HE0.out] at hN8
              obtain ⟨A108, c108, bs8, rfl, hW8, hF8, hb8⟩ := hN8.v
              have hL8 := Lib.hid (hW8.lt lAtr)
              have hR8 := hW8.sl (R := RAtr) (fun h => h.1)
              go_wp2_with fail
              refine hK.out _ _ (by (try dsimp only); exact ⟨keep_cell hb8 hHeld.1, keep_cell hb8 hHeld.2.1, keep_cell hb8 hHeld.2.2.1, keep_cell hb8 hHeld.2.2.2.1, keep_cell hb8 hHeld.2.2.2.2.1, keep_lt hb8 hHeld.2.2.2.2.2.1, keep_cell hb8 hHeld.2.2.2.2.2.2.1, keep_cell hb8 hHeld.2.2.2.2.2.2.2.1, keep_cell hb8 hHeld.2.2.2.2.2.2.2.2.1, keep_lt hb8 hHeld.2.2.2.2.2.2.2.2.2.1, keep_cell hb8 hHeld.2.2.2.2.2.2.2.2.2.2.1, keep_cell hb8 hHeld.2.2.2.2.2.2.2.2.2.2.2.1, keep_cell hb8 hHeld.2.2.2.2.2.2.2.2.2.2.2.2.1, keep_cell hb8 hHeld.2.2.2.2.2.2.2.2.2.2.2.2.2.1, keep_cell hb8 hHeld.2.2.2.2.2.2.2.2.2.2.2.2.2.2.1, keep_lt hb8 hHeld.2.2.2.2.2.2.2.2.2.2.2.2.2.2.2.1, keep_cell hb8 hHeld.2.2.2.2.2.2.2.2.2.2.2.2.2.2.2.2.1, keep_cell hb8 hHeld.2.2.2.2.2.2.2.2.2.2.2.2.2.2.2.2.2.1, keep_cell hb8 hHeld.2.2.2.2.2.2.2.2.2.2.2.2.2.2.2.2.2.2.1, keep_cell hb8 hHeld.2.2.2.2.2.2.2.2.2.2.2.2.2.2.2.2.2.2.2.1, keep_cell hb8 hHeld.2.2.2.2.2.2.2.2.2.2.2.2.2.2.2.2.2.2.2.2.1, keep_lt hb8 hHeld.2.2.2.2.2.2.2.2.2.2.2.2.2.2.2.2.2.2.2.2.2.1, ex_trans hHeld.2.2.2.2.2.2.2.2.2.2.2.2.2.2.2.2.2.2.2.2.2.2.1 hb8, ex_trans hHeld.2.2.2.2.2.2.2.2.2.2.2.2.2.2.2.2.2.2.2.2.2.2.2.1 hb8, ex_trans hHeld.2.2.2.2.2.2.2.2.2.2.2.2.2.2.2.2.2.2.2.2.2.2.2.2.1 hb8, ex_trans hHeld.2.2.2.2.2.2.2.2.2.2.2.2.2.2.2.2.2.2.2.2.2.2.2.2.2 hb8⟩) (fun hNew => ?_)
              clear hK K hHeld
              have hHeld := hNew
              clear hNew
              try simp only [Act.put, List.setIfInBounds_toArray, List.set_cons_zero, List.set_cons_succ]
              replace hga := below_keep hb8 hga
              have gc := blk_cell? hga
              have gf := blk_free hga
              refine held_one 6 (by kernel_rfl) rfl (fun K hK => ?_)
              go_simp
              have hch : Chg [wp12.heap.size] w8 (sets w8 (wp12.heap.size) 0 [.int .i64 r0.id, .int .i64 r0.owner, .bool r0.shared, .int .i64 r0.link, .slice A108 r0.attrs.length c108]) := sets_chg (bs := [wp12.heap.size]) (g := wp12.heap.size) (w := w8) (w1 := w8) (by simp) _ _ 0 (Chg.refl _ _)
              have hgz : (sets w8 (wp12.heap.size) 0 [.int .i64 r0.id, .int .i64 r0.owner, .bool r0.shared, .int .i64 r0.link, .slice A108 r0.attrs.length c108]).heap[wp12.heap.size]? = some (.cells #[.int .i64 r0.id, .int .i64 r0.owner, .bool r0.shared, .int .i64 r0.link, .slice A108 r0.attrs.length c108] 45 (0, 0)) := sets_blk _ _ _ _ hga
              have hne : ∀ b ∈ bs8, b ≠ wp12.heap.size := fun b hb => by have h1 := hF8.2 b hb; omega
              have hW8z := (hW8).loc (w' := (sets w8 (wp12.heap.size) 0 [.int .i64 r0.id, .int .i64 r0.owner, .bool r0.shared, .int .i64 r0.link, .slice A108 r0.attrs.length c108])) lAtr (fun b hb => hch.block b (hL8.out b hb) (fun h => hne b hb (by simpa using h)))
              refine hK.out _ _ (by (try dsimp only); exact ⟨hch.cell hHeld.1 (fun h => by simp only [List.mem_singleton] at h; omega), hch.cell hHeld.2.1 (fun h => by simp only [List.mem_singleton] at h; omega), hch.cell hHeld.2.2.1 (fun h => by simp only [List.mem_singleton] at h; omega), hch.cell hHeld.2.2.2.1 (fun h => by simp only [List.mem_singleton] at h; omega), hch.cell hHeld.2.2.2.2.1 (fun h => by simp only [List.mem_singleton] at h; omega), Nat.lt_of_lt_of_le hHeld.2.2.2.2.2.1 hch.size, hch.cell hHeld.2.2.2.2.2.2.1 (fun h => by simp only [List.mem_singleton] at h; omega), hch.cell hHeld.2.2.2.2.2.2.2.1 (fun h => by simp only [List.mem_singleton] at h; omega), hch.cell hHeld.2.2.2.2.2.2.2.2.1 (fun h => by simp only [List.mem_singleton] at h; omega), Nat.lt_of_lt_of_le hHeld.2.2.2.2.2.2.2.2.2.1 hch.size, hch.cell hHeld.2.2.2.2.2.2.2.2.2.2.1 (fun h => by simp only [List.mem_singleton] at h; omega), hch.cell hHeld.2.2.2.2.2.2.2.2.2.2.2.1 (fun h => by simp only [List.mem_singleton] at h; omega), hch.cell hHeld.2.2.2.2.2.2.2.2.2.2.2.2.1 (fun h => by simp only [List.mem_singleton] at h; omega), hch.cell hHeld.2.2.2.2.2.2.2.2.2.2.2.2.2.1 (fun h => by simp only [List.mem_singleton] at h; omega), hch.cell hHeld.2.2.2.2.2.2.2.2.2.2.2.2.2.2.1 (fun h => by simp only [List.mem_singleton] at h; omega), Nat.lt_of_lt_of_le hHeld.2.2.2.2.2.2.2.2.2.2.2.2.2.2.2.1 hch.size, hch.cell hHeld.2.2.2.2.2.2.2.2.2.2.2.2.2.2.2.2.1 (fun h => by simp only [List.mem_singleton] at h; omega), hch.cell hHeld.2.2.2.2.2.2.2.2.2.2.2.2.2.2.2.2.2.1 (fun h => by simp only [List.mem_singleton] at h; omega), hch.cell hHeld.2.2.2.2.2.2.2.2.2.2.2.2.2.2.2.2.2.2.1 (fun h => by simp only [List.mem_singleton] at h; omega), hch.cell hHeld.2.2.2.2.2.2.2.2.2.2.2.2.2.2.2.2.2.2.2.1 (fun h => by simp only [List.mem_singleton] at h; omega), hch.cell hHeld.2.2.2.2.2.2.2.2.2.2.2.2.2.2.2.2.2.2.2.2.1 (fun h => by simp only [List.mem_singleton] at h; omega), Nat.lt_of_lt_of_le hHeld.2.2.2.2.2.2.2.2.2.2.2.2.2.2.2.2.2.2.2.2.2.1 hch.size, Below.mark hHeld.2.2.2.2.2.2.2.2.2.2.2.2.2.2.2.2.2.2.2.2.2.2.1 hch (hHeld.2.2.2.2.2.2.2.2.2.2.2.2.2.2.2.2.2.2.2.2.2.2.1).size (fun b hb => by have h1 := hK0.size; simp only [List.mem_singleton] at hb; omega), Below.mark hHeld.2.2.2.2.2.2.2.2.2.2.2.2.2.2.2.2.2.2.2.2.2.2.2.1 hch (hHeld.2.2.2.2.2.2.2.2.2.2.2.2.2.2.2.2.2.2.2.2.2.2.2.1).size (fun b hb => by have h1 := hK5.size; simp only [List.mem_singleton] at hb; omega), Below.mark hHeld.2.2.2.2.2.2.2.2.2.2.2.2.2.2.2.2.2.2.2.2.2.2.2.2.1 hch (hHeld.2.2.2.2.2.2.2.2.2.2.2.2.2.2.2.2.2.2.2.2.2.2.2.2.1).size (fun b hb => by have h1 := hK6.size; simp only [List.mem_singleton] at hb; omega), Below.mark hHeld.2.2.2.2.2.2.2.2.2.2.2.2.2.2.2.2.2.2.2.2.2.2.2.2.2 hch (hHeld.2.2.2.2.2.2.2.2.2.2.2.2.2.2.2.2.2.2.2.2.2.2.2.2.2).size (fun b hb => by have h1 := hK912.size; simp only [List.mem_singleton] at hb; omega)⟩) (fun hNew => ?_)
              clear hK K hHeld
              have hHeld := hNew
              clear hNew
              try simp only [Act.put, List.setIfInBounds_toArray, List.set_cons_zero, List.set_cons_succ]
              refine wpAnyH_done (by kernel_rfl) ?_ _
              go_wp2_with fail
              go_meet
              exact ⟨wp12.heap.size, A108, c108, bs8, rfl, hGs, hgz, hW8z, ⟨hF8.1, fun b hb => Nat.le_trans (hFB) (hF8.2 b hb)⟩, fun h => hne _ h rfl, hHeld⟩
          case rest =>
            generalize wc = w8 at *
            obtain ⟨g8, A108, c108, bs8, rfl, hgs8, hga8, hW8, hF8, hgn8, x0_0', x0_1', x0_2', x0_3', x0_4', z0', x1_0', x1_1', x1_2', z1', x2_0', x2_1', x2_2', x2_3', x2_4', z2', x3_0', x3_1', x3_2', x3_3', x3_4', z3', hK0', hK5', hK6', hK912'⟩ := hcut
            have hL8 := Lib.hid (hW8.lt lAtr)
            have hR8 := hW8.sl (R := RAtr) (fun h => h.1)
            have hG8_0 : Hid (∀ b ∈ bs8, W.heap.size ≤ b) := Lib.hid (fun b hb => by have h1 := hF8.2 b hb; have h2 := hK0.size; (try simp at h1); omega)
            have hG8_5 : Hid (∀ b ∈ bs8, w5.heap.size ≤ b) := Lib.hid (fun b hb => by have h1 := hF8.2 b hb; have h2 := hK5.size; (try simp at h1); omega)
            have hG8_6 : Hid (∀ b ∈ bs8, w6.heap.size ≤ b) := Lib.hid (fun b hb => by have h1 := hF8.2 b hb; have h2 := hK6.size; (try simp at h1); omega)
            have hD8_6 : Hid (∀ b ∈ bs8, b ∉ bs6) := Lib.hid (fun b hb hb2 => by have h1 := hF8.2 b hb; have h2 := hL6.out b hb2; have h3 := hK6.size; (try simp at h1); omega)
            have hN8_0 : Hid (W.heap.size ∉ bs8) := Lib.hid (fun h => by have h1 := hF8.2 _ h; have h2 := z0; (try simp at h1); omega)
            have hN8_1 : Hid (W.heap.size + 1 ∉ bs8) := Lib.hid (fun h => by have h1 := hF8.2 _ h; have h2 := z1; (try simp at h1); omega)
            have hN8_2 : Hid (g5 ∉ bs8) := Lib.hid (fun h => by have h1 := hF8.2 _ h; have h2 := z2; (try simp at h1); omega)
            have hN8_3 : Hid (w6.heap.size ∉ bs8) := Lib.hid (fun h => by have h1 := hF8.2 _ h; have h2 := z3; (try simp at h1); omega)
            have hN6_4 : Hid (g8 ∉ bs6) := Lib.hid (fun h => by have h2 := hL6.out _ h; have h3 := hK6.size; omega)
            have hN8_4 := Lib.hid hgn8
            clear x0_0 x0_1 x0_2 x0_3 x0_4 z0 x1_0 x1_1 x1_2 z1 x2_0 x2_1 x2_2 x2_3 x2_4 z2 x3_0 x3_1 x3_2 x3_3 x3_4 z3 hK0 hK5 hK6 hK912 hgn8
            have x0_0 := x0_0'
            clear x0_0'
            have x0_1 := x0_1'
            clear x0_1'
            have x0_2 := x0_2'
            clear x0_2'
            have x0_3 := x0_3'
            clear x0_3'
            have x0_4 := x0_4'
            clear x0_4'
            have z0 := z0'
            clear z0'
            have x1_0 := x1_0'
            clear x1_0'
            have x1_1 := x1_1'
            clear x1_1'
            have x1_2 := x1_2'
            clear x1_2'
            have z1 := z1'
            clear z1'
            have x2_0 := x2_0'
            clear x2_0'
            have x2_1 := x2_1'
            clear x2_1'
            have x2_2 := x2_2'
            clear x2_2'
            have x2_3 := x2_3'
            clear x2_3'
            have x2_4 := x2_4'
            clear x2_4'
            have z2 := z2'
            clear z2'
            have x3_0 := x3_0'
            clear x3_0'
            have x3_1 := x3_1'
            clear x3_1'
            have x3_2 := x3_2'
            clear x3_2'
            have x3_3 := x3_3'
            clear x3_3'
            have x3_4 := x3_4'
            clear x3_4'
            have z3 := z3'
            clear z3'
            have hK0 := hK0'
            clear hK0'
            have hK5 := hK5'
            clear hK5'
            have hK6 := hK6'
            clear hK6'
            clear hK912'
            have x4_0 : w8.cell? ⟨g8, 0, none⟩ = some (.int .i64 r0.id) := blk_cell? hga8 0
            have x4_1 : w8.cell? ⟨g8, 1, none⟩ = some (.int .i64 r0.owner) := blk_cell? hga8 1
            have x4_2 : w8.cell? ⟨g8, 2, none⟩ = some (.bool r0.shared) := blk_cell? hga8 2
            have x4_3 : w8.cell? ⟨g8, 3, none⟩ = some (.int .i64 r0.link) := blk_cell? hga8 3
            have x4_4 : w8.cell? ⟨g8, 4, none⟩ = some (.slice A108 r0.attrs.length c108) := blk_cell? hga8 4
            have z4 : g8 < w8.heap.size := blk_lt hga8
            clear hga8 hgs8
            have hK8 := Below.refl w8.heap.size w8
            go_wp2_with fail
            refine (laws_eqFile_same r0 A108 r0.attrs.length c108 A105 r0.attrs.length c105 _ (hR8.mono mAtr (ex_trans hK8 (by go_grown))) (hR5.mono mAtr (ex_trans hK5 (by go_grown))) hok0).mono ?_; rintro e w9 ⟨rfl, hb9⟩
            have hx9 : Below w8.heap.size w8 w9 := ex_trans (by go_grown) hb9
            replace hK0 := ex_trans hK0 hx9
            replace hK5 := ex_trans hK5 hx9
            replace hK6 := ex_trans hK6 hx9
            replace hK8 := ex_trans hK8 hx9
            replace x0_0 := keep_cell hx9 x0_0
            replace x0_1 := keep_cell hx9 x0_1
            replace x0_2 := keep_cell hx9 x0_2
            replace x0_3 := keep_cell hx9 x0_3
            replace x0_4 := keep_cell hx9 x0_4
            replace z0 := keep_lt hx9 z0
            replace x1_0 := keep_cell hx9 x1_0
            replace x1_1 := keep_cell hx9 x1_1
            replace x1_2 := keep_cell hx9 x1_2
            replace z1 := keep_lt hx9 z1
            replace x2_0 := keep_cell hx9 x2_0
            replace x2_1 := keep_cell hx9 x2_1
            replace x2_2 := keep_cell hx9 x2_2
            replace x2_3 := keep_cell hx9 x2_3
            replace x2_4 := keep_cell hx9 x2_4
            replace z2 := keep_lt hx9 z2
            replace x3_0 := keep_cell hx9 x3_0
            replace x3_1 := keep_cell hx9 x3_1
            replace x3_2 := keep_cell hx9 x3_2
            replace x3_3 := keep_cell hx9 x3_3
            replace x3_4 := keep_cell hx9 x3_4
            replace z3 := keep_lt hx9 z3
            replace x4_0 := keep_cell hx9 x4_0
            replace x4_1 := keep_cell hx9 x4_1
            replace x4_2 := keep_cell hx9 x4_2
            replace x4_3 := keep_cell hx9 x4_3
            replace x4_4 := keep_cell hx9 x4_4
            replace z4 := keep_lt hx9 z4
            go_wp2_with fail
            refine wp_region_held_drew (S := (fun w' => w'.cell? ⟨W.heap.size, 0, none⟩ = some (.int .i64 f0.id) ∧ w'.cell? ⟨W.heap.size, 1, none⟩ = some (.int .i64 f0.owner) ∧ w'.cell? ⟨W.heap.size, 2, none⟩ = some (.bool f0.shared) ∧ w'.cell? ⟨W.heap.size, 3, none⟩ = some (.int .i64 f0.link) ∧ w'.cell? ⟨W.heap.size, 4, none⟩ = some (.slice A0 f0.attrs.length c0) ∧ W.heap.size < w'.heap.size ∧ w'.cell? ⟨W.heap.size + 1, 0, none⟩ = some (.int .i64 v2.kind) ∧ w'.cell? ⟨W.heap.size + 1, 1, none⟩ = some (.int .i64 v2.int) ∧ w'.cell? ⟨W.heap.size + 1, 2, none⟩ = some (.string v2.str) ∧ W.heap.size + 1 < w'.heap.size ∧ w'.cell? ⟨g5, 0, none⟩ = some (.int .i64 r0.id) ∧ w'.cell? ⟨g5, 1, none⟩ = some (.int .i64 r0.owner) ∧ w'.cell? ⟨g5, 2, none⟩ = some (.bool r0.shared) ∧ w'.cell? ⟨g5, 3, none⟩ = some (.int .i64 r0.link) ∧ w'.cell? ⟨g5, 4, none⟩ = some (.slice A105 r0.attrs.length c105) ∧ g5 < w'.heap.size ∧ w'.cell? ⟨w6.heap.size, 0, none⟩ = some (.int .i64 f0.id) ∧ w'.cell? ⟨w6.heap.size, 1, none⟩ = some (.int .i64 f0.owner) ∧ w'.cell? ⟨w6.heap.size, 2, none⟩ = some (.bool f0.shared) ∧ w'.cell? ⟨w6.heap.size, 3, none⟩ = some (.int .i64 f0.link) ∧ w'.cell? ⟨w6.heap.size, 4, none⟩ = some (.slice A'6 f0.attrs.length c'6) ∧ w6.heap.size < w'.heap.size ∧ w'.cell? ⟨g8, 0, none⟩ = some (.int .i64 r0.id) ∧ w'.cell? ⟨g8, 1, none⟩ = some (.int .i64 r0.owner) ∧ w'.cell? ⟨g8, 2, none⟩ = some (.bool r0.shared) ∧ w'.cell? ⟨g8, 3, none⟩ = some (.int .i64 r0.link) ∧ w'.cell? ⟨g8, 4, none⟩ = some (.slice A108 r0.attrs.length c108) ∧ g8 < w'.heap.size ∧ Below W.heap.size W w' ∧ Below w5.heap.size w5 w' ∧ Below w6.heap.size w6 w' ∧ Below w8.heap.size w8 w')) (by kernel_rfl) (by (try dsimp only); exact ⟨x0_0, x0_1, x0_2, x0_3, x0_4, z0, x1_0, x1_1, x1_2, z1, x2_0, x2_1, x2_2, x2_3, x2_4, z2, x3_0, x3_1, x3_2, x3_3, x3_4, z3, x4_0, x4_1, x4_2, x4_3, x4_4, z4, (hK0).drew, (hK5).drew, (hK6).drew, (hK8).drew⟩) (fun hHeld => ?_)
            first | (refine held_take 0 rfl (by kernel_rfl) (by kernel_rfl) (by kernel_rfl) (by rfl) (fun _ _ _ h => h) (by assumption) (by intro w hSw; (try dsimp only at hSw); go_simp; first | done | with_reducible rfl) ?_) | (refine held_skip 0 rfl (by kernel_rfl) (by kernel_rfl) (by kernel_rfl) (by rfl) (fun _ _ _ h => h) (by assumption) ?_)
            simp only [Act.put, List.setIfInBounds_toArray, List.set_cons_zero, List.set_cons_succ]
            first | (refine held_take 1 rfl (by kernel_rfl) (by kernel_rfl) (by kernel_rfl) (by rfl) (fun _ _ _ h => h) (by assumption) (by intro w hSw; (try dsimp only at hSw); go_simp; first | done | with_reducible rfl) ?_) | (refine held_skip 1 rfl (by kernel_rfl) (by kernel_rfl) (by kernel_rfl) (by rfl) (fun _ _ _ h => h) (by assumption) ?_)
            simp only [Act.put, List.setIfInBounds_toArray, List.set_cons_zero, List.set_cons_succ]
            refine held_one 2 (by kernel_rfl) rfl (fun K hK => ?_)
            go_simp
            go_at_call 25
            refine (laws_toFile f0 A0 f0.attrs.length c0 _ (hS0.mono mAtr hHeld.2.2.2.2.2.2.2.2.2.2.2.2.2.2.2.2.2.2.2.2.2.2.2.2.2.2.2.2.1) hk0).mono ?_; rintro e w10 hN10
            obtain ⟨A'10, c'10, bs10, rfl, hcc10, hW10, hF10, hb10⟩ := hN10.out
            have hL10 := Lib.hid (hW10.lt lAtr)
            have hR10 := hW10.sl (R := RAtr) (fun h => h.1)
            go_wp2_with fail
            refine hK.out _ _ (by (try dsimp only); exact ⟨keep_cell hb10 hHeld.1, keep_cell hb10 hHeld.2.1, keep_cell hb10 hHeld.2.2.1, keep_cell hb10 hHeld.2.2.2.1, keep_cell hb10 hHeld.2.2.2.2.1, keep_lt hb10 hHeld.2.2.2.2.2.1, keep_cell hb10 hHeld.2.2.2.2.2.2.1, keep_cell hb10 hHeld.2.2.2.2.2.2.2.1, keep_cell hb10 hHeld.2.2.2.2.2.2.2.2.1, keep_lt hb10 hHeld.2.2.2.2.2.2.2.2.2.1, keep_cell hb10 hHeld.2.2.2.2.2.2.2.2.2.2.1, keep_cell hb10 hHeld.2.2.2.2.2.2.2.2.2.2.2.1, keep_cell hb10 hHeld.2.2.2.2.2.2.2.2.2.2.2.2.1, keep_cell hb10 hHeld.2.2.2.2.2.2.2.2.2.2.2.2.2.1, keep_cell hb10 hHeld.2.2.2.2.2.2.2.2.2.2.2.2.2.2.1, keep_lt hb10 hHeld.2.2.2.2.2.2.2.2.2.2.2.2.2.2.2.1, keep_cell hb10 hHeld.2.2.2.2.2.2.2.2.2.2.2.2.2.2.2.2.1, keep_cell hb10 hHeld.2.2.2.2.2.2.2.2.2.2.2.2.2.2.2.2.2.1, keep_cell hb10 hHeld.2.2.2.2.2.2.2.2.2.2.2.2.2.2.2.2.2.2.1, keep_cell hb10 hHeld.2.2.2.2.2.2.2.2.2.2.2.2.2.2.2.2.2.2.2.1, keep_cell hb10 hHeld.2.2.2.2.2.2.2.2.2.2.2.2.2.2.2.2.2.2.2.2.1, keep_lt hb10 hHeld.2.2.2.2.2.2.2.2.2.2.2.2.2.2.2.2.2.2.2.2.2.1, keep_cell hb10 hHeld.2.2.2.2.2.2.2.2.2.2.2.2.2.2.2.2.2.2.2.2.2.2.1, keep_cell hb10 hHeld.2.2.2.2.2.2.2.2.2.2.2.2.2.2.2.2.2.2.2.2.2.2.2.1, keep_cell hb10 hHeld.2.2.2.2.2.2.2.2.2.2.2.2.2.2.2.2.2.2.2.2.2.2.2.2.1, keep_cell hb10 hHeld.2.2.2.2.2.2.2.2.2.2.2.2.2.2.2.2.2.2.2.2.2.2.2.2.2.1, keep_cell hb10 hHeld.2.2.2.2.2.2.2.2.2.2.2.2.2.2.2.2.2.2.2.2.2.2.2.2.2.2.1, keep_lt hb10 hHeld.2.2.2.2.2.2.2.2.2.2.2.2.2.2.2.2.2.2.2.2.2.2.2.2.2.2.2.1, ex_trans hHeld.2.2.2.2.2.2.2.2.2.2.2.2.2.2.2.2.2.2.2.2.2.2.2.2.2.2.2.2.1 hb10, ex_trans hHeld.2.2.2.2.2.2.2.2.2.2.2.2.2.2.2.2.2.2.2.2.2.2.2.2.2.2.2.2.2.1 hb10, ex_trans hHeld.2.2.2.2.2.2.2.2.2.2.2.2.2.2.2.2.2.2.2.2.2.2.2.2.2.2.2.2.2.2.1 hb10, ex_trans hHeld.2.2.2.2.2.2.2.2.2.2.2.2.2.2.2.2.2.2.2.2.2.2.2.2.2.2.2.2.2.2.2 hb10⟩) (fun hNew => ?_)
            clear hK K hHeld
            have hHeld := hNew
            clear hNew
            try simp only [Act.put, List.setIfInBounds_toArray, List.set_cons_zero, List.set_cons_succ]
            refine held_one 3 (by kernel_rfl) rfl (fun K hK => ?_)
            go_simp
            go_at_call 28
            refine (laws_eqFile_same f0 A'6 f0.attrs.length c'6 A'10 f0.attrs.length c'10 _ (hR6.mono mAtr hHeld.2.2.2.2.2.2.2.2.2.2.2.2.2.2.2.2.2.2.2.2.2.2.2.2.2.2.2.2.2.2.1) (hR10.mono mAtr (Below.refl _ _)) hk0).mono ?_; rintro e w11 ⟨rfl, hb11⟩
            go_wp2_with fail
            refine hK.out _ _ (by (try dsimp only); exact ⟨keep_cell hb11 hHeld.1, keep_cell hb11 hHeld.2.1, keep_cell hb11 hHeld.2.2.1, keep_cell hb11 hHeld.2.2.2.1, keep_cell hb11 hHeld.2.2.2.2.1, keep_lt hb11 hHeld.2.2.2.2.2.1, keep_cell hb11 hHeld.2.2.2.2.2.2.1, keep_cell hb11 hHeld.2.2.2.2.2.2.2.1, keep_cell hb11 hHeld.2.2.2.2.2.2.2.2.1, keep_lt hb11 hHeld.2.2.2.2.2.2.2.2.2.1, keep_cell hb11 hHeld.2.2.2.2.2.2.2.2.2.2.1, keep_cell hb11 hHeld.2.2.2.2.2.2.2.2.2.2.2.1, keep_cell hb11 hHeld.2.2.2.2.2.2.2.2.2.2.2.2.1, keep_cell hb11 hHeld.2.2.2.2.2.2.2.2.2.2.2.2.2.1, keep_cell hb11 hHeld.2.2.2.2.2.2.2.2.2.2.2.2.2.2.1, keep_lt hb11 hHeld.2.2.2.2.2.2.2.2.2.2.2.2.2.2.2.1, keep_cell hb11 hHeld.2.2.2.2.2.2.2.2.2.2.2.2.2.2.2.2.1, keep_cell hb11 hHeld.2.2.2.2.2.2.2.2.2.2.2.2.2.2.2.2.2.1, keep_cell hb11 hHeld.2.2.2.2.2.2.2.2.2.2.2.2.2.2.2.2.2.2.1, keep_cell hb11 hHeld.2.2.2.2.2.2.2.2.2.2.2.2.2.2.2.2.2.2.2.1, keep_cell hb11 hHeld.2.2.2.2.2.2.2.2.2.2.2.2.2.2.2.2.2.2.2.2.1, keep_lt hb11 hHeld.2.2.2.2.2.2.2.2.2.2.2.2.2.2.2.2.2.2.2.2.2.1, keep_cell hb11 hHeld.2.2.2.2.2.2.2.2.2.2.2.2.2.2.2.2.2.2.2.2.2.2.1, keep_cell hb11 hHeld.2.2.2.2.2.2.2.2.2.2.2.2.2.2.2.2.2.2.2.2.2.2.2.1, keep_cell hb11 hHeld.2.2.2.2.2.2.2.2.2.2.2.2.2.2.2.2.2.2.2.2.2.2.2.2.1, keep_cell hb11 hHeld.2.2.2.2.2.2.2.2.2.2.2.2.2.2.2.2.2.2.2.2.2.2.2.2.2.1, keep_cell hb11 hHeld.2.2.2.2.2.2.2.2.2.2.2.2.2.2.2.2.2.2.2.2.2.2.2.2.2.2.1, keep_lt hb11 hHeld.2.2.2.2.2.2.2.2.2.2.2.2.2.2.2.2.2.2.2.2.2.2.2.2.2.2.2.1, ex_trans hHeld.2.2.2.2.2.2.2.2.2.2.2.2.2.2.2.2.2.2.2.2.2.2.2.2.2.2.2.2.1 hb11, ex_trans hHeld.2.2.2.2.2.2.2.2.2.2.2.2.2.2.2.2.2.2.2.2.2.2.2.2.2.2.2.2.2.1 hb11, ex_trans hHeld.2.2.2.2.2.2.2.2.2.2.2.2.2.2.2.2.2.2.2.2.2.2.2.2.2.2.2.2.2.2.1 hb11, ex_trans hHeld.2.2.2.2.2.2.2.2.2.2.2.2.2.2.2.2.2.2.2.2.2.2.2.2.2.2.2.2.2.2.2 hb11⟩) (fun hNew => ?_)
            clear hK K hHeld
            have hHeld := hNew
            clear hNew
            try simp only [Act.put, List.setIfInBounds_toArray, List.set_cons_zero, List.set_cons_succ]
            first | (refine held_take 4 rfl (by kernel_rfl) (by kernel_rfl) (by kernel_rfl) (by rfl) (fun _ _ _ h => h) (by assumption) (by intro w hSw; (try dsimp only at hSw); go_simp; first | done | with_reducible rfl) ?_) | (refine held_skip 4 rfl (by kernel_rfl) (by kernel_rfl) (by kernel_rfl) (by rfl) (fun _ _ _ h => h) (by assumption) ?_)
            simp only [Act.put, List.setIfInBounds_toArray, List.set_cons_zero, List.set_cons_succ]
            refine wpAnyH_done (by kernel_rfl) ?_ _
            obtain ⟨x0_0', x0_1', x0_2', x0_3', x0_4', z0', x1_0', x1_1', x1_2', z1', x2_0', x2_1', x2_2', x2_3', x2_4', z2', x3_0', x3_1', x3_2', x3_3', x3_4', z3', x4_0', x4_1', x4_2', x4_3', x4_4', z4', hK0', hK5', hK6', hK8'⟩ := hHeld
            clear x0_0 x0_1 x0_2 x0_3 x0_4 z0 x1_0 x1_1 x1_2 z1 x2_0 x2_1 x2_2 x2_3 x2_4 z2 x3_0 x3_1 x3_2 x3_3 x3_4 z3 x4_0 x4_1 x4_2 x4_3 x4_4 z4 hK0 hK5 hK6 hK8
            have x0_0 := x0_0'
            clear x0_0'
            have x0_1 := x0_1'
            clear x0_1'
            have x0_2 := x0_2'
            clear x0_2'
            have x0_3 := x0_3'
            clear x0_3'
            have x0_4 := x0_4'
            clear x0_4'
            have z0 := z0'
            clear z0'
            have x1_0 := x1_0'
            clear x1_0'
            have x1_1 := x1_1'
            clear x1_1'
            have x1_2 := x1_2'
            clear x1_2'
            have z1 := z1'
            clear z1'
            have x2_0 := x2_0'
            clear x2_0'
            have x2_1 := x2_1'
            clear x2_1'
            have x2_2 := x2_2'
            clear x2_2'
            have x2_3 := x2_3'
            clear x2_3'
            have x2_4 := x2_4'
            clear x2_4'
            have z2 := z2'
            clear z2'
            have x3_0 := x3_0'
            clear x3_0'
            have x3_1 := x3_1'
            clear x3_1'
            have x3_2 := x3_2'
            clear x3_2'
            have x3_3 := x3_3'
            clear x3_3'
            have x3_4 := x3_4'
            clear x3_4'
            have z3 := z3'
            clear z3'
            have x4_0 := x4_0'
            clear x4_0'
            have x4_1 := x4_1'
            clear x4_1'
            have x4_2 := x4_2'
            clear x4_2'
            have x4_3 := x4_3'
            clear x4_3'
            have x4_4 := x4_4'
            clear x4_4'
            have z4 := z4'
            clear z4'
            have hK0 := hK0'
            clear hK0'
            have hK5 := hK5'
            clear hK5'
            have hK6 := hK6'
            clear hK6'
            have hK8 := hK8'
            clear hK8'
            have hK10 : Below w10.heap.size w10 w11 := (ex_trans (Below.refl _ _) hb11)
            go_wp2_with fail
            refine (laws_markFile f0 A'6 f0.attrs.length c'6 _ 1 _ (hW6.below lAtr (ex_trans hK6 (by go_grown))) hF6.1 (by omega) (by omega) (by omega)).mono ?_; rintro e w12 ⟨rfl, hW6', hc12⟩
            replace hW6 := hW6'
            replace hK0 := Below.mark hK0 hc12 hK0.size hG6_0.out
            replace hK5 := Below.mark hK5 hc12 hK5.size hG6_5.out
            replace x0_0 := hc12.cell x0_0 hN6_0.out
            replace x0_1 := hc12.cell x0_1 hN6_0.out
            replace x0_2 := hc12.cell x0_2 hN6_0.out
            replace x0_3 := hc12.cell x0_3 hN6_0.out
            replace x0_4 := hc12.cell x0_4 hN6_0.out
            replace z0 := Nat.lt_of_lt_of_le z0 hc12.size
            replace x1_0 := hc12.cell x1_0 hN6_1.out
            replace x1_1 := hc12.cell x1_1 hN6_1.out
            replace x1_2 := hc12.cell x1_2 hN6_1.out
            replace z1 := Nat.lt_of_lt_of_le z1 hc12.size
            replace x2_0 := hc12.cell x2_0 hN6_2.out
            replace x2_1 := hc12.cell x2_1 hN6_2.out
            replace x2_2 := hc12.cell x2_2 hN6_2.out
            replace x2_3 := hc12.cell x2_3 hN6_2.out
            replace x2_4 := hc12.cell x2_4 hN6_2.out
            replace z2 := Nat.lt_of_lt_of_le z2 hc12.size
            replace x3_0 := hc12.cell x3_0 hN6_3.out
            replace x3_1 := hc12.cell x3_1 hN6_3.out
            replace x3_2 := hc12.cell x3_2 hN6_3.out
            replace x3_3 := hc12.cell x3_3 hN6_3.out
            replace x3_4 := hc12.cell x3_4 hN6_3.out
            replace z3 := Nat.lt_of_lt_of_le z3 hc12.size
            replace x4_0 := hc12.cell x4_0 hN6_4.out
            replace x4_1 := hc12.cell x4_1 hN6_4.out
            replace x4_2 := hc12.cell x4_2 hN6_4.out
            replace x4_3 := hc12.cell x4_3 hN6_4.out
            replace x4_4 := hc12.cell x4_4 hN6_4.out
            replace z4 := Nat.lt_of_lt_of_le z4 hc12.size
            replace hW8 := (hW8.below lAtr hK8).loc lAtr (fun b hb => hc12.block b (Nat.lt_of_lt_of_le (hL8.out b hb) hK8.size) (hD8_6.out b hb))
            replace hL8 : Hid (∀ b ∈ bs8, b < w12.heap.size) := Lib.hid (fun b hb => Nat.lt_of_lt_of_le (hL8.out b hb) (Nat.le_trans hK8.size hc12.size))
            have hHR12_hW8 := hW8.sl (R := RAtr) (fun h => h.1)
            have hK12 := Below.refl w12.heap.size w12
            -- marked
            have hMR12_hW6 := hW6.sl (R := RAtr) (fun h => h.1)
            go_wp2_with fail
            refine (laws_eqFile_same r0 A108 r0.attrs.length c108 A105 r0.attrs.length c105 _ (hHR12_hW8.mono mAtr (ex_trans hK12 (by go_grown))) (hR5.mono mAtr (ex_trans hK5 (by go_grown))) hok0).mono ?_; rintro e w13 ⟨rfl, hb13⟩
            have hx13 : Below w12.heap.size w12 w13 := ex_trans (by go_grown) hb13
            replace hK0 := ex_trans hK0 hx13
            replace hK5 := ex_trans hK5 hx13
            replace hK12 := ex_trans hK12 hx13
            replace x0_0 := keep_cell hx13 x0_0
            replace x0_1 := keep_cell hx13 x0_1
            replace x0_2 := keep_cell hx13 x0_2
            replace x0_3 := keep_cell hx13 x0_3
            replace x0_4 := keep_cell hx13 x0_4
            replace z0 := keep_lt hx13 z0
            replace x1_0 := keep_cell hx13 x1_0
            replace x1_1 := keep_cell hx13 x1_1
            replace x1_2 := keep_cell hx13 x1_2
            replace z1 := keep_lt hx13 z1
            replace x2_0 := keep_cell hx13 x2_0
            replace x2_1 := keep_cell hx13 x2_1
            replace x2_2 := keep_cell hx13 x2_2
            replace x2_3 := keep_cell hx13 x2_3
            replace x2_4 := keep_cell hx13 x2_4
            replace z2 := keep_lt hx13 z2
            replace x3_0 := keep_cell hx13 x3_0
            replace x3_1 := keep_cell hx13 x3_1
            replace x3_2 := keep_cell hx13 x3_2
            replace x3_3 := keep_cell hx13 x3_3
            replace x3_4 := keep_cell hx13 x3_4
            replace z3 := keep_lt hx13 z3
            replace x4_0 := keep_cell hx13 x4_0
            replace x4_1 := keep_cell hx13 x4_1
            replace x4_2 := keep_cell hx13 x4_2
            replace x4_3 := keep_cell hx13 x4_3
            replace x4_4 := keep_cell hx13 x4_4
            replace z4 := keep_lt hx13 z4
            go_wp2_with fail
            refine (laws_markFile r0 A108 r0.attrs.length c108 _ 1 _ (hW8.below lAtr (ex_trans hK12 (by go_grown))) hF8.1 (by omega) (by omega) (by omega)).mono ?_; rintro e w14 ⟨rfl, hW8', hc14⟩
            replace hW8 := hW8'
            replace hK0 := Below.mark hK0 hc14 hK0.size hG8_0.out
            replace hK5 := Below.mark hK5 hc14 hK5.size hG8_5.out
            replace x0_0 := hc14.cell x0_0 hN8_0.out
            replace x0_1 := hc14.cell x0_1 hN8_0.out
            replace x0_2 := hc14.cell x0_2 hN8_0.out
            replace x0_3 := hc14.cell x0_3 hN8_0.out
            replace x0_4 := hc14.cell x0_4 hN8_0.out
            replace z0 := Nat.lt_of_lt_of_le z0 hc14.size
            replace x1_0 := hc14.cell x1_0 hN8_1.out
            replace x1_1 := hc14.cell x1_1 hN8_1.out
            replace x1_2 := hc14.cell x1_2 hN8_1.out
            replace z1 := Nat.lt_of_lt_of_le z1 hc14.size
            replace x2_0 := hc14.cell x2_0 hN8_2.out
            replace x2_1 := hc14.cell x2_1 hN8_2.out
            replace x2_2 := hc14.cell x2_2 hN8_2.out
            replace x2_3 := hc14.cell x2_3 hN8_2.out
            replace x2_4 := hc14.cell x2_4 hN8_2.out
            replace z2 := Nat.lt_of_lt_of_le z2 hc14.size
            replace x3_0 := hc14.cell x3_0 hN8_3.out
            replace x3_1 := hc14.cell x3_1 hN8_3.out
            replace x3_2 := hc14.cell x3_2 hN8_3.out
            replace x3_3 := hc14.cell x3_3 hN8_3.out
            replace x3_4 := hc14.cell x3_4 hN8_3.out
            replace z3 := Nat.lt_of_lt_of_le z3 hc14.size
            replace x4_0 := hc14.cell x4_0 hN8_4.out
            replace x4_1 := hc14.cell x4_1 hN8_4.out
            replace x4_2 := hc14.cell x4_2 hN8_4.out
            replace x4_3 := hc14.cell x4_3 hN8_4.out
            replace x4_4 := hc14.cell x4_4 hN8_4.out
            replace z4 := Nat.lt_of_lt_of_le z4 hc14.size
            have hK14 := Below.refl w14.heap.size w14
            -- marked
            have hMR14_hW8 := hW8.sl (R := RAtr) (fun h => h.1)
            go_wp2_with fail
            refine (laws_heldFile r0 A108 r0.attrs.length c108 1 _ (hMR14_hW8.mono mAtr (ex_trans hK14 (by go_grown))) (by omega) (by omega) (by omega)).mono ?_; rintro e w15 ⟨rfl, hb15⟩
            have hx15 : Below w14.heap.size w14 w15 := ex_trans (by go_grown) hb15
            replace hK0 := ex_trans hK0 hx15
            replace hK5 := ex_trans hK5 hx15
            replace hK14 := ex_trans hK14 hx15
            replace x0_0 := keep_cell hx15 x0_0
            replace x0_1 := keep_cell hx15 x0_1
            replace x0_2 := keep_cell hx15 x0_2
            replace x0_3 := keep_cell hx15 x0_3
            replace x0_4 := keep_cell hx15 x0_4
            replace z0 := keep_lt hx15 z0
            replace x1_0 := keep_cell hx15 x1_0
            replace x1_1 := keep_cell hx15 x1_1
            replace x1_2 := keep_cell hx15 x1_2
            replace z1 := keep_lt hx15 z1
            replace x2_0 := keep_cell hx15 x2_0
            replace x2_1 := keep_cell hx15 x2_1
            replace x2_2 := keep_cell hx15 x2_2
            replace x2_3 := keep_cell hx15 x2_3
            replace x2_4 := keep_cell hx15 x2_4
            replace z2 := keep_lt hx15 z2
            replace x3_0 := keep_cell hx15 x3_0
            replace x3_1 := keep_cell hx15 x3_1
            replace x3_2 := keep_cell hx15 x3_2
            replace x3_3 := keep_cell hx15 x3_3
            replace x3_4 := keep_cell hx15 x3_4
            replace z3 := keep_lt hx15 z3
            replace x4_0 := keep_cell hx15 x4_0
            replace x4_1 := keep_cell hx15 x4_1
            replace x4_2 := keep_cell hx15 x4_2
            replace x4_3 := keep_cell hx15 x4_3
            replace x4_4 := keep_cell hx15 x4_4
            replace z4 := keep_lt hx15 z4
            go_upto_region 29 with fail
            have hK929 := Below.refl w15.heap.size w15
            go_cut [14] (fun sa14 w' => ∃ (g : Nat) (A118 : Option Addr) (c118 : Nat) (bs18 : List Nat), sa14 = .pointer (some ⟨g, 0, none⟩) ∧ w15.heap.size ≤ g ∧ w'.heap[g]? = some (.cells #[.int .i64 r0.id, .int .i64 r0.owner, .bool r0.shared, .int .i64 r0.link, .slice A118 r0.attrs.length c118] 45 (0, 0)) ∧ OSl 93 4 OAtr w' A118 r0.attrs.length r0.attrs bs18 ∧ Fresh w15 bs18 ∧ g ∉ bs18 ∧ (w'.cell? ⟨W.heap.size, 0, none⟩ = some (.int .i64 f0.id) ∧ w'.cell? ⟨W.heap.size, 1, none⟩ = some (.int .i64 f0.owner) ∧ w'.cell? ⟨W.heap.size, 2, none⟩ = some (.bool f0.shared) ∧ w'.cell? ⟨W.heap.size, 3, none⟩ = some (.int .i64 f0.link) ∧ w'.cell? ⟨W.heap.size, 4, none⟩ = some (.slice A0 f0.attrs.length c0) ∧ W.heap.size < w'.heap.size ∧ w'.cell? ⟨W.heap.size + 1, 0, none⟩ = some (.int .i64 v2.kind) ∧ w'.cell? ⟨W.heap.size + 1, 1, none⟩ = some (.int .i64 v2.int) ∧ w'.cell? ⟨W.heap.size + 1, 2, none⟩ = some (.string v2.str) ∧ W.heap.size + 1 < w'.heap.size ∧ w'.cell? ⟨g5, 0, none⟩ = some (.int .i64 r0.id) ∧ w'.cell? ⟨g5, 1, none⟩ = some (.int .i64 r0.owner) ∧ w'.cell? ⟨g5, 2, none⟩ = some (.bool r0.shared) ∧ w'.cell? ⟨g5, 3, none⟩ = some (.int .i64 r0.link) ∧ w'.cell? ⟨g5, 4, none⟩ = some (.slice A105 r0.attrs.length c105) ∧ g5 < w'.heap.size ∧ w'.cell? ⟨w6.heap.size, 0, none⟩ = some (.int .i64 f0.id) ∧ w'.cell? ⟨w6.heap.size, 1, none⟩ = some (.int .i64 f0.owner) ∧ w'.cell? ⟨w6.heap.size, 2, none⟩ = some (.bool f0.shared) ∧ w'.cell? ⟨w6.heap.size, 3, none⟩ = some (.int .i64 f0.link) ∧ w'.cell? ⟨w6.heap.size, 4, none⟩ = some (.slice A'6 f0.attrs.length c'6) ∧ w6.heap.size < w'.heap.size ∧ w'.cell? ⟨g8, 0, none⟩ = some (.int .i64 r0.id) ∧ w'.cell? ⟨g8, 1, none⟩ = some (.int .i64 r0.owner) ∧ w'.cell? ⟨g8, 2, none⟩ = some (.bool r0.shared) ∧ w'.cell? ⟨g8, 3, none⟩ = some (.int .i64 r0.link) ∧ w'.cell? ⟨g8, 4, none⟩ = some (.slice A108 r0.attrs.length c108) ∧ g8 < w'.heap.size ∧ Below W.heap.size W w' ∧ Below w5.heap.size w5 w' ∧ Below w14.heap.size w14 w' ∧ Below w15.heap.size w15 w'))
            case first =>
              refine wp_region_held_drew (S := (fun w' => w'.cell? ⟨W.heap.size, 0, none⟩ = some (.int .i64 f0.id) ∧ w'.cell? ⟨W.heap.size, 1, none⟩ = some (.int .i64 f0.owner) ∧ w'.cell? ⟨W.heap.size, 2, none⟩ = some (.bool f0.shared) ∧ w'.cell? ⟨W.heap.size, 3, none⟩ = some (.int .i64 f0.link) ∧ w'.cell? ⟨W.heap.size, 4, none⟩ = some (.slice A0 f0.attrs.length c0) ∧ W.heap.size < w'.heap.size ∧ w'.cell? ⟨W.heap.size + 1, 0, none⟩ = some (.int .i64 v2.kind) ∧ w'.cell? ⟨W.heap.size + 1, 1, none⟩ = some (.int .i64 v2.int) ∧ w'.cell? ⟨W.heap.size + 1, 2, none⟩ = some (.string v2.str) ∧ W.heap.size + 1 < w'.heap.size ∧ w'.cell? ⟨g5, 0, none⟩ = some (.int .i64 r0.id) ∧ w'.cell? ⟨g5, 1, none⟩ = some (.int .i64 r0.owner) ∧ w'.cell? ⟨g5, 2, none⟩ = some (.bool r0.shared) ∧ w'.cell? ⟨g5, 3, none⟩ = some (.int .i64 r0.link) ∧ w'.cell? ⟨g5, 4, none⟩ = some (.slice A105 r0.attrs.length c105) ∧ g5 < w'.heap.size ∧ w'.cell? ⟨w6.heap.size, 0, none⟩ = some (.int .i64 f0.id) ∧ w'.cell? ⟨w6.heap.size, 1, none⟩ = some (.int .i64 f0.owner) ∧ w'.cell? ⟨w6.heap.size, 2, none⟩ = some (.bool f0.shared) ∧ w'.cell? ⟨w6.heap.size, 3, none⟩ = some (.int .i64 f0.link) ∧ w'.cell? ⟨w6.heap.size, 4, none⟩ = some (.slice A'6 f0.attrs.length c'6) ∧ w6.heap.size < w'.heap.size ∧ w'.cell? ⟨g8, 0, none⟩ = some (.int .i64 r0.id) ∧ w'.cell? ⟨g8, 1, none⟩ = some (.int .i64 r0.owner) ∧ w'.cell? ⟨g8, 2, none⟩ = some (.bool r0.shared) ∧ w'.cell? ⟨g8, 3, none⟩ = some (.int .i64 r0.link) ∧ w'.cell? ⟨g8, 4, none⟩ = some (.slice A108 r0.attrs.length c108) ∧ g8 < w'.heap.size ∧ Below W.heap.size W w' ∧ Below w5.heap.size w5 w' ∧ Below w14.heap.size w14 w' ∧ Below w15.heap.size w15 w')) (by kernel_rfl) (by (try dsimp only); exact ⟨x0_0, x0_1, x0_2, x0_3, x0_4, z0, x1_0, x1_1, x1_2, z1, x2_0, x2_1, x2_2, x2_3, x2_4, z2, x3_0, x3_1, x3_2, x3_3, x3_4, z3, x4_0, x4_1, x4_2, x4_3, x4_4, z4, (hK0).drew, (hK5).drew, (hK14).drew, (hK929).drew⟩) (fun hHeld => ?_)
              first | (refine held_take 0 rfl (by kernel_rfl) (by kernel_rfl) (by kernel_rfl) (by rfl) (fun _ _ _ h => h) (by assumption) (by intro w hSw; (try dsimp only at hSw); go_simp; first | done | with_reducible rfl) ?_) | (refine held_skip 0 rfl (by kernel_rfl) (by kernel_rfl) (by kernel_rfl) (by rfl) (fun _ _ _ h => h) (by assumption) ?_)
              simp only [Act.put, List.setIfInBounds_toArray, List.set_cons_zero, List.set_cons_succ]
              first | (refine held_take 2 rfl (by kernel_rfl) (by kernel_rfl) (by kernel_rfl) (by rfl) (fun _ _ _ h => h) (by assumption) (by intro w hSw; (try dsimp only at hSw); go_simp; first | done | with_reducible rfl) ?_) | (refine held_skip 2 rfl (by kernel_rfl) (by kernel_rfl) (by kernel_rfl) (by rfl) (fun _ _ _ h => h) (by assumption) ?_)
              simp only [Act.put, List.setIfInBounds_toArray, List.set_cons_zero, List.set_cons_succ]
              first | (refine held_take 3 rfl (by kernel_rfl) (by kernel_rfl) (by kernel_rfl) (by rfl) (fun _ _ _ h => h) (by assumption) (by intro w hSw; (try dsimp only at hSw); go_simp; first | done | with_reducible rfl) ?_) | (refine held_skip 3 rfl (by kernel_rfl) (by kernel_rfl) (by kernel_rfl) (by rfl) (fun _ _ _ h => h) (by assumption) ?_)
              simp only [Act.put, List.setIfInBounds_toArray, List.set_cons_zero, List.set_cons_succ]
              refine held_two 1 6 (by kernel_rfl) rfl rfl (fun K hK => ?_) (fun K hK => ?_)
              · go_simp
                have hFB : w15.heap.size ≤ w15.heap.size := Nat.le_refl _
                go_at_call 25
                refine (laws_toFile f0 A0 f0.attrs.length c0 _ (hS0.mono mAtr hHeld.2.2.2.2.2.2.2.2.2.2.2.2.2.2.2.2.2.2.2.2.2.2.2.2.2.2.2.2.1) hk0).mono ?_; rintro e w16 hN16
                obtain ⟨A'16, c'16, bs16, rfl, hcc16, hW16, hF16, hb16⟩ := hN16.out
                have hL16 := Lib.hid (hW16.lt lAtr)
                have hR16 := hW16.sl (R := RAtr) (fun h => h.1)
                go_wp2_with fail
                refine hK.out _ _ (by (try dsimp only); exact ⟨keep_cell hb16 hHeld.1, keep_cell hb16 hHeld.2.1, keep_cell hb16 hHeld.2.2.1, keep_cell hb16 hHeld.2.2.2.1, keep_cell hb16 hHeld.2.2.2.2.1, keep_lt hb16 hHeld.2.2.2.2.2.1, keep_cell hb16 hHeld.2.2.2.2.2.2.1, keep_cell hb16 hHeld.2.2.2.2.2.2.2.1, keep_cell hb16 hHeld.2.2.2.2.2.2.2.2.1, keep_lt hb16 hHeld.2.2.2.2.2.2.2.2.2.1, keep_cell hb16 hHeld.2.2.2.2.2.2.2.2.2.2.1, keep_cell hb16 hHeld.2.2.2.2.2.2.2.2.2.2.2.1, keep_cell hb16 hHeld.2.2.2.2.2.2.2.2.2.2.2.2.1, keep_cell hb16 hHeld.2.2.2.2.2.2.2.2.2.2.2.2.2.1, keep_cell hb16 hHeld.2.2.2.2.2.2.2.2.2.2.2.2.2.2.1, keep_lt hb16 hHeld.2.2.2.2.2.2.2.2.2.2.2.2.2.2.2.1, keep_cell hb16 hHeld.2.2.2.2.2.2.2.2.2.2.2.2.2.2.2.2.1, keep_cell hb16 hHeld.2.2.2.2.2.2.2.2.2.2.2.2.2.2.2.2.2.1, keep_cell hb16 hHeld.2.2.2.2.2.2.2.2.2.2.2.2.2.2.2.2.2.2.1, keep_cell hb16 hHeld.2.2.2.2.2.2.2.2.2.2.2.2.2.2.2.2.2.2.2.1, keep_cell hb16 hHeld.2.2.2.2.2.2.2.2.2.2.2.2.2.2.2.2.2.2.2.2.1, keep_lt hb16 hHeld.2.2.2.2.2.2.2.2.2.2.2.2.2.2.2.2.2.2.2.2.2.1, keep_cell hb16 hHeld.2.2.2.2.2.2.2.2.2.2.2.2.2.2.2.2.2.2.2.2.2.2.1, keep_cell hb16 hHeld.2.2.2.2.2.2.2.2.2.2.2.2.2.2.2.2.2.2.2.2.2.2.2.1, keep_cell hb16 hHeld.2.2.2.2.2.2.2.2.2.2.2.2.2.2.2.2.2.2.2.2.2.2.2.2.1, keep_cell hb16 hHeld.2.2.2.2.2.2.2.2.2.2.2.2.2.2.2.2.2.2.2.2.2.2.2.2.2.1, keep_cell hb16 hHeld.2.2.2.2.2.2.2.2.2.2.2.2.2.2.2.2.2.2.2.2.2.2.2.2.2.2.1, keep_lt hb16 hHeld.2.2.2.2.2.2.2.2.2.2.2.2.2.2.2.2.2.2.2.2.2.2.2.2.2.2.2.1, ex_trans hHeld.2.2.2.2.2.2.2.2.2.2.2.2.2.2.2.2.2.2.2.2.2.2.2.2.2.2.2.2.1 hb16, ex_trans hHeld.2.2.2.2.2.2.2.2.2.2.2.2.2.2.2.2.2.2.2.2.2.2.2.2.2.2.2.2.2.1 hb16, ex_trans hHeld.2.2.2.2.2.2.2.2.2.2.2.2.2.2.2.2.2.2.2.2.2.2.2.2.2.2.2.2.2.2.1 hb16, ex_trans hHeld.2.2.2.2.2.2.2.2.2.2.2.2.2.2.2.2.2.2.2.2.2.2.2.2.2.2.2.2.2.2.2 hb16⟩) (fun hNew => ?_)
                clear hK K hHeld
                have hHeld := hNew
                clear hNew
                try simp only [Act.put, List.setIfInBounds_toArray, List.set_cons_zero, List.set_cons_succ]
                refine held_two 4 6 (by kernel_rfl) rfl rfl (fun K hK => ?_) (fun K hK => ?_)
                · go_simp
                  have hFB : w15.heap.size ≤ w16.heap.size := (hHeld.2.2.2.2.2.2.2.2.2.2.2.2.2.2.2.2.2.2.2.2.2.2.2.2.2.2.2.2.2.2.2).size
                  go_at_call 26
                  refine (laws_toValue v2 _).mono ?_; rintro e w17 ⟨rfl, hb17⟩
                  go_wp2_with fail
                  refine hK.out _ _ (by (try dsimp only); exact ⟨keep_cell hb17 hHeld.1, keep_cell hb17 hHeld.2.1, keep_cell hb17 hHeld.2.2.1, keep_cell hb17 hHeld.2.2.2.1, keep_cell hb17 hHeld.2.2.2.2.1, keep_lt hb17 hHeld.2.2.2.2.2.1, keep_cell hb17 hHeld.2.2.2.2.2.2.1, keep_cell hb17 hHeld.2.2.2.2.2.2.2.1, keep_cell hb17 hHeld.2.2.2.2.2.2.2.2.1, keep_lt hb17 hHeld.2.2.2.2.2.2.2.2.2.1, keep_cell hb17 hHeld.2.2.2.2.2.2.2.2.2.2.1, keep_cell hb17 hHeld.2.2.2.2.2.2.2.2.2.2.2.1, keep_cell hb17 hHeld.2.2.2.2.2.2.2.2.2.2.2.2.1, keep_cell hb17 hHeld.2.2.2.2.2.2.2.2.2.2.2.2.2.1, keep_cell hb17 hHeld.2.2.2.2.2.2.2.2.2.2.2.2.2.2.1, keep_lt hb17 hHeld.2.2.2.2.2.2.2.2.2.2.2.2.2.2.2.1, keep_cell hb17 hHeld.2.2.2.2.2.2.2.2.2.2.2.2.2.2.2.2.1, keep_cell hb17 hHeld.2.2.2.2.2.2.2.2.2.2.2.2.2.2.2.2.2.1, keep_cell hb17 hHeld.2.2.2.2.2.2.2.2.2.2.2.2.2.2.2.2.2.2.1, keep_cell hb17 hHeld.2.2.2.2.2.2.2.2.2.2.2.2.2.2.2.2.2.2.2.1, keep_cell hb17 hHeld.2.2.2.2.2.2.2.2.2.2.2.2.2.2.2.2.2.2.2.2.1, keep_lt hb17 hHeld.2.2.2.2.2.2.2.2.2.2.2.2.2.2.2.2.2.2.2.2.2.1, keep_cell hb17 hHeld.2.2.2.2.2.2.2.2.2.2.2.2.2.2.2.2.2.2.2.2.2.2.1, keep_cell hb17 hHeld.2.2.2.2.2.2.2.2.2.2.2.2.2.2.2.2.2.2.2.2.2.2.2.1, keep_cell hb17 hHeld.2.2.2.2.2.2.2.2.2.2.2.2.2.2.2.2.2.2.2.2.2.2.2.2.1, keep_cell hb17 hHeld.2.2.2.2.2.2.2.2.2.2.2.2.2.2.2.2.2.2.2.2.2.2.2.2.2.1, keep_cell hb17 hHeld.2.2.2.2.2.2.2.2.2.2.2.2.2.2.2.2.2.2.2.2.2.2.2.2.2.2.1, keep_lt hb17 hHeld.2.2.2.2.2.2.2.2.2.2.2.2.2.2.2.2.2.2.2.2.2.2.2.2.2.2.2.1, ex_trans hHeld.2.2.2.2.2.2.2.2.2.2.2.2.2.2.2.2.2.2.2.2.2.2.2.2.2.2.2.2.1 hb17, ex_trans hHeld.2.2.2.2.2.2.2.2.2.2.2.2.2.2.2.2.2.2.2.2.2.2.2.2.2.2.2.2.2.1 hb17, ex_trans hHeld.2.2.2.2.2.2.2.2.2.2.2.2.2.2.2.2.2.2.2.2.2.2.2.2.2.2.2.2.2.2.1 hb17, ex_trans hHeld.2.2.2.2.2.2.2.2.2.2.2.2.2.2.2.2.2.2.2.2.2.2.2.2.2.2.2.2.2.2.2 hb17⟩) (fun hNew => ?_)
                  clear hK K hHeld
                  have hHeld := hNew
                  clear hNew
                  try simp only [Act.put, List.setIfInBounds_toArray, List.set_cons_zero, List.set_cons_succ]
                  refine held_two 5 6 (by kernel_rfl) rfl rfl (fun K hK => ?_) (fun K hK => ?_)
                  · go_simp
                    have hFB : w15.heap.size ≤ w17.heap.size := (hHeld.2.2.2.2.2.2.2.2.2.2.2.2.2.2.2.2.2.2.2.2.2.2.2.2.2.2.2.2.2.2.2).size
                    go_at_call 27
                    refine (impl_SetAttr f0 A'16 f0.attrs.length c'16 s1 v2 _ (hR16.mono mAtr (ex_trans (Below.refl _ _) hb17)) (by omega)).mono ?_; rintro e w18 hN18
                    rw [← HE0.out] at hN18
                    obtain ⟨A118, c118, bs18, rfl, hW18, hF18, hb18⟩ := hN18.v
                    have hL18 := Lib.hid (hW18.lt lAtr)
                    have hR18 := hW18.sl (R := RAtr) (fun h => h.1)
                    go_wp2_with fail
                    refine hK.out _ _ (by (try dsimp only); exact ⟨keep_cell hb18 hHeld.1, keep_cell hb18 hHeld.2.1, keep_cell hb18 hHeld.2.2.1, keep_cell hb18 hHeld.2.2.2.1, keep_cell hb18 hHeld.2.2.2.2.1, keep_lt hb18 hHeld.2.2.2.2.2.1, keep_cell hb18 hHeld.2.2.2.2.2.2.1, keep_cell hb18 hHeld.2.2.2.2.2.2.2.1, keep_cell hb18 hHeld.2.2.2.2.2.2.2.2.1, keep_lt hb18 hHeld.2.2.2.2.2.2.2.2.2.1, keep_cell hb18 hHeld.2.2.2.2.2.2.2.2.2.2.1, keep_cell hb18 hHeld.2.2.2.2.2.2.2.2.2.2.2.1, keep_cell hb18 hHeld.2.2.2.2.2.2.2.2.2.2.2.2.1, keep_cell hb18 hHeld.2.2.2.2.2.2.2.2.2.2.2.2.2.1, keep_cell hb18 hHeld.2.2.2.2.2.2.2.2.2.2.2.2.2.2.1, keep_lt hb18 hHeld.2.2.2.2.2.2.2.2.2.2.2.2.2.2.2.1, keep_cell hb18 hHeld.2.2.2.2.2.2.2.2.2.2.2.2.2.2.2.2.1, keep_cell hb18 hHeld.2.2.2.2.2.2.2.2.2.2.2.2.2.2.2.2.2.1, keep_cell hb18 hHeld.2.2.2.2.2.2.2.2.2.2.2.2.2.2.2.2.2.2.1, keep_cell hb18 hHeld.2.2.2.2.2.2.2.2.2.2.2.2.2.2.2.2.2.2.2.1, keep_cell hb18 hHeld.2.2.2.2.2.2.2.2.2.2.2.2.2.2.2.2.2.2.2.2.1, keep_lt hb18 hHeld.2.2.2.2.2.2.2.2.2.2.2.2.2.2.2.2.2.2.2.2.2.1, keep_cell hb18 hHeld.2.2.2.2.2.2.2.2.2.2.2.2.2.2.2.2.2.2.2.2.2.2.1, keep_cell hb18 hHeld.2.2.2.2.2.2.2.2.2.2.2.2.2.2.2.2.2.2.2.2.2.2.2.1, keep_cell hb18 hHeld.2.2.2.2.2.2.2.2.2.2.2.2.2.2.2.2.2.2.2.2.2.2.2.2.1, keep_cell hb18 hHeld.2.2.2.2.2.2.2.2.2.2.2.2.2.2.2.2.2.2.2.2.2.2.2.2.2.1, keep_cell hb18 hHeld.2.2.2.2.2.2.2.2.2.2.2.2.2.2.2.2.2.2.2.2.2.2.2.2.2.2.1, keep_lt hb18 hHeld.2.2.2.2.2.2.2.2.2.2.2.2.2.2.2.2.2.2.2.2.2.2.2.2.2.2.2.1, ex_trans hHeld.2.2.2.2.2.2.2.2.2.2.2.2.2.2.2.2.2.2.2.2.2.2.2.2.2.2.2.2.1 hb18, ex_trans hHeld.2.2.2.2.2.2.2.2.2.2.2.2.2.2.2.2.2.2.2.2.2.2.2.2.2.2.2.2.2.1 hb18, ex_trans hHeld.2.2.2.2.2.2.2.2.2.2.2.2.2.2.2.2.2.2.2.2.2.2.2.2.2.2.2.2.2.2.1 hb18, ex_trans hHeld.2.2.2.2.2.2.2.2.2.2.2.2.2.2.2.2.2.2.2.2.2.2.2.2.2.2.2.2.2.2.2 hb18⟩) (fun hNew => ?_)
                    clear hK K hHeld
                    have hHeld := hNew
                    clear hNew
                    try simp only [Act.put, List.setIfInBounds_toArray, List.set_cons_zero, List.set_cons_succ]
                    refine held_one 6 (by kernel_rfl) rfl (fun K hK => ?_)
                    go_simp
                    have hGs : w15.heap.size ≤ w18.heap.size := (hHeld.2.2.2.2.2.2.2.2.2.2.2.2.2.2.2.2.2.2.2.2.2.2.2.2.2.2.2.2.2.2.2).size
                    generalize hwa : World.alloc w18 (.cells #[.int .i64 0, .int .i64 0, .bool false, .int .i64 0, .slice none 0 0] 45) = wa
                    have hba : Below w18.heap.size w18 wa := by rw [← hwa]; exact (Below.refl _ _).alloc (Nat.le_refl _) _
                    have hga : wa.heap[w18.heap.size]? = some (.cells #[.int .i64 0, .int .i64 0, .bool false, .int .i64 0, .slice none 0 0] 45 (0, 0)) := by rw [← hwa]; exact hp_new rfl
                    clear hwa
                    refine hK.out _ _ (by (try dsimp only); exact ⟨keep_cell hba hHeld.1, keep_cell hba hHeld.2.1, keep_cell hba hHeld.2.2.1, keep_cell hba hHeld.2.2.2.1, keep_cell hba hHeld.2.2.2.2.1, keep_lt hba hHeld.2.2.2.2.2.1, keep_cell hba hHeld.2.2.2.2.2.2.1, keep_cell hba hHeld.2.2.2.2.2.2.2.1, keep_cell hba hHeld.2.2.2.2.2.2.2.2.1, keep_lt hba hHeld.2.2.2.2.2.2.2.2.2.1, keep_cell hba hHeld.2.2.2.2.2.2.2.2.2.2.1, keep_cell hba hHeld.2.2.2.2.2.2.2.2.2.2.2.1, keep_cell hba hHeld.2.2.2.2.2.2.2.2.2.2.2.2.1, keep_cell hba hHeld.2.2.2.2.2.2.2.2.2.2.2.2.2.1, keep_cell hba hHeld.2.2.2.2.2.2.2.2.2.2.2.2.2.2.1, keep_lt hba hHeld.2.2.2.2.2.2.2.2.2.2.2.2.2.2.2.1, keep_cell hba hHeld.2.2.2.2.2.2.2.2.2.2.2.2.2.2.2.2.1, keep_cell hba hHeld.2.2.2.2.2.2.2.2.2.2.2.2.2.2.2.2.2.1, keep_cell hba hHeld.2.2.2.2.2.2.2.2.2.2.2.2.2.2.2.2.2.2.1, keep_cell hba hHeld.2.2.2.2.2.2.2.2.2.2.2.2.2.2.2.2.2.2.2.1, keep_cell hba hHeld.2.2.2.2.2.2.2.2.2.2.2.2.2.2.2.2.2.2.2.2.1, keep_lt hba hHeld.2.2.2.2.2.2.2.2.2.2.2.2.2.2.2.2.2.2.2.2.2.1, keep_cell hba hHeld.2.2.2.2.2.2.2.2.2.2.2.2.2.2.2.2.2.2.2.2.2.2.1, keep_cell hba hHeld.2.2.2.2.2.2.2.2.2.2.2.2.2.2.2.2.2.2.2.2.2.2.2.1, keep_cell hba hHeld.2.2.2.2.2.2.2.2.2.2.2.2.2.2.2.2.2.2.2.2.2.2.2.2.1, keep_cell hba hHeld.2.2.2.2.2.2.2.2.2.2.2.2.2.2.2.2.2.2.2.2.2.2.2.2.2.1, keep_cell hba hHeld.2.2.2.2.2.2.2.2.2.2.2.2.2.2.2.2.2.2.2.2.2.2.2.2.2.2.1, keep_lt hba hHeld.2.2.2.2.2.2.2.2.2.2.2.2.2.2.2.2.2.2.2.2.2.2.2.2.2.2.2.1, ex_trans hHeld.2.2.2.2.2.2.2.2.2.2.2.2.2.2.2.2.2.2.2.2.2.2.2.2.2.2.2.2.1 hba, ex_trans hHeld.2.2.2.2.2.2.2.2.2.2.2.2.2.2.2.2.2.2.2.2.2.2.2.2.2.2.2.2.2.1 hba, ex_trans hHeld.2.2.2.2.2.2.2.2.2.2.2.2.2.2.2.2.2.2.2.2.2.2.2.2.2.2.2.2.2.2.1 hba, ex_trans hHeld.2.2.2.2.2.2.2.2.2.2.2.2.2.2.2.2.2.2.2.2.2.2.2.2.2.2.2.2.2.2.2 hba⟩) (fun hNew => ?_)
                    clear hK K hHeld
                    have hHeld := hNew
                    clear hNew
                    try simp only [Act.put, List.setIfInBounds_toArray, List.set_cons_zero, List.set_cons_succ]
                    have gc := blk_cell? hga
                    have gf := blk_free hga
                    refine held_one 7 (by kernel_rfl) rfl (fun K hK => ?_)
                    go_simp
                    have hch : Chg [w18.heap.size] wa (sets wa (w18.heap.size) 0 [.int .i64 r0.id, .int .i64 r0.owner, .bool r0.shared, .int .i64 r0.link, .slice A118 r0.attrs.length c118]) := sets_chg (bs := [w18.heap.size]) (g := w18.heap.size) (w := wa) (w1 := wa) (by simp) _ _ 0 (Chg.refl _ _)
                    have hgz : (sets wa (w18.heap.size) 0 [.int .i64 r0.id, .int .i64 r0.owner, .bool r0.shared, .int .i64 r0.link, .slice A118 r0.attrs.length c118]).heap[w18.heap.size]? = some (.cells #[.int .i64 r0.id, .int .i64 r0.owner, .bool r0.shared, .int .i64 r0.link, .slice A118 r0.attrs.length c118] 45 (0, 0)) := sets_blk _ _ _ _ hga
                    have hne : ∀ b ∈ bs18, b ≠ w18.heap.size := fun b hb => by have h1 := hL18.out b hb; omega
                    have hW18z := (hW18.below lAtr hba).loc (w' := (sets wa (w18.heap.size) 0 [.int .i64 r0.id, .int .i64 r0.owner, .bool r0.shared, .int .i64 r0.link, .slice A118 r0.attrs.length c118])) lAtr (fun b hb => hch.block b (keep_lt hba (hL18.out b hb)) (fun h => hne b hb (by simpa using h)))
                    refine hK.out _ _ (by (try dsimp only); exact ⟨hch.cell hHeld.1 (fun h => by simp only [List.mem_singleton] at h; omega), hch.cell hHeld.2.1 (fun h => by simp only [List.mem_singleton] at h; omega), hch.cell hHeld.2.2.1 (fun h => by simp only [List.mem_singleton] at h; omega), hch.cell hHeld.2.2.2.1 (fun h => by simp only [List.mem_singleton] at h; omega), hch.cell hHeld.2.2.2.2.1 (fun h => by simp only [List.mem_singleton] at h; omega), Nat.lt_of_lt_of_le hHeld.2.2.2.2.2.1 hch.size, hch.cell hHeld.2.2.2.2.2.2.1 (fun h => by simp only [List.mem_singleton] at h; omega), hch.cell hHeld.2.2.2.2.2.2.2.1 (fun h => by simp only [List.mem_singleton] at h; omega), hch.cell hHeld.2.2.2.2.2.2.2.2.1 (fun h => by simp only [List.mem_singleton] at h; omega), Nat.lt_of_lt_of_le hHeld.2.2.2.2.2.2.2.2.2.1 hch.size, hch.cell hHeld.2.2.2.2.2.2.2.2.2.2.1 (fun h => by simp only [List.mem_singleton] at h; omega), hch.cell hHeld.2.2.2.2.2.2.2.2.2.2.2.1 (fun h => by simp only [List.mem_singleton] at h; omega), hch.cell hHeld.2.2.2.2.2.2.2.2.2.2.2.2.1 (fun h => by simp only [List.mem_singleton] at h; omega), hch.cell hHeld.2.2.2.2.2.2.2.2.2.2.2.2.2.1 (fun h => by simp only [List.mem_singleton] at h; omega), hch.cell hHeld.2.2.2.2.2.2.2.2.2.2.2.2.2.2.1 (fun h => by simp only [List.mem_singleton] at h; omega), Nat.lt_of_lt_of_le hHeld.2.2.2.2.2.2.2.2.2.2.2.2.2.2.2.1 hch.size, hch.cell hHeld.2.2.2.2.2.2.2.2.2.2.2.2.2.2.2.2.1 (fun h => by simp only [List.mem_singleton] at h; omega), hch.cell hHeld.2.2.2.2.2.2.2.2.2.2.2.2.2.2.2.2.2.1 (fun h => by simp only [List.mem_singleton] at h; omega), hch.cell hHeld.2.2.2.2.2.2.2.2.2.2.2.2.2.2.2.2.2.2.1 (fun h => by simp only [List.mem_singleton] at h; omega), hch.cell hHeld.2.2.2.2.2.2.2.2.2.2.2.2.2.2.2.2.2.2.2.1 (fun h => by simp only [List.mem_singleton] at h; omega), hch.cell hHeld.2.2.2.2.2.2.2.2.2.2.2.2.2.2.2.2.2.2.2.2.1 (fun h => by simp only [List.mem_singleton] at h; omega), Nat.lt_of_lt_of_le hHeld.2.2.2.2.2.2.2.2.2.2.2.2.2.2.2.2.2.2.2.2.2.1 hch.size, hch.cell hHeld.2.2.2.2.2.2.2.2.2.2.2.2.2.2.2.2.2.2.2.2.2.2.1 (fun h => by simp only [List.mem_singleton] at h; omega), hch.cell hHeld.2.2.2.2.2.2.2.2.2.2.2.2.2.2.2.2.2.2.2.2.2.2.2.1 (fun h => by simp only [List.mem_singleton] at h; omega), hch.cell hHeld.2.2.2.2.2.2.2.2.2.2.2.2.2.2.2.2.2.2.2.2.2.2.2.2.1 (fun h => by simp only [List.mem_singleton] at h; omega), hch.cell hHeld.2.2.2.2.2.2.2.2.2.2.2.2.2.2.2.2.2.2.2.2.2.2.2.2.2.1 (fun h => by simp only [List.mem_singleton] at h; omega), hch.cell hHeld.2.2.2.2.2.2.2.2.2.2.2.2.2.2.2.2.2.2.2.2.2.2.2.2.2.2.1 (fun h => by simp only [List.mem_singleton] at h; omega), Nat.lt_of_lt_of_le hHeld.2.2.2.2.2.2.2.2.2.2.2.2.2.2.2.2.2.2.2.2.2.2.2.2.2.2.2.1 hch.size, Below.mark hHeld.2.2.2.2.2.2.2.2.2.2.2.2.2.2.2.2.2.2.2.2.2.2.2.2.2.2.2.2.1 hch (hHeld.2.2.2.2.2.2.2.2.2.2.2.2.2.2.2.2.2.2.2.2.2.2.2.2.2.2.2.2.1).size (fun b hb => by have h1 := hK0.size; simp only [List.mem_singleton] at hb; omega), Below.mark hHeld.2.2.2.2.2.2.2.2.2.2.2.2.2.2.2.2.2.2.2.2.2.2.2.2.2.2.2.2.2.1 hch (hHeld.2.2.2.2.2.2.2.2.2.2.2.2.2.2.2.2.2.2.2.2.2.2.2.2.2.2.2.2.2.1).size (fun b hb => by have h1 := hK5.size; simp only [List.mem_singleton] at hb; omega), Below.mark hHeld.2.2.2.2.2.2.2.2.2.2.2.2.2.2.2.2.2.2.2.2.2.2.2.2.2.2.2.2.2.2.1 hch (hHeld.2.2.2.2.2.2.2.2.2.2.2.2.2.2.2.2.2.2.2.2.2.2.2.2.2.2.2.2.2.2.1).size (fun b hb => by have h1 := hK14.size; simp only [List.mem_singleton] at hb; omega), Below.mark hHeld.2.2.2.2.2.2.2.2.2.2.2.2.2.2.2.2.2.2.2.2.2.2.2.2.2.2.2.2.2.2.2 hch (hHeld.2.2.2.2.2.2.2.2.2.2.2.2.2.2.2.2.2.2.2.2.2.2.2.2.2.2.2.2.2.2.2).size (fun b hb => by have h1 := hK929.size; simp only [List.mem_singleton] at hb; omega)⟩) (fun hNew => ?_)
                    clear hK K hHeld
                    have hHeld := hNew
                    clear hNew
                    try simp only [Act.put, List.setIfInBounds_toArray, List.set_cons_zero, List.set_cons_succ]
                    refine wpAnyH_done (by kernel_rfl) ?_ _
                    go_wp2_with fail
                    go_meet
                    exact ⟨w18.heap.size, A118, c118, bs18, rfl, hGs, hgz, hW18z, ⟨hF18.1, fun b hb => Nat.le_trans (hFB) (hF18.2 b hb)⟩, fun h => hne _ h rfl, hHeld⟩
                  · go_simp
                    have hGs : w15.heap.size ≤ w17.heap.size := (hHeld.2.2.2.2.2.2.2.2.2.2.2.2.2.2.2.2.2.2.2.2.2.2.2.2.2.2.2.2.2.2.2).size
                    generalize hwa : World.alloc w17 (.cells #[.int .i64 0, .int .i64 0, .bool false, .int .i64 0, .slice none 0 0] 45) = wa
                    have hba : Below w17.heap.size w17 wa := by rw [← hwa]; exact (Below.refl _ _).alloc (Nat.le_refl _) _
                    have hga : wa.heap[w17.heap.size]? = some (.cells #[.int .i64 0, .int .i64 0, .bool false, .int .i64 0, .slice none 0 0] 45 (0, 0)) := by rw [← hwa]; exact hp_new rfl
                    clear hwa
                    refine hK.out _ _ (by (try dsimp only); exact ⟨keep_cell hba hHeld.1, keep_cell hba hHeld.2.1, keep_cell hba hHeld.2.2.1, keep_cell hba hHeld.2.2.2.1, keep_cell hba hHeld.2.2.2.2.1, keep_lt hba hHeld.2.2.2.2.2.1, keep_cell hba hHeld.2.2.2.2.2.2.1, keep_cell hba hHeld.2.2.2.2.2.2.2.1, keep_cell hba hHeld.2.2.2.2.2.2.2.2.1, keep_lt hba hHeld.2.2.2.2.2.2.2.2.2.1, keep_cell hba hHeld.2.2.2.2.2.2.2.2.2.2.1, keep_cell hba hHeld.2.2.2.2.2.2.2.2.2.2.2.1, keep_cell hba hHeld.2.2.2.2.2.2.2.2.2.2.2.2.1, keep_cell hba hHeld.2.2.2.2.2.2.2.2.2.2.2.2.2.1, keep_cell hba hHeld.2.2.2.2.2.2.2.2.2.2.2.2.2.2.1, keep_lt hba hHeld.2.2.2.2.2.2.2.2.2.2.2.2.2.2.2.1, keep_cell hba hHeld.2.2.2.2.2.2.2.2.2.2.2.2.2.2.2.2.1, keep_cell hba hHeld.2.2.2.2.2.2.2.2.2.2.2.2.2.2.2.2.2.1, keep_cell hba hHeld.2.2.2.2.2.2.2.2.2.2.2.2.2.2.2.2.2.2.1, keep_cell hba hHeld.2.2.2.2.2.2.2.2.2.2.2.2.2.2.2.2.2.2.2.1, keep_cell hba hHeld.2.2.2.2.2.2.2.2.2.2.2.2.2.2.2.2.2.2.2.2.1, keep_lt hba hHeld.2.2.2.2.2.2.2.2.2.2.2.2.2.2.2.2.2.2.2.2.2.1, keep_cell hba hHeld.2.2.2.2.2.2.2.2.2.2.2.2.2.2.2.2.2.2.2.2.2.2.1, keep_cell hba hHeld.2.2.2.2.2.2.2.2.2.2.2.2.2.2.2.2.2.2.2.2.2.2.2.1, keep_cell hba hHeld.2.2.2.2.2.2.2.2.2.2.2.2.2.2.2.2.2.2.2.2.2.2.2.2.1, keep_cell hba hHeld.2.2.2.2.2.2.2.2.2.2.2.2.2.2.2.2.2.2.2.2.2.2.2.2.2.1, keep_cell hba hHeld.2.2.2.2.2.2.2.2.2.2.2.2.2.2.2.2.2.2.2.2.2.2.2.2.2.2.1, keep_lt hba hHeld.2.2.2.2.2.2.2.2.2.2.2.2.2.2.2.2.2.2.2.2.2.2.2.2.2.2.2.1, ex_trans hHeld.2.2.2.2.2.2.2.2.2.2.2.2.2.2.2.2.2.2.2.2.2.2.2.2.2.2.2.2.1 hba, ex_trans hHeld.2.2.2.2.2.2.2.2.2.2.2.2.2.2.2.2.2.2.2.2.2.2.2.2.2.2.2.2.2.1 hba, ex_trans hHeld.2.2.2.2.2.2.2.2.2.2.2.2.2.2.2.2.2.2.2.2.2.2.2.2.2.2.2.2.2.2.1 hba, ex_trans hHeld.2.2.2.2.2.2.2.2.2.2.2.2.2.2.2.2.2.2.2.2.2.2.2.2.2.2.2.2.2.2.2 hba⟩) (fun hNew => ?_)
                    clear hK K hHeld
                    have hHeld := hNew
                    clear hNew
                    try simp only [Act.put, List.setIfInBounds_toArray, List.set_cons_zero, List.set_cons_succ]
                    refine held_one 5 (by kernel_rfl) rfl (fun K hK => ?_)
                    go_simp
                    have hFB : w15.heap.size ≤ wa.heap.size := (hHeld.2.2.2.2.2.2.2.2.2.2.2.2.2.2.2.2.2.2.2.2.2.2.2.2.2.2.2.2.2.2.2).size
                    have hGl := blk_lt hga
                    go_at_call 27
                    refine (impl_SetAttr f0 A'16 f0.attrs.length c'16 s1 v2 _ (hR16.mono mAtr (ex_trans (ex_trans (Below.refl _ _) hb17) hba)) (by omega)).mono ?_; rintro e w18 hN18
                    rw [← HE0.out] at hN18
                    obtain ⟨A118, c118, bs18, rfl, hW18, hF18, hb18⟩ := hN18.v
                    have hL18 := Lib.hid (hW18.lt lAtr)
                    have hR18 := hW18.sl (R := RAtr) (fun h => h.1)
                    go_wp2_with fail
                    refine hK.out _ _ (by (try dsimp only); exact ⟨keep_cell hb18 hHeld.1, keep_cell hb18 hHeld.2.1, keep_cell hb18 hHeld.2.2.1, keep_cell hb18 hHeld.2.2.2.1, keep_cell hb18 hHeld.2.2.2.2.1, keep_lt hb18 hHeld.2.2.2.2.2.1, keep_cell hb18 hHeld.2.2.2.2.2.2.1, keep_cell hb18 hHeld.2.2.2.2.2.2.2.1, keep_cell hb18 hHeld.2.2.2.2.2.2.2.2.1, keep_lt hb18 hHeld.2.2.2.2.2.2.2.2.2.1, keep_cell hb18 hHeld.2.2.2.2.2.2.2.2.2.2.1, keep_cell hb18 hHeld.2.2.2.2.2.2.2.2.2.2.2.1, keep_cell hb18 hHeld.2.2.2.2.2.2.2.2.2.2.2.2.1, keep_cell hb18 hHeld.2.2.2.2.2.2.2.2.2.2.2.2.2.1, keep_cell hb18 hHeld.2.2.2.2.2.2.2.2.2.2.2.2.2.2.1, keep_lt hb18 hHeld.2.2.2.2.2.2.2.2.2.2.2.2.2.2.2.1, keep_cell hb18 hHeld.2.2.2.2.2.2.2.2.2.2.2.2.2.2.2.2.1, keep_cell hb18 hHeld.2.2.2.2.2.2.2.2.2.2.2.2.2.2.2.2.2.1, keep_cell hb18 hHeld.2.2.2.2.2.2.2.2.2.2.2.2.2.2.2.2.2.2.1, keep_cell hb18 hHeld.2.2.2.2.2.2.2.2.2.2.2.2.2.2.2.2.2.2.2.1, keep_cell hb18 hHeld.2.2.2.2.2.2.2.2.2.2.2.2.2.2.2.2.2.2.2.2.1, keep_lt hb18 hHeld.2.2.2.2.2.2.2.2.2.2.2.2.2.2.2.2.2.2.2.2.2.1, keep_cell hb18 hHeld.2.2.2.2.2.2.2.2.2.2.2.2.2.2.2.2.2.2.2.2.2.2.1, keep_cell hb18 hHeld.2.2.2.2.2.2.2.2.2.2.2.2.2.2.2.2.2.2.2.2.2.2.2.1, keep_cell hb18 hHeld.2.2.2.2.2.2.2.2.2.2.2.2.2.2.2.2.2.2.2.2.2.2.2.2.1, keep_cell hb18 hHeld.2.2.2.2.2.2.2.2.2.2.2.2.2.2.2.2.2.2.2.2.2.2.2.2.2.1, keep_cell hb18 hHeld.2.2.2.2.2.2.2.2.2.2.2.2.2.2.2.2.2.2.2.2.2.2.2.2.2.2.1, keep_lt hb18 hHeld.2.2.2.2.2.2.2.2.2.2.2.2.2.2.2.2.2.2.2.2.2.2.2.2.2.2.2.1, ex_trans hHeld.2.2.2.2.2.2.2.2.2.2.2.2.2.2.2.2.2.2.2.2.2.2.2.2.2.2.2.2.1 hb18, ex_trans hHeld.2.2.2.2.2.2.2.2.2.2.2.2.2.2.2.2.2.2.2.2.2.2.2.2.2.2.2.2.2.1 hb18, ex_trans hHeld.2.2.2.2.2.2.2.2.2.2.2.2.2.2.2.2.2.2.2.2.2.2.2.2.2.2.2.2.2.2.1 hb18, ex_trans hHeld.2.2.2.2.2.2.2.2.2.2.2.2.2.2.2.2.2.2.2.2.2.2.2.2.2.2.2.2.2.2.2 hb18⟩) (fun hNew => ?_)
                    clear hK K hHeld
                    have hHeld := hNew
                    clear hNew
                    try simp only [Act.put, List.setIfInBounds_toArray, List.set_cons_zero, List.set_cons_succ]
                    replace hga := below_keep hb18 hga
                    have gc := blk_cell? hga
                    have gf := blk_free hga
                    refine held_one 7 (by kernel_rfl) rfl (fun K hK => ?_)
                    go_simp
                    have hch : Chg [w17.heap.size] w18 (sets w18 (w17.heap.size) 0 [.int .i64 r0.id, .int .i64 r0.owner, .bool r0.shared, .int .i64 r0.link, .slice A118 r0.attrs.length c118]) := sets_chg (bs := [w17.heap.size]) (g := w17.heap.size) (w := w18) (w1 := w18) (by simp) _ _ 0 (Chg.refl _ _)
                    have hgz : (sets w18 (w17.heap.size) 0 [.int .i64 r0.id, .int .i64 r0.owner, .bool r0.shared, .int .i64 r0.link, .slice A118 r0.attrs.length c118]).heap[w17.heap.size]? = some (.cells #[.int .i64 r0.id, .int .i64 r0.owner, .bool r0.shared, .int .i64 r0.link, .slice A118 r0.attrs.length c118] 45 (0, 0)) := sets_blk _ _ _ _ hga
                    have hne : ∀ b ∈ bs18, b ≠ w17.heap.size := fun b hb => by have h1 := hF18.2 b hb; omega
                    have hW18z := (hW18).loc (w' := (sets w18 (w17.heap.size) 0 [.int .i64 r0.id, .int .i64 r0.owner, .bool r0.shared, .int .i64 r0.link, .slice A118 r0.attrs.length c118])) lAtr (fun b hb => hch.block b (hL18.out b hb) (fun h => hne b hb (by simpa using h)))
                    refine hK.out _ _ (by (try dsimp only); exact ⟨hch.cell hHeld.1 (fun h => by simp only [List.mem_singleton] at h; omega), hch.cell hHeld.2.1 (fun h => by simp only [List.mem_singleton] at h; omega), hch.cell hHeld.2.2.1 (fun h => by simp only [List.mem_singleton] at h; omega), hch.cell hHeld.2.2.2.1 (fun h => by simp only [List.mem_singleton] at h; omega), hch.cell hHeld.2.2.2.2.1 (fun h => by simp only [List.mem_singleton] at h; omega), Nat.lt_of_lt_of_le hHeld.2.2.2.2.2.1 hch.size, hch.cell hHeld.2.2.2.2.2.2.1 (fun h => by simp only [List.mem_singleton] at h; omega), hch.cell hHeld.2.2.2.2.2.2.2.1 (fun h => by simp only [List.mem_singleton] at h; omega), hch.cell hHeld.2.2.2.2.2.2.2.2.1 (fun h => by simp only [List.mem_singleton] at h; omega), Nat.lt_of_lt_of_le hHeld.2.2.2.2.2.2.2.2.2.1 hch.size, hch.cell hHeld.2.2.2.2.2.2.2.2.2.2.1 (fun h => by simp only [List.mem_singleton] at h; omega), hch.cell hHeld.2.2.2.2.2.2.2.2.2.2.2.1 (fun h => by simp only [List.mem_singleton] at h; omega), hch.cell hHeld.2.2.2.2.2.2.2.2.2.2.2.2.1 (fun h => by simp only [List.mem_singleton] at h; omega), hch.cell hHeld.2.2.2.2.2.2.2.2.2.2.2.2.2.1 (fun h => by simp only [List.mem_singleton] at h; omega), hch.cell hHeld.2.2.2.2.2.2.2.2.2.2.2.2.2.2.1 (fun h => by simp only [List.mem_singleton] at h; omega), Nat.lt_of_lt_of_le hHeld.2.2.2.2.2.2.2.2.2.2.2.2.2.2.2.1 hch.size, hch.cell hHeld.2.2.2.2.2.2.2.2.2.2.2.2.2.2.2.2.1 (fun h => by simp only [List.mem_singleton] at h; omega), hch.cell hHeld.2.2.2.2.2.2.2.2.2.2.2.2.2.2.2.2.2.1 (fun h => by simp only [List.mem_singleton] at h; omega), hch.cell hHeld.2.2.2.2.2.2.2.2.2.2.2.2.2.2.2.2.2.2.1 (fun h => by simp only [List.mem_singleton] at h; omega), hch.cell hHeld.2.2.2.2.2.2.2.2.2.2.2.2.2.2.2.2.2.2.2.1 (fun h => by simp only [List.mem_singleton] at h; omega), hch.cell hHeld.2.2.2.2.2.2.2.2.2.2.2.2.2.2.2.2.2.2.2.2.1 (fun h => by simp only [List.mem_singleton] at h; omega), Nat.lt_of_lt_of_le hHeld.2.2.2.2.2.2.2.2.2.2.2.2.2.2.2.2.2.2.2.2.2.1 hch.size, hch.cell hHeld.2.2.2.2.2.2.2.2.2.2.2.2.2.2.2.2.2.2.2.2.2.2.1 (fun h => by simp only [List.mem_singleton] at h; omega), hch.cell hHeld.2.2.2.2.2.2.2.2.2.2.2.2.2.2.2.2.2.2.2.2.2.2.2.1 (fun h => by simp only [List.mem_singleton] at h; omega), hch.cell hHeld.2.2.2.2.2.2.2.2.2.2.2.2.2.2.2.2.2.2.2.2.2.2.2.2.1 (fun h => by simp only [List.mem_singleton] at h; omega), hch.cell hHeld.2.2.2.2.2.2.2.2.2.2.2.2.2.2.2.2.2.2.2.2.2.2.2.2.2.1 (fun h => by simp only [List.mem_singleton] at h; omega), hch.cell hHeld.2.2.2.2.2.2.2.2.2.2.2.2.2.2.2.2.2.2.2.2.2.2.2.2.2.2.1 (fun h => by simp only [List.mem_singleton] at h; omega), Nat.lt_of_lt_of_le hHeld.2.2.2.2.2.2.2.2.2.2.2.2.2.2.2.2.2.2.2.2.2.2.2.2.2.2.2.1 hch.size, Below.mark hHeld.2.2.2.2.2.2.2.2.2.2.2.2.2.2.2.2.2.2.2.2.2.2.2.2.2.2.2.2.1 hch (hHeld.2.2.2.2.2.2.2.2.2.2.2.2.2.2.2.2.2.2.2.2.2.2.2.2.2.2.2.2.1).size (fun b hb => by have h1 := hK0.size; simp only [List.mem_singleton] at hb; omega), Below.mark hHeld.2.2.2.2.2.2.2.2.2.2.2.2.2.2.2.2.2.2.2.2.2.2.2.2.2.2.2.2.2.1 hch (hHeld.2.2.2.2.2.2.2.2.2.2.2.2.2.2.2.2.2.2.2.2.2.2.2.2.2.2.2.2.2.1).size (fun b hb => by have h1 := hK5.size; simp only [List.mem_singleton] at hb; omega), Below.mark hHeld.2.2.2.2.2.2.2.2.2.2.2.2.2.2.2.2.2.2.2.2.2.2.2.2.2.2.2.2.2.2.1 hch (hHeld.2.2.2.2.2.2.2.2.2.2.2.2.2.2.2.2.2.2.2.2.2.2.2.2.2.2.2.2.2.2.1).size (fun b hb => by have h1 := hK14.size; simp only [List.mem_singleton] at hb; omega), Below.mark hHeld.2.2.2.2.2.2.2.2.2.2.2.2.2.2.2.2.2.2.2.2.2.2.2.2.2.2.2.2.2.2.2 hch (hHeld.2.2.2.2.2.2.2.2.2.2.2.2.2.2.2.2.2.2.2.2.2.2.2.2.2.2.2.2.2.2.2).size (fun b hb => by have h1 := hK929.size; simp only [List.mem_singleton] at hb; omega)⟩) (fun hNew => ?_)
                    clear hK K hHeld
                    have hHeld := hNew
                    clear hNew
                    try simp only [Act.put, List.setIfInBounds_toArray, List.set_cons_zero, List.set_cons_succ]
                    refine wpAnyH_done (by kernel_rfl) ?_ _
                    go_wp2_with fail
                    go_meet
                    exact ⟨w17.heap.size, A118, c118, bs18, rfl, hGs, hgz, hW18z, ⟨hF18.1, fun b hb => Nat.le_trans (hFB) (hF18.2 b hb)⟩, fun h => hne _ h rfl, hHeld⟩
                · go_simp
                  have hGs : w15.heap.size ≤ w16.heap.size := (hHeld.2.2.2.2.2.2.2.2.2.2.2.2.2.2.2.2.2.2.2.2.2.2.2.2.2.2.2.2.2.2.2).size
                  generalize hwa : World.alloc w16 (.cells #[.int .i64 0, .int .i64 0, .bool false, .int .i64 0, .slice none 0 0] 45) = wa
                  have hba : Below w16.heap.size w16 wa := by rw [← hwa]; exact (Below.refl _ _).alloc (Nat.le_refl _) _
                  have hga : wa.heap[w16.heap.size]? = some (.cells #[.int .i64 0, .int .i64 0, .bool false, .int .i64 0, .slice none 0 0] 45 (0, 0)) := by rw [← hwa]; exact hp_new rfl
                  clear hwa
                  refine hK.out _ _ (by (try dsimp only); exact ⟨keep_cell hba hHeld.1, keep_cell hba hHeld.2.1, keep_cell hba hHeld.2.2.1, keep_cell hba hHeld.2.2.2.1, keep_cell hba hHeld.2.2.2.2.1, keep_lt hba hHeld.2.2.2.2.2.1, keep_cell hba hHeld.2.2.2.2.2.2.1, keep_cell hba hHeld.2.2.2.2.2.2.2.1, keep_cell hba hHeld.2.2.2.2.2.2.2.2.1, keep_lt hba hHeld.2.2.2.2.2.2.2.2.2.1, keep_cell hba hHeld.2.2.2.2.2.2.2.2.2.2.1, keep_cell hba hHeld.2.2.2.2.2.2.2.2.2.2.2.1, keep_cell hba hHeld.2.2.2.2.2.2.2.2.2.2.2.2.1, keep_cell hba hHeld.2.2.2.2.2.2.2.2.2.2.2.2.2.1, keep_cell hba hHeld.2.2.2.2.2.2.2.2.2.2.2.2.2.2.1, keep_lt hba hHeld.2.2.2.2.2.2.2.2.2.2.2.2.2.2.2.1, keep_cell hba hHeld.2.2.2.2.2.2.2.2.2.2.2.2.2.2.2.2.1, keep_cell hba hHeld.2.2.2.2.2.2.2.2.2.2.2.2.2.2.2.2.2.1, keep_cell hba hHeld.2.2.2.2.2.2.2.2.2.2.2.2.2.2.2.2.2.2.1, keep_cell hba hHeld.2.2.2.2.2.2.2.2.2.2.2.2.2.2.2.2.2.2.2.1, keep_cell hba hHeld.2.2.2.2.2.2.2.2.2.2.2.2.2.2.2.2.2.2.2.2.1, keep_lt hba hHeld.2.2.2.2.2.2.2.2.2.2.2.2.2.2.2.2.2.2.2.2.2.1, keep_cell hba hHeld.2.2.2.2.2.2.2.2.2.2.2.2.2.2.2.2.2.2.2.2.2.2.1, keep_cell hba hHeld.2.2.2.2.2.2.2.2.2.2.2.2.2.2.2.2.2.2.2.2.2.2.2.1, keep_cell hba hHeld.2.2.2.2.2.2.2.2.2.2.2.2.2.2.2.2.2.2.2.2.2.2.2.2.1, keep_cell hba hHeld.2.2.2.2.2.2.2.2.2.2.2.2.2.2.2.2.2.2.2.2.2.2.2.2.2.1, keep_cell hba hHeld.2.2.2.2.2.2.2.2.2.2.2.2.2.2.2.2.2.2.2.2.2.2.2.2.2.2.1, keep_lt hba hHeld.2.2.2.2.2.2.2.2.2.2.2.2.2.2.2.2.2.2.2.2.2.2.2.2.2.2.2.1, ex_trans hHeld.2.2.2.2.2.2.2.2.2.2.2.2.2.2.2.2.2.2.2.2.2.2.2.2.2.2.2.2.1 hba, ex_trans hHeld.2.2.2.2.2.2.2.2.2.2.2.2.2.2.2.2.2.2.2.2.2.2.2.2.2.2.2.2.2.1 hba, ex_trans hHeld.2.2.2.2.2.2.2.2.2.2.2.2.2.2.2.2.2.2.2.2.2.2.2.2.2.2.2.2.2.2.1 hba, ex_trans hHeld.2.2.2.2.2.2.2.2.2.2.2.2.2.2.2.2.2.2.2.2.2.2.2.2.2.2.2.2.2.2.2 hba⟩) (fun hNew => ?_)
                  clear hK K hHeld
                  have hHeld := hNew
                  clear hNew
                  try simp only [Act.put, List.setIfInBounds_toArray, List.set_cons_zero, List.set_cons_succ]
                  refine held_one 4 (by kernel_rfl) rfl (fun K hK => ?_)
                  go_simp
                  have hFB : w15.heap.size ≤ wa.heap.size := (hHeld.2.2.2.2.2.2.2.2.2.2.2.2.2.2.2.2.2.2.2.2.2.2.2.2.2.2.2.2.2.2.2).size
                  have hGl := blk_lt hga
                  go_at_call 26
                  refine (laws_toValue v2 _).mono ?_; rintro e w17 ⟨rfl, hb17⟩
                  go_wp2_with fail
                  refine hK.out _ _ (by (try dsimp only); exact ⟨keep_cell hb17 hHeld.1, keep_cell hb17 hHeld.2.1, keep_cell hb17 hHeld.2.2.1, keep_cell hb17 hHeld.2.2.2.1, keep_cell hb17 hHeld.2.2.2.2.1, keep_lt hb17 hHeld.2.2.2.2.2.1, keep_cell hb17 hHeld.2.2.2.2.2.2.1, keep_cell hb17 hHeld.2.2.2.2.2.2.2.1, keep_cell hb17 hHeld.2.2.2.2.2.2.2.2.1, keep_lt hb17 hHeld.2.2.2.2.2.2.2.2.2.1, keep_cell hb17 hHeld.2.2.2.2.2.2.2.2.2.2.1, keep_cell hb17 hHeld.2.2.2.2.2.2.2.2.2.2.2.1, keep_cell hb17 hHeld.2.2.2.2.2.2.2.2.2.2.2.2.1, keep_cell hb17 hHeld.2.2.2.2.2.2.2.2.2.2.2.2.2.1, keep_cell hb17 hHeld.2.2.2.2.2.2.2.2.2.2.2.2.2.2.1, keep_lt hb17 hHeld.2.2.2.2.2.2.2.2.2.2.2.2.2.2.2.1, keep_cell hb17 hHeld.2.2.2.2.2.2.2.2.2.2.2.2.2.2.2.2.1, keep_cell hb17 hHeld.2.2.2.2.2.2.2.2.2.2.2.2.2.2.2.2.2.1, keep_cell hb17 hHeld.2.2.2.2.2.2.2.2.2.2.2.2.2.2.2.2.2.2.1, keep_cell hb17 hHeld.2.2.2.2.2.2.2.2.2.2.2.2.2.2.2.2.2.2.2.1, keep_cell hb17 hHeld.2.2.2.2.2.2.2.2.2.2.2.2.2.2.2.2.2.2.2.2.1, keep_lt hb17 hHeld.2.2.2.2.2.2.2.2.2.2.2.2.2.2.2.2.2.2.2.2.2.1, keep_cell hb17 hHeld.2.2.2.2.2.2.2.2.2.2.2.2.2.2.2.2.2.2.2.2.2.2.1, keep_cell hb17 hHeld.2.2.2.2.2.2.2.2.2.2.2.2.2.2.2.2.2.2.2.2.2.2.2.1, keep_cell hb17 hHeld.2.2.2.2.2.2.2.2.2.2.2.2.2.2.2.2.2.2.2.2.2.2.2.2.1, keep_cell hb17 hHeld.2.2.2.2.2.2.2.2.2.2.2.2.2.2.2.2.2.2.2.2.2.2.2.2.2.1, keep_cell hb17 hHeld.2.2.2.2.2.2.2.2.2.2.2.2.2.2.2.2.2.2.2.2.2.2.2.2.2.2.1, keep_lt hb17 hHeld.2.2.2.2.2.2.2.2.2.2.2.2.2.2.2.2.2.2.2.2.2.2.2.2.2.2.2.1, ex_trans hHeld.2.2.2.2.2.2.2.2.2.2.2.2.2.2.2.2.2.2.2.2.2.2.2.2.2.2.2.2.1 hb17, ex_trans hHeld.2.2.2.2.2.2.2.2.2.2.2.2.2.2.2.2.2.2.2.2.2.2.2.2.2.2.2.2.2.1 hb17, ex_trans hHeld.2.2.2.2.2.2.2.2.2.2.2.2.2.2.2.2.2.2.2.2.2.2.2.2.2.2.2.2.2.2.1 hb17, ex_trans hHeld.2.2.2.2.2.2.2.2.2.2.2.2.2.2.2.2.2.2.2.2.2.2.2.2.2.2.2.2.2.2.2 hb17⟩) (fun hNew => ?_)
                  clear hK K hHeld
                  have hHeld := hNew
                  clear hNew
                  try simp only [Act.put, List.setIfInBounds_toArray, List.set_cons_zero, List.set_cons_succ]
                  replace hga := below_keep hb17 hga
                  refine held_one 5 (by kernel_rfl) rfl (fun K hK => ?_)
                  go_simp
                  have hFB : w15.heap.size ≤ w17.heap.size := (hHeld.2.2.2.2.2.2.2.2.2.2.2.2.2.2.2.2.2.2.2.2.2.2.2.2.2.2.2.2.2.2.2).size
                  have hGl := blk_lt hga
                  go_at_call 27
                  refine (impl_SetAttr f0 A'16 f0.attrs.length c'16 s1 v2 _ (hR16.mono mAtr (ex_trans (ex_trans (Below.refl _ _) hba) hb17)) (by omega)).mono ?_; rintro e w18 hN18
                  rw [← HE0.out] at hN18
                  obtain ⟨A118, c118, bs18, rfl, hW18, hF18, hb18⟩ := hN18.v
                  have hL18 := Lib.hid (hW18.lt lAtr)
                  have hR18 := hW18.sl (R := RAtr) (fun h => h.1)
                  go_wp2_with fail
                  refine hK.out _ _ (by (try dsimp only); exact ⟨keep_cell hb18 hHeld.1, keep_cell hb18 hHeld.2.1, keep_cell hb18 hHeld.2.2.1, keep_cell hb18 hHeld.2.2.2.1, keep_cell hb18 hHeld.2.2.2.2.1, keep_lt hb18 hHeld.2.2.2.2.2.1, keep_cell hb18 hHeld.2.2.2.2.2.2.1, keep_cell hb18 hHeld.2.2.2.2.2.2.2.1, keep_cell hb18 hHeld.2.2.2.2.2.2.2.2.1, keep_lt hb18 hHeld.2.2.2.2.2.2.2.2.2.1, keep_cell hb18 hHeld.2.2.2.2.2.2.2.2.2.2.1, keep_cell hb18 hHeld.2.2.2.2.2.2.2.2.2.2.2.1, keep_cell hb18 hHeld.2.2.2.2.2.2.2.2.2.2.2.2.1, keep_cell hb18 hHeld.2.2.2.2.2.2.2.2.2.2.2.2.2.1, keep_cell hb18 hHeld.2.2.2.2.2.2.2.2.2.2.2.2.2.2.1, keep_lt hb18 hHeld.2.2.2.2.2.2.2.2.2.2.2.2.2.2.2.1, keep_cell hb18 hHeld.2.2.2.2.2.2.2.2.2.2.2.2.2.2.2.2.1, keep_cell hb18 hHeld.2.2.2.2.2.2.2.2.2.2.2.2.2.2.2.2.2.1, keep_cell hb18 hHeld.2.2.2.2.2.2.2.2.2.2.2.2.2.2.2.2.2.2.1, keep_cell hb18 hHeld.2.2.2.2.2.2.2.2.2.2.2.2.2.2.2.2.2.2.2.1, keep_cell hb18 hHeld.2.2.2.2.2.2.2.2.2.2.2.2.2.2.2.2.2.2.2.2.1, keep_lt hb18 hHeld.2.2.2.2.2.2.2.2.2.2.2.2.2.2.2.2.2.2.2.2.2.1, keep_cell hb18 hHeld.2.2.2.2.2.2.2.2.2.2.2.2.2.2.2.2.2.2.2.2.2.2.1, keep_cell hb18 hHeld.2.2.2.2.2.2.2.2.2.2.2.2.2.2.2.2.2.2.2.2.2.2.2.1, keep_cell hb18 hHeld.2.2.2.2.2.2.2.2.2.2.2.2.2.2.2.2.2.2.2.2.2.2.2.2.1, keep_cell hb18 hHeld.2.2.2.2.2.2.2.2.2.2.2.2.2.2.2.2.2.2.2.2.2.2.2.2.2.1, keep_cell hb18 hHeld.2.2.2.2.2.2.2.2.2.2.2.2.2.2.2.2.2.2.2.2.2.2.2.2.2.2.1, keep_lt hb18 hHeld.2.2.2.2.2.2.2.2.2.2.2.2.2.2.2.2.2.2.2.2.2.2.2.2.2.2.2.1, ex_trans hHeld.2.2.2.2.2.2.2.2.2.2.2.2.2.2.2.2.2.2.2.2.2.2.2.2.2.2.2.2.1 hb18, ex_trans hHeld.2.2.2.2.2.2.2.2.2.2.2.2.2.2.2.2.2.2.2.2.2.2.2.2.2.2.2.2.2.1 hb18, ex_trans hHeld.2.2.2.2.2.2.2.2.2.2.2.2.2.2.2.2.2.2.2.2.2.2.2.2.2.2.2.2.2.2.1 hb18, ex_trans hHeld.2.2.2.2.2.2.2.2.2.2.2.2.2.2.2.2.2.2.2.2.2.2.2.2.2.2.2.2.2.2.2 hb18⟩) (fun hNew => ?_)
                  clear hK K hHeld
                  have hHeld := hNew
                  clear hNew
                  try simp only [Act.put, List.setIfInBounds_toArray, List.set_cons_zero, List.set_cons_succ]
                  replace hga := below_keep hb18 hga
                  have gc := blk_cell? hga
                  have gf := blk_free hga
                  refine held_one 7 (by kernel_rfl) rfl (fun K hK => ?_)
                  go_simp
                  have hch : Chg [w16.heap.size] w18 (sets w18 (w16.heap.size) 0 [.int .i64 r0.id, .int .i64 r0.owner, .bool r0.shared, .int .i64 r0.link, .slice A118 r0.attrs.length c118]) := sets_chg (bs := [w16.heap.size]) (g := w16.heap.size) (w := w18) (w1 := w18) (by simp) _ _ 0 (Chg.refl _ _)
                  have hgz : (sets w18 (w16.heap.size) 0 [.int .i64 r0.id, .int .i64 r0.owner, .bool r0.shared, .int .i64 r0.link, .slice A118 r0.attrs.length c118]).heap[w16.heap.size]? = some (.cells #[.int .i64 r0.id, .int .i64 r0.owner, .bool r0.shared, .int .i64 r0.link, .slice A118 r0.attrs.length c118] 45 (0, 0)) := sets_blk _ _ _ _ hga
                  have hne : ∀ b ∈ bs18, b ≠ w16.heap.size := fun b hb => by have h1 := hF18.2 b hb; omega
                  have hW18z := (hW18).loc (w' := (sets w18 (w16.heap.size) 0 [.int .i64 r0.id, .int .i64 r0.owner, .bool r0.shared, .int .i64 r0.link, .slice A118 r0.attrs.length c118])) lAtr (fun b hb => hch.block b (hL18.out b hb) (fun h => hne b hb (by simpa using h)))
                  refine hK.out _ _ (by (try dsimp only); exact ⟨hch.cell hHeld.1 (fun h => by simp only [List.mem_singleton] at h; omega), hch.cell hHeld.2.1 (fun h => by simp only [List.mem_singleton] at h; omega), hch.cell hHeld.2.2.1 (fun h => by simp only [List.mem_singleton] at h; omega), hch.cell hHeld.2.2.2.1 (fun h => by simp only [List.mem_singleton] at h; omega), hch.cell hHeld.2.2.2.2.1 (fun h => by simp only [List.mem_singleton] at h; omega), Nat.lt_of_lt_of_le hHeld.2.2.2.2.2.1 hch.size, hch.cell hHeld.2.2.2.2.2.2.1 (fun h => by simp only [List.mem_singleton] at h; omega), hch.cell hHeld.2.2.2.2.2.2.2.1 (fun h => by simp only [List.mem_singleton] at h; omega), hch.cell hHeld.2.2.2.2.2.2.2.2.1 (fun h => by simp only [List.mem_singleton] at h; omega), Nat.lt_of_lt_of_le hHeld.2.2.2.2.2.2.2.2.2.1 hch.size, hch.cell hHeld.2.2.2.2.2.2.2.2.2.2.1 (fun h => by simp only [List.mem_singleton] at h; omega), hch.cell hHeld.2.2.2.2.2.2.2.2.2.2.2.1 (fun h => by simp only [List.mem_singleton] at h; omega), hch.cell hHeld.2.2.2.2.2.2.2.2.2.2.2.2.1 (fun h => by simp only [List.mem_singleton] at h; omega), hch.cell hHeld.2.2.2.2.2.2.2.2.2.2.2.2.2.1 (fun h => by simp only [List.mem_singleton] at h; omega), hch.cell hHeld.2.2.2.2.2.2.2.2.2.2.2.2.2.2.1 (fun h => by simp only [List.mem_singleton] at h; omega), Nat.lt_of_lt_of_le hHeld.2.2.2.2.2.2.2.2.2.2.2.2.2.2.2.1 hch.size, hch.cell hHeld.2.2.2.2.2.2.2.2.2.2.2.2.2.2.2.2.1 (fun h => by simp only [List.mem_singleton] at h; omega), hch.cell hHeld.2.2.2.2.2.2.2.2.2.2.2.2.2.2.2.2.2.1 (fun h => by simp only [List.mem_singleton] at h; omega), hch.cell hHeld.2.2.2.2.2.2.2.2.2.2.2.2.2.2.2.2.2.2.1 (fun h => by simp only [List.mem_singleton] at h; omega), hch.cell hHeld.2.2.2.2.2.2.2.2.2.2.2.2.2.2.2.2.2.2.2.1 (fun h => by simp only [List.mem_singleton] at h; omega), hch.cell hHeld.2.2.2.2.2.2.2.2.2.2.2.2.2.2.2.2.2.2.2.2.1 (fun h => by simp only [List.mem_singleton] at h; omega), Nat.lt_of_lt_of_le hHeld.2.2.2.2.2.2.2.2.2.2.2.2.2.2.2.2.2.2.2.2.2.1 hch.size, hch.cell hHeld.2.2.2.2.2.2.2.2.2.2.2.2.2.2.2.2.2.2.2.2.2.2.1 (fun h => by simp only [List.mem_singleton] at h; omega), hch.cell hHeld.2.2.2.2.2.2.2.2.2.2.2.2.2.2.2.2.2.2.2.2.2.2.2.1 (fun h => by simp only [List.mem_singleton] at h; omega), hch.cell hHeld.2.2.2.2.2.2.2.2.2.2.2.2.2.2.2.2.2.2.2.2.2.2.2.2.1 (fun h => by simp only [List.mem_singleton] at h; omega), hch.cell hHeld.2.2.2.2.2.2.2.2.2.2.2.2.2.2.2.2.2.2.2.2.2.2.2.2.2.1 (fun h => by simp only [List.mem_singleton] at h; omega), hch.cell hHeld.2.2.2.2.2.2.2.2.2.2.2.2.2.2.2.2.2.2.2.2.2.2.2.2.2.2.1 (fun h => by simp only [List.mem_singleton] at h; omega), Nat.lt_of_lt_of_le hHeld.2.2.2.2.2.2.2.2.2.2.2.2.2.2.2.2.2.2.2.2.2.2.2.2.2.2.2.1 hch.size, Below.mark hHeld.2.2.2.2.2.2.2.2.2.2.2.2.2.2.2.2.2.2.2.2.2.2.2.2.2.2.2.2.1 hch (hHeld.2.2.2.2.2.2.2.2.2.2.2.2.2.2.2.2.2.2.2.2.2.2.2.2.2.2.2.2.1).size (fun b hb => by have h1 := hK0.size; simp only [List.mem_singleton] at hb; omega), Below.mark hHeld.2.2.2.2.2.2.2.2.2.2.2.2.2.2.2.2.2.2.2.2.2.2.2.2.2.2.2.2.2.1 hch (hHeld.2.2.2.2.2.2.2.2.2.2.2.2.2.2.2.2.2.2.2.2.2.2.2.2.2.2.2.2.2.1).size (fun b hb => by have h1 := hK5.size; simp only [List.mem_singleton] at hb; omega), Below.mark hHeld.2.2.2.2.2.2.2.2.2.2.2.2.2.2.2.2.2.2.2.2.2.2.2.2.2.2.2.2.2.2.1 hch (hHeld.2.2.2.2.2.2.2.2.2.2.2.2.2.2.2.2.2.2.2.2.2.2.2.2.2.2.2.2.2.2.1).size (fun b hb => by have h1 := hK14.size; simp only [List.mem_singleton] at hb; omega), Below.mark hHeld.2.2.2.2.2.2.2.2.2.2.2.2.2.2.2.2.2.2.2.2.2.2.2.2.2.2.2.2.2.2.2 hch (hHeld.2.2.2.2.2.2.2.2.2.2.2.2.2.2.2.2.2.2.2.2.2.2.2.2.2.2.2.2.2.2.2).size (fun b hb => by have h1 := hK929.size; simp only [List.mem_singleton] at hb; omega)⟩) (fun hNew => ?_)
                  clear hK K hHeld
                  have hHeld := hNew
                  clear hNew
                  try simp only [Act.put, List.setIfInBounds_toArray, List.set_cons_zero, List.set_cons_succ]
                  refine wpAnyH_done (by kernel_rfl) ?_ _
                  go_wp2_with fail
                  go_meet
                  exact ⟨w16.heap.size, A118, c118, bs18, rfl, hGs, hgz, hW18z, ⟨hF18.1, fun b hb => Nat.le_trans (hFB) (hF18.2 b hb)⟩, fun h => hne _ h rfl, hHeld⟩
              · go_simp
                have hGs : w15.heap.size ≤ w15.heap.size := Nat.le_refl _
                generalize hwa : World.drew (World.alloc w15 (.cells #[.int .i64 0, .int .i64 0, .bool false, .int .i64 0, .slice none 0 0] 45)) = wa
                have hba : Below w15.drew.heap.size w15.drew wa := by rw [← hwa]; exact ((show Below w15.drew.heap.size w15.drew w15 from ⟨rfl, rfl, rfl, Nat.le_refl _, fun _ _ => rfl⟩).alloc (Nat.le_refl _) _).drew
                have hga : wa.heap[w15.heap.size]? = some (.cells #[.int .i64 0, .int .i64 0, .bool false, .int .i64 0, .slice none 0 0] 45 (0, 0)) := by rw [← hwa]; exact hp_new rfl
                clear hwa
                refine hK.out _ _ (by (try dsimp only); exact ⟨keep_cell hba hHeld.1, keep_cell hba hHeld.2.1, keep_cell hba hHeld.2.2.1, keep_cell hba hHeld.2.2.2.1, keep_cell hba hHeld.2.2.2.2.1, keep_lt hba hHeld.2.2.2.2.2.1, keep_cell hba hHeld.2.2.2.2.2.2.1, keep_cell hba hHeld.2.2.2.2.2.2.2.1, keep_cell hba hHeld.2.2.2.2.2.2.2.2.1, keep_lt hba hHeld.2.2.2.2.2.2.2.2.2.1, keep_cell hba hHeld.2.2.2.2.2.2.2.2.2.2.1, keep_cell hba hHeld.2.2.2.2.2.2.2.2.2.2.2.1, keep_cell hba hHeld.2.2.2.2.2.2.2.2.2.2.2.2.1, keep_cell hba hHeld.2.2.2.2.2.2.2.2.2.2.2.2.2.1, keep_cell hba hHeld.2.2.2.2.2.2.2.2.2.2.2.2.2.2.1, keep_lt hba hHeld.2.2.2.2.2.2.2.2.2.2.2.2.2.2.2.1, keep_cell hba hHeld.2.2.2.2.2.2.2.2.2.2.2.2.2.2.2.2.1, keep_cell hba hHeld.2.2.2.2.2.2.2.2.2.2.2.2.2.2.2.2.2.1, keep_cell hba hHeld.2.2.2.2.2.2.2.2.2.2.2.2.2.2.2.2.2.2.1, keep_cell hba hHeld.2.2.2.2.2.2.2.2.2.2.2.2.2.2.2.2.2.2.2.1, keep_cell hba hHeld.2.2.2.2.2.2.2.2.2.2.2.2.2.2.2.2.2.2.2.2.1, keep_lt hba hHeld.2.2.2.2.2.2.2.2.2.2.2.2.2.2.2.2.2.2.2.2.2.1, keep_cell hba hHeld.2.2.2.2.2.2.2.2.2.2.2.2.2.2.2.2.2.2.2.2.2.2.1, keep_cell hba hHeld.2.2.2.2.2.2.2.2.2.2.2.2.2.2.2.2.2.2.2.2.2.2.2.1, keep_cell hba hHeld.2.2.2.2.2.2.2.2.2.2.2.2.2.2.2.2.2.2.2.2.2.2.2.2.1, keep_cell hba hHeld.2.2.2.2.2.2.2.2.2.2.2.2.2.2.2.2.2.2.2.2.2.2.2.2.2.1, keep_cell hba hHeld.2.2.2.2.2.2.2.2.2.2.2.2.2.2.2.2.2.2.2.2.2.2.2.2.2.2.1, keep_lt hba hHeld.2.2.2.2.2.2.2.2.2.2.2.2.2.2.2.2.2.2.2.2.2.2.2.2.2.2.2.1, ex_trans hHeld.2.2.2.2.2.2.2.2.2.2.2.2.2.2.2.2.2.2.2.2.2.2.2.2.2.2.2.2.1 hba, ex_trans hHeld.2.2.2.2.2.2.2.2.2.2.2.2.2.2.2.2.2.2.2.2.2.2.2.2.2.2.2.2.2.1 hba, ex_trans hHeld.2.2.2.2.2.2.2.2.2.2.2.2.2.2.2.2.2.2.2.2.2.2.2.2.2.2.2.2.2.2.1 hba, ex_trans hHeld.2.2.2.2.2.2.2.2.2.2.2.2.2.2.2.2.2.2.2.2.2.2.2.2.2.2.2.2.2.2.2 hba⟩) (fun hNew => ?_)
                clear hK K hHeld
                have hHeld := hNew
                clear hNew
                try simp only [Act.put, List.setIfInBounds_toArray, List.set_cons_zero, List.set_cons_succ]
                refine held_one 1 (by kernel_rfl) rfl (fun K hK => ?_)
                go_simp
                have hFB : w15.heap.size ≤ wa.heap.size := (hHeld.2.2.2.2.2.2.2.2.2.2.2.2.2.2.2.2.2.2.2.2.2.2.2.2.2.2.2.2.2.2.2).size
                have hGl := blk_lt hga
                go_at_call 25
                refine (laws_toFile f0 A0 f0.attrs.length c0 _ (hS0.mono mAtr hHeld.2.2.2.2.2.2.2.2.2.2.2.2.2.2.2.2.2.2.2.2.2.2.2.2.2.2.2.2.1) hk0).mono ?_; rintro e w16 hN16
                obtain ⟨A'16, c'16, bs16, rfl, hcc16, hW16, hF16, hb16⟩ := hN16.out
                have hL16 := Lib.hid (hW16.lt lAtr)
                have hR16 := hW16.sl (R := RAtr) (fun h => h.1)
                go_wp2_with fail
                refine hK.out _ _ (by (try dsimp only); exact ⟨keep_cell hb16 hHeld.1, keep_cell hb16 hHeld.2.1, keep_cell hb16 hHeld.2.2.1, keep_cell hb16 hHeld.2.2.2.1, keep_cell hb16 hHeld.2.2.2.2.1, keep_lt hb16 hHeld.2.2.2.2.2.1, keep_cell hb16 hHeld.2.2.2.2.2.2.1, keep_cell hb16 hHeld.2.2.2.2.2.2.2.1, keep_cell hb16 hHeld.2.2.2.2.2.2.2.2.1, keep_lt hb16 hHeld.2.2.2.2.2.2.2.2.2.1, keep_cell hb16 hHeld.2.2.2.2.2.2.2.2.2.2.1, keep_cell hb16 hHeld.2.2.2.2.2.2.2.2.2.2.2.1, keep_cell hb16 hHeld.2.2.2.2.2.2.2.2.2.2.2.2.1, keep_cell hb16 hHeld.2.2.2.2.2.2.2.2.2.2.2.2.2.1, keep_cell hb16 hHeld.2.2.2.2.2.2.2.2.2.2.2.2.2.2.1, keep_lt hb16 hHeld.2.2.2.2.2.2.2.2.2.2.2.2.2.2.2.1, keep_cell hb16 hHeld.2.2.2.2.2.2.2.2.2.2.2.2.2.2.2.2.1, keep_cell hb16 hHeld.2.2.2.2.2.2.2.2.2.2.2.2.2.2.2.2.2.1, keep_cell hb16 hHeld.2.2.2.2.2.2.2.2.2.2.2.2.2.2.2.2.2.2.1, keep_cell hb16 hHeld.2.2.2.2.2.2.2.2.2.2.2.2.2.2.2.2.2.2.2.1, keep_cell hb16 hHeld.2.2.2.2.2.2.2.2.2.2.2.2.2.2.2.2.2.2.2.2.1, keep_lt hb16 hHeld.2.2.2.2.2.2.2.2.2.2.2.2.2.2.2.2.2.2.2.2.2.1, keep_cell hb16 hHeld.2.2.2.2.2.2.2.2.2.2.2.2.2.2.2.2.2.2.2.2.2.2.1, keep_cell hb16 hHeld.2.2.2.2.2.2.2.2.2.2.2.2.2.2.2.2.2.2.2.2.2.2.2.1, keep_cell hb16 hHeld.2.2.2.2.2.2.2.2.2.2.2.2.2.2.2.2.2.2.2.2.2.2.2.2.1, keep_cell hb16 hHeld.2.2.2.2.2.2.2.2.2.2.2.2.2.2.2.2.2.2.2.2.2.2.2.2.2.1, keep_cell hb16 hHeld.2.2.2.2.2.2.2.2.2.2.2.2.2.2.2.2.2.2.2.2.2.2.2.2.2.2.1, keep_lt hb16 hHeld.2.2.2.2.2.2.2.2.2.2.2.2.2.2.2.2.2.2.2.2.2.2.2.2.2.2.2.1, ex_trans hHeld.2.2.2.2.2.2.2.2.2.2.2.2.2.2.2.2.2.2.2.2.2.2.2.2.2.2.2.2.1 hb16, ex_trans hHeld.2.2.2.2.2.2.2.2.2.2.2.2.2.2.2.2.2.2.2.2.2.2.2.2.2.2.2.2.2.1 hb16, ex_trans hHeld.2.2.2.2.2.2.2.2.2.2.2.2.2.2.2.2.2.2.2.2.2.2.2.2.2.2.2.2.2.2.1 hb16, ex_trans hHeld.2.2.2.2.2.2.2.2.2.2.2.2.2.2.2.2.2.2.2.2.2.2.2.2.2.2.2.2.2.2.2 hb16⟩) (fun hNew => ?_)
                clear hK K hHeld
                have hHeld := hNew
                clear hNew
                try simp only [Act.put, List.setIfInBounds_toArray, List.set_cons_zero, List.set_cons_succ]
                replace hga := below_keep hb16 hga
                refine held_one 4 (by kernel_rfl) rfl (fun K hK => ?_)
                go_simp
                have hFB : w15.heap.size ≤ w16.heap.size := (hHeld.2.2.2.2.2.2.2.2.2.2.2.2.2.2.2.2.2.2.2.2.2.2.2.2.2.2.2.2.2.2.2).size
                have hGl := blk_lt hga
                go_at_call 26
                refine (laws_toValue v2 _).mono ?_; rintro e w17 ⟨rfl, hb17⟩
                go_wp2_with fail
                refine hK.out _ _ (by (try dsimp only); exact ⟨keep_cell hb17 hHeld.1, keep_cell hb17 hHeld.2.1, keep_cell hb17 hHeld.2.2.1, keep_cell hb17 hHeld.2.2.2.1, keep_cell hb17 hHeld.2.2.2.2.1, keep_lt hb17 hHeld.2.2.2.2.2.1, keep_cell hb17 hHeld.2.2.2.2.2.2.1, keep_cell hb17 hHeld.2.2.2.2.2.2.2.1, keep_cell hb17 hHeld.2.2.2.2.2.2.2.2.1, keep_lt hb17 hHeld.2.2.2.2.2.2.2.2.2.1, keep_cell hb17 hHeld.2.2.2.2.2.2.2.2.2.2.1, keep_cell hb17 hHeld.2.2.2.2.2.2.2.2.2.2.2.1, keep_cell hb17 hHeld.2.2.2.2.2.2.2.2.2.2.2.2.1, keep_cell hb17 hHeld.2.2.2.2.2.2.2.2.2.2.2.2.2.1, keep_cell hb17 hHeld.2.2.2.2.2.2.2.2.2.2.2.2.2.2.1, keep_lt hb17 hHeld.2.2.2.2.2.2.2.2.2.2.2.2.2.2.2.1, keep_cell hb17 hHeld.2.2.2.2.2.2.2.2.2.2.2.2.2.2.2.2.1, keep_cell hb17 hHeld.2.2.2.2.2.2.2.2.2.2.2.2.2.2.2.2.2.1, keep_cell hb17 hHeld.2.2.2.2.2.2.2.2.2.2.2.2.2.2.2.2.2.2.1, keep_cell hb17 hHeld.2.2.2.2.2.2.2.2.2.2.2.2.2.2.2.2.2.2.2.1, keep_cell hb17 hHeld.2.2.2.2.2.2.2.2.2.2.2.2.2.2.2.2.2.2.2.2.1, keep_lt hb17 hHeld.2.2.2.2.2.2.2.2.2.2.2.2.2.2.2.2.2.2.2.2.2.1, keep_cell hb17 hHeld.2.2.2.2.2.2.2.2.2.2.2.2.2.2.2.2.2.2.2.2.2.2.1, keep_cell hb17 hHeld.2.2.2.2.2.2.2.2.2.2.2.2.2.2.2.2.2.2.2.2.2.2.2.1, keep_cell hb17 hHeld.2.2.2.2.2.2.2.2.2.2.2.2.2.2.2.2.2.2.2.2.2.2.2.2.1, keep_cell hb17 hHeld.2.2.2.2.2.2.2.2.2.2.2.2.2.2.2.2.2.2.2.2.2.2.2.2.2.1, keep_cell hb17 hHeld.2.2.2.2.2.2.2.2.2.2.2.2.2.2.2.2.2.2.2.2.2.2.2.2.2.2.1, keep_lt hb17 hHeld.2.2.2.2.2.2.2.2.2.2.2.2.2.2.2.2.2.2.2.2.2.2.2.2.2.2.2.1, ex_trans hHeld.2.2.2.2.2.2.2.2.2.2.2.2.2.2.2.2.2.2.2.2.2.2.2.2.2.2.2.2.1 hb17, ex_trans hHeld.2.2.2.2.2.2.2.2.2.2.2.2.2.2.2.2.2.2.2.2.2.2.2.2.2.2.2.2.2.1 hb17, ex_trans hHeld.2.2.2.2.2.2.2.2.2.2.2.2.2.2.2.2.2.2.2.2.2.2.2.2.2.2.2.2.2.2.1 hb17, ex_trans hHeld.2.2.2.2.2.2.2.2.2.2.2.2.2.2.2.2.2.2.2.2.2.2.2.2.2.2.2.2.2.2.2 hb17⟩) (fun hNew => ?_)
                clear hK K hHeld
                have hHeld := hNew
                clear hNew
                try simp only [Act.put, List.setIfInBounds_toArray, List.set_cons_zero, List.set_cons_succ]
                replace hga := below_keep hb17 hga
                refine held_one 5 (by kernel_rfl) rfl (fun K hK => ?_)
                go_simp
                have hFB : w15.heap.size ≤ w17.heap.size := (hHeld.2.2.2.2.2.2.2.2.2.2.2.2.2.2.2.2.2.2.2.2.2.2.2.2.2.2.2.2.2.2.2).size
                have hGl := blk_lt hga
                go_at_call 27
                refine (impl_SetAttr f0 A'16 f0.attrs.length c'16 s1 v2 _ (hR16.mono mAtr (ex_trans (Below.refl _ _) hb17)) (by omega)).mono ?_; rintro e w18 hN18
                rw [← HE0.out] at hN18
                obtain ⟨A118, c118, bs18, rfl, hW18, hF18, hb18⟩ := hN18.v
                have hL18 := Lib.hid (hW18.lt lAtr)
                have hR18 := hW18.sl (R := RAtr) (fun h => h.1)
                go_wp2_with fail
                refine hK.out _ _ (by (try dsimp only); exact ⟨keep_cell hb18 hHeld.1, keep_cell hb18 hHeld.2.1, keep_cell hb18 hHeld.2.2.1, keep_cell hb18 hHeld.2.2.2.1, keep_cell hb18 hHeld.2.2.2.2.1, keep_lt hb18 hHeld.2.2.2.2.2.1, keep_cell hb18 hHeld.2.2.2.2.2.2.1, keep_cell hb18 hHeld.2.2.2.2.2.2.2.1, keep_cell hb18 hHeld.2.2.2.2.2.2.2.2.1, keep_lt hb18 hHeld.2.2.2.2.2.2.2.2.2.1, keep_cell hb18 hHeld.2.2.2.2.2.2.2.2.2.2.1, keep_cell hb18 hHeld.2.2.2.2.2.2.2.2.2.2.2.1, keep_cell hb18 hHeld.2.2.2.2.2.2.2.2.2.2.2.2.1, keep_cell hb18 hHeld.2.2.2.2.2.2.2.2.2.2.2.2.2.1, keep_cell hb18 hHeld.2.2.2.2.2.2.2.2.2.2.2.2.2.2.1, keep_lt hb18 hHeld.2.2.2.2.2.2.2.2.2.2.2.2.2.2.2.1, keep_cell hb18 hHeld.2.2.2.2.2.2.2.2.2.2.2.2.2.2.2.2.1, keep_cell hb18 hHeld.2.2.2.2.2.2.2.2.2.2.2.2.2.2.2.2.2.1, keep_cell hb18 hHeld.2.2.2.2.2.2.2.2.2.2.2.2.2.2.2.2.2.2.1, keep_cell hb18 hHeld.2.2.2.2.2.2.2.2.2.2.2.2.2.2.2.2.2.2.2.1, keep_cell hb18 hHeld.2.2.2.2.2.2.2.2.2.2.2.2.2.2.2.2.2.2.2.2.1, keep_lt hb18 hHeld.2.2.2.2.2.2.2.2.2.2.2.2.2.2.2.2.2.2.2.2.2.1, keep_cell hb18 hHeld.2.2.2.2.2.2.2.2.2.2.2.2.2.2.2.2.2.2.2.2.2.2.1, keep_cell hb18 hHeld.2.2.2.2.2.2.2.2.2.2.2.2.2.2.2.2.2.2.2.2.2.2.2.1, keep_cell hb18 hHeld.2.2.2.2.2.2.2.2.2.2.2.2.2.2.2.2.2.2.2.2.2.2.2.2.1, keep_cell hb18 hHeld.2.2.2.2.2.2.2.2.2.2.2.2.2.2.2.2.2.2.2.2.2.2.2.2.2.1, keep_cell hb18 hHeld.2.2.2.2.2.2.2.2.2.2.2.2.2.2.2.2.2.2.2.2.2.2.2.2.2.2.1, keep_lt hb18 hHeld.2.2.2.2.2.2.2.2.2.2.2.2.2.2.2.2.2.2.2.2.2.2.2.2.2.2.2.1, ex_trans hHeld.2.2.2.2.2.2.2.2.2.2.2.2.2.2.2.2.2.2.2.2.2.2.2.2.2.2.2.2.1 hb18, ex_trans hHeld.2.2.2.2.2.2.2.2.2.2.2.2.2.2.2.2.2.2.2.2.2.2.2.2.2.2.2.2.2.1 hb18, ex_trans hHeld.2.2.2.2.2.2.2.2.2.2.2.2.2.2.2.2.2.2.2.2.2.2.2.2.2.2.2.2.2.2.1 hb18, ex_trans hHeld.2.2.2.2.2.2.2.2.2.2.2.2.2.2.2.2.2.2.2.2.2.2.2.2.2.2.2.2.2.2.2 hb18⟩) (fun hNew => ?_)
                clear hK K hHeld
                have hHeld := hNew
                clear hNew
                try simp only [Act.put, List.setIfInBounds_toArray, List.set_cons_zero, List.set_cons_succ]
                replace hga := below_keep hb18 hga
                have gc := blk_cell? hga
                have gf := blk_free hga
                refine held_one 7 (by kernel_rfl) rfl (fun K hK => ?_)
                go_simp
                have hch : Chg [w15.heap.size] w18 (sets w18 (w15.heap.size) 0 [.int .i64 r0.id, .int .i64 r0.owner, .bool r0.shared, .int .i64 r0.link, .slice A118 r0.attrs.length c118]) := sets_chg (bs := [w15.heap.size]) (g := w15.heap.size) (w := w18) (w1 := w18) (by simp) _ _ 0 (Chg.refl _ _)
                have hgz : (sets w18 (w15.heap.size) 0 [.int .i64 r0.id, .int .i64 r0.owner, .bool r0.shared, .int .i64 r0.link, .slice A118 r0.attrs.length c118]).heap[w15.heap.size]? = some (.cells #[.int .i64 r0.id, .int .i64 r0.owner, .bool r0.shared, .int .i64 r0.link, .slice A118 r0.attrs.length c118] 45 (0, 0)) := sets_blk _ _ _ _ hga
                have hne : ∀ b ∈ bs18, b ≠ w15.heap.size := fun b hb => by have h1 := hF18.2 b hb; omega
                have hW18z := (hW18).loc (w' := (sets w18 (w15.heap.size) 0 [.int .i64 r0.id, .int .i64 r0.owner, .bool r0.shared, .int .i64 r0.link, .slice A118 r0.attrs.length c118])) lAtr (fun b hb => hch.block b (hL18.out b hb) (fun h => hne b hb (by simpa using h)))
                refine hK.out _ _ (by (try dsimp only); exact ⟨hch.cell hHeld.1 (fun h => by simp only [List.mem_singleton] at h; omega), hch.cell hHeld.2.1 (fun h => by simp only [List.mem_singleton] at h; omega), hch.cell hHeld.2.2.1 (fun h => by simp only [List.mem_singleton] at h; omega), hch.cell hHeld.2.2.2.1 (fun h => by simp only [List.mem_singleton] at h; omega), hch.cell hHeld.2.2.2.2.1 (fun h => by simp only [List.mem_singleton] at h; omega), Nat.lt_of_lt_of_le hHeld.2.2.2.2.2.1 hch.size, hch.cell hHeld.2.2.2.2.2.2.1 (fun h => by simp only [List.mem_singleton] at h; omega), hch.cell hHeld.2.2.2.2.2.2.2.1 (fun h => by simp only [List.mem_singleton] at h; omega), hch.cell hHeld.2.2.2.2.2.2.2.2.1 (fun h => by simp only [List.mem_singleton] at h; omega), Nat.lt_of_lt_of_le hHeld.2.2.2.2.2.2.2.2.2.1 hch.size, hch.cell hHeld.2.2.2.2.2.2.2.2.2.2.1 (fun h => by simp only [List.mem_singleton] at h; omega), hch.cell hHeld.2.2.2.2.2.2.2.2.2.2.2.1 (fun h => by simp only [List.mem_singleton] at h; omega), hch.cell hHeld.2.2.2.2.2.2.2.2.2.2.2.2.1 (fun h => by simp only [List.mem_singleton] at h; omega), hch.cell hHeld.2.2.2.2.2.2.2.2.2.2.2.2.2.1 (fun h => by simp only [List.mem_singleton] at h; omega), hch.cell hHeld.2.2.2.2.2.2.2.2.2.2.2.2.2.2.1 (fun h => by simp only [List.mem_singleton] at h; omega), Nat.lt_of_lt_of_le hHeld.2.2.2.2.2.2.2.2.2.2.2.2.2.2.2.1 hch.size, hch.cell hHeld.2.2.2.2.2.2.2.2.2.2.2.2.2.2.2.2.1 (fun h => by simp only [List.mem_singleton] at h; omega), hch.cell hHeld.2.2.2.2.2.2.2.2.2.2.2.2.2.2.2.2.2.1 (fun h => by simp only [List.mem_singleton] at h; omega), hch.cell hHeld.2.2.2.2.2.2.2.2.2.2.2.2.2.2.2.2.2.2.1 (fun h => by simp only [List.mem_singleton] at h; omega), hch.cell hHeld.2.2.2.2.2.2.2.2.2.2.2.2.2.2.2.2.2.2.2.1 (fun h => by simp only [List.mem_singleton] at h; omega), hch.cell hHeld.2.2.2.2.2.2.2.2.2.2.2.2.2.2.2.2.2.2.2.2.1 (fun h => by simp only [List.mem_singleton] at h; omega), Nat.lt_of_lt_of_le hHeld.2.2.2.2.2.2.2.2.2.2.2.2.2.2.2.2.2.2.2.2.2.1 hch.size, hch.cell hHeld.2.2.2.2.2.2.2.2.2.2.2.2.2.2.2.2.2.2.2.2.2.2.1 (fun h => by simp only [List.mem_singleton] at h; omega), hch.cell hHeld.2.2.2.2.2.2.2.2.2.2.2.2.2.2.2.2.2.2.2.2.2.2.2.1 (fun h => by simp only [List.mem_singleton] at h; omega), hch.cell hHeld.2.2.2.2.2.2.2.2.2.2.2.2.2.2.2.2.2.2.2.2.2.2.2.2.1 (fun h => by simp only [List.mem_singleton] at h; omega), hch.cell hHeld.2.2.2.2.2.2.2.2.2.2.2.2.2.2.2.2.2.2.2.2.2.2.2.2.2.1 (fun h => by simp only [List.mem_singleton] at h; omega), hch.cell hHeld.2.2.2.2.2.2.2.2.2.2.2.2.2.2.2.2.2.2.2.2.2.2.2.2.2.2.1 (fun h => by simp only [List.mem_singleton] at h; omega), Nat.lt_of_lt_of_le hHeld.2.2.2.2.2.2.2.2.2.2.2.2.2.2.2.2.2.2.2.2.2.2.2.2.2.2.2.1 hch.size, Below.mark hHeld.2.2.2.2.2.2.2.2.2.2.2.2.2.2.2.2.2.2.2.2.2.2.2.2.2.2.2.2.1 hch (hHeld.2.2.2.2.2.2.2.2.2.2.2.2.2.2.2.2.2.2.2.2.2.2.2.2.2.2.2.2.1).size (fun b hb => by have h1 := hK0.size; simp only [List.mem_singleton] at hb; omega), Below.mark hHeld.2.2.2.2.2.2.2.2.2.2.2.2.2.2.2.2.2.2.2.2.2.2.2.2.2.2.2.2.2.1 hch (hHeld.2.2.2.2.2.2.2.2.2.2.2.2.2.2.2.2.2.2.2.2.2.2.2.2.2.2.2.2.2.1).size (fun b hb => by have h1 := hK5.size; simp only [List.mem_singleton] at hb; omega), Below.mark hHeld.2.2.2.2.2.2.2.2.2.2.2.2.2.2.2.2.2.2.2.2.2.2.2.2.2.2.2.2.2.2.1 hch (hHeld.2.2.2.2.2.2.2.2.2.2.2.2.2.2.2.2.2.2.2.2.2.2.2.2.2.2.2.2.2.2.1).size (fun b hb => by have h1 := hK14.size; simp only [List.mem_singleton] at hb; omega), Below.mark hHeld.2.2.2.2.2.2.2.2.2.2.2.2.2.2.2.2.2.2.2.2.2.2.2.2.2.2.2.2.2.2.2 hch (hHeld.2.2.2.2.2.2.2.2.2.2.2.2.2.2.2.2.2.2.2.2.2.2.2.2.2.2.2.2.2.2.2).size (fun b hb => by have h1 := hK929.size; simp only [List.mem_singleton] at hb; omega)⟩) (fun hNew => ?_)
                clear hK K hHeld
                have hHeld := hNew
                clear hNew
                try simp only [Act.put, List.setIfInBounds_toArray, List.set_cons_zero, List.set_cons_succ]
                refine wpAnyH_done (by kernel_rfl) ?_ _
                go_wp2_with fail
                go_meet
                exact ⟨w15.heap.size, A118, c118, bs18, rfl, hGs, hgz, hW18z, ⟨hF18.1, fun b hb => Nat.le_trans (hFB) (hF18.2 b hb)⟩, fun h => hne _ h rfl, hHeld⟩
            case rest =>
              generalize wc = w18 at *
              obtain ⟨g18, A118, c118, bs18, rfl, hgs18, hga18, hW18, hF18, hgn18, x0_0', x0_1', x0_2', x0_3', x0_4', z0', x1_0', x1_1', x1_2', z1', x2_0', x2_1', x2_2', x2_3', x2_4', z2', x3_0', x3_1', x3_2', x3_3', x3_4', z3', x4_0', x4_1', x4_2', x4_3', x4_4', z4', hK0', hK5', hK14', hK929'⟩ := hcut
              have hL18 := Lib.hid (hW18.lt lAtr)
              have hR18 := hW18.sl (R := RAtr) (fun h => h.1)
              clear x0_0 x0_1 x0_2 x0_3 x0_4 z0 x1_0 x1_1 x1_2 z1 x2_0 x2_1 x2_2 x2_3 x2_4 z2 x3_0 x3_1 x3_2 x3_3 x3_4 z3 x4_0 x4_1 x4_2 x4_3 x4_4 z4 hK0 hK5 hK14 hK929 hgn18
              have x0_0 := x0_0'
              clear x0_0'
              have x0_1 := x0_1'
              clear x0_1'
              have x0_2 := x0_2'
              clear x0_2'
              have x0_3 := x0_3'
              clear x0_3'
              have x0_4 := x0_4'
              clear x0_4'
              have z0 := z0'
              clear z0'
              have x1_0 := x1_0'
              clear x1_0'
              have x1_1 := x1_1'
              clear x1_1'
              have x1_2 := x1_2'
              clear x1_2'
              have z1 := z1'
              clear z1'
              have x2_0 := x2_0'
              clear x2_0'
              have x2_1 := x2_1'
              clear x2_1'
              have x2_2 := x2_2'
              clear x2_2'
              have x2_3 := x2_3'
              clear x2_3'
              have x2_4 := x2_4'
              clear x2_4'
              have z2 := z2'
              clear z2'
              have x3_0 := x3_0'
              clear x3_0'
              have x3_1 := x3_1'
              clear x3_1'
              have x3_2 := x3_2'
              clear x3_2'
              have x3_3 := x3_3'
              clear x3_3'
              have x3_4 := x3_4'
              clear x3_4'
              have z3 := z3'
              clear z3'
              have x4_0 := x4_0'
              clear x4_0'
              have x4_1 := x4_1'
              clear x4_1'
              have x4_2 := x4_2'
              clear x4_2'
              have x4_3 := x4_3'
              clear x4_3'
              have x4_4 := x4_4'
              clear x4_4'
              have z4 := z4'
              clear z4'
              have hK0 := hK0'
              clear hK0'
              have hK5 := hK5'
              clear hK5'
              have hK14 := hK14'
              clear hK14'
              clear hK929'
              have x5_0 : w18.cell? ⟨g18, 0, none⟩ = some (.int .i64 r0.id) := blk_cell? hga18 0
              have x5_1 : w18.cell? ⟨g18, 1, none⟩ = some (.int .i64 r0.owner) := blk_cell? hga18 1
              have x5_2 : w18.cell? ⟨g18, 2, none⟩ = some (.bool r0.shared) := blk_cell? hga18 2
              have x5_3 : w18.cell? ⟨g18, 3, none⟩ = some (.int .i64 r0.link) := blk_cell? hga18 3
              have x5_4 : w18.cell? ⟨g18, 4, none⟩ = some (.slice A118 r0.attrs.length c118) := blk_cell? hga18 4
              have z5 : g18 < w18.heap.size := blk_lt hga18
              clear hga18 hgs18
              have hK18 := Below.refl w18.heap.size w18
              go_wp2_with fail
              refine (laws_eqFile_same r0 A118 r0.attrs.length c118 A105 r0.attrs.length c105 _ (hR18.mono mAtr (ex_trans hK18 (by go_grown))) (hR5.mono mAtr (ex_trans hK5 (by go_grown))) hok0).mono ?_; rintro e w19 ⟨rfl, hb19⟩
              have hx19 : Below w18.heap.size w18 w19 := ex_trans (by go_grown) hb19
              replace hK0 := ex_trans hK0 hx19
              replace hK5 := ex_trans hK5 hx19
              replace hK14 := ex_trans hK14 hx19
              replace hK18 := ex_trans hK18 hx19
              replace x0_0 := keep_cell hx19 x0_0
              replace x0_1 := keep_cell hx19 x0_1
              replace x0_2 := keep_cell hx19 x0_2
              replace x0_3 := keep_cell hx19 x0_3
              replace x0_4 := keep_cell hx19 x0_4
              replace z0 := keep_lt hx19 z0
              replace x1_0 := keep_cell hx19 x1_0
              replace x1_1 := keep_cell hx19 x1_1
              replace x1_2 := keep_cell hx19 x1_2
              replace z1 := keep_lt hx19 z1
              replace x2_0 := keep_cell hx19 x2_0
              replace x2_1 := keep_cell hx19 x2_1
              replace x2_2 := keep_cell hx19 x2_2
              replace x2_3 := keep_cell hx19 x2_3
              replace x2_4 := keep_cell hx19 x2_4
              replace z2 := keep_lt hx19 z2
              replace x3_0 := keep_cell hx19 x3_0
              replace x3_1 := keep_cell hx19 x3_1
              replace x3_2 := keep_cell hx19 x3_2
              replace x3_3 := keep_cell hx19 x3_3
              replace x3_4 := keep_cell hx19 x3_4
              replace z3 := keep_lt hx19 z3
              replace x4_0 := keep_cell hx19 x4_0
              replace x4_1 := keep_cell hx19 x4_1
              replace x4_2 := keep_cell hx19 x4_2
              replace x4_3 := keep_cell hx19 x4_3
              replace x4_4 := keep_cell hx19 x4_4
              replace z4 := keep_lt hx19 z4
              replace x5_0 := keep_cell hx19 x5_0
              replace x5_1 := keep_cell hx19 x5_1
              replace x5_2 := keep_cell hx19 x5_2
              replace x5_3 := keep_cell hx19 x5_3
              replace x5_4 := keep_cell hx19 x5_4
              replace z5 := keep_lt hx19 z5
              go_wp2_with fail
              refine (laws_heldFile r0 A108 r0.attrs.length c108 1 _ (hMR14_hW8.mono mAtr (ex_trans hK14 (by go_grown))) (by omega) (by omega) (by omega)).mono ?_; rintro e w20 ⟨rfl, hb20⟩
              have hx20 : Below w19.heap.size w19 w20 := ex_trans (by go_grown) hb20
              replace hK0 := ex_trans hK0 hx20
              replace hK5 := ex_trans hK5 hx20
              replace hK14 := ex_trans hK14 hx20
              replace hK18 := ex_trans hK18 hx20
              replace x0_0 := keep_cell hx20 x0_0
              replace x0_1 := keep_cell hx20 x0_1
              replace x0_2 := keep_cell hx20 x0_2
              replace x0_3 := keep_cell hx20 x0_3
              replace x0_4 := keep_cell hx20 x0_4
              replace z0 := keep_lt hx20 z0
              replace x1_0 := keep_cell hx20 x1_0
              replace x1_1 := keep_cell hx20 x1_1
              replace x1_2 := keep_cell hx20 x1_2
              replace z1 := keep_lt hx20 z1
              replace x2_0 := keep_cell hx20 x2_0
              replace x2_1 := keep_cell hx20 x2_1
              replace x2_2 := keep_cell hx20 x2_2
              replace x2_3 := keep_cell hx20 x2_3
              replace x2_4 := keep_cell hx20 x2_4
              replace z2 := keep_lt hx20 z2
              replace x3_0 := keep_cell hx20 x3_0
              replace x3_1 := keep_cell hx20 x3_1
              replace x3_2 := keep_cell hx20 x3_2
              replace x3_3 := keep_cell hx20 x3_3
              replace x3_4 := keep_cell hx20 x3_4
              replace z3 := keep_lt hx20 z3
              replace x4_0 := keep_cell hx20 x4_0
              replace x4_1 := keep_cell hx20 x4_1
              replace x4_2 := keep_cell hx20 x4_2
              replace x4_3 := keep_cell hx20 x4_3
              replace x4_4 := keep_cell hx20 x4_4
              replace z4 := keep_lt hx20 z4
              replace x5_0 := keep_cell hx20 x5_0
              replace x5_1 := keep_cell hx20 x5_1
              replace x5_2 := keep_cell hx20 x5_2
              replace x5_3 := keep_cell hx20 x5_3
              replace x5_4 := keep_cell hx20 x5_4
              replace z5 := keep_lt hx20 z5
              go_wp2_with fail
              go_returns
              exact ⟨rfl, hK0⟩
      · have g2 : (-1 : Int) < 0 := by omega
        have hK0 := Below.refl W.heap.size W
        go_enter Try.func4, Try.ntmps4
        go_wp2_with fail
        refine (laws_szFile_ok f0 A0 f0.attrs.length c0 1048576 _ (hS0.mono mAtr (ex_trans hK0 (by go_grown))) hf0 (by omega) (by omega) (by omega)).mono ?_; rintro e w1 ⟨rfl, hb1⟩
        have hx1 : Below W.heap.size W w1 := ex_trans (by go_grown) hb1
        replace hK0 := ex_trans hK0 hx1
        have x0_0 : w1.cell? ⟨W.heap.size, 0, none⟩ = some (.int .i64 f0.id) := keep_cell hb1 (by go_simp)
        have x0_1 : w1.cell? ⟨W.heap.size, 1, none⟩ = some (.int .i64 f0.owner) := keep_cell hb1 (by go_simp)
        have x0_2 : w1.cell? ⟨W.heap.size, 2, none⟩ = some (.bool f0.shared) := keep_cell hb1 (by go_simp)
        have x0_3 : w1.cell? ⟨W.heap.size, 3, none⟩ = some (.int .i64 f0.link) := keep_cell hb1 (by go_simp)
        have x0_4 : w1.cell? ⟨W.heap.size, 4, none⟩ = some (.slice A0 f0.attrs.length c0) := keep_cell hb1 (by go_simp)
        have z0 : W.heap.size < w1.heap.size := keep_lt hb1 (by simp <;> omega)
        have x1_0 : w1.cell? ⟨W.heap.size + 1, 0, none⟩ = some (.int .i64 v2.kind) := keep_cell hb1 (by go_simp)
        have x1_1 : w1.cell? ⟨W.heap.size + 1, 1, none⟩ = some (.int .i64 v2.int) := keep_cell hb1 (by go_simp)
        have x1_2 : w1.cell? ⟨W.heap.size + 1, 2, none⟩ = some (.string v2.str) := keep_cell hb1 (by go_simp)
        have z1 : W.heap.size + 1 < w1.heap.size := keep_lt hb1 (by simp <;> omega)
        go_wp2_with fail
        refine (laws_szValue_no v2 (1048576 - f0.sz) _ hv2 (by omega) (by omega) (by omega)).mono ?_; rintro e w2 ⟨rfl, hb2⟩
        have hx2 : Below w1.heap.size w1 w2 := ex_trans (by go_grown) hb2
        replace hK0 := ex_trans hK0 hx2
        replace x0_0 := keep_cell hx2 x0_0
        replace x0_1 := keep_cell hx2 x0_1
        replace x0_2 := keep_cell hx2 x0_2
        replace x0_3 := keep_cell hx2 x0_3
        replace x0_4 := keep_cell hx2 x0_4
        replace z0 := keep_lt hx2 z0
        replace x1_0 := keep_cell hx2 x1_0
        replace x1_1 := keep_cell hx2 x1_1
        replace x1_2 := keep_cell hx2 x1_2
        replace z1 := keep_lt hx2 z1
        go_wp2_with fail
        go_returns
        exact ⟨rfl, hK0⟩
    · have g0 : (-1 : Int) < 0 := by omega
      have hK0 := Below.refl W.heap.size W
      go_enter Try.func4, Try.ntmps4
      go_wp2_with fail
      refine (laws_szFile_no f0 A0 f0.attrs.length c0 1048576 _ (hS0.mono mAtr (ex_trans hK0 (by go_grown))) hf0 (by omega) (by omega) (by omega)).mono ?_; rintro e w1 ⟨rfl, hb1⟩
      have hx1 : Below W.heap.size W w1 := ex_trans (by go_grown) hb1
      replace hK0 := ex_trans hK0 hx1
      have x0_0 : w1.cell? ⟨W.heap.size, 0, none⟩ = some (.int .i64 f0.id) := keep_cell hb1 (by go_simp)
      have x0_1 : w1.cell? ⟨W.heap.size, 1, none⟩ = some (.int .i64 f0.owner) := keep_cell hb1 (by go_simp)
      have x0_2 : w1.cell? ⟨W.heap.size, 2, none⟩ = some (.bool f0.shared) := keep_cell hb1 (by go_simp)
      have x0_3 : w1.cell? ⟨W.heap.size, 3, none⟩ = some (.int .i64 f0.link) := keep_cell hb1 (by go_simp)
      have x0_4 : w1.cell? ⟨W.heap.size, 4, none⟩ = some (.slice A0 f0.attrs.length c0) := keep_cell hb1 (by go_simp)
      have z0 : W.heap.size < w1.heap.size := keep_lt hb1 (by simp <;> omega)
      have x1_0 : w1.cell? ⟨W.heap.size + 1, 0, none⟩ = some (.int .i64 v2.kind) := keep_cell hb1 (by go_simp)
      have x1_1 : w1.cell? ⟨W.heap.size + 1, 1, none⟩ = some (.int .i64 v2.int) := keep_cell hb1 (by go_simp)
      have x1_2 : w1.cell? ⟨W.heap.size + 1, 2, none⟩ = some (.string v2.str) := keep_cell hb1 (by go_simp)
      have z1 : W.heap.size + 1 < w1.heap.size := keep_lt hb1 (by simp <;> omega)
      go_wp2_with fail
      go_returns
      exact ⟨rfl, hK0⟩
  · have hd1 : (1048576 : Int) < (s1.size : Int) := by omega
    go_enter Try.func4, Try.ntmps4
    go_wp2_with fail
    go_returns
    exact ⟨rfl, by go_grown⟩
theorem core_FnExactSetAttr {H : Type} (enc : TypeId × Value → H) (W : World) (base : Nat) (args : Array Value) (ds : List (DataW H)) (p : List MemPlace)
    (hA : DataW.TrodAll enc Try.prog W 0 (fun _ => true) true Try.f4.params.toList args.toList ds p)
    (hval : ∀ (j : Nat) t v, Try.f4.params[j]? = some t → args[j]? = some v → Value.okWide Try.prog W .any base t v) :
    Calls Try.prog 4 args W fun e W' => e = .returned (.bool true) ∧ Below W.heap.size W W' := by
  rw [Try.params4] at hA hval
  obtain ⟨u0, vs0, d0, ds0, p0, q0, hargs, rfl, rfl, h0, r0⟩ := trodAll_cons hA
  obtain ⟨u1, vs1, d1, ds1, p1, q1, rfl, rfl, rfl, h1, r1⟩ := trodAll_cons r0
  obtain ⟨u2, vs2, d2, ds2, p2, q2, rfl, rfl, rfl, h2, r2⟩ := trodAll_cons r1
  obtain ⟨rfl, rfl, rfl⟩ := trodAll_nil r2
  obtain rfl : args = #[u0, u1, u2] := by cases args; simp_all
  obtain ⟨fu0, g0⟩ := h0
  obtain ⟨x0, e0, ok0⟩ := Op_File.2 _ _ _ g0
  obtain ⟨A0, n0, c0, e0, hS0⟩ := e0
  have z0 := agg_of Try.underlying38 (hval 0 38 u0 rfl rfl)
  have y0 : u0 = .agg ⟨_⟩ := z0.trans (congrArg (fun l => Value.agg ⟨l⟩) e0)
  subst y0
  obtain ⟨s1, rfl, _, _, hs1⟩ := open_string Try.underlying9 (hval 1 9 u1 rfl rfl) h1
  obtain ⟨fu2, g2⟩ := h2
  obtain ⟨x2, e2, ok2⟩ := Op_Value.2 _ _ _ g2
  have z2 := agg_of Try.underlying40 (hval 2 40 u2 rfl rfl)
  have y2 : u2 = .agg ⟨_⟩ := z2.trans (congrArg (fun l => Value.agg ⟨l⟩) e2)
  subst y2
  exact walk_FnExactSetAttr W x0 A0 n0 c0 hS0 ok0 s1 hs1 x2 ok2
set_option maxRecDepth 100000 in
theorem lifted_FnExactSetAttr (os : Os) (started : os.Started) (H : Type) (enc : TypeId × Value → H) :
    ReturnsInHanded {} Try.checked os 4 .any (Rows.fnExactSetAttrSpec.pre6 enc Try.prog Try.f4 Rows.fnExactSetAttrRow.domain false) (Rows.fnExactSetAttrSpec.post enc Try.prog Try.f4 false true false false) :=
  law_lifted (C := Try.checked) (tb := 4) (n := 3) own started (by kernel_rfl) Try.func4 rfl (by kernel_rfl) Try.underlying4 (by kernel_rfl)
    (fun ds h => by match ds, h with | [_, _, _], _ => rfl) laidOut' (by kernel_rfl)
    (ChangeSpec.witness6 (enc := enc) (C := Try.checked) false ⟨#[], #[.agg #[.int .i64 0, .int .i64 0, .bool false, .int .i64 0, .slice none 0 0], .string ByteArray.empty, .agg #[.int .i64 0, .int .i64 0, .string ByteArray.empty]], []⟩ 8 (by kernel_rfl) (by kernel_rfl) (by kernel_rfl) (by kernel_rfl))
    (fun W base args ds p hA hval => core_FnExactSetAttr enc W base args ds p hA hval)
theorem holds_FnExactSetAttr : Rows.FnExactSetAttrSaid :=
  OpenClaim.holds_of_wide 4 Try.f4 rfl rfl rfl rfl rfl rfl rfl ⟨rfl, rfl, rfl, rfl, rfl⟩ rfl rfl rfl rfl rfl (by kernel_rfl) Try.func4 (by kernel_rfl)
    (of_decide_eq_true (by kernel_rfl)) (by unfold Func.isWrapper; first | (rw [if_pos (by decide +kernel)]; kernel_rfl) | (rw [if_neg (by decide +kernel)]; exact ⟨rfl, rfl⟩))
    (fun os started H enc _ => lifted_FnExactSetAttr os started H enc)
end Go.Proofs.Ytkpdnklaopbllaa
