/-
  FnSetAttrTwice RETURNS true AND LEAVES ITS ARGUMENTS AS THEY WERE, FOR EVERY INPUT THAT THE STATEMENT SPEAKS OF. No condition.
-/
import Derived.WalkKit
import Derived.ProofKit
import Derived.OpenShut
import Derived.Handy
import Derived.Lib.Hide
import Derived.Deep.QuietTactic
import Derived.BigQuiet
import Derived.Deep.RegionHeld3
import Derived.Deep.DeepCutAuto
import Derived.Test.YtjobgnioehkomaaLib
import Derived.Test.YtjobgnioehkomaaOp
import Derived.Test.YtjobgnioehkomaaC1
import Derived.Test.YtjobgnioehkomaaC2
import Derived.Test.YtjobgnioehkomaaC4
import Derived.Test.YtjobgnioehkomaaOwn
import Derived.Test.YtjobgnioehkomaaRow
import Derived.Test.YtjobgnioehkomaaN0
import Derived.Test.YtjobgnioehkomaaHld
import Derived.Test.YtjobgnioehkomaaD1
import Derived.Test.YtjobgnioehkomaaD3
import Derived.Test.YtjobgnioehkomaaD4
import Derived.Test.YtjobgnioehkomaaD5
import Derived.Test.YtjobgnioehkomaaD7
import Derived.Test.YtjobgnioehkomaaE4
import Derived.Test.YtjobgnioehkomaaH1
import Derived.Test.YtjobgnioehkomaaI1
import Derived.Test.YtjobgnioehkomaaI2
import Derived.Test.YtjobgnioehkomaaD8
import Derived.Test.YtjobgnioehkomaaSz
import Derived.Test.YtjobgnioehkomaaT1
import Derived.Test.YtjobgnioehkomaaT2
import Derived.Test.YtjobgnioehkomaaT3
import Derived.Test.YtjobgnioehkomaaY1
import Derived.Test.YtjobgnioehkomaaY2
import Derived.Test.YtjobgnioehkomaaY3
import Derived.Test.YtjobgnioehkomaaY9
import Derived.Test.YtjobgnioehkomaaS0
import Derived.Test.YtjobgnioehkomaaS1
import Derived.Test.YtjobgnioehkomaaS2
import Derived.Test.YtjobgnioehkomaaRows
namespace Go.Proofs.Ytjobgnioehkomaa
open Go.RowKit Go.ChangeShapes Go.WideShapes Go.ChangeAt Go.ChangeMaps
set_option linter.unusedVariables false
set_option maxRecDepth 100000
set_option maxHeartbeats 8000000 in
theorem walk_FnSetAttrTwice (W : World) (A0 : Option Addr) (n0 c0 : Nat) (l0 : List Int) (hS0 : Sl 1 RByt W A0 n0 l0) (hn0 : n0 ≤ maxLen) (hl0 : ∀ y ∈ l0, 0 ≤ y ∧ y ≤ 255) : Calls Try.prog 3 #[.slice A0 n0 c0] W fun e w' => e = .returned (.bool true) ∧ Below W.heap.size W w' := by
  by_cases hc : n0 ≤ 1048576
  · have HD := Lib.hid (spec_DrawPlaces A0 n0 c0 l0 W hS0 hc hl0)
    clear hS0 hl0
    go_enter Try.func3, Try.ntmps3
    go_wp2_with fail
    refine (laws_big_f A0 n0 c0 _ hc).mono ?_; rintro e w0 ⟨rfl, rfl⟩
    go_wp2_with fail
    refine HD.out.mono ?_; rintro e w1 ⟨A1, c1, ps, rfl, hr1, hps, hb1⟩
    have hp12 : ps.length = 12 := hr1.len
    have hcap := hr1.le
    obtain ⟨pb, po, rfl, hpb, hpc⟩ := (hr1.sl (R := RInt) encInt (fun _ => rfl)).int (by omega)
    have p0 := hpc 0 (by omega)
    have p1 := hpc 1 (by omega)
    simp only [Nat.add_zero] at p0
    obtain ⟨pa, hpa⟩ : ∃ x, x = ps[0]'(by omega) := ⟨_, rfl⟩
    obtain ⟨pd, hpd⟩ : ∃ x, x = ps[1]'(by omega) := ⟨_, rfl⟩
    rw [← hpa] at p0
    rw [← hpd] at p1
    clear hr1 hps hpc HD hpa hpd hp12
    go_upto_region 5 with fail
    have hf : (World.alloc w1 (.cells #[.int .i64 1, .int .i64 0, .bool false, .int .i64 0, .slice none 0 0] 28)).heap[w1.heap.size]? = some (.cells #[.int .i64 1, .int .i64 0, .bool false, .int .i64 0, .slice none 0 0] 28 (0, 0)) := hp_new rfl
    have hba : Below w1.heap.size w1 (World.alloc w1 (.cells #[.int .i64 1, .int .i64 0, .bool false, .int .i64 0, .slice none 0 0] 28)) := (Below.refl _ _).alloc (Nat.le_refl _) _
    generalize World.alloc w1 _ = W0 at *
    replace p0 := keep_cell hba p0
    replace p1 := keep_cell hba p1
    have hB0 := ex_trans hb1 hba
    replace hpb := keep_lt hba hpb
    have hgf : w1.heap.size < W0.heap.size := blk_lt hf
    have f0 := blk_cell? hf 0
    have f1 := blk_cell? hf 1
    have f2 := blk_cell? hf 2
    have f3 := blk_cell? hf 3
    have f4 := blk_cell? hf 4
    simp only [List.getElem?_toArray, List.getElem?_cons_zero, List.getElem?_cons_succ] at f0 f1 f2 f3 f4
    clear hf hba hb1
    generalize w1.heap.size = gf at *
    have HB0 := Lib.hid hB0
    clear hB0
    go_cut [5, 6] (fun s5 s6 w' => ∃ (g h : Nat) (x y : Int), s5 = .pointer (some ⟨g, 0, none⟩) ∧ s6 = .pointer (some ⟨h, 0, none⟩) ∧ w'.cell? ⟨g, 0, none⟩ = some (.int .i64 (intV x).kind) ∧ w'.cell? ⟨g, 1, none⟩ = some (.int .i64 (intV x).int) ∧ w'.cell? ⟨g, 2, none⟩ = some (.string (intV x).str) ∧ w'.cell? ⟨h, 0, none⟩ = some (.int .i64 (intV y).kind) ∧ w'.cell? ⟨h, 1, none⟩ = some (.int .i64 (intV y).int) ∧ w'.cell? ⟨h, 2, none⟩ = some (.string (intV y).str) ∧ w'.cell? ⟨gf, 0, none⟩ = some (.int .i64 1) ∧ w'.cell? ⟨gf, 1, none⟩ = some (.int .i64 0) ∧ w'.cell? ⟨gf, 2, none⟩ = some (.bool false) ∧ w'.cell? ⟨gf, 3, none⟩ = some (.int .i64 0) ∧ w'.cell? ⟨gf, 4, none⟩ = some (.slice none 0 0) ∧ Below W.heap.size W w')
    case first =>
      refine wp_region_held_drew (S := (fun w' => w'.cell? ⟨pb, po, none⟩ = some (.int .i64 pa) ∧ w'.cell? ⟨pb, po + 1, none⟩ = some (.int .i64 pd) ∧ w'.cell? ⟨gf, 0, none⟩ = some (.int .i64 1) ∧ w'.cell? ⟨gf, 1, none⟩ = some (.int .i64 0) ∧ w'.cell? ⟨gf, 2, none⟩ = some (.bool false) ∧ w'.cell? ⟨gf, 3, none⟩ = some (.int .i64 0) ∧ w'.cell? ⟨gf, 4, none⟩ = some (.slice none 0 0) ∧ Below W0.heap.size W0 w')) (by kernel_rfl) (by (try dsimp only); exact ⟨p0, p1, f0, f1, f2, f3, f4, (Below.refl _ _).drew⟩) (fun hHeld => ?_)
      first | (refine held_take 0 rfl (by kernel_rfl) (by kernel_rfl) (by kernel_rfl) (by rfl) (fun _ _ _ h => h) (by assumption) (by intro w hSw; (try dsimp only at hSw); go_simp; first | done | with_reducible rfl) ?_) | (refine held_skip 0 rfl (by kernel_rfl) (by kernel_rfl) (by kernel_rfl) (by rfl) (fun _ _ _ h => h) (by assumption) ?_)
      simp only [Act.put, List.setIfInBounds_toArray, List.set_cons_zero, List.set_cons_succ]
      first | (refine held_take 1 rfl (by kernel_rfl) (by kernel_rfl) (by kernel_rfl) (by rfl) (fun _ _ _ h => h) (by assumption) (by intro w hSw; (try dsimp only at hSw); go_simp; first | done | with_reducible rfl) ?_) | (refine held_skip 1 rfl (by kernel_rfl) (by kernel_rfl) (by kernel_rfl) (by rfl) (fun _ _ _ h => h) (by assumption) ?_)
      simp only [Act.put, List.setIfInBounds_toArray, List.set_cons_zero, List.set_cons_succ]
      first | (refine held_take 2 rfl (by kernel_rfl) (by kernel_rfl) (by kernel_rfl) (by rfl) (fun _ _ _ h => h) (by assumption) (by intro w hSw; (try dsimp only at hSw); go_simp; first | done | with_reducible rfl) ?_) | (refine held_skip 2 rfl (by kernel_rfl) (by kernel_rfl) (by kernel_rfl) (by rfl) (fun _ _ _ h => h) (by assumption) ?_)
      simp only [Act.put, List.setIfInBounds_toArray, List.set_cons_zero, List.set_cons_succ]
      first | (refine held_take 3 rfl (by kernel_rfl) (by kernel_rfl) (by kernel_rfl) (by rfl) (fun _ _ _ h => h) (by assumption) (by intro w hSw; (try dsimp only at hSw); go_simp; first | done | with_reducible rfl) ?_) | (refine held_skip 3 rfl (by kernel_rfl) (by kernel_rfl) (by kernel_rfl) (by rfl) (fun _ _ _ h => h) (by assumption) ?_)
      simp only [Act.put, List.setIfInBounds_toArray, List.set_cons_zero, List.set_cons_succ]
      first | (refine held_take 5 rfl (by kernel_rfl) (by kernel_rfl) (by kernel_rfl) (by rfl) (fun _ _ _ h => h) (by assumption) (by intro w hSw; (try dsimp only at hSw); go_simp; first | done | with_reducible rfl) ?_) | (refine held_skip 5 rfl (by kernel_rfl) (by kernel_rfl) (by kernel_rfl) (by rfl) (fun _ _ _ h => h) (by assumption) ?_)
      simp only [Act.put, List.setIfInBounds_toArray, List.set_cons_zero, List.set_cons_succ]
      first | (refine held_take 6 rfl (by kernel_rfl) (by kernel_rfl) (by kernel_rfl) (by rfl) (fun _ _ _ h => h) (by assumption) (by intro w hSw; (try dsimp only at hSw); go_simp; first | done | with_reducible rfl) ?_) | (refine held_skip 6 rfl (by kernel_rfl) (by kernel_rfl) (by kernel_rfl) (by rfl) (fun _ _ _ h => h) (by assumption) ?_)
      simp only [Act.put, List.setIfInBounds_toArray, List.set_cons_zero, List.set_cons_succ]
      first | (refine held_take 7 rfl (by kernel_rfl) (by kernel_rfl) (by kernel_rfl) (by rfl) (fun _ _ _ h => h) (by assumption) (by intro w hSw; (try dsimp only at hSw); go_simp; first | done | with_reducible rfl) ?_) | (refine held_skip 7 rfl (by kernel_rfl) (by kernel_rfl) (by kernel_rfl) (by rfl) (fun _ _ _ h => h) (by assumption) ?_)
      simp only [Act.put, List.setIfInBounds_toArray, List.set_cons_zero, List.set_cons_succ]
      first | (refine held_take 8 rfl (by kernel_rfl) (by kernel_rfl) (by kernel_rfl) (by rfl) (fun _ _ _ h => h) (by assumption) (by intro w hSw; (try dsimp only at hSw); go_simp; first | done | with_reducible rfl) ?_) | (refine held_skip 8 rfl (by kernel_rfl) (by kernel_rfl) (by kernel_rfl) (by rfl) (fun _ _ _ h => h) (by assumption) ?_)
      simp only [Act.put, List.setIfInBounds_toArray, List.set_cons_zero, List.set_cons_succ]
      generalize hwd : World.drew W0 = Wd at *
      have hszd : W0.heap.size ≤ Wd.heap.size := hHeld.2.2.2.2.2.2.2.size
      clear hwd
      refine held_three 4 10 11 (by kernel_rfl) rfl rfl rfl (fun K hK => ?_) (fun K hK => ?_) (fun K hK => ?_)
      · go_simp
        go_at_call 11
        refine (spec_IntValue _ _).mono ?_; rintro e w21 ⟨rfl, hb1⟩
        have hsz_1 : Wd.heap.size ≤ w21.heap.size := hb1.size
        go_wp2_with fail
        refine hK.out _ _ (by (try dsimp only); exact ⟨keep_cell hb1 hHeld.1, keep_cell hb1 hHeld.2.1, keep_cell hb1 hHeld.2.2.1, keep_cell hb1 hHeld.2.2.2.1, keep_cell hb1 hHeld.2.2.2.2.1, keep_cell hb1 hHeld.2.2.2.2.2.1, keep_cell hb1 hHeld.2.2.2.2.2.2.1, ex_trans hHeld.2.2.2.2.2.2.2 hb1⟩) (fun hNew => ?_)
        clear hK K hHeld
        have hHeld := hNew
        clear hNew
        try simp only [Act.put, List.setIfInBounds_toArray, List.set_cons_zero, List.set_cons_succ]
        clear hb1
        refine held_three 9 10 11 (by kernel_rfl) rfl rfl rfl (fun K hK => ?_) (fun K hK => ?_) (fun K hK => ?_)
        · go_simp
          go_at_call 11
          refine (spec_IntValue _ _).mono ?_; rintro e w22 ⟨rfl, hb2⟩
          have hsz_2 : w21.heap.size ≤ w22.heap.size := hb2.size
          go_wp2_with fail
          refine hK.out _ _ (by (try dsimp only); exact ⟨keep_cell hb2 hHeld.1, keep_cell hb2 hHeld.2.1, keep_cell hb2 hHeld.2.2.1, keep_cell hb2 hHeld.2.2.2.1, keep_cell hb2 hHeld.2.2.2.2.1, keep_cell hb2 hHeld.2.2.2.2.2.1, keep_cell hb2 hHeld.2.2.2.2.2.2.1, ex_trans hHeld.2.2.2.2.2.2.2 hb2⟩) (fun hNew => ?_)
          clear hK K hHeld
          have hHeld := hNew
          clear hNew
          try simp only [Act.put, List.setIfInBounds_toArray, List.set_cons_zero, List.set_cons_succ]
          clear hb2
          refine held_two 10 11 (by kernel_rfl) rfl rfl (fun K hK => ?_) (fun K hK => ?_)
          · go_simp
            generalize hwa : World.alloc w22 _ = wa_3
            have hba : Below w22.heap.size w22 wa_3 := by rw [← hwa]; exact (Below.refl _ _).alloc (Nat.le_refl _) _
            have hsz_3 : wa_3.heap.size ≤ w22.heap.size + 1 := by rw [← hwa]; simp
            have hsz2_3 : w22.heap.size + 1 ≤ wa_3.heap.size := by rw [← hwa]; simp
            have HD5 := Lib.hid (show wa_3.heap[w22.heap.size]? = some (.cells #[.int .i64 0, .int .i64 0, .string ByteArray.empty] 30 (0, 0)) by rw [← hwa]; exact hp_new rfl)
            refine hK.out _ _ (by (try dsimp only); exact ⟨keep_cell hba hHeld.1, keep_cell hba hHeld.2.1, keep_cell hba hHeld.2.2.1, keep_cell hba hHeld.2.2.2.1, keep_cell hba hHeld.2.2.2.2.1, keep_cell hba hHeld.2.2.2.2.2.1, keep_cell hba hHeld.2.2.2.2.2.2.1, ex_trans hHeld.2.2.2.2.2.2.2 hba⟩) (fun hNew => ?_)
            clear hK K hHeld
            have hHeld := hNew
            clear hNew
            try simp only [Act.put, List.setIfInBounds_toArray, List.set_cons_zero, List.set_cons_succ]
            clear hwa hba
            refine held_one 11 (by kernel_rfl) rfl (fun K hK => ?_)
            go_simp
            generalize hwa : World.alloc wa_3 _ = wa_4
            have hba : Below wa_3.heap.size wa_3 wa_4 := by rw [← hwa]; exact (Below.refl _ _).alloc (Nat.le_refl _) _
            have hsz_4 : wa_4.heap.size ≤ wa_3.heap.size + 1 := by rw [← hwa]; simp
            have hsz2_4 : wa_3.heap.size + 1 ≤ wa_4.heap.size := by rw [← hwa]; simp
            have HD5 := Lib.hid (below_keep hba HD5.out)
            have HD6 := Lib.hid (show wa_4.heap[wa_3.heap.size]? = some (.cells #[.int .i64 0, .int .i64 0, .string ByteArray.empty] 30 (0, 0)) by rw [← hwa]; exact hp_new rfl)
            refine hK.out _ _ (by (try dsimp only); exact ⟨keep_cell hba hHeld.1, keep_cell hba hHeld.2.1, keep_cell hba hHeld.2.2.1, keep_cell hba hHeld.2.2.2.1, keep_cell hba hHeld.2.2.2.2.1, keep_cell hba hHeld.2.2.2.2.2.1, keep_cell hba hHeld.2.2.2.2.2.2.1, ex_trans hHeld.2.2.2.2.2.2.2 hba⟩) (fun hNew => ?_)
            clear hK K hHeld
            have hHeld := hNew
            clear hNew
            try simp only [Act.put, List.setIfInBounds_toArray, List.set_cons_zero, List.set_cons_succ]
            clear hwa hba
            have u0 := blk_cell? HD5.out 0
            have u1 := blk_cell? HD5.out 1
            have u2 := blk_cell? HD5.out 2
            have uf := blk_free HD5.out
            have ul := blk_lt HD5.out
            simp only [List.getElem?_toArray, List.getElem?_cons_zero, List.getElem?_cons_succ] at u0 u1 u2
            refine held_one 12 (by kernel_rfl) rfl (fun K hK => ?_)
            go_simp
            generalize hst : World.setCell (World.setCell (World.setCell wa_4 _ _) _ _) _ _ = wst_12
            have hc12 : Chg [w22.heap.size] wa_4 wst_12 := by rw [← hst]; exact ((((Chg.of_below _ (Below.refl _ _)).set (by simp) _).set (by simp) _).set (by simp) _)
            have v12_0 : wst_12.cell? ⟨w22.heap.size, 0, none⟩ = some (.int .i64 (intV (pa.tmod 9)).kind) := by subst hst; go_simp
            have v12_1 : wst_12.cell? ⟨w22.heap.size, 1, none⟩ = some (.int .i64 (intV (pa.tmod 9)).int) := by subst hst; go_simp
            have v12_2 : wst_12.cell? ⟨w22.heap.size, 2, none⟩ = some (.string (intV (pa.tmod 9)).str) := by subst hst; go_simp
            refine hK.out _ _ (by (try dsimp only); exact ⟨hc12.cell hHeld.1 (fun h => by have h1 := List.mem_singleton.1 h; simp only at h1; omega), hc12.cell hHeld.2.1 (fun h => by have h1 := List.mem_singleton.1 h; simp only at h1; omega), hc12.cell hHeld.2.2.1 (fun h => by have h1 := List.mem_singleton.1 h; simp only at h1; omega), hc12.cell hHeld.2.2.2.1 (fun h => by have h1 := List.mem_singleton.1 h; simp only at h1; omega), hc12.cell hHeld.2.2.2.2.1 (fun h => by have h1 := List.mem_singleton.1 h; simp only at h1; omega), hc12.cell hHeld.2.2.2.2.2.1 (fun h => by have h1 := List.mem_singleton.1 h; simp only at h1; omega), hc12.cell hHeld.2.2.2.2.2.2.1 (fun h => by have h1 := List.mem_singleton.1 h; simp only at h1; omega), Below.mark hHeld.2.2.2.2.2.2.2 hc12 hHeld.2.2.2.2.2.2.2.size (fun b hb => by obtain rfl := List.mem_singleton.1 hb; omega)⟩) (fun hNew => ?_)
            clear hK K hHeld
            have hHeld := hNew
            clear hNew
            try simp only [Act.put, List.setIfInBounds_toArray, List.set_cons_zero, List.set_cons_succ]
            clear hst uf ul u0 u1 u2
            have HD6 := Lib.hid (hc12.keepb HD6.out (fun h => by have h1 := List.mem_singleton.1 h; omega))
            have u0 := blk_cell? HD6.out 0
            have u1 := blk_cell? HD6.out 1
            have u2 := blk_cell? HD6.out 2
            have uf := blk_free HD6.out
            have ul := blk_lt HD6.out
            simp only [List.getElem?_toArray, List.getElem?_cons_zero, List.getElem?_cons_succ] at u0 u1 u2
            refine held_one 13 (by kernel_rfl) rfl (fun K hK => ?_)
            go_simp
            generalize hst : World.setCell (World.setCell (World.setCell wst_12 _ _) _ _) _ _ = wst_13
            have hc13 : Chg [wa_3.heap.size] wst_12 wst_13 := by rw [← hst]; exact ((((Chg.of_below _ (Below.refl _ _)).set (by simp) _).set (by simp) _).set (by simp) _)
            have v13_0 : wst_13.cell? ⟨wa_3.heap.size, 0, none⟩ = some (.int .i64 (intV (pd.tmod 9)).kind) := by subst hst; go_simp
            have v13_1 : wst_13.cell? ⟨wa_3.heap.size, 1, none⟩ = some (.int .i64 (intV (pd.tmod 9)).int) := by subst hst; go_simp
            have v13_2 : wst_13.cell? ⟨wa_3.heap.size, 2, none⟩ = some (.string (intV (pd.tmod 9)).str) := by subst hst; go_simp
            refine hK.out _ _ (by (try dsimp only); exact ⟨hc13.cell hHeld.1 (fun h => by have h1 := List.mem_singleton.1 h; simp only at h1; omega), hc13.cell hHeld.2.1 (fun h => by have h1 := List.mem_singleton.1 h; simp only at h1; omega), hc13.cell hHeld.2.2.1 (fun h => by have h1 := List.mem_singleton.1 h; simp only at h1; omega), hc13.cell hHeld.2.2.2.1 (fun h => by have h1 := List.mem_singleton.1 h; simp only at h1; omega), hc13.cell hHeld.2.2.2.2.1 (fun h => by have h1 := List.mem_singleton.1 h; simp only at h1; omega), hc13.cell hHeld.2.2.2.2.2.1 (fun h => by have h1 := List.mem_singleton.1 h; simp only at h1; omega), hc13.cell hHeld.2.2.2.2.2.2.1 (fun h => by have h1 := List.mem_singleton.1 h; simp only at h1; omega), Below.mark hHeld.2.2.2.2.2.2.2 hc13 hHeld.2.2.2.2.2.2.2.size (fun b hb => by obtain rfl := List.mem_singleton.1 hb; omega)⟩) (fun hNew => ?_)
            clear hK K hHeld
            have hHeld := hNew
            clear hNew
            try simp only [Act.put, List.setIfInBounds_toArray, List.set_cons_zero, List.set_cons_succ]
            clear hst uf ul u0 u1 u2
            replace v12_0 := hc13.cell v12_0 (fun h => by have h1 := List.mem_singleton.1 h; simp only at h1; omega)
            replace v12_1 := hc13.cell v12_1 (fun h => by have h1 := List.mem_singleton.1 h; simp only at h1; omega)
            replace v12_2 := hc13.cell v12_2 (fun h => by have h1 := List.mem_singleton.1 h; simp only at h1; omega)
            refine wpAnyH_done (by kernel_rfl) ?_ _
            go_wp2_with fail
            go_meet
            exact ⟨_, _, _, _, rfl, rfl, v12_0, v12_1, v12_2, v13_0, v13_1, v13_2, hHeld.2.2.1, hHeld.2.2.2.1, hHeld.2.2.2.2.1, hHeld.2.2.2.2.2.1, hHeld.2.2.2.2.2.2.1, ex_trans HB0.out hHeld.2.2.2.2.2.2.2⟩
          · go_simp
            generalize hwa : World.alloc w22 _ = wa_5
            have hba : Below w22.heap.size w22 wa_5 := by rw [← hwa]; exact (Below.refl _ _).alloc (Nat.le_refl _) _
            have hsz_5 : wa_5.heap.size ≤ w22.heap.size + 1 := by rw [← hwa]; simp
            have hsz2_5 : w22.heap.size + 1 ≤ wa_5.heap.size := by rw [← hwa]; simp
            have HD6 := Lib.hid (show wa_5.heap[w22.heap.size]? = some (.cells #[.int .i64 0, .int .i64 0, .string ByteArray.empty] 30 (0, 0)) by rw [← hwa]; exact hp_new rfl)
            refine hK.out _ _ (by (try dsimp only); exact ⟨keep_cell hba hHeld.1, keep_cell hba hHeld.2.1, keep_cell hba hHeld.2.2.1, keep_cell hba hHeld.2.2.2.1, keep_cell hba hHeld.2.2.2.2.1, keep_cell hba hHeld.2.2.2.2.2.1, keep_cell hba hHeld.2.2.2.2.2.2.1, ex_trans hHeld.2.2.2.2.2.2.2 hba⟩) (fun hNew => ?_)
            clear hK K hHeld
            have hHeld := hNew
            clear hNew
            try simp only [Act.put, List.setIfInBounds_toArray, List.set_cons_zero, List.set_cons_succ]
            clear hwa hba
            refine held_one 10 (by kernel_rfl) rfl (fun K hK => ?_)
            go_simp
            generalize hwa : World.alloc wa_5 _ = wa_6
            have hba : Below wa_5.heap.size wa_5 wa_6 := by rw [← hwa]; exact (Below.refl _ _).alloc (Nat.le_refl _) _
            have hsz_6 : wa_6.heap.size ≤ wa_5.heap.size + 1 := by rw [← hwa]; simp
            have hsz2_6 : wa_5.heap.size + 1 ≤ wa_6.heap.size := by rw [← hwa]; simp
            have HD6 := Lib.hid (below_keep hba HD6.out)
            have HD5 := Lib.hid (show wa_6.heap[wa_5.heap.size]? = some (.cells #[.int .i64 0, .int .i64 0, .string ByteArray.empty] 30 (0, 0)) by rw [← hwa]; exact hp_new rfl)
            refine hK.out _ _ (by (try dsimp only); exact ⟨keep_cell hba hHeld.1, keep_cell hba hHeld.2.1, keep_cell hba hHeld.2.2.1, keep_cell hba hHeld.2.2.2.1, keep_cell hba hHeld.2.2.2.2.1, keep_cell hba hHeld.2.2.2.2.2.1, keep_cell hba hHeld.2.2.2.2.2.2.1, ex_trans hHeld.2.2.2.2.2.2.2 hba⟩) (fun hNew => ?_)
            clear hK K hHeld
            have hHeld := hNew
            clear hNew
            try simp only [Act.put, List.setIfInBounds_toArray, List.set_cons_zero, List.set_cons_succ]
            clear hwa hba
            have u0 := blk_cell? HD5.out 0
            have u1 := blk_cell? HD5.out 1
            have u2 := blk_cell? HD5.out 2
            have uf := blk_free HD5.out
            have ul := blk_lt HD5.out
            simp only [List.getElem?_toArray, List.getElem?_cons_zero, List.getElem?_cons_succ] at u0 u1 u2
            refine held_one 12 (by kernel_rfl) rfl (fun K hK => ?_)
            go_simp
            generalize hst : World.setCell (World.setCell (World.setCell wa_6 _ _) _ _) _ _ = wst_12
            have hc12 : Chg [wa_5.heap.size] wa_6 wst_12 := by rw [← hst]; exact ((((Chg.of_below _ (Below.refl _ _)).set (by simp) _).set (by simp) _).set (by simp) _)
            have v12_0 : wst_12.cell? ⟨wa_5.heap.size, 0, none⟩ = some (.int .i64 (intV (pa.tmod 9)).kind) := by subst hst; go_simp
            have v12_1 : wst_12.cell? ⟨wa_5.heap.size, 1, none⟩ = some (.int .i64 (intV (pa.tmod 9)).int) := by subst hst; go_simp
            have v12_2 : wst_12.cell? ⟨wa_5.heap.size, 2, none⟩ = some (.string (intV (pa.tmod 9)).str) := by subst hst; go_simp
            refine hK.out _ _ (by (try dsimp only); exact ⟨hc12.cell hHeld.1 (fun h => by have h1 := List.mem_singleton.1 h; simp only at h1; omega), hc12.cell hHeld.2.1 (fun h => by have h1 := List.mem_singleton.1 h; simp only at h1; omega), hc12.cell hHeld.2.2.1 (fun h => by have h1 := List.mem_singleton.1 h; simp only at h1; omega), hc12.cell hHeld.2.2.2.1 (fun h => by have h1 := List.mem_singleton.1 h; simp only at h1; omega), hc12.cell hHeld.2.2.2.2.1 (fun h => by have h1 := List.mem_singleton.1 h; simp only at h1; omega), hc12.cell hHeld.2.2.2.2.2.1 (fun h => by have h1 := List.mem_singleton.1 h; simp only at h1; omega), hc12.cell hHeld.2.2.2.2.2.2.1 (fun h => by have h1 := List.mem_singleton.1 h; simp only at h1; omega), Below.mark hHeld.2.2.2.2.2.2.2 hc12 hHeld.2.2.2.2.2.2.2.size (fun b hb => by obtain rfl := List.mem_singleton.1 hb; omega)⟩) (fun hNew => ?_)
            clear hK K hHeld
            have hHeld := hNew
            clear hNew
            try simp only [Act.put, List.setIfInBounds_toArray, List.set_cons_zero, List.set_cons_succ]
            clear hst uf ul u0 u1 u2
            have HD6 := Lib.hid (hc12.keepb HD6.out (fun h => by have h1 := List.mem_singleton.1 h; omega))
            have u0 := blk_cell? HD6.out 0
            have u1 := blk_cell? HD6.out 1
            have u2 := blk_cell? HD6.out 2
            have uf := blk_free HD6.out
            have ul := blk_lt HD6.out
            simp only [List.getElem?_toArray, List.getElem?_cons_zero, List.getElem?_cons_succ] at u0 u1 u2
            refine held_one 13 (by kernel_rfl) rfl (fun K hK => ?_)
            go_simp
            generalize hst : World.setCell (World.setCell (World.setCell wst_12 _ _) _ _) _ _ = wst_13
            have hc13 : Chg [w22.heap.size] wst_12 wst_13 := by rw [← hst]; exact ((((Chg.of_below _ (Below.refl _ _)).set (by simp) _).set (by simp) _).set (by simp) _)
            have v13_0 : wst_13.cell? ⟨w22.heap.size, 0, none⟩ = some (.int .i64 (intV (pd.tmod 9)).kind) := by subst hst; go_simp
            have v13_1 : wst_13.cell? ⟨w22.heap.size, 1, none⟩ = some (.int .i64 (intV (pd.tmod 9)).int) := by subst hst; go_simp
            have v13_2 : wst_13.cell? ⟨w22.heap.size, 2, none⟩ = some (.string (intV (pd.tmod 9)).str) := by subst hst; go_simp
            refine hK.out _ _ (by (try dsimp only); exact ⟨hc13.cell hHeld.1 (fun h => by have h1 := List.mem_singleton.1 h; simp only at h1; omega), hc13.cell hHeld.2.1 (fun h => by have h1 := List.mem_singleton.1 h; simp only at h1; omega), hc13.cell hHeld.2.2.1 (fun h => by have h1 := List.mem_singleton.1 h; simp only at h1; omega), hc13.cell hHeld.2.2.2.1 (fun h => by have h1 := List.mem_singleton.1 h; simp only at h1; omega), hc13.cell hHeld.2.2.2.2.1 (fun h => by have h1 := List.mem_singleton.1 h; simp only at h1; omega), hc13.cell hHeld.2.2.2.2.2.1 (fun h => by have h1 := List.mem_singleton.1 h; simp only at h1; omega), hc13.cell hHeld.2.2.2.2.2.2.1 (fun h => by have h1 := List.mem_singleton.1 h; simp only at h1; omega), Below.mark hHeld.2.2.2.2.2.2.2 hc13 hHeld.2.2.2.2.2.2.2.size (fun b hb => by obtain rfl := List.mem_singleton.1 hb; omega)⟩) (fun hNew => ?_)
            clear hK K hHeld
            have hHeld := hNew
            clear hNew
            try simp only [Act.put, List.setIfInBounds_toArray, List.set_cons_zero, List.set_cons_succ]
            clear hst uf ul u0 u1 u2
            replace v12_0 := hc13.cell v12_0 (fun h => by have h1 := List.mem_singleton.1 h; simp only at h1; omega)
            replace v12_1 := hc13.cell v12_1 (fun h => by have h1 := List.mem_singleton.1 h; simp only at h1; omega)
            replace v12_2 := hc13.cell v12_2 (fun h => by have h1 := List.mem_singleton.1 h; simp only at h1; omega)
            refine wpAnyH_done (by kernel_rfl) ?_ _
            go_wp2_with fail
            go_meet
            exact ⟨_, _, _, _, rfl, rfl, v12_0, v12_1, v12_2, v13_0, v13_1, v13_2, hHeld.2.2.1, hHeld.2.2.2.1, hHeld.2.2.2.2.1, hHeld.2.2.2.2.2.1, hHeld.2.2.2.2.2.2.1, ex_trans HB0.out hHeld.2.2.2.2.2.2.2⟩
        · go_simp
          generalize hwa : World.alloc w21 _ = wa_7
          have hba : Below w21.heap.size w21 wa_7 := by rw [← hwa]; exact (Below.refl _ _).alloc (Nat.le_refl _) _
          have hsz_7 : wa_7.heap.size ≤ w21.heap.size + 1 := by rw [← hwa]; simp
          have hsz2_7 : w21.heap.size + 1 ≤ wa_7.heap.size := by rw [← hwa]; simp
          have HD5 := Lib.hid (show wa_7.heap[w21.heap.size]? = some (.cells #[.int .i64 0, .int .i64 0, .string ByteArray.empty] 30 (0, 0)) by rw [← hwa]; exact hp_new rfl)
          refine hK.out _ _ (by (try dsimp only); exact ⟨keep_cell hba hHeld.1, keep_cell hba hHeld.2.1, keep_cell hba hHeld.2.2.1, keep_cell hba hHeld.2.2.2.1, keep_cell hba hHeld.2.2.2.2.1, keep_cell hba hHeld.2.2.2.2.2.1, keep_cell hba hHeld.2.2.2.2.2.2.1, ex_trans hHeld.2.2.2.2.2.2.2 hba⟩) (fun hNew => ?_)
          clear hK K hHeld
          have hHeld := hNew
          clear hNew
          try simp only [Act.put, List.setIfInBounds_toArray, List.set_cons_zero, List.set_cons_succ]
          clear hwa hba
          refine held_two 9 11 (by kernel_rfl) rfl rfl (fun K hK => ?_) (fun K hK => ?_)
          · go_simp
            go_at_call 11
            refine (spec_IntValue _ _).mono ?_; rintro e w28 ⟨rfl, hb8⟩
            have hsz_8 : wa_7.heap.size ≤ w28.heap.size := hb8.size
            have HD5 := Lib.hid (below_keep hb8 HD5.out)
            go_wp2_with fail
            refine hK.out _ _ (by (try dsimp only); exact ⟨keep_cell hb8 hHeld.1, keep_cell hb8 hHeld.2.1, keep_cell hb8 hHeld.2.2.1, keep_cell hb8 hHeld.2.2.2.1, keep_cell hb8 hHeld.2.2.2.2.1, keep_cell hb8 hHeld.2.2.2.2.2.1, keep_cell hb8 hHeld.2.2.2.2.2.2.1, ex_trans hHeld.2.2.2.2.2.2.2 hb8⟩) (fun hNew => ?_)
            clear hK K hHeld
            have hHeld := hNew
            clear hNew
            try simp only [Act.put, List.setIfInBounds_toArray, List.set_cons_zero, List.set_cons_succ]
            clear hb8
            refine held_one 11 (by kernel_rfl) rfl (fun K hK => ?_)
            go_simp
            generalize hwa : World.alloc w28 _ = wa_9
            have hba : Below w28.heap.size w28 wa_9 := by rw [← hwa]; exact (Below.refl _ _).alloc (Nat.le_refl _) _
            have hsz_9 : wa_9.heap.size ≤ w28.heap.size + 1 := by rw [← hwa]; simp
            have hsz2_9 : w28.heap.size + 1 ≤ wa_9.heap.size := by rw [← hwa]; simp
            have HD5 := Lib.hid (below_keep hba HD5.out)
            have HD6 := Lib.hid (show wa_9.heap[w28.heap.size]? = some (.cells #[.int .i64 0, .int .i64 0, .string ByteArray.empty] 30 (0, 0)) by rw [← hwa]; exact hp_new rfl)
            refine hK.out _ _ (by (try dsimp only); exact ⟨keep_cell hba hHeld.1, keep_cell hba hHeld.2.1, keep_cell hba hHeld.2.2.1, keep_cell hba hHeld.2.2.2.1, keep_cell hba hHeld.2.2.2.2.1, keep_cell hba hHeld.2.2.2.2.2.1, keep_cell hba hHeld.2.2.2.2.2.2.1, ex_trans hHeld.2.2.2.2.2.2.2 hba⟩) (fun hNew => ?_)
            clear hK K hHeld
            have hHeld := hNew
            clear hNew
            try simp only [Act.put, List.setIfInBounds_toArray, List.set_cons_zero, List.set_cons_succ]
            clear hwa hba
            have u0 := blk_cell? HD5.out 0
            have u1 := blk_cell? HD5.out 1
            have u2 := blk_cell? HD5.out 2
            have uf := blk_free HD5.out
            have ul := blk_lt HD5.out
            simp only [List.getElem?_toArray, List.getElem?_cons_zero, List.getElem?_cons_succ] at u0 u1 u2
            refine held_one 12 (by kernel_rfl) rfl (fun K hK => ?_)
            go_simp
            generalize hst : World.setCell (World.setCell (World.setCell wa_9 _ _) _ _) _ _ = wst_12
            have hc12 : Chg [w21.heap.size] wa_9 wst_12 := by rw [← hst]; exact ((((Chg.of_below _ (Below.refl _ _)).set (by simp) _).set (by simp) _).set (by simp) _)
            have v12_0 : wst_12.cell? ⟨w21.heap.size, 0, none⟩ = some (.int .i64 (intV (pa.tmod 9)).kind) := by subst hst; go_simp
            have v12_1 : wst_12.cell? ⟨w21.heap.size, 1, none⟩ = some (.int .i64 (intV (pa.tmod 9)).int) := by subst hst; go_simp
            have v12_2 : wst_12.cell? ⟨w21.heap.size, 2, none⟩ = some (.string (intV (pa.tmod 9)).str) := by subst hst; go_simp
            refine hK.out _ _ (by (try dsimp only); exact ⟨hc12.cell hHeld.1 (fun h => by have h1 := List.mem_singleton.1 h; simp only at h1; omega), hc12.cell hHeld.2.1 (fun h => by have h1 := List.mem_singleton.1 h; simp only at h1; omega), hc12.cell hHeld.2.2.1 (fun h => by have h1 := List.mem_singleton.1 h; simp only at h1; omega), hc12.cell hHeld.2.2.2.1 (fun h => by have h1 := List.mem_singleton.1 h; simp only at h1; omega), hc12.cell hHeld.2.2.2.2.1 (fun h => by have h1 := List.mem_singleton.1 h; simp only at h1; omega), hc12.cell hHeld.2.2.2.2.2.1 (fun h => by have h1 := List.mem_singleton.1 h; simp only at h1; omega), hc12.cell hHeld.2.2.2.2.2.2.1 (fun h => by have h1 := List.mem_singleton.1 h; simp only at h1; omega), Below.mark hHeld.2.2.2.2.2.2.2 hc12 hHeld.2.2.2.2.2.2.2.size (fun b hb => by obtain rfl := List.mem_singleton.1 hb; omega)⟩) (fun hNew => ?_)
            clear hK K hHeld
            have hHeld := hNew
            clear hNew
            try simp only [Act.put, List.setIfInBounds_toArray, List.set_cons_zero, List.set_cons_succ]
            clear hst uf ul u0 u1 u2
            have HD6 := Lib.hid (hc12.keepb HD6.out (fun h => by have h1 := List.mem_singleton.1 h; omega))
            have u0 := blk_cell? HD6.out 0
            have u1 := blk_cell? HD6.out 1
            have u2 := blk_cell? HD6.out 2
            have uf := blk_free HD6.out
            have ul := blk_lt HD6.out
            simp only [List.getElem?_toArray, List.getElem?_cons_zero, List.getElem?_cons_succ] at u0 u1 u2
            refine held_one 13 (by kernel_rfl) rfl (fun K hK => ?_)
            go_simp
            generalize hst : World.setCell (World.setCell (World.setCell wst_12 _ _) _ _) _ _ = wst_13
            have hc13 : Chg [w28.heap.size] wst_12 wst_13 := by rw [← hst]; exact ((((Chg.of_below _ (Below.refl _ _)).set (by simp) _).set (by simp) _).set (by simp) _)
            have v13_0 : wst_13.cell? ⟨w28.heap.size, 0, none⟩ = some (.int .i64 (intV (pd.tmod 9)).kind) := by subst hst; go_simp
            have v13_1 : wst_13.cell? ⟨w28.heap.size, 1, none⟩ = some (.int .i64 (intV (pd.tmod 9)).int) := by subst hst; go_simp
            have v13_2 : wst_13.cell? ⟨w28.heap.size, 2, none⟩ = some (.string (intV (pd.tmod 9)).str) := by subst hst; go_simp
            refine hK.out _ _ (by (try dsimp only); exact ⟨hc13.cell hHeld.1 (fun h => by have h1 := List.mem_singleton.1 h; simp only at h1; omega), hc13.cell hHeld.2.1 (fun h => by have h1 := List.mem_singleton.1 h; simp only at h1; omega), hc13.cell hHeld.2.2.1 (fun h => by have h1 := List.mem_singleton.1 h; simp only at h1; omega), hc13.cell hHeld.2.2.2.1 (fun h => by have h1 := List.mem_singleton.1 h; simp only at h1; omega), hc13.cell hHeld.2.2.2.2.1 (fun h => by have h1 := List.mem_singleton.1 h; simp only at h1; omega), hc13.cell hHeld.2.2.2.2.2.1 (fun h => by have h1 := List.mem_singleton.1 h; simp only at h1; omega), hc13.cell hHeld.2.2.2.2.2.2.1 (fun h => by have h1 := List.mem_singleton.1 h; simp only at h1; omega), Below.mark hHeld.2.2.2.2.2.2.2 hc13 hHeld.2.2.2.2.2.2.2.size (fun b hb => by obtain rfl := List.mem_singleton.1 hb; omega)⟩) (fun hNew => ?_)
            clear hK K hHeld
            have hHeld := hNew
            clear hNew
            try simp only [Act.put, List.setIfInBounds_toArray, List.set_cons_zero, List.set_cons_succ]
            clear hst uf ul u0 u1 u2
            replace v12_0 := hc13.cell v12_0 (fun h => by have h1 := List.mem_singleton.1 h; simp only at h1; omega)
            replace v12_1 := hc13.cell v12_1 (fun h => by have h1 := List.mem_singleton.1 h; simp only at h1; omega)
            replace v12_2 := hc13.cell v12_2 (fun h => by have h1 := List.mem_singleton.1 h; simp only at h1; omega)
            refine wpAnyH_done (by kernel_rfl) ?_ _
            go_wp2_with fail
            go_meet
            exact ⟨_, _, _, _, rfl, rfl, v12_0, v12_1, v12_2, v13_0, v13_1, v13_2, hHeld.2.2.1, hHeld.2.2.2.1, hHeld.2.2.2.2.1, hHeld.2.2.2.2.2.1, hHeld.2.2.2.2.2.2.1, ex_trans HB0.out hHeld.2.2.2.2.2.2.2⟩
          · go_simp
            generalize hwa : World.alloc wa_7 _ = wa_10
            have hba : Below wa_7.heap.size wa_7 wa_10 := by rw [← hwa]; exact (Below.refl _ _).alloc (Nat.le_refl _) _
            have hsz_10 : wa_10.heap.size ≤ wa_7.heap.size + 1 := by rw [← hwa]; simp
            have hsz2_10 : wa_7.heap.size + 1 ≤ wa_10.heap.size := by rw [← hwa]; simp
            have HD5 := Lib.hid (below_keep hba HD5.out)
            have HD6 := Lib.hid (show wa_10.heap[wa_7.heap.size]? = some (.cells #[.int .i64 0, .int .i64 0, .string ByteArray.empty] 30 (0, 0)) by rw [← hwa]; exact hp_new rfl)
            refine hK.out _ _ (by (try dsimp only); exact ⟨keep_cell hba hHeld.1, keep_cell hba hHeld.2.1, keep_cell hba hHeld.2.2.1, keep_cell hba hHeld.2.2.2.1, keep_cell hba hHeld.2.2.2.2.1, keep_cell hba hHeld.2.2.2.2.2.1, keep_cell hba hHeld.2.2.2.2.2.2.1, ex_trans hHeld.2.2.2.2.2.2.2 hba⟩) (fun hNew => ?_)
            clear hK K hHeld
            have hHeld := hNew
            clear hNew
            try simp only [Act.put, List.setIfInBounds_toArray, List.set_cons_zero, List.set_cons_succ]
            clear hwa hba
            refine held_one 9 (by kernel_rfl) rfl (fun K hK => ?_)
            go_simp
            go_at_call 11
            refine (spec_IntValue _ _).mono ?_; rintro e w31 ⟨rfl, hb11⟩
            have hsz_11 : wa_10.heap.size ≤ w31.heap.size := hb11.size
            have HD5 := Lib.hid (below_keep hb11 HD5.out)
            have HD6 := Lib.hid (below_keep hb11 HD6.out)
            go_wp2_with fail
            refine hK.out _ _ (by (try dsimp only); exact ⟨keep_cell hb11 hHeld.1, keep_cell hb11 hHeld.2.1, keep_cell hb11 hHeld.2.2.1, keep_cell hb11 hHeld.2.2.2.1, keep_cell hb11 hHeld.2.2.2.2.1, keep_cell hb11 hHeld.2.2.2.2.2.1, keep_cell hb11 hHeld.2.2.2.2.2.2.1, ex_trans hHeld.2.2.2.2.2.2.2 hb11⟩) (fun hNew => ?_)
            clear hK K hHeld
            have hHeld := hNew
            clear hNew
            try simp only [Act.put, List.setIfInBounds_toArray, List.set_cons_zero, List.set_cons_succ]
            clear hb11
            have u0 := blk_cell? HD5.out 0
            have u1 := blk_cell? HD5.out 1
            have u2 := blk_cell? HD5.out 2
            have uf := blk_free HD5.out
            have ul := blk_lt HD5.out
            simp only [List.getElem?_toArray, List.getElem?_cons_zero, List.getElem?_cons_succ] at u0 u1 u2
            refine held_one 12 (by kernel_rfl) rfl (fun K hK => ?_)
            go_simp
            generalize hst : World.setCell (World.setCell (World.setCell w31 _ _) _ _) _ _ = wst_12
            have hc12 : Chg [w21.heap.size] w31 wst_12 := by rw [← hst]; exact ((((Chg.of_below _ (Below.refl _ _)).set (by simp) _).set (by simp) _).set (by simp) _)
            have v12_0 : wst_12.cell? ⟨w21.heap.size, 0, none⟩ = some (.int .i64 (intV (pa.tmod 9)).kind) := by subst hst; go_simp
            have v12_1 : wst_12.cell? ⟨w21.heap.size, 1, none⟩ = some (.int .i64 (intV (pa.tmod 9)).int) := by subst hst; go_simp
            have v12_2 : wst_12.cell? ⟨w21.heap.size, 2, none⟩ = some (.string (intV (pa.tmod 9)).str) := by subst hst; go_simp
            refine hK.out _ _ (by (try dsimp only); exact ⟨hc12.cell hHeld.1 (fun h => by have h1 := List.mem_singleton.1 h; simp only at h1; omega), hc12.cell hHeld.2.1 (fun h => by have h1 := List.mem_singleton.1 h; simp only at h1; omega), hc12.cell hHeld.2.2.1 (fun h => by have h1 := List.mem_singleton.1 h; simp only at h1; omega), hc12.cell hHeld.2.2.2.1 (fun h => by have h1 := List.mem_singleton.1 h; simp only at h1; omega), hc12.cell hHeld.2.2.2.2.1 (fun h => by have h1 := List.mem_singleton.1 h; simp only at h1; omega), hc12.cell hHeld.2.2.2.2.2.1 (fun h => by have h1 := List.mem_singleton.1 h; simp only at h1; omega), hc12.cell hHeld.2.2.2.2.2.2.1 (fun h => by have h1 := List.mem_singleton.1 h; simp only at h1; omega), Below.mark hHeld.2.2.2.2.2.2.2 hc12 hHeld.2.2.2.2.2.2.2.size (fun b hb => by obtain rfl := List.mem_singleton.1 hb; omega)⟩) (fun hNew => ?_)
            clear hK K hHeld
            have hHeld := hNew
            clear hNew
            try simp only [Act.put, List.setIfInBounds_toArray, List.set_cons_zero, List.set_cons_succ]
            clear hst uf ul u0 u1 u2
            have HD6 := Lib.hid (hc12.keepb HD6.out (fun h => by have h1 := List.mem_singleton.1 h; omega))
            have u0 := blk_cell? HD6.out 0
            have u1 := blk_cell? HD6.out 1
            have u2 := blk_cell? HD6.out 2
            have uf := blk_free HD6.out
            have ul := blk_lt HD6.out
            simp only [List.getElem?_toArray, List.getElem?_cons_zero, List.getElem?_cons_succ] at u0 u1 u2
            refine held_one 13 (by kernel_rfl) rfl (fun K hK => ?_)
            go_simp
            generalize hst : World.setCell (World.setCell (World.setCell wst_12 _ _) _ _) _ _ = wst_13
            have hc13 : Chg [wa_7.heap.size] wst_12 wst_13 := by rw [← hst]; exact ((((Chg.of_below _ (Below.refl _ _)).set (by simp) _).set (by simp) _).set (by simp) _)
            have v13_0 : wst_13.cell? ⟨wa_7.heap.size, 0, none⟩ = some (.int .i64 (intV (pd.tmod 9)).kind) := by subst hst; go_simp
            have v13_1 : wst_13.cell? ⟨wa_7.heap.size, 1, none⟩ = some (.int .i64 (intV (pd.tmod 9)).int) := by subst hst; go_simp
            have v13_2 : wst_13.cell? ⟨wa_7.heap.size, 2, none⟩ = some (.string (intV (pd.tmod 9)).str) := by subst hst; go_simp
            refine hK.out _ _ (by (try dsimp only); exact ⟨hc13.cell hHeld.1 (fun h => by have h1 := List.mem_singleton.1 h; simp only at h1; omega), hc13.cell hHeld.2.1 (fun h => by have h1 := List.mem_singleton.1 h; simp only at h1; omega), hc13.cell hHeld.2.2.1 (fun h => by have h1 := List.mem_singleton.1 h; simp only at h1; omega), hc13.cell hHeld.2.2.2.1 (fun h => by have h1 := List.mem_singleton.1 h; simp only at h1; omega), hc13.cell hHeld.2.2.2.2.1 (fun h => by have h1 := List.mem_singleton.1 h; simp only at h1; omega), hc13.cell hHeld.2.2.2.2.2.1 (fun h => by have h1 := List.mem_singleton.1 h; simp only at h1; omega), hc13.cell hHeld.2.2.2.2.2.2.1 (fun h => by have h1 := List.mem_singleton.1 h; simp only at h1; omega), Below.mark hHeld.2.2.2.2.2.2.2 hc13 hHeld.2.2.2.2.2.2.2.size (fun b hb => by obtain rfl := List.mem_singleton.1 hb; omega)⟩) (fun hNew => ?_)
            clear hK K hHeld
            have hHeld := hNew
            clear hNew
            try simp only [Act.put, List.setIfInBounds_toArray, List.set_cons_zero, List.set_cons_succ]
            clear hst uf ul u0 u1 u2
            replace v12_0 := hc13.cell v12_0 (fun h => by have h1 := List.mem_singleton.1 h; simp only at h1; omega)
            replace v12_1 := hc13.cell v12_1 (fun h => by have h1 := List.mem_singleton.1 h; simp only at h1; omega)
            replace v12_2 := hc13.cell v12_2 (fun h => by have h1 := List.mem_singleton.1 h; simp only at h1; omega)
            refine wpAnyH_done (by kernel_rfl) ?_ _
            go_wp2_with fail
            go_meet
            exact ⟨_, _, _, _, rfl, rfl, v12_0, v12_1, v12_2, v13_0, v13_1, v13_2, hHeld.2.2.1, hHeld.2.2.2.1, hHeld.2.2.2.2.1, hHeld.2.2.2.2.2.1, hHeld.2.2.2.2.2.2.1, ex_trans HB0.out hHeld.2.2.2.2.2.2.2⟩
        · go_simp
          generalize hwa : World.alloc w21 _ = wa_12
          have hba : Below w21.heap.size w21 wa_12 := by rw [← hwa]; exact (Below.refl _ _).alloc (Nat.le_refl _) _
          have hsz_12 : wa_12.heap.size ≤ w21.heap.size + 1 := by rw [← hwa]; simp
          have hsz2_12 : w21.heap.size + 1 ≤ wa_12.heap.size := by rw [← hwa]; simp
          have HD6 := Lib.hid (show wa_12.heap[w21.heap.size]? = some (.cells #[.int .i64 0, .int .i64 0, .string ByteArray.empty] 30 (0, 0)) by rw [← hwa]; exact hp_new rfl)
          refine hK.out _ _ (by (try dsimp only); exact ⟨keep_cell hba hHeld.1, keep_cell hba hHeld.2.1, keep_cell hba hHeld.2.2.1, keep_cell hba hHeld.2.2.2.1, keep_cell hba hHeld.2.2.2.2.1, keep_cell hba hHeld.2.2.2.2.2.1, keep_cell hba hHeld.2.2.2.2.2.2.1, ex_trans hHeld.2.2.2.2.2.2.2 hba⟩) (fun hNew => ?_)
          clear hK K hHeld
          have hHeld := hNew
          clear hNew
          try simp only [Act.put, List.setIfInBounds_toArray, List.set_cons_zero, List.set_cons_succ]
          clear hwa hba
          refine held_two 9 10 (by kernel_rfl) rfl rfl (fun K hK => ?_) (fun K hK => ?_)
          · go_simp
            go_at_call 11
            refine (spec_IntValue _ _).mono ?_; rintro e w33 ⟨rfl, hb13⟩
            have hsz_13 : wa_12.heap.size ≤ w33.heap.size := hb13.size
            have HD6 := Lib.hid (below_keep hb13 HD6.out)
            go_wp2_with fail
            refine hK.out _ _ (by (try dsimp only); exact ⟨keep_cell hb13 hHeld.1, keep_cell hb13 hHeld.2.1, keep_cell hb13 hHeld.2.2.1, keep_cell hb13 hHeld.2.2.2.1, keep_cell hb13 hHeld.2.2.2.2.1, keep_cell hb13 hHeld.2.2.2.2.2.1, keep_cell hb13 hHeld.2.2.2.2.2.2.1, ex_trans hHeld.2.2.2.2.2.2.2 hb13⟩) (fun hNew => ?_)
            clear hK K hHeld
            have hHeld := hNew
            clear hNew
            try simp only [Act.put, List.setIfInBounds_toArray, List.set_cons_zero, List.set_cons_succ]
            clear hb13
            refine held_one 10 (by kernel_rfl) rfl (fun K hK => ?_)
            go_simp
            generalize hwa : World.alloc w33 _ = wa_14
            have hba : Below w33.heap.size w33 wa_14 := by rw [← hwa]; exact (Below.refl _ _).alloc (Nat.le_refl _) _
            have hsz_14 : wa_14.heap.size ≤ w33.heap.size + 1 := by rw [← hwa]; simp
            have hsz2_14 : w33.heap.size + 1 ≤ wa_14.heap.size := by rw [← hwa]; simp
            have HD6 := Lib.hid (below_keep hba HD6.out)
            have HD5 := Lib.hid (show wa_14.heap[w33.heap.size]? = some (.cells #[.int .i64 0, .int .i64 0, .string ByteArray.empty] 30 (0, 0)) by rw [← hwa]; exact hp_new rfl)
            refine hK.out _ _ (by (try dsimp only); exact ⟨keep_cell hba hHeld.1, keep_cell hba hHeld.2.1, keep_cell hba hHeld.2.2.1, keep_cell hba hHeld.2.2.2.1, keep_cell hba hHeld.2.2.2.2.1, keep_cell hba hHeld.2.2.2.2.2.1, keep_cell hba hHeld.2.2.2.2.2.2.1, ex_trans hHeld.2.2.2.2.2.2.2 hba⟩) (fun hNew => ?_)
            clear hK K hHeld
            have hHeld := hNew
            clear hNew
            try simp only [Act.put, List.setIfInBounds_toArray, List.set_cons_zero, List.set_cons_succ]
            clear hwa hba
            have u0 := blk_cell? HD5.out 0
            have u1 := blk_cell? HD5.out 1
            have u2 := blk_cell? HD5.out 2
            have uf := blk_free HD5.out
            have ul := blk_lt HD5.out
            simp only [List.getElem?_toArray, List.getElem?_cons_zero, List.getElem?_cons_succ] at u0 u1 u2
            refine held_one 12 (by kernel_rfl) rfl (fun K hK => ?_)
            go_simp
            generalize hst : World.setCell (World.setCell (World.setCell wa_14 _ _) _ _) _ _ = wst_12
            have hc12 : Chg [w33.heap.size] wa_14 wst_12 := by rw [← hst]; exact ((((Chg.of_below _ (Below.refl _ _)).set (by simp) _).set (by simp) _).set (by simp) _)
            have v12_0 : wst_12.cell? ⟨w33.heap.size, 0, none⟩ = some (.int .i64 (intV (pa.tmod 9)).kind) := by subst hst; go_simp
            have v12_1 : wst_12.cell? ⟨w33.heap.size, 1, none⟩ = some (.int .i64 (intV (pa.tmod 9)).int) := by subst hst; go_simp
            have v12_2 : wst_12.cell? ⟨w33.heap.size, 2, none⟩ = some (.string (intV (pa.tmod 9)).str) := by subst hst; go_simp
            refine hK.out _ _ (by (try dsimp only); exact ⟨hc12.cell hHeld.1 (fun h => by have h1 := List.mem_singleton.1 h; simp only at h1; omega), hc12.cell hHeld.2.1 (fun h => by have h1 := List.mem_singleton.1 h; simp only at h1; omega), hc12.cell hHeld.2.2.1 (fun h => by have h1 := List.mem_singleton.1 h; simp only at h1; omega), hc12.cell hHeld.2.2.2.1 (fun h => by have h1 := List.mem_singleton.1 h; simp only at h1; omega), hc12.cell hHeld.2.2.2.2.1 (fun h => by have h1 := List.mem_singleton.1 h; simp only at h1; omega), hc12.cell hHeld.2.2.2.2.2.1 (fun h => by have h1 := List.mem_singleton.1 h; simp only at h1; omega), hc12.cell hHeld.2.2.2.2.2.2.1 (fun h => by have h1 := List.mem_singleton.1 h; simp only at h1; omega), Below.mark hHeld.2.2.2.2.2.2.2 hc12 hHeld.2.2.2.2.2.2.2.size (fun b hb => by obtain rfl := List.mem_singleton.1 hb; omega)⟩) (fun hNew => ?_)
            clear hK K hHeld
            have hHeld := hNew
            clear hNew
            try simp only [Act.put, List.setIfInBounds_toArray, List.set_cons_zero, List.set_cons_succ]
            clear hst uf ul u0 u1 u2
            have HD6 := Lib.hid (hc12.keepb HD6.out (fun h => by have h1 := List.mem_singleton.1 h; omega))
            have u0 := blk_cell? HD6.out 0
            have u1 := blk_cell? HD6.out 1
            have u2 := blk_cell? HD6.out 2
            have uf := blk_free HD6.out
            have ul := blk_lt HD6.out
            simp only [List.getElem?_toArray, List.getElem?_cons_zero, List.getElem?_cons_succ] at u0 u1 u2
            refine held_one 13 (by kernel_rfl) rfl (fun K hK => ?_)
            go_simp
            generalize hst : World.setCell (World.setCell (World.setCell wst_12 _ _) _ _) _ _ = wst_13
            have hc13 : Chg [w21.heap.size] wst_12 wst_13 := by rw [← hst]; exact ((((Chg.of_below _ (Below.refl _ _)).set (by simp) _).set (by simp) _).set (by simp) _)
            have v13_0 : wst_13.cell? ⟨w21.heap.size, 0, none⟩ = some (.int .i64 (intV (pd.tmod 9)).kind) := by subst hst; go_simp
            have v13_1 : wst_13.cell? ⟨w21.heap.size, 1, none⟩ = some (.int .i64 (intV (pd.tmod 9)).int) := by subst hst; go_simp
            have v13_2 : wst_13.cell? ⟨w21.heap.size, 2, none⟩ = some (.string (intV (pd.tmod 9)).str) := by subst hst; go_simp
            refine hK.out _ _ (by (try dsimp only); exact ⟨hc13.cell hHeld.1 (fun h => by have h1 := List.mem_singleton.1 h; simp only at h1; omega), hc13.cell hHeld.2.1 (fun h => by have h1 := List.mem_singleton.1 h; simp only at h1; omega), hc13.cell hHeld.2.2.1 (fun h => by have h1 := List.mem_singleton.1 h; simp only at h1; omega), hc13.cell hHeld.2.2.2.1 (fun h => by have h1 := List.mem_singleton.1 h; simp only at h1; omega), hc13.cell hHeld.2.2.2.2.1 (fun h => by have h1 := List.mem_singleton.1 h; simp only at h1; omega), hc13.cell hHeld.2.2.2.2.2.1 (fun h => by have h1 := List.mem_singleton.1 h; simp only at h1; omega), hc13.cell hHeld.2.2.2.2.2.2.1 (fun h => by have h1 := List.mem_singleton.1 h; simp only at h1; omega), Below.mark hHeld.2.2.2.2.2.2.2 hc13 hHeld.2.2.2.2.2.2.2.size (fun b hb => by obtain rfl := List.mem_singleton.1 hb; omega)⟩) (fun hNew => ?_)
            clear hK K hHeld
            have hHeld := hNew
            clear hNew
            try simp only [Act.put, List.setIfInBounds_toArray, List.set_cons_zero, List.set_cons_succ]
            clear hst uf ul u0 u1 u2
            replace v12_0 := hc13.cell v12_0 (fun h => by have h1 := List.mem_singleton.1 h; simp only at h1; omega)
            replace v12_1 := hc13.cell v12_1 (fun h => by have h1 := List.mem_singleton.1 h; simp only at h1; omega)
            replace v12_2 := hc13.cell v12_2 (fun h => by have h1 := List.mem_singleton.1 h; simp only at h1; omega)
            refine wpAnyH_done (by kernel_rfl) ?_ _
            go_wp2_with fail
            go_meet
            exact ⟨_, _, _, _, rfl, rfl, v12_0, v12_1, v12_2, v13_0, v13_1, v13_2, hHeld.2.2.1, hHeld.2.2.2.1, hHeld.2.2.2.2.1, hHeld.2.2.2.2.2.1, hHeld.2.2.2.2.2.2.1, ex_trans HB0.out hHeld.2.2.2.2.2.2.2⟩
          · go_simp
            generalize hwa : World.alloc wa_12 _ = wa_15
            have hba : Below wa_12.heap.size wa_12 wa_15 := by rw [← hwa]; exact (Below.refl _ _).alloc (Nat.le_refl _) _
            have hsz_15 : wa_15.heap.size ≤ wa_12.heap.size + 1 := by rw [← hwa]; simp
            have hsz2_15 : wa_12.heap.size + 1 ≤ wa_15.heap.size := by rw [← hwa]; simp
            have HD6 := Lib.hid (below_keep hba HD6.out)
            have HD5 := Lib.hid (show wa_15.heap[wa_12.heap.size]? = some (.cells #[.int .i64 0, .int .i64 0, .string ByteArray.empty] 30 (0, 0)) by rw [← hwa]; exact hp_new rfl)
            refine hK.out _ _ (by (try dsimp only); exact ⟨keep_cell hba hHeld.1, keep_cell hba hHeld.2.1, keep_cell hba hHeld.2.2.1, keep_cell hba hHeld.2.2.2.1, keep_cell hba hHeld.2.2.2.2.1, keep_cell hba hHeld.2.2.2.2.2.1, keep_cell hba hHeld.2.2.2.2.2.2.1, ex_trans hHeld.2.2.2.2.2.2.2 hba⟩) (fun hNew => ?_)
            clear hK K hHeld
            have hHeld := hNew
            clear hNew
            try simp only [Act.put, List.setIfInBounds_toArray, List.set_cons_zero, List.set_cons_succ]
            clear hwa hba
            refine held_one 9 (by kernel_rfl) rfl (fun K hK => ?_)
            go_simp
            go_at_call 11
            refine (spec_IntValue _ _).mono ?_; rintro e w36 ⟨rfl, hb16⟩
            have hsz_16 : wa_15.heap.size ≤ w36.heap.size := hb16.size
            have HD6 := Lib.hid (below_keep hb16 HD6.out)
            have HD5 := Lib.hid (below_keep hb16 HD5.out)
            go_wp2_with fail
            refine hK.out _ _ (by (try dsimp only); exact ⟨keep_cell hb16 hHeld.1, keep_cell hb16 hHeld.2.1, keep_cell hb16 hHeld.2.2.1, keep_cell hb16 hHeld.2.2.2.1, keep_cell hb16 hHeld.2.2.2.2.1, keep_cell hb16 hHeld.2.2.2.2.2.1, keep_cell hb16 hHeld.2.2.2.2.2.2.1, ex_trans hHeld.2.2.2.2.2.2.2 hb16⟩) (fun hNew => ?_)
            clear hK K hHeld
            have hHeld := hNew
            clear hNew
            try simp only [Act.put, List.setIfInBounds_toArray, List.set_cons_zero, List.set_cons_succ]
            clear hb16
            have u0 := blk_cell? HD5.out 0
            have u1 := blk_cell? HD5.out 1
            have u2 := blk_cell? HD5.out 2
            have uf := blk_free HD5.out
            have ul := blk_lt HD5.out
            simp only [List.getElem?_toArray, List.getElem?_cons_zero, List.getElem?_cons_succ] at u0 u1 u2
            refine held_one 12 (by kernel_rfl) rfl (fun K hK => ?_)
            go_simp
            generalize hst : World.setCell (World.setCell (World.setCell w36 _ _) _ _) _ _ = wst_12
            have hc12 : Chg [wa_12.heap.size] w36 wst_12 := by rw [← hst]; exact ((((Chg.of_below _ (Below.refl _ _)).set (by simp) _).set (by simp) _).set (by simp) _)
            have v12_0 : wst_12.cell? ⟨wa_12.heap.size, 0, none⟩ = some (.int .i64 (intV (pa.tmod 9)).kind) := by subst hst; go_simp
            have v12_1 : wst_12.cell? ⟨wa_12.heap.size, 1, none⟩ = some (.int .i64 (intV (pa.tmod 9)).int) := by subst hst; go_simp
            have v12_2 : wst_12.cell? ⟨wa_12.heap.size, 2, none⟩ = some (.string (intV (pa.tmod 9)).str) := by subst hst; go_simp
            refine hK.out _ _ (by (try dsimp only); exact ⟨hc12.cell hHeld.1 (fun h => by have h1 := List.mem_singleton.1 h; simp only at h1; omega), hc12.cell hHeld.2.1 (fun h => by have h1 := List.mem_singleton.1 h; simp only at h1; omega), hc12.cell hHeld.2.2.1 (fun h => by have h1 := List.mem_singleton.1 h; simp only at h1; omega), hc12.cell hHeld.2.2.2.1 (fun h => by have h1 := List.mem_singleton.1 h; simp only at h1; omega), hc12.cell hHeld.2.2.2.2.1 (fun h => by have h1 := List.mem_singleton.1 h; simp only at h1; omega), hc12.cell hHeld.2.2.2.2.2.1 (fun h => by have h1 := List.mem_singleton.1 h; simp only at h1; omega), hc12.cell hHeld.2.2.2.2.2.2.1 (fun h => by have h1 := List.mem_singleton.1 h; simp only at h1; omega), Below.mark hHeld.2.2.2.2.2.2.2 hc12 hHeld.2.2.2.2.2.2.2.size (fun b hb => by obtain rfl := List.mem_singleton.1 hb; omega)⟩) (fun hNew => ?_)
            clear hK K hHeld
            have hHeld := hNew
            clear hNew
            try simp only [Act.put, List.setIfInBounds_toArray, List.set_cons_zero, List.set_cons_succ]
            clear hst uf ul u0 u1 u2
            have HD6 := Lib.hid (hc12.keepb HD6.out (fun h => by have h1 := List.mem_singleton.1 h; omega))
            have u0 := blk_cell? HD6.out 0
            have u1 := blk_cell? HD6.out 1
            have u2 := blk_cell? HD6.out 2
            have uf := blk_free HD6.out
            have ul := blk_lt HD6.out
            simp only [List.getElem?_toArray, List.getElem?_cons_zero, List.getElem?_cons_succ] at u0 u1 u2
            refine held_one 13 (by kernel_rfl) rfl (fun K hK => ?_)
            go_simp
            generalize hst : World.setCell (World.setCell (World.setCell wst_12 _ _) _ _) _ _ = wst_13
            have hc13 : Chg [w21.heap.size] wst_12 wst_13 := by rw [← hst]; exact ((((Chg.of_below _ (Below.refl _ _)).set (by simp) _).set (by simp) _).set (by simp) _)
            have v13_0 : wst_13.cell? ⟨w21.heap.size, 0, none⟩ = some (.int .i64 (intV (pd.tmod 9)).kind) := by subst hst; go_simp
            have v13_1 : wst_13.cell? ⟨w21.heap.size, 1, none⟩ = some (.int .i64 (intV (pd.tmod 9)).int) := by subst hst; go_simp
            have v13_2 : wst_13.cell? ⟨w21.heap.size, 2, none⟩ = some (.string (intV (pd.tmod 9)).str) := by subst hst; go_simp
            refine hK.out _ _ (by (try dsimp only); exact ⟨hc13.cell hHeld.1 (fun h => by have h1 := List.mem_singleton.1 h; simp only at h1; omega), hc13.cell hHeld.2.1 (fun h => by have h1 := List.mem_singleton.1 h; simp only at h1; omega), hc13.cell hHeld.2.2.1 (fun h => by have h1 := List.mem_singleton.1 h; simp only at h1; omega), hc13.cell hHeld.2.2.2.1 (fun h => by have h1 := List.mem_singleton.1 h; simp only at h1; omega), hc13.cell hHeld.2.2.2.2.1 (fun h => by have h1 := List.mem_singleton.1 h; simp only at h1; omega), hc13.cell hHeld.2.2.2.2.2.1 (fun h => by have h1 := List.mem_singleton.1 h; simp only at h1; omega), hc13.cell hHeld.2.2.2.2.2.2.1 (fun h => by have h1 := List.mem_singleton.1 h; simp only at h1; omega), Below.mark hHeld.2.2.2.2.2.2.2 hc13 hHeld.2.2.2.2.2.2.2.size (fun b hb => by obtain rfl := List.mem_singleton.1 hb; omega)⟩) (fun hNew => ?_)
            clear hK K hHeld
            have hHeld := hNew
            clear hNew
            try simp only [Act.put, List.setIfInBounds_toArray, List.set_cons_zero, List.set_cons_succ]
            clear hst uf ul u0 u1 u2
            replace v12_0 := hc13.cell v12_0 (fun h => by have h1 := List.mem_singleton.1 h; simp only at h1; omega)
            replace v12_1 := hc13.cell v12_1 (fun h => by have h1 := List.mem_singleton.1 h; simp only at h1; omega)
            replace v12_2 := hc13.cell v12_2 (fun h => by have h1 := List.mem_singleton.1 h; simp only at h1; omega)
            refine wpAnyH_done (by kernel_rfl) ?_ _
            go_wp2_with fail
            go_meet
            exact ⟨_, _, _, _, rfl, rfl, v12_0, v12_1, v12_2, v13_0, v13_1, v13_2, hHeld.2.2.1, hHeld.2.2.2.1, hHeld.2.2.2.2.1, hHeld.2.2.2.2.2.1, hHeld.2.2.2.2.2.2.1, ex_trans HB0.out hHeld.2.2.2.2.2.2.2⟩
      · go_simp
        generalize hwa : World.alloc Wd _ = wa_17
        have hba : Below Wd.heap.size Wd wa_17 := by rw [← hwa]; exact (Below.refl _ _).alloc (Nat.le_refl _) _
        have hsz_17 : wa_17.heap.size ≤ Wd.heap.size + 1 := by rw [← hwa]; simp
        have hsz2_17 : Wd.heap.size + 1 ≤ wa_17.heap.size := by rw [← hwa]; simp
        have HD5 := Lib.hid (show wa_17.heap[Wd.heap.size]? = some (.cells #[.int .i64 0, .int .i64 0, .string ByteArray.empty] 30 (0, 0)) by rw [← hwa]; exact hp_new rfl)
        refine hK.out _ _ (by (try dsimp only); exact ⟨keep_cell hba hHeld.1, keep_cell hba hHeld.2.1, keep_cell hba hHeld.2.2.1, keep_cell hba hHeld.2.2.2.1, keep_cell hba hHeld.2.2.2.2.1, keep_cell hba hHeld.2.2.2.2.2.1, keep_cell hba hHeld.2.2.2.2.2.2.1, ex_trans hHeld.2.2.2.2.2.2.2 hba⟩) (fun hNew => ?_)
        clear hK K hHeld
        have hHeld := hNew
        clear hNew
        try simp only [Act.put, List.setIfInBounds_toArray, List.set_cons_zero, List.set_cons_succ]
        clear hwa hba
        refine held_two 4 11 (by kernel_rfl) rfl rfl (fun K hK => ?_) (fun K hK => ?_)
        · go_simp
          go_at_call 11
          refine (spec_IntValue _ _).mono ?_; rintro e w38 ⟨rfl, hb18⟩
          have hsz_18 : wa_17.heap.size ≤ w38.heap.size := hb18.size
          have HD5 := Lib.hid (below_keep hb18 HD5.out)
          go_wp2_with fail
          refine hK.out _ _ (by (try dsimp only); exact ⟨keep_cell hb18 hHeld.1, keep_cell hb18 hHeld.2.1, keep_cell hb18 hHeld.2.2.1, keep_cell hb18 hHeld.2.2.2.1, keep_cell hb18 hHeld.2.2.2.2.1, keep_cell hb18 hHeld.2.2.2.2.2.1, keep_cell hb18 hHeld.2.2.2.2.2.2.1, ex_trans hHeld.2.2.2.2.2.2.2 hb18⟩) (fun hNew => ?_)
          clear hK K hHeld
          have hHeld := hNew
          clear hNew
          try simp only [Act.put, List.setIfInBounds_toArray, List.set_cons_zero, List.set_cons_succ]
          clear hb18
          refine held_two 9 11 (by kernel_rfl) rfl rfl (fun K hK => ?_) (fun K hK => ?_)
          · go_simp
            go_at_call 11
            refine (spec_IntValue _ _).mono ?_; rintro e w39 ⟨rfl, hb19⟩
            have hsz_19 : w38.heap.size ≤ w39.heap.size := hb19.size
            have HD5 := Lib.hid (below_keep hb19 HD5.out)
            go_wp2_with fail
            refine hK.out _ _ (by (try dsimp only); exact ⟨keep_cell hb19 hHeld.1, keep_cell hb19 hHeld.2.1, keep_cell hb19 hHeld.2.2.1, keep_cell hb19 hHeld.2.2.2.1, keep_cell hb19 hHeld.2.2.2.2.1, keep_cell hb19 hHeld.2.2.2.2.2.1, keep_cell hb19 hHeld.2.2.2.2.2.2.1, ex_trans hHeld.2.2.2.2.2.2.2 hb19⟩) (fun hNew => ?_)
            clear hK K hHeld
            have hHeld := hNew
            clear hNew
            try simp only [Act.put, List.setIfInBounds_toArray, List.set_cons_zero, List.set_cons_succ]
            clear hb19
            refine held_one 11 (by kernel_rfl) rfl (fun K hK => ?_)
            go_simp
            generalize hwa : World.alloc w39 _ = wa_20
            have hba : Below w39.heap.size w39 wa_20 := by rw [← hwa]; exact (Below.refl _ _).alloc (Nat.le_refl _) _
            have hsz_20 : wa_20.heap.size ≤ w39.heap.size + 1 := by rw [← hwa]; simp
            have hsz2_20 : w39.heap.size + 1 ≤ wa_20.heap.size := by rw [← hwa]; simp
            have HD5 := Lib.hid (below_keep hba HD5.out)
            have HD6 := Lib.hid (show wa_20.heap[w39.heap.size]? = some (.cells #[.int .i64 0, .int .i64 0, .string ByteArray.empty] 30 (0, 0)) by rw [← hwa]; exact hp_new rfl)
            refine hK.out _ _ (by (try dsimp only); exact ⟨keep_cell hba hHeld.1, keep_cell hba hHeld.2.1, keep_cell hba hHeld.2.2.1, keep_cell hba hHeld.2.2.2.1, keep_cell hba hHeld.2.2.2.2.1, keep_cell hba hHeld.2.2.2.2.2.1, keep_cell hba hHeld.2.2.2.2.2.2.1, ex_trans hHeld.2.2.2.2.2.2.2 hba⟩) (fun hNew => ?_)
            clear hK K hHeld
            have hHeld := hNew
            clear hNew
            try simp only [Act.put, List.setIfInBounds_toArray, List.set_cons_zero, List.set_cons_succ]
            clear hwa hba
            have u0 := blk_cell? HD5.out 0
            have u1 := blk_cell? HD5.out 1
            have u2 := blk_cell? HD5.out 2
            have uf := blk_free HD5.out
            have ul := blk_lt HD5.out
            simp only [List.getElem?_toArray, List.getElem?_cons_zero, List.getElem?_cons_succ] at u0 u1 u2
            refine held_one 12 (by kernel_rfl) rfl (fun K hK => ?_)
            go_simp
            generalize hst : World.setCell (World.setCell (World.setCell wa_20 _ _) _ _) _ _ = wst_12
            have hc12 : Chg [Wd.heap.size] wa_20 wst_12 := by rw [← hst]; exact ((((Chg.of_below _ (Below.refl _ _)).set (by simp) _).set (by simp) _).set (by simp) _)
            have v12_0 : wst_12.cell? ⟨Wd.heap.size, 0, none⟩ = some (.int .i64 (intV (pa.tmod 9)).kind) := by subst hst; go_simp
            have v12_1 : wst_12.cell? ⟨Wd.heap.size, 1, none⟩ = some (.int .i64 (intV (pa.tmod 9)).int) := by subst hst; go_simp
            have v12_2 : wst_12.cell? ⟨Wd.heap.size, 2, none⟩ = some (.string (intV (pa.tmod 9)).str) := by subst hst; go_simp
            refine hK.out _ _ (by (try dsimp only); exact ⟨hc12.cell hHeld.1 (fun h => by have h1 := List.mem_singleton.1 h; simp only at h1; omega), hc12.cell hHeld.2.1 (fun h => by have h1 := List.mem_singleton.1 h; simp only at h1; omega), hc12.cell hHeld.2.2.1 (fun h => by have h1 := List.mem_singleton.1 h; simp only at h1; omega), hc12.cell hHeld.2.2.2.1 (fun h => by have h1 := List.mem_singleton.1 h; simp only at h1; omega), hc12.cell hHeld.2.2.2.2.1 (fun h => by have h1 := List.mem_singleton.1 h; simp only at h1; omega), hc12.cell hHeld.2.2.2.2.2.1 (fun h => by have h1 := List.mem_singleton.1 h; simp only at h1; omega), hc12.cell hHeld.2.2.2.2.2.2.1 (fun h => by have h1 := List.mem_singleton.1 h; simp only at h1; omega), Below.mark hHeld.2.2.2.2.2.2.2 hc12 hHeld.2.2.2.2.2.2.2.size (fun b hb => by obtain rfl := List.mem_singleton.1 hb; omega)⟩) (fun hNew => ?_)
            clear hK K hHeld
            have hHeld := hNew
            clear hNew
            try simp only [Act.put, List.setIfInBounds_toArray, List.set_cons_zero, List.set_cons_succ]
            clear hst uf ul u0 u1 u2
            have HD6 := Lib.hid (hc12.keepb HD6.out (fun h => by have h1 := List.mem_singleton.1 h; omega))
            have u0 := blk_cell? HD6.out 0
            have u1 := blk_cell? HD6.out 1
            have u2 := blk_cell? HD6.out 2
            have uf := blk_free HD6.out
            have ul := blk_lt HD6.out
            simp only [List.getElem?_toArray, List.getElem?_cons_zero, List.getElem?_cons_succ] at u0 u1 u2
            refine held_one 13 (by kernel_rfl) rfl (fun K hK => ?_)
            go_simp
            generalize hst : World.setCell (World.setCell (World.setCell wst_12 _ _) _ _) _ _ = wst_13
            have hc13 : Chg [w39.heap.size] wst_12 wst_13 := by rw [← hst]; exact ((((Chg.of_below _ (Below.refl _ _)).set (by simp) _).set (by simp) _).set (by simp) _)
            have v13_0 : wst_13.cell? ⟨w39.heap.size, 0, none⟩ = some (.int .i64 (intV (pd.tmod 9)).kind) := by subst hst; go_simp
            have v13_1 : wst_13.cell? ⟨w39.heap.size, 1, none⟩ = some (.int .i64 (intV (pd.tmod 9)).int) := by subst hst; go_simp
            have v13_2 : wst_13.cell? ⟨w39.heap.size, 2, none⟩ = some (.string (intV (pd.tmod 9)).str) := by subst hst; go_simp
            refine hK.out _ _ (by (try dsimp only); exact ⟨hc13.cell hHeld.1 (fun h => by have h1 := List.mem_singleton.1 h; simp only at h1; omega), hc13.cell hHeld.2.1 (fun h => by have h1 := List.mem_singleton.1 h; simp only at h1; omega), hc13.cell hHeld.2.2.1 (fun h => by have h1 := List.mem_singleton.1 h; simp only at h1; omega), hc13.cell hHeld.2.2.2.1 (fun h => by have h1 := List.mem_singleton.1 h; simp only at h1; omega), hc13.cell hHeld.2.2.2.2.1 (fun h => by have h1 := List.mem_singleton.1 h; simp only at h1; omega), hc13.cell hHeld.2.2.2.2.2.1 (fun h => by have h1 := List.mem_singleton.1 h; simp only at h1; omega), hc13.cell hHeld.2.2.2.2.2.2.1 (fun h => by have h1 := List.mem_singleton.1 h; simp only at h1; omega), Below.mark hHeld.2.2.2.2.2.2.2 hc13 hHeld.2.2.2.2.2.2.2.size (fun b hb => by obtain rfl := List.mem_singleton.1 hb; omega)⟩) (fun hNew => ?_)
            clear hK K hHeld
            have hHeld := hNew
            clear hNew
            try simp only [Act.put, List.setIfInBounds_toArray, List.set_cons_zero, List.set_cons_succ]
            clear hst uf ul u0 u1 u2
            replace v12_0 := hc13.cell v12_0 (fun h => by have h1 := List.mem_singleton.1 h; simp only at h1; omega)
            replace v12_1 := hc13.cell v12_1 (fun h => by have h1 := List.mem_singleton.1 h; simp only at h1; omega)
            replace v12_2 := hc13.cell v12_2 (fun h => by have h1 := List.mem_singleton.1 h; simp only at h1; omega)
            refine wpAnyH_done (by kernel_rfl) ?_ _
            go_wp2_with fail
            go_meet
            exact ⟨_, _, _, _, rfl, rfl, v12_0, v12_1, v12_2, v13_0, v13_1, v13_2, hHeld.2.2.1, hHeld.2.2.2.1, hHeld.2.2.2.2.1, hHeld.2.2.2.2.2.1, hHeld.2.2.2.2.2.2.1, ex_trans HB0.out hHeld.2.2.2.2.2.2.2⟩
          · go_simp
            generalize hwa : World.alloc w38 _ = wa_21
            have hba : Below w38.heap.size w38 wa_21 := by rw [← hwa]; exact (Below.refl _ _).alloc (Nat.le_refl _) _
            have hsz_21 : wa_21.heap.size ≤ w38.heap.size + 1 := by rw [← hwa]; simp
            have hsz2_21 : w38.heap.size + 1 ≤ wa_21.heap.size := by rw [← hwa]; simp
            have HD5 := Lib.hid (below_keep hba HD5.out)
            have HD6 := Lib.hid (show wa_21.heap[w38.heap.size]? = some (.cells #[.int .i64 0, .int .i64 0, .string ByteArray.empty] 30 (0, 0)) by rw [← hwa]; exact hp_new rfl)
            refine hK.out _ _ (by (try dsimp only); exact ⟨keep_cell hba hHeld.1, keep_cell hba hHeld.2.1, keep_cell hba hHeld.2.2.1, keep_cell hba hHeld.2.2.2.1, keep_cell hba hHeld.2.2.2.2.1, keep_cell hba hHeld.2.2.2.2.2.1, keep_cell hba hHeld.2.2.2.2.2.2.1, ex_trans hHeld.2.2.2.2.2.2.2 hba⟩) (fun hNew => ?_)
            clear hK K hHeld
            have hHeld := hNew
            clear hNew
            try simp only [Act.put, List.setIfInBounds_toArray, List.set_cons_zero, List.set_cons_succ]
            clear hwa hba
            refine held_one 9 (by kernel_rfl) rfl (fun K hK => ?_)
            go_simp
            go_at_call 11
            refine (spec_IntValue _ _).mono ?_; rintro e w42 ⟨rfl, hb22⟩
            have hsz_22 : wa_21.heap.size ≤ w42.heap.size := hb22.size
            have HD5 := Lib.hid (below_keep hb22 HD5.out)
            have HD6 := Lib.hid (below_keep hb22 HD6.out)
            go_wp2_with fail
            refine hK.out _ _ (by (try dsimp only); exact ⟨keep_cell hb22 hHeld.1, keep_cell hb22 hHeld.2.1, keep_cell hb22 hHeld.2.2.1, keep_cell hb22 hHeld.2.2.2.1, keep_cell hb22 hHeld.2.2.2.2.1, keep_cell hb22 hHeld.2.2.2.2.2.1, keep_cell hb22 hHeld.2.2.2.2.2.2.1, ex_trans hHeld.2.2.2.2.2.2.2 hb22⟩) (fun hNew => ?_)
            clear hK K hHeld
            have hHeld := hNew
            clear hNew
            try simp only [Act.put, List.setIfInBounds_toArray, List.set_cons_zero, List.set_cons_succ]
            clear hb22
            have u0 := blk_cell? HD5.out 0
            have u1 := blk_cell? HD5.out 1
            have u2 := blk_cell? HD5.out 2
            have uf := blk_free HD5.out
            have ul := blk_lt HD5.out
            simp only [List.getElem?_toArray, List.getElem?_cons_zero, List.getElem?_cons_succ] at u0 u1 u2
            refine held_one 12 (by kernel_rfl) rfl (fun K hK => ?_)
            go_simp
            generalize hst : World.setCell (World.setCell (World.setCell w42 _ _) _ _) _ _ = wst_12
            have hc12 : Chg [Wd.heap.size] w42 wst_12 := by rw [← hst]; exact ((((Chg.of_below _ (Below.refl _ _)).set (by simp) _).set (by simp) _).set (by simp) _)
            have v12_0 : wst_12.cell? ⟨Wd.heap.size, 0, none⟩ = some (.int .i64 (intV (pa.tmod 9)).kind) := by subst hst; go_simp
            have v12_1 : wst_12.cell? ⟨Wd.heap.size, 1, none⟩ = some (.int .i64 (intV (pa.tmod 9)).int) := by subst hst; go_simp
            have v12_2 : wst_12.cell? ⟨Wd.heap.size, 2, none⟩ = some (.string (intV (pa.tmod 9)).str) := by subst hst; go_simp
            refine hK.out _ _ (by (try dsimp only); exact ⟨hc12.cell hHeld.1 (fun h => by have h1 := List.mem_singleton.1 h; simp only at h1; omega), hc12.cell hHeld.2.1 (fun h => by have h1 := List.mem_singleton.1 h; simp only at h1; omega), hc12.cell hHeld.2.2.1 (fun h => by have h1 := List.mem_singleton.1 h; simp only at h1; omega), hc12.cell hHeld.2.2.2.1 (fun h => by have h1 := List.mem_singleton.1 h; simp only at h1; omega), hc12.cell hHeld.2.2.2.2.1 (fun h => by have h1 := List.mem_singleton.1 h; simp only at h1; omega), hc12.cell hHeld.2.2.2.2.2.1 (fun h => by have h1 := List.mem_singleton.1 h; simp only at h1; omega), hc12.cell hHeld.2.2.2.2.2.2.1 (fun h => by have h1 := List.mem_singleton.1 h; simp only at h1; omega), Below.mark hHeld.2.2.2.2.2.2.2 hc12 hHeld.2.2.2.2.2.2.2.size (fun b hb => by obtain rfl := List.mem_singleton.1 hb; omega)⟩) (fun hNew => ?_)
            clear hK K hHeld
            have hHeld := hNew
            clear hNew
            try simp only [Act.put, List.setIfInBounds_toArray, List.set_cons_zero, List.set_cons_succ]
            clear hst uf ul u0 u1 u2
            have HD6 := Lib.hid (hc12.keepb HD6.out (fun h => by have h1 := List.mem_singleton.1 h; omega))
            have u0 := blk_cell? HD6.out 0
            have u1 := blk_cell? HD6.out 1
            have u2 := blk_cell? HD6.out 2
            have uf := blk_free HD6.out
            have ul := blk_lt HD6.out
            simp only [List.getElem?_toArray, List.getElem?_cons_zero, List.getElem?_cons_succ] at u0 u1 u2
            refine held_one 13 (by kernel_rfl) rfl (fun K hK => ?_)
            go_simp
            generalize hst : World.setCell (World.setCell (World.setCell wst_12 _ _) _ _) _ _ = wst_13
            have hc13 : Chg [w38.heap.size] wst_12 wst_13 := by rw [← hst]; exact ((((Chg.of_below _ (Below.refl _ _)).set (by simp) _).set (by simp) _).set (by simp) _)
            have v13_0 : wst_13.cell? ⟨w38.heap.size, 0, none⟩ = some (.int .i64 (intV (pd.tmod 9)).kind) := by subst hst; go_simp
            have v13_1 : wst_13.cell? ⟨w38.heap.size, 1, none⟩ = some (.int .i64 (intV (pd.tmod 9)).int) := by subst hst; go_simp
            have v13_2 : wst_13.cell? ⟨w38.heap.size, 2, none⟩ = some (.string (intV (pd.tmod 9)).str) := by subst hst; go_simp
            refine hK.out _ _ (by (try dsimp only); exact ⟨hc13.cell hHeld.1 (fun h => by have h1 := List.mem_singleton.1 h; simp only at h1; omega), hc13.cell hHeld.2.1 (fun h => by have h1 := List.mem_singleton.1 h; simp only at h1; omega), hc13.cell hHeld.2.2.1 (fun h => by have h1 := List.mem_singleton.1 h; simp only at h1; omega), hc13.cell hHeld.2.2.2.1 (fun h => by have h1 := List.mem_singleton.1 h; simp only at h1; omega), hc13.cell hHeld.2.2.2.2.1 (fun h => by have h1 := List.mem_singleton.1 h; simp only at h1; omega), hc13.cell hHeld.2.2.2.2.2.1 (fun h => by have h1 := List.mem_singleton.1 h; simp only at h1; omega), hc13.cell hHeld.2.2.2.2.2.2.1 (fun h => by have h1 := List.mem_singleton.1 h; simp only at h1; omega), Below.mark hHeld.2.2.2.2.2.2.2 hc13 hHeld.2.2.2.2.2.2.2.size (fun b hb => by obtain rfl := List.mem_singleton.1 hb; omega)⟩) (fun hNew => ?_)
            clear hK K hHeld
            have hHeld := hNew
            clear hNew
            try simp only [Act.put, List.setIfInBounds_toArray, List.set_cons_zero, List.set_cons_succ]
            clear hst uf ul u0 u1 u2
            replace v12_0 := hc13.cell v12_0 (fun h => by have h1 := List.mem_singleton.1 h; simp only at h1; omega)
            replace v12_1 := hc13.cell v12_1 (fun h => by have h1 := List.mem_singleton.1 h; simp only at h1; omega)
            replace v12_2 := hc13.cell v12_2 (fun h => by have h1 := List.mem_singleton.1 h; simp only at h1; omega)
            refine wpAnyH_done (by kernel_rfl) ?_ _
            go_wp2_with fail
            go_meet
            exact ⟨_, _, _, _, rfl, rfl, v12_0, v12_1, v12_2, v13_0, v13_1, v13_2, hHeld.2.2.1, hHeld.2.2.2.1, hHeld.2.2.2.2.1, hHeld.2.2.2.2.2.1, hHeld.2.2.2.2.2.2.1, ex_trans HB0.out hHeld.2.2.2.2.2.2.2⟩
        · go_simp
          generalize hwa : World.alloc wa_17 _ = wa_23
          have hba : Below wa_17.heap.size wa_17 wa_23 := by rw [← hwa]; exact (Below.refl _ _).alloc (Nat.le_refl _) _
          have hsz_23 : wa_23.heap.size ≤ wa_17.heap.size + 1 := by rw [← hwa]; simp
          have hsz2_23 : wa_17.heap.size + 1 ≤ wa_23.heap.size := by rw [← hwa]; simp
          have HD5 := Lib.hid (below_keep hba HD5.out)
          have HD6 := Lib.hid (show wa_23.heap[wa_17.heap.size]? = some (.cells #[.int .i64 0, .int .i64 0, .string ByteArray.empty] 30 (0, 0)) by rw [← hwa]; exact hp_new rfl)
          refine hK.out _ _ (by (try dsimp only); exact ⟨keep_cell hba hHeld.1, keep_cell hba hHeld.2.1, keep_cell hba hHeld.2.2.1, keep_cell hba hHeld.2.2.2.1, keep_cell hba hHeld.2.2.2.2.1, keep_cell hba hHeld.2.2.2.2.2.1, keep_cell hba hHeld.2.2.2.2.2.2.1, ex_trans hHeld.2.2.2.2.2.2.2 hba⟩) (fun hNew => ?_)
          clear hK K hHeld
          have hHeld := hNew
          clear hNew
          try simp only [Act.put, List.setIfInBounds_toArray, List.set_cons_zero, List.set_cons_succ]
          clear hwa hba
          refine held_one 4 (by kernel_rfl) rfl (fun K hK => ?_)
          go_simp
          go_at_call 11
          refine (spec_IntValue _ _).mono ?_; rintro e w44 ⟨rfl, hb24⟩
          have hsz_24 : wa_23.heap.size ≤ w44.heap.size := hb24.size
          have HD5 := Lib.hid (below_keep hb24 HD5.out)
          have HD6 := Lib.hid (below_keep hb24 HD6.out)
          go_wp2_with fail
          refine hK.out _ _ (by (try dsimp only); exact ⟨keep_cell hb24 hHeld.1, keep_cell hb24 hHeld.2.1, keep_cell hb24 hHeld.2.2.1, keep_cell hb24 hHeld.2.2.2.1, keep_cell hb24 hHeld.2.2.2.2.1, keep_cell hb24 hHeld.2.2.2.2.2.1, keep_cell hb24 hHeld.2.2.2.2.2.2.1, ex_trans hHeld.2.2.2.2.2.2.2 hb24⟩) (fun hNew => ?_)
          clear hK K hHeld
          have hHeld := hNew
          clear hNew
          try simp only [Act.put, List.setIfInBounds_toArray, List.set_cons_zero, List.set_cons_succ]
          clear hb24
          refine held_one 9 (by kernel_rfl) rfl (fun K hK => ?_)
          go_simp
          go_at_call 11
          refine (spec_IntValue _ _).mono ?_; rintro e w45 ⟨rfl, hb25⟩
          have hsz_25 : w44.heap.size ≤ w45.heap.size := hb25.size
          have HD5 := Lib.hid (below_keep hb25 HD5.out)
          have HD6 := Lib.hid (below_keep hb25 HD6.out)
          go_wp2_with fail
          refine hK.out _ _ (by (try dsimp only); exact ⟨keep_cell hb25 hHeld.1, keep_cell hb25 hHeld.2.1, keep_cell hb25 hHeld.2.2.1, keep_cell hb25 hHeld.2.2.2.1, keep_cell hb25 hHeld.2.2.2.2.1, keep_cell hb25 hHeld.2.2.2.2.2.1, keep_cell hb25 hHeld.2.2.2.2.2.2.1, ex_trans hHeld.2.2.2.2.2.2.2 hb25⟩) (fun hNew => ?_)
          clear hK K hHeld
          have hHeld := hNew
          clear hNew
          try simp only [Act.put, List.setIfInBounds_toArray, List.set_cons_zero, List.set_cons_succ]
          clear hb25
          have u0 := blk_cell? HD5.out 0
          have u1 := blk_cell? HD5.out 1
          have u2 := blk_cell? HD5.out 2
          have uf := blk_free HD5.out
          have ul := blk_lt HD5.out
          simp only [List.getElem?_toArray, List.getElem?_cons_zero, List.getElem?_cons_succ] at u0 u1 u2
          refine held_one 12 (by kernel_rfl) rfl (fun K hK => ?_)
          go_simp
          generalize hst : World.setCell (World.setCell (World.setCell w45 _ _) _ _) _ _ = wst_12
          have hc12 : Chg [Wd.heap.size] w45 wst_12 := by rw [← hst]; exact ((((Chg.of_below _ (Below.refl _ _)).set (by simp) _).set (by simp) _).set (by simp) _)
          have v12_0 : wst_12.cell? ⟨Wd.heap.size, 0, none⟩ = some (.int .i64 (intV (pa.tmod 9)).kind) := by subst hst; go_simp
          have v12_1 : wst_12.cell? ⟨Wd.heap.size, 1, none⟩ = some (.int .i64 (intV (pa.tmod 9)).int) := by subst hst; go_simp
          have v12_2 : wst_12.cell? ⟨Wd.heap.size, 2, none⟩ = some (.string (intV (pa.tmod 9)).str) := by subst hst; go_simp
          refine hK.out _ _ (by (try dsimp only); exact ⟨hc12.cell hHeld.1 (fun h => by have h1 := List.mem_singleton.1 h; simp only at h1; omega), hc12.cell hHeld.2.1 (fun h => by have h1 := List.mem_singleton.1 h; simp only at h1; omega), hc12.cell hHeld.2.2.1 (fun h => by have h1 := List.mem_singleton.1 h; simp only at h1; omega), hc12.cell hHeld.2.2.2.1 (fun h => by have h1 := List.mem_singleton.1 h; simp only at h1; omega), hc12.cell hHeld.2.2.2.2.1 (fun h => by have h1 := List.mem_singleton.1 h; simp only at h1; omega), hc12.cell hHeld.2.2.2.2.2.1 (fun h => by have h1 := List.mem_singleton.1 h; simp only at h1; omega), hc12.cell hHeld.2.2.2.2.2.2.1 (fun h => by have h1 := List.mem_singleton.1 h; simp only at h1; omega), Below.mark hHeld.2.2.2.2.2.2.2 hc12 hHeld.2.2.2.2.2.2.2.size (fun b hb => by obtain rfl := List.mem_singleton.1 hb; omega)⟩) (fun hNew => ?_)
          clear hK K hHeld
          have hHeld := hNew
          clear hNew
          try simp only [Act.put, List.setIfInBounds_toArray, List.set_cons_zero, List.set_cons_succ]
          clear hst uf ul u0 u1 u2
          have HD6 := Lib.hid (hc12.keepb HD6.out (fun h => by have h1 := List.mem_singleton.1 h; omega))
          have u0 := blk_cell? HD6.out 0
          have u1 := blk_cell? HD6.out 1
          have u2 := blk_cell? HD6.out 2
          have uf := blk_free HD6.out
          have ul := blk_lt HD6.out
          simp only [List.getElem?_toArray, List.getElem?_cons_zero, List.getElem?_cons_succ] at u0 u1 u2
          refine held_one 13 (by kernel_rfl) rfl (fun K hK => ?_)
          go_simp
          generalize hst : World.setCell (World.setCell (World.setCell wst_12 _ _) _ _) _ _ = wst_13
          have hc13 : Chg [wa_17.heap.size] wst_12 wst_13 := by rw [← hst]; exact ((((Chg.of_below _ (Below.refl _ _)).set (by simp) _).set (by simp) _).set (by simp) _)
          have v13_0 : wst_13.cell? ⟨wa_17.heap.size, 0, none⟩ = some (.int .i64 (intV (pd.tmod 9)).kind) := by subst hst; go_simp
          have v13_1 : wst_13.cell? ⟨wa_17.heap.size, 1, none⟩ = some (.int .i64 (intV (pd.tmod 9)).int) := by subst hst; go_simp
          have v13_2 : wst_13.cell? ⟨wa_17.heap.size, 2, none⟩ = some (.string (intV (pd.tmod 9)).str) := by subst hst; go_simp
          refine hK.out _ _ (by (try dsimp only); exact ⟨hc13.cell hHeld.1 (fun h => by have h1 := List.mem_singleton.1 h; simp only at h1; omega), hc13.cell hHeld.2.1 (fun h => by have h1 := List.mem_singleton.1 h; simp only at h1; omega), hc13.cell hHeld.2.2.1 (fun h => by have h1 := List.mem_singleton.1 h; simp only at h1; omega), hc13.cell hHeld.2.2.2.1 (fun h => by have h1 := List.mem_singleton.1 h; simp only at h1; omega), hc13.cell hHeld.2.2.2.2.1 (fun h => by have h1 := List.mem_singleton.1 h; simp only at h1; omega), hc13.cell hHeld.2.2.2.2.2.1 (fun h => by have h1 := List.mem_singleton.1 h; simp only at h1; omega), hc13.cell hHeld.2.2.2.2.2.2.1 (fun h => by have h1 := List.mem_singleton.1 h; simp only at h1; omega), Below.mark hHeld.2.2.2.2.2.2.2 hc13 hHeld.2.2.2.2.2.2.2.size (fun b hb => by obtain rfl := List.mem_singleton.1 hb; omega)⟩) (fun hNew => ?_)
          clear hK K hHeld
          have hHeld := hNew
          clear hNew
          try simp only [Act.put, List.setIfInBounds_toArray, List.set_cons_zero, List.set_cons_succ]
          clear hst uf ul u0 u1 u2
          replace v12_0 := hc13.cell v12_0 (fun h => by have h1 := List.mem_singleton.1 h; simp only at h1; omega)
          replace v12_1 := hc13.cell v12_1 (fun h => by have h1 := List.mem_singleton.1 h; simp only at h1; omega)
          replace v12_2 := hc13.cell v12_2 (fun h => by have h1 := List.mem_singleton.1 h; simp only at h1; omega)
          refine wpAnyH_done (by kernel_rfl) ?_ _
          go_wp2_with fail
          go_meet
          exact ⟨_, _, _, _, rfl, rfl, v12_0, v12_1, v12_2, v13_0, v13_1, v13_2, hHeld.2.2.1, hHeld.2.2.2.1, hHeld.2.2.2.2.1, hHeld.2.2.2.2.2.1, hHeld.2.2.2.2.2.2.1, ex_trans HB0.out hHeld.2.2.2.2.2.2.2⟩
      · go_simp
        generalize hwa : World.alloc Wd _ = wa_26
        have hba : Below Wd.heap.size Wd wa_26 := by rw [← hwa]; exact (Below.refl _ _).alloc (Nat.le_refl _) _
        have hsz_26 : wa_26.heap.size ≤ Wd.heap.size + 1 := by rw [← hwa]; simp
        have hsz2_26 : Wd.heap.size + 1 ≤ wa_26.heap.size := by rw [← hwa]; simp
        have HD6 := Lib.hid (show wa_26.heap[Wd.heap.size]? = some (.cells #[.int .i64 0, .int .i64 0, .string ByteArray.empty] 30 (0, 0)) by rw [← hwa]; exact hp_new rfl)
        refine hK.out _ _ (by (try dsimp only); exact ⟨keep_cell hba hHeld.1, keep_cell hba hHeld.2.1, keep_cell hba hHeld.2.2.1, keep_cell hba hHeld.2.2.2.1, keep_cell hba hHeld.2.2.2.2.1, keep_cell hba hHeld.2.2.2.2.2.1, keep_cell hba hHeld.2.2.2.2.2.2.1, ex_trans hHeld.2.2.2.2.2.2.2 hba⟩) (fun hNew => ?_)
        clear hK K hHeld
        have hHeld := hNew
        clear hNew
        try simp only [Act.put, List.setIfInBounds_toArray, List.set_cons_zero, List.set_cons_succ]
        clear hwa hba
        refine held_two 4 10 (by kernel_rfl) rfl rfl (fun K hK => ?_) (fun K hK => ?_)
        · go_simp
          go_at_call 11
          refine (spec_IntValue _ _).mono ?_; rintro e w47 ⟨rfl, hb27⟩
          have hsz_27 : wa_26.heap.size ≤ w47.heap.size := hb27.size
          have HD6 := Lib.hid (below_keep hb27 HD6.out)
          go_wp2_with fail
          refine hK.out _ _ (by (try dsimp only); exact ⟨keep_cell hb27 hHeld.1, keep_cell hb27 hHeld.2.1, keep_cell hb27 hHeld.2.2.1, keep_cell hb27 hHeld.2.2.2.1, keep_cell hb27 hHeld.2.2.2.2.1, keep_cell hb27 hHeld.2.2.2.2.2.1, keep_cell hb27 hHeld.2.2.2.2.2.2.1, ex_trans hHeld.2.2.2.2.2.2.2 hb27⟩) (fun hNew => ?_)
          clear hK K hHeld
          have hHeld := hNew
          clear hNew
          try simp only [Act.put, List.setIfInBounds_toArray, List.set_cons_zero, List.set_cons_succ]
          clear hb27
          refine held_two 9 10 (by kernel_rfl) rfl rfl (fun K hK => ?_) (fun K hK => ?_)
          · go_simp
            go_at_call 11
            refine (spec_IntValue _ _).mono ?_; rintro e w48 ⟨rfl, hb28⟩
            have hsz_28 : w47.heap.size ≤ w48.heap.size := hb28.size
            have HD6 := Lib.hid (below_keep hb28 HD6.out)
            go_wp2_with fail
            refine hK.out _ _ (by (try dsimp only); exact ⟨keep_cell hb28 hHeld.1, keep_cell hb28 hHeld.2.1, keep_cell hb28 hHeld.2.2.1, keep_cell hb28 hHeld.2.2.2.1, keep_cell hb28 hHeld.2.2.2.2.1, keep_cell hb28 hHeld.2.2.2.2.2.1, keep_cell hb28 hHeld.2.2.2.2.2.2.1, ex_trans hHeld.2.2.2.2.2.2.2 hb28⟩) (fun hNew => ?_)
            clear hK K hHeld
            have hHeld := hNew
            clear hNew
            try simp only [Act.put, List.setIfInBounds_toArray, List.set_cons_zero, List.set_cons_succ]
            clear hb28
            refine held_one 10 (by kernel_rfl) rfl (fun K hK => ?_)
            go_simp
            generalize hwa : World.alloc w48 _ = wa_29
            have hba : Below w48.heap.size w48 wa_29 := by rw [← hwa]; exact (Below.refl _ _).alloc (Nat.le_refl _) _
            have hsz_29 : wa_29.heap.size ≤ w48.heap.size + 1 := by rw [← hwa]; simp
            have hsz2_29 : w48.heap.size + 1 ≤ wa_29.heap.size := by rw [← hwa]; simp
            have HD6 := Lib.hid (below_keep hba HD6.out)
            have HD5 := Lib.hid (show wa_29.heap[w48.heap.size]? = some (.cells #[.int .i64 0, .int .i64 0, .string ByteArray.empty] 30 (0, 0)) by rw [← hwa]; exact hp_new rfl)
            refine hK.out _ _ (by (try dsimp only); exact ⟨keep_cell hba hHeld.1, keep_cell hba hHeld.2.1, keep_cell hba hHeld.2.2.1, keep_cell hba hHeld.2.2.2.1, keep_cell hba hHeld.2.2.2.2.1, keep_cell hba hHeld.2.2.2.2.2.1, keep_cell hba hHeld.2.2.2.2.2.2.1, ex_trans hHeld.2.2.2.2.2.2.2 hba⟩) (fun hNew => ?_)
            clear hK K hHeld
            have hHeld := hNew
            clear hNew
            try simp only [Act.put, List.setIfInBounds_toArray, List.set_cons_zero, List.set_cons_succ]
            clear hwa hba
            have u0 := blk_cell? HD5.out 0
            have u1 := blk_cell? HD5.out 1
            have u2 := blk_cell? HD5.out 2
            have uf := blk_free HD5.out
            have ul := blk_lt HD5.out
            simp only [List.getElem?_toArray, List.getElem?_cons_zero, List.getElem?_cons_succ] at u0 u1 u2
            refine held_one 12 (by kernel_rfl) rfl (fun K hK => ?_)
            go_simp
            generalize hst : World.setCell (World.setCell (World.setCell wa_29 _ _) _ _) _ _ = wst_12
            have hc12 : Chg [w48.heap.size] wa_29 wst_12 := by rw [← hst]; exact ((((Chg.of_below _ (Below.refl _ _)).set (by simp) _).set (by simp) _).set (by simp) _)
            have v12_0 : wst_12.cell? ⟨w48.heap.size, 0, none⟩ = some (.int .i64 (intV (pa.tmod 9)).kind) := by subst hst; go_simp
            have v12_1 : wst_12.cell? ⟨w48.heap.size, 1, none⟩ = some (.int .i64 (intV (pa.tmod 9)).int) := by subst hst; go_simp
            have v12_2 : wst_12.cell? ⟨w48.heap.size, 2, none⟩ = some (.string (intV (pa.tmod 9)).str) := by subst hst; go_simp
            refine hK.out _ _ (by (try dsimp only); exact ⟨hc12.cell hHeld.1 (fun h => by have h1 := List.mem_singleton.1 h; simp only at h1; omega), hc12.cell hHeld.2.1 (fun h => by have h1 := List.mem_singleton.1 h; simp only at h1; omega), hc12.cell hHeld.2.2.1 (fun h => by have h1 := List.mem_singleton.1 h; simp only at h1; omega), hc12.cell hHeld.2.2.2.1 (fun h => by have h1 := List.mem_singleton.1 h; simp only at h1; omega), hc12.cell hHeld.2.2.2.2.1 (fun h => by have h1 := List.mem_singleton.1 h; simp only at h1; omega), hc12.cell hHeld.2.2.2.2.2.1 (fun h => by have h1 := List.mem_singleton.1 h; simp only at h1; omega), hc12.cell hHeld.2.2.2.2.2.2.1 (fun h => by have h1 := List.mem_singleton.1 h; simp only at h1; omega), Below.mark hHeld.2.2.2.2.2.2.2 hc12 hHeld.2.2.2.2.2.2.2.size (fun b hb => by obtain rfl := List.mem_singleton.1 hb; omega)⟩) (fun hNew => ?_)
            clear hK K hHeld
            have hHeld := hNew
            clear hNew
            try simp only [Act.put, List.setIfInBounds_toArray, List.set_cons_zero, List.set_cons_succ]
            clear hst uf ul u0 u1 u2
            have HD6 := Lib.hid (hc12.keepb HD6.out (fun h => by have h1 := List.mem_singleton.1 h; omega))
            have u0 := blk_cell? HD6.out 0
            have u1 := blk_cell? HD6.out 1
            have u2 := blk_cell? HD6.out 2
            have uf := blk_free HD6.out
            have ul := blk_lt HD6.out
            simp only [List.getElem?_toArray, List.getElem?_cons_zero, List.getElem?_cons_succ] at u0 u1 u2
            refine held_one 13 (by kernel_rfl) rfl (fun K hK => ?_)
            go_simp
            generalize hst : World.setCell (World.setCell (World.setCell wst_12 _ _) _ _) _ _ = wst_13
            have hc13 : Chg [Wd.heap.size] wst_12 wst_13 := by rw [← hst]; exact ((((Chg.of_below _ (Below.refl _ _)).set (by simp) _).set (by simp) _).set (by simp) _)
            have v13_0 : wst_13.cell? ⟨Wd.heap.size, 0, none⟩ = some (.int .i64 (intV (pd.tmod 9)).kind) := by subst hst; go_simp
            have v13_1 : wst_13.cell? ⟨Wd.heap.size, 1, none⟩ = some (.int .i64 (intV (pd.tmod 9)).int) := by subst hst; go_simp
            have v13_2 : wst_13.cell? ⟨Wd.heap.size, 2, none⟩ = some (.string (intV (pd.tmod 9)).str) := by subst hst; go_simp
            refine hK.out _ _ (by (try dsimp only); exact ⟨hc13.cell hHeld.1 (fun h => by have h1 := List.mem_singleton.1 h; simp only at h1; omega), hc13.cell hHeld.2.1 (fun h => by have h1 := List.mem_singleton.1 h; simp only at h1; omega), hc13.cell hHeld.2.2.1 (fun h => by have h1 := List.mem_singleton.1 h; simp only at h1; omega), hc13.cell hHeld.2.2.2.1 (fun h => by have h1 := List.mem_singleton.1 h; simp only at h1; omega), hc13.cell hHeld.2.2.2.2.1 (fun h => by have h1 := List.mem_singleton.1 h; simp only at h1; omega), hc13.cell hHeld.2.2.2.2.2.1 (fun h => by have h1 := List.mem_singleton.1 h; simp only at h1; omega), hc13.cell hHeld.2.2.2.2.2.2.1 (fun h => by have h1 := List.mem_singleton.1 h; simp only at h1; omega), Below.mark hHeld.2.2.2.2.2.2.2 hc13 hHeld.2.2.2.2.2.2.2.size (fun b hb => by obtain rfl := List.mem_singleton.1 hb; omega)⟩) (fun hNew => ?_)
            clear hK K hHeld
            have hHeld := hNew
            clear hNew
            try simp only [Act.put, List.setIfInBounds_toArray, List.set_cons_zero, List.set_cons_succ]
            clear hst uf ul u0 u1 u2
            replace v12_0 := hc13.cell v12_0 (fun h => by have h1 := List.mem_singleton.1 h; simp only at h1; omega)
            replace v12_1 := hc13.cell v12_1 (fun h => by have h1 := List.mem_singleton.1 h; simp only at h1; omega)
            replace v12_2 := hc13.cell v12_2 (fun h => by have h1 := List.mem_singleton.1 h; simp only at h1; omega)
            refine wpAnyH_done (by kernel_rfl) ?_ _
            go_wp2_with fail
            go_meet
            exact ⟨_, _, _, _, rfl, rfl, v12_0, v12_1, v12_2, v13_0, v13_1, v13_2, hHeld.2.2.1, hHeld.2.2.2.1, hHeld.2.2.2.2.1, hHeld.2.2.2.2.2.1, hHeld.2.2.2.2.2.2.1, ex_trans HB0.out hHeld.2.2.2.2.2.2.2⟩
          · go_simp
            generalize hwa : World.alloc w47 _ = wa_30
            have hba : Below w47.heap.size w47 wa_30 := by rw [← hwa]; exact (Below.refl _ _).alloc (Nat.le_refl _) _
            have hsz_30 : wa_30.heap.size ≤ w47.heap.size + 1 := by rw [← hwa]; simp
            have hsz2_30 : w47.heap.size + 1 ≤ wa_30.heap.size := by rw [← hwa]; simp
            have HD6 := Lib.hid (below_keep hba HD6.out)
            have HD5 := Lib.hid (show wa_30.heap[w47.heap.size]? = some (.cells #[.int .i64 0, .int .i64 0, .string ByteArray.empty] 30 (0, 0)) by rw [← hwa]; exact hp_new rfl)
            refine hK.out _ _ (by (try dsimp only); exact ⟨keep_cell hba hHeld.1, keep_cell hba hHeld.2.1, keep_cell hba hHeld.2.2.1, keep_cell hba hHeld.2.2.2.1, keep_cell hba hHeld.2.2.2.2.1, keep_cell hba hHeld.2.2.2.2.2.1, keep_cell hba hHeld.2.2.2.2.2.2.1, ex_trans hHeld.2.2.2.2.2.2.2 hba⟩) (fun hNew => ?_)
            clear hK K hHeld
            have hHeld := hNew
            clear hNew
            try simp only [Act.put, List.setIfInBounds_toArray, List.set_cons_zero, List.set_cons_succ]
            clear hwa hba
            refine held_one 9 (by kernel_rfl) rfl (fun K hK => ?_)
            go_simp
            go_at_call 11
            refine (spec_IntValue _ _).mono ?_; rintro e w51 ⟨rfl, hb31⟩
            have hsz_31 : wa_30.heap.size ≤ w51.heap.size := hb31.size
            have HD6 := Lib.hid (below_keep hb31 HD6.out)
            have HD5 := Lib.hid (below_keep hb31 HD5.out)
            go_wp2_with fail
            refine hK.out _ _ (by (try dsimp only); exact ⟨keep_cell hb31 hHeld.1, keep_cell hb31 hHeld.2.1, keep_cell hb31 hHeld.2.2.1, keep_cell hb31 hHeld.2.2.2.1, keep_cell hb31 hHeld.2.2.2.2.1, keep_cell hb31 hHeld.2.2.2.2.2.1, keep_cell hb31 hHeld.2.2.2.2.2.2.1, ex_trans hHeld.2.2.2.2.2.2.2 hb31⟩) (fun hNew => ?_)
            clear hK K hHeld
            have hHeld := hNew
            clear hNew
            try simp only [Act.put, List.setIfInBounds_toArray, List.set_cons_zero, List.set_cons_succ]
            clear hb31
            have u0 := blk_cell? HD5.out 0
            have u1 := blk_cell? HD5.out 1
            have u2 := blk_cell? HD5.out 2
            have uf := blk_free HD5.out
            have ul := blk_lt HD5.out
            simp only [List.getElem?_toArray, List.getElem?_cons_zero, List.getElem?_cons_succ] at u0 u1 u2
            refine held_one 12 (by kernel_rfl) rfl (fun K hK => ?_)
            go_simp
            generalize hst : World.setCell (World.setCell (World.setCell w51 _ _) _ _) _ _ = wst_12
            have hc12 : Chg [w47.heap.size] w51 wst_12 := by rw [← hst]; exact ((((Chg.of_below _ (Below.refl _ _)).set (by simp) _).set (by simp) _).set (by simp) _)
            have v12_0 : wst_12.cell? ⟨w47.heap.size, 0, none⟩ = some (.int .i64 (intV (pa.tmod 9)).kind) := by subst hst; go_simp
            have v12_1 : wst_12.cell? ⟨w47.heap.size, 1, none⟩ = some (.int .i64 (intV (pa.tmod 9)).int) := by subst hst; go_simp
            have v12_2 : wst_12.cell? ⟨w47.heap.size, 2, none⟩ = some (.string (intV (pa.tmod 9)).str) := by subst hst; go_simp
            refine hK.out _ _ (by (try dsimp only); exact ⟨hc12.cell hHeld.1 (fun h => by have h1 := List.mem_singleton.1 h; simp only at h1; omega), hc12.cell hHeld.2.1 (fun h => by have h1 := List.mem_singleton.1 h; simp only at h1; omega), hc12.cell hHeld.2.2.1 (fun h => by have h1 := List.mem_singleton.1 h; simp only at h1; omega), hc12.cell hHeld.2.2.2.1 (fun h => by have h1 := List.mem_singleton.1 h; simp only at h1; omega), hc12.cell hHeld.2.2.2.2.1 (fun h => by have h1 := List.mem_singleton.1 h; simp only at h1; omega), hc12.cell hHeld.2.2.2.2.2.1 (fun h => by have h1 := List.mem_singleton.1 h; simp only at h1; omega), hc12.cell hHeld.2.2.2.2.2.2.1 (fun h => by have h1 := List.mem_singleton.1 h; simp only at h1; omega), Below.mark hHeld.2.2.2.2.2.2.2 hc12 hHeld.2.2.2.2.2.2.2.size (fun b hb => by obtain rfl := List.mem_singleton.1 hb; omega)⟩) (fun hNew => ?_)
            clear hK K hHeld
            have hHeld := hNew
            clear hNew
            try simp only [Act.put, List.setIfInBounds_toArray, List.set_cons_zero, List.set_cons_succ]
            clear hst uf ul u0 u1 u2
            have HD6 := Lib.hid (hc12.keepb HD6.out (fun h => by have h1 := List.mem_singleton.1 h; omega))
            have u0 := blk_cell? HD6.out 0
            have u1 := blk_cell? HD6.out 1
            have u2 := blk_cell? HD6.out 2
            have uf := blk_free HD6.out
            have ul := blk_lt HD6.out
            simp only [List.getElem?_toArray, List.getElem?_cons_zero, List.getElem?_cons_succ] at u0 u1 u2
            refine held_one 13 (by kernel_rfl) rfl (fun K hK => ?_)
            go_simp
            generalize hst : World.setCell (World.setCell (World.setCell wst_12 _ _) _ _) _ _ = wst_13
            have hc13 : Chg [Wd.heap.size] wst_12 wst_13 := by rw [← hst]; exact ((((Chg.of_below _ (Below.refl _ _)).set (by simp) _).set (by simp) _).set (by simp) _)
            have v13_0 : wst_13.cell? ⟨Wd.heap.size, 0, none⟩ = some (.int .i64 (intV (pd.tmod 9)).kind) := by subst hst; go_simp
            have v13_1 : wst_13.cell? ⟨Wd.heap.size, 1, none⟩ = some (.int .i64 (intV (pd.tmod 9)).int) := by subst hst; go_simp
            have v13_2 : wst_13.cell? ⟨Wd.heap.size, 2, none⟩ = some (.string (intV (pd.tmod 9)).str) := by subst hst; go_simp
            refine hK.out _ _ (by (try dsimp only); exact ⟨hc13.cell hHeld.1 (fun h => by have h1 := List.mem_singleton.1 h; simp only at h1; omega), hc13.cell hHeld.2.1 (fun h => by have h1 := List.mem_singleton.1 h; simp only at h1; omega), hc13.cell hHeld.2.2.1 (fun h => by have h1 := List.mem_singleton.1 h; simp only at h1; omega), hc13.cell hHeld.2.2.2.1 (fun h => by have h1 := List.mem_singleton.1 h; simp only at h1; omega), hc13.cell hHeld.2.2.2.2.1 (fun h => by have h1 := List.mem_singleton.1 h; simp only at h1; omega), hc13.cell hHeld.2.2.2.2.2.1 (fun h => by have h1 := List.mem_singleton.1 h; simp only at h1; omega), hc13.cell hHeld.2.2.2.2.2.2.1 (fun h => by have h1 := List.mem_singleton.1 h; simp only at h1; omega), Below.mark hHeld.2.2.2.2.2.2.2 hc13 hHeld.2.2.2.2.2.2.2.size (fun b hb => by obtain rfl := List.mem_singleton.1 hb; omega)⟩) (fun hNew => ?_)
            clear hK K hHeld
            have hHeld := hNew
            clear hNew
            try simp only [Act.put, List.setIfInBounds_toArray, List.set_cons_zero, List.set_cons_succ]
            clear hst uf ul u0 u1 u2
            replace v12_0 := hc13.cell v12_0 (fun h => by have h1 := List.mem_singleton.1 h; simp only at h1; omega)
            replace v12_1 := hc13.cell v12_1 (fun h => by have h1 := List.mem_singleton.1 h; simp only at h1; omega)
            replace v12_2 := hc13.cell v12_2 (fun h => by have h1 := List.mem_singleton.1 h; simp only at h1; omega)
            refine wpAnyH_done (by kernel_rfl) ?_ _
            go_wp2_with fail
            go_meet
            exact ⟨_, _, _, _, rfl, rfl, v12_0, v12_1, v12_2, v13_0, v13_1, v13_2, hHeld.2.2.1, hHeld.2.2.2.1, hHeld.2.2.2.2.1, hHeld.2.2.2.2.2.1, hHeld.2.2.2.2.2.2.1, ex_trans HB0.out hHeld.2.2.2.2.2.2.2⟩
        · go_simp
          generalize hwa : World.alloc wa_26 _ = wa_32
          have hba : Below wa_26.heap.size wa_26 wa_32 := by rw [← hwa]; exact (Below.refl _ _).alloc (Nat.le_refl _) _
          have hsz_32 : wa_32.heap.size ≤ wa_26.heap.size + 1 := by rw [← hwa]; simp
          have hsz2_32 : wa_26.heap.size + 1 ≤ wa_32.heap.size := by rw [← hwa]; simp
          have HD6 := Lib.hid (below_keep hba HD6.out)
          have HD5 := Lib.hid (show wa_32.heap[wa_26.heap.size]? = some (.cells #[.int .i64 0, .int .i64 0, .string ByteArray.empty] 30 (0, 0)) by rw [← hwa]; exact hp_new rfl)
          refine hK.out _ _ (by (try dsimp only); exact ⟨keep_cell hba hHeld.1, keep_cell hba hHeld.2.1, keep_cell hba hHeld.2.2.1, keep_cell hba hHeld.2.2.2.1, keep_cell hba hHeld.2.2.2.2.1, keep_cell hba hHeld.2.2.2.2.2.1, keep_cell hba hHeld.2.2.2.2.2.2.1, ex_trans hHeld.2.2.2.2.2.2.2 hba⟩) (fun hNew => ?_)
          clear hK K hHeld
          have hHeld := hNew
          clear hNew
          try simp only [Act.put, List.setIfInBounds_toArray, List.set_cons_zero, List.set_cons_succ]
          clear hwa hba
          refine held_one 4 (by kernel_rfl) rfl (fun K hK => ?_)
          go_simp
          go_at_call 11
          refine (spec_IntValue _ _).mono ?_; rintro e w53 ⟨rfl, hb33⟩
          have hsz_33 : wa_32.heap.size ≤ w53.heap.size := hb33.size
          have HD6 := Lib.hid (below_keep hb33 HD6.out)
          have HD5 := Lib.hid (below_keep hb33 HD5.out)
          go_wp2_with fail
          refine hK.out _ _ (by (try dsimp only); exact ⟨keep_cell hb33 hHeld.1, keep_cell hb33 hHeld.2.1, keep_cell hb33 hHeld.2.2.1, keep_cell hb33 hHeld.2.2.2.1, keep_cell hb33 hHeld.2.2.2.2.1, keep_cell hb33 hHeld.2.2.2.2.2.1, keep_cell hb33 hHeld.2.2.2.2.2.2.1, ex_trans hHeld.2.2.2.2.2.2.2 hb33⟩) (fun hNew => ?_)
          clear hK K hHeld
          have hHeld := hNew
          clear hNew
          try simp only [Act.put, List.setIfInBounds_toArray, List.set_cons_zero, List.set_cons_succ]
          clear hb33
          refine held_one 9 (by kernel_rfl) rfl (fun K hK => ?_)
          go_simp
          go_at_call 11
          refine (spec_IntValue _ _).mono ?_; rintro e w54 ⟨rfl, hb34⟩
          have hsz_34 : w53.heap.size ≤ w54.heap.size := hb34.size
          have HD6 := Lib.hid (below_keep hb34 HD6.out)
          have HD5 := Lib.hid (below_keep hb34 HD5.out)
          go_wp2_with fail
          refine hK.out _ _ (by (try dsimp only); exact ⟨keep_cell hb34 hHeld.1, keep_cell hb34 hHeld.2.1, keep_cell hb34 hHeld.2.2.1, keep_cell hb34 hHeld.2.2.2.1, keep_cell hb34 hHeld.2.2.2.2.1, keep_cell hb34 hHeld.2.2.2.2.2.1, keep_cell hb34 hHeld.2.2.2.2.2.2.1, ex_trans hHeld.2.2.2.2.2.2.2 hb34⟩) (fun hNew => ?_)
          clear hK K hHeld
          have hHeld := hNew
          clear hNew
          try simp only [Act.put, List.setIfInBounds_toArray, List.set_cons_zero, List.set_cons_succ]
          clear hb34
          have u0 := blk_cell? HD5.out 0
          have u1 := blk_cell? HD5.out 1
          have u2 := blk_cell? HD5.out 2
          have uf := blk_free HD5.out
          have ul := blk_lt HD5.out
          simp only [List.getElem?_toArray, List.getElem?_cons_zero, List.getElem?_cons_succ] at u0 u1 u2
          refine held_one 12 (by kernel_rfl) rfl (fun K hK => ?_)
          go_simp
          generalize hst : World.setCell (World.setCell (World.setCell w54 _ _) _ _) _ _ = wst_12
          have hc12 : Chg [wa_26.heap.size] w54 wst_12 := by rw [← hst]; exact ((((Chg.of_below _ (Below.refl _ _)).set (by simp) _).set (by simp) _).set (by simp) _)
          have v12_0 : wst_12.cell? ⟨wa_26.heap.size, 0, none⟩ = some (.int .i64 (intV (pa.tmod 9)).kind) := by subst hst; go_simp
          have v12_1 : wst_12.cell? ⟨wa_26.heap.size, 1, none⟩ = some (.int .i64 (intV (pa.tmod 9)).int) := by subst hst; go_simp
          have v12_2 : wst_12.cell? ⟨wa_26.heap.size, 2, none⟩ = some (.string (intV (pa.tmod 9)).str) := by subst hst; go_simp
          refine hK.out _ _ (by (try dsimp only); exact ⟨hc12.cell hHeld.1 (fun h => by have h1 := List.mem_singleton.1 h; simp only at h1; omega), hc12.cell hHeld.2.1 (fun h => by have h1 := List.mem_singleton.1 h; simp only at h1; omega), hc12.cell hHeld.2.2.1 (fun h => by have h1 := List.mem_singleton.1 h; simp only at h1; omega), hc12.cell hHeld.2.2.2.1 (fun h => by have h1 := List.mem_singleton.1 h; simp only at h1; omega), hc12.cell hHeld.2.2.2.2.1 (fun h => by have h1 := List.mem_singleton.1 h; simp only at h1; omega), hc12.cell hHeld.2.2.2.2.2.1 (fun h => by have h1 := List.mem_singleton.1 h; simp only at h1; omega), hc12.cell hHeld.2.2.2.2.2.2.1 (fun h => by have h1 := List.mem_singleton.1 h; simp only at h1; omega), Below.mark hHeld.2.2.2.2.2.2.2 hc12 hHeld.2.2.2.2.2.2.2.size (fun b hb => by obtain rfl := List.mem_singleton.1 hb; omega)⟩) (fun hNew => ?_)
          clear hK K hHeld
          have hHeld := hNew
          clear hNew
          try simp only [Act.put, List.setIfInBounds_toArray, List.set_cons_zero, List.set_cons_succ]
          clear hst uf ul u0 u1 u2
          have HD6 := Lib.hid (hc12.keepb HD6.out (fun h => by have h1 := List.mem_singleton.1 h; omega))
          have u0 := blk_cell? HD6.out 0
          have u1 := blk_cell? HD6.out 1
          have u2 := blk_cell? HD6.out 2
          have uf := blk_free HD6.out
          have ul := blk_lt HD6.out
          simp only [List.getElem?_toArray, List.getElem?_cons_zero, List.getElem?_cons_succ] at u0 u1 u2
          refine held_one 13 (by kernel_rfl) rfl (fun K hK => ?_)
          go_simp
          generalize hst : World.setCell (World.setCell (World.setCell wst_12 _ _) _ _) _ _ = wst_13
          have hc13 : Chg [Wd.heap.size] wst_12 wst_13 := by rw [← hst]; exact ((((Chg.of_below _ (Below.refl _ _)).set (by simp) _).set (by simp) _).set (by simp) _)
          have v13_0 : wst_13.cell? ⟨Wd.heap.size, 0, none⟩ = some (.int .i64 (intV (pd.tmod 9)).kind) := by subst hst; go_simp
          have v13_1 : wst_13.cell? ⟨Wd.heap.size, 1, none⟩ = some (.int .i64 (intV (pd.tmod 9)).int) := by subst hst; go_simp
          have v13_2 : wst_13.cell? ⟨Wd.heap.size, 2, none⟩ = some (.string (intV (pd.tmod 9)).str) := by subst hst; go_simp
          refine hK.out _ _ (by (try dsimp only); exact ⟨hc13.cell hHeld.1 (fun h => by have h1 := List.mem_singleton.1 h; simp only at h1; omega), hc13.cell hHeld.2.1 (fun h => by have h1 := List.mem_singleton.1 h; simp only at h1; omega), hc13.cell hHeld.2.2.1 (fun h => by have h1 := List.mem_singleton.1 h; simp only at h1; omega), hc13.cell hHeld.2.2.2.1 (fun h => by have h1 := List.mem_singleton.1 h; simp only at h1; omega), hc13.cell hHeld.2.2.2.2.1 (fun h => by have h1 := List.mem_singleton.1 h; simp only at h1; omega), hc13.cell hHeld.2.2.2.2.2.1 (fun h => by have h1 := List.mem_singleton.1 h; simp only at h1; omega), hc13.cell hHeld.2.2.2.2.2.2.1 (fun h => by have h1 := List.mem_singleton.1 h; simp only at h1; omega), Below.mark hHeld.2.2.2.2.2.2.2 hc13 hHeld.2.2.2.2.2.2.2.size (fun b hb => by obtain rfl := List.mem_singleton.1 hb; omega)⟩) (fun hNew => ?_)
          clear hK K hHeld
          have hHeld := hNew
          clear hNew
          try simp only [Act.put, List.setIfInBounds_toArray, List.set_cons_zero, List.set_cons_succ]
          clear hst uf ul u0 u1 u2
          replace v12_0 := hc13.cell v12_0 (fun h => by have h1 := List.mem_singleton.1 h; simp only at h1; omega)
          replace v12_1 := hc13.cell v12_1 (fun h => by have h1 := List.mem_singleton.1 h; simp only at h1; omega)
          replace v12_2 := hc13.cell v12_2 (fun h => by have h1 := List.mem_singleton.1 h; simp only at h1; omega)
          refine wpAnyH_done (by kernel_rfl) ?_ _
          go_wp2_with fail
          go_meet
          exact ⟨_, _, _, _, rfl, rfl, v12_0, v12_1, v12_2, v13_0, v13_1, v13_2, hHeld.2.2.1, hHeld.2.2.2.1, hHeld.2.2.2.2.1, hHeld.2.2.2.2.2.1, hHeld.2.2.2.2.2.2.1, ex_trans HB0.out hHeld.2.2.2.2.2.2.2⟩
    case rest =>
      generalize wc = W5 at *
      obtain ⟨g5, g6, x, y, rfl, rfl, a0, a1, a2, b0, b1, b2, q0, q1, q2, q3, q4, hB5⟩ := hcut
      have HB5 := Lib.hid hB5
      have gl : gf < W5.heap.size := World.block_lt_of_cell? W5 _ q0
      have gl5 : g5 < W5.heap.size := World.block_lt_of_cell? W5 _ a0
      have gl6 : g6 < W5.heap.size := World.block_lt_of_cell? W5 _ b0
      clear p0 p1 hpb hgf f0 f1 f2 f3 f4 HB0 hB5
      go_upto_region 6 with fail
      go_cut [7] (fun s w' => ∃ (g : Nat) (A : Option Addr) (c : Nat), s = .pointer (some ⟨g, 0, none⟩) ∧ w'.cell? ⟨g, 0, none⟩ = some (.int .i64 1) ∧ w'.cell? ⟨g, 1, none⟩ = some (.int .i64 0) ∧ w'.cell? ⟨g, 2, none⟩ = some (.bool false) ∧ w'.cell? ⟨g, 3, none⟩ = some (.int .i64 0) ∧ w'.cell? ⟨g, 4, none⟩ = some (.slice A 1 c) ∧ Sl 4 RAtr w' A 1 [⟨nA, intV y⟩] ∧ w'.cell? ⟨gf, 0, none⟩ = some (.int .i64 1) ∧ w'.cell? ⟨gf, 1, none⟩ = some (.int .i64 0) ∧ w'.cell? ⟨gf, 2, none⟩ = some (.bool false) ∧ w'.cell? ⟨gf, 3, none⟩ = some (.int .i64 0) ∧ w'.cell? ⟨gf, 4, none⟩ = some (.slice none 0 0) ∧ w'.cell? ⟨g5, 0, none⟩ = some (.int .i64 (intV x).kind) ∧ w'.cell? ⟨g5, 1, none⟩ = some (.int .i64 (intV x).int) ∧ w'.cell? ⟨g5, 2, none⟩ = some (.string (intV x).str) ∧ w'.cell? ⟨g6, 0, none⟩ = some (.int .i64 (intV y).kind) ∧ w'.cell? ⟨g6, 1, none⟩ = some (.int .i64 (intV y).int) ∧ w'.cell? ⟨g6, 2, none⟩ = some (.string (intV y).str) ∧ Below W5.heap.size W5 w')
      case first =>
        refine wp_region_held_drew (S := (fun w' => w'.cell? ⟨gf, 0, none⟩ = some (.int .i64 1) ∧ w'.cell? ⟨gf, 1, none⟩ = some (.int .i64 0) ∧ w'.cell? ⟨gf, 2, none⟩ = some (.bool false) ∧ w'.cell? ⟨gf, 3, none⟩ = some (.int .i64 0) ∧ w'.cell? ⟨gf, 4, none⟩ = some (.slice none 0 0) ∧ w'.cell? ⟨g5, 0, none⟩ = some (.int .i64 (intV x).kind) ∧ w'.cell? ⟨g5, 1, none⟩ = some (.int .i64 (intV x).int) ∧ w'.cell? ⟨g5, 2, none⟩ = some (.string (intV x).str) ∧ w'.cell? ⟨g6, 0, none⟩ = some (.int .i64 (intV y).kind) ∧ w'.cell? ⟨g6, 1, none⟩ = some (.int .i64 (intV y).int) ∧ w'.cell? ⟨g6, 2, none⟩ = some (.string (intV y).str) ∧ Below W5.heap.size W5 w')) (by kernel_rfl) (by (try dsimp only); exact ⟨q0, q1, q2, q3, q4, a0, a1, a2, b0, b1, b2, (Below.refl _ _).drew⟩) (fun hHeld => ?_)
        first | (refine held_take 0 rfl (by kernel_rfl) (by kernel_rfl) (by kernel_rfl) (by rfl) (fun _ _ _ h => h) (by assumption) (by intro w hSw; (try dsimp only at hSw); go_simp; first | done | with_reducible rfl) ?_) | (refine held_skip 0 rfl (by kernel_rfl) (by kernel_rfl) (by kernel_rfl) (by rfl) (fun _ _ _ h => h) (by assumption) ?_)
        simp only [Act.put, List.setIfInBounds_toArray, List.set_cons_zero, List.set_cons_succ]
        first | (refine held_take 1 rfl (by kernel_rfl) (by kernel_rfl) (by kernel_rfl) (by rfl) (fun _ _ _ h => h) (by assumption) (by intro w hSw; (try dsimp only at hSw); go_simp; first | done | with_reducible rfl) ?_) | (refine held_skip 1 rfl (by kernel_rfl) (by kernel_rfl) (by kernel_rfl) (by rfl) (fun _ _ _ h => h) (by assumption) ?_)
        simp only [Act.put, List.setIfInBounds_toArray, List.set_cons_zero, List.set_cons_succ]
        first | (refine held_take 3 rfl (by kernel_rfl) (by kernel_rfl) (by kernel_rfl) (by rfl) (fun _ _ _ h => h) (by assumption) (by intro w hSw; (try dsimp only at hSw); go_simp; first | done | with_reducible rfl) ?_) | (refine held_skip 3 rfl (by kernel_rfl) (by kernel_rfl) (by kernel_rfl) (by rfl) (fun _ _ _ h => h) (by assumption) ?_)
        simp only [Act.put, List.setIfInBounds_toArray, List.set_cons_zero, List.set_cons_succ]
        generalize hwd : World.drew W5 = Wd6 at *
        have hszd : W5.heap.size ≤ Wd6.heap.size := hHeld.2.2.2.2.2.2.2.2.2.2.2.size
        clear hwd
        refine held_two 2 5 (by kernel_rfl) rfl rfl (fun K hK => ?_) (fun K hK => ?_)
        · go_simp
          go_at_call 12
          refine (set_one nA x _).mono ?_; rintro e w21 ⟨A1, c1, rfl, hF, hb1⟩
          have hsz_1 : Wd6.heap.size ≤ w21.heap.size := hb1.size
          have HS1 := Lib.hid hF
          have HB1 := Lib.hid (Below.refl w21.heap.size w21)
          go_wp2_with fail
          refine hK.out _ _ (by (try dsimp only); exact ⟨keep_cell hb1 hHeld.1, keep_cell hb1 hHeld.2.1, keep_cell hb1 hHeld.2.2.1, keep_cell hb1 hHeld.2.2.2.1, keep_cell hb1 hHeld.2.2.2.2.1, keep_cell hb1 hHeld.2.2.2.2.2.1, keep_cell hb1 hHeld.2.2.2.2.2.2.1, keep_cell hb1 hHeld.2.2.2.2.2.2.2.1, keep_cell hb1 hHeld.2.2.2.2.2.2.2.2.1, keep_cell hb1 hHeld.2.2.2.2.2.2.2.2.2.1, keep_cell hb1 hHeld.2.2.2.2.2.2.2.2.2.2.1, ex_trans hHeld.2.2.2.2.2.2.2.2.2.2.2 hb1⟩) (fun hNew => ?_)
          clear hK K hHeld
          have hHeld := hNew
          clear hNew
          try simp only [Act.put, List.setIfInBounds_toArray, List.set_cons_zero, List.set_cons_succ]
          clear hb1 hF
          refine held_two 4 5 (by kernel_rfl) rfl rfl (fun K hK => ?_) (fun K hK => ?_)
          · go_simp
            go_at_call 12
            refine (set_two nA nA x y [⟨nA, intV y⟩] 1 A1 c1 _ (tw_x x y) rfl ((HS1.out.sl (R := RAtr) encAtr (fun _ => rfl)).mono mAtr HB1.out)).mono ?_; rintro e w22 ⟨A2, c2, rfl, hF, hb2⟩
            have hsz_2 : w21.heap.size ≤ w22.heap.size := hb2.size
            have HB1 := Lib.hid (HB1.out.trans (hb2.mono HB1.out.size))
            have HS2 := Lib.hid hF
            have HB2 := Lib.hid (Below.refl w22.heap.size w22)
            go_wp2_with fail
            refine hK.out _ _ (by (try dsimp only); exact ⟨keep_cell hb2 hHeld.1, keep_cell hb2 hHeld.2.1, keep_cell hb2 hHeld.2.2.1, keep_cell hb2 hHeld.2.2.2.1, keep_cell hb2 hHeld.2.2.2.2.1, keep_cell hb2 hHeld.2.2.2.2.2.1, keep_cell hb2 hHeld.2.2.2.2.2.2.1, keep_cell hb2 hHeld.2.2.2.2.2.2.2.1, keep_cell hb2 hHeld.2.2.2.2.2.2.2.2.1, keep_cell hb2 hHeld.2.2.2.2.2.2.2.2.2.1, keep_cell hb2 hHeld.2.2.2.2.2.2.2.2.2.2.1, ex_trans hHeld.2.2.2.2.2.2.2.2.2.2.2 hb2⟩) (fun hNew => ?_)
            clear hK K hHeld
            have hHeld := hNew
            clear hNew
            try simp only [Act.put, List.setIfInBounds_toArray, List.set_cons_zero, List.set_cons_succ]
            clear hb2 hF
            refine held_one 5 (by kernel_rfl) rfl (fun K hK => ?_)
            go_simp
            generalize hwa : World.alloc w22 _ = wa_3
            have hba : Below w22.heap.size w22 wa_3 := by rw [← hwa]; exact (Below.refl _ _).alloc (Nat.le_refl _) _
            have hsz_3 : wa_3.heap.size ≤ w22.heap.size + 1 := by rw [← hwa]; simp
            have hsz2_3 : w22.heap.size + 1 ≤ wa_3.heap.size := by rw [← hwa]; simp
            have HB1 := Lib.hid (HB1.out.trans (hba.mono HB1.out.size))
            have HB2 := Lib.hid (HB2.out.trans (hba.mono HB2.out.size))
            have HDb := Lib.hid (show wa_3.heap[w22.heap.size]? = some (.cells #[.int .i64 0, .int .i64 0, .bool false, .int .i64 0, .slice none 0 0] 28 (0, 0)) by rw [← hwa]; exact hp_new rfl)
            refine hK.out _ _ (by (try dsimp only); exact ⟨keep_cell hba hHeld.1, keep_cell hba hHeld.2.1, keep_cell hba hHeld.2.2.1, keep_cell hba hHeld.2.2.2.1, keep_cell hba hHeld.2.2.2.2.1, keep_cell hba hHeld.2.2.2.2.2.1, keep_cell hba hHeld.2.2.2.2.2.2.1, keep_cell hba hHeld.2.2.2.2.2.2.2.1, keep_cell hba hHeld.2.2.2.2.2.2.2.2.1, keep_cell hba hHeld.2.2.2.2.2.2.2.2.2.1, keep_cell hba hHeld.2.2.2.2.2.2.2.2.2.2.1, ex_trans hHeld.2.2.2.2.2.2.2.2.2.2.2 hba⟩) (fun hNew => ?_)
            clear hK K hHeld
            have hHeld := hNew
            clear hNew
            try simp only [Act.put, List.setIfInBounds_toArray, List.set_cons_zero, List.set_cons_succ]
            clear hwa hba
            have u0 := blk_cell? HDb.out 0
            have u1 := blk_cell? HDb.out 1
            have u2 := blk_cell? HDb.out 2
            have u3 := blk_cell? HDb.out 3
            have u4 := blk_cell? HDb.out 4
            have uf := blk_free HDb.out
            have ul := blk_lt HDb.out
            simp only [List.getElem?_toArray, List.getElem?_cons_zero, List.getElem?_cons_succ] at u0 u1 u2 u3 u4
            refine held_one 6 (by kernel_rfl) rfl (fun K hK => ?_)
            go_simp
            generalize hst : World.setCell (World.setCell (World.setCell (World.setCell (World.setCell wa_3 _ _) _ _) _ _) _ _) _ _ = wst_6
            have hc6 : Chg [w22.heap.size] wa_3 wst_6 := by rw [← hst]; exact ((((((Chg.of_below _ (Below.refl _ _)).set (by simp) _).set (by simp) _).set (by simp) _).set (by simp) _).set (by simp) _)
            have v6_0 : wst_6.cell? ⟨w22.heap.size, 0, none⟩ = some (.int .i64 1) := by subst hst; go_simp
            have v6_1 : wst_6.cell? ⟨w22.heap.size, 1, none⟩ = some (.int .i64 0) := by subst hst; go_simp
            have v6_2 : wst_6.cell? ⟨w22.heap.size, 2, none⟩ = some (.bool false) := by subst hst; go_simp
            have v6_3 : wst_6.cell? ⟨w22.heap.size, 3, none⟩ = some (.int .i64 0) := by subst hst; go_simp
            have v6_4 : wst_6.cell? ⟨w22.heap.size, 4, none⟩ = some (.slice A2 1 c2) := by subst hst; go_simp
            refine hK.out _ _ (by (try dsimp only); exact ⟨hc6.cell hHeld.1 (fun h => by have h1 := List.mem_singleton.1 h; simp only at h1; omega), hc6.cell hHeld.2.1 (fun h => by have h1 := List.mem_singleton.1 h; simp only at h1; omega), hc6.cell hHeld.2.2.1 (fun h => by have h1 := List.mem_singleton.1 h; simp only at h1; omega), hc6.cell hHeld.2.2.2.1 (fun h => by have h1 := List.mem_singleton.1 h; simp only at h1; omega), hc6.cell hHeld.2.2.2.2.1 (fun h => by have h1 := List.mem_singleton.1 h; simp only at h1; omega), hc6.cell hHeld.2.2.2.2.2.1 (fun h => by have h1 := List.mem_singleton.1 h; simp only at h1; omega), hc6.cell hHeld.2.2.2.2.2.2.1 (fun h => by have h1 := List.mem_singleton.1 h; simp only at h1; omega), hc6.cell hHeld.2.2.2.2.2.2.2.1 (fun h => by have h1 := List.mem_singleton.1 h; simp only at h1; omega), hc6.cell hHeld.2.2.2.2.2.2.2.2.1 (fun h => by have h1 := List.mem_singleton.1 h; simp only at h1; omega), hc6.cell hHeld.2.2.2.2.2.2.2.2.2.1 (fun h => by have h1 := List.mem_singleton.1 h; simp only at h1; omega), hc6.cell hHeld.2.2.2.2.2.2.2.2.2.2.1 (fun h => by have h1 := List.mem_singleton.1 h; simp only at h1; omega), Below.mark hHeld.2.2.2.2.2.2.2.2.2.2.2 hc6 hHeld.2.2.2.2.2.2.2.2.2.2.2.size (fun b hb => by obtain rfl := List.mem_singleton.1 hb; omega)⟩) (fun hNew => ?_)
            clear hK K hHeld
            have hHeld := hNew
            clear hNew
            try simp only [Act.put, List.setIfInBounds_toArray, List.set_cons_zero, List.set_cons_succ]
            clear hst uf ul u0 u1 u2 u3 u4
            refine wpAnyH_done (by kernel_rfl) ?_ _
            have hr2 := row_reads (w' := wst_6) HS2.out (fun b h1 h2 => by
              have h3 := HB2.out.size
              exact (hc6.block b (by omega) (fun h => by have h1 := List.mem_singleton.1 h; omega)).trans (HB2.out.block b h2))
            go_wp2_with fail
            go_meet
            exact ⟨_, A2, c2, rfl, v6_0, v6_1, v6_2, v6_3, v6_4, hr2, hHeld.1, hHeld.2.1, hHeld.2.2.1, hHeld.2.2.2.1, hHeld.2.2.2.2.1, hHeld.2.2.2.2.2.1, hHeld.2.2.2.2.2.2.1, hHeld.2.2.2.2.2.2.2.1, hHeld.2.2.2.2.2.2.2.2.1, hHeld.2.2.2.2.2.2.2.2.2.1, hHeld.2.2.2.2.2.2.2.2.2.2.1, hHeld.2.2.2.2.2.2.2.2.2.2.2⟩
          · go_simp
            generalize hwa : World.alloc w21 _ = wa_4
            have hba : Below w21.heap.size w21 wa_4 := by rw [← hwa]; exact (Below.refl _ _).alloc (Nat.le_refl _) _
            have hsz_4 : wa_4.heap.size ≤ w21.heap.size + 1 := by rw [← hwa]; simp
            have hsz2_4 : w21.heap.size + 1 ≤ wa_4.heap.size := by rw [← hwa]; simp
            have HB1 := Lib.hid (HB1.out.trans (hba.mono HB1.out.size))
            have HDb := Lib.hid (show wa_4.heap[w21.heap.size]? = some (.cells #[.int .i64 0, .int .i64 0, .bool false, .int .i64 0, .slice none 0 0] 28 (0, 0)) by rw [← hwa]; exact hp_new rfl)
            refine hK.out _ _ (by (try dsimp only); exact ⟨keep_cell hba hHeld.1, keep_cell hba hHeld.2.1, keep_cell hba hHeld.2.2.1, keep_cell hba hHeld.2.2.2.1, keep_cell hba hHeld.2.2.2.2.1, keep_cell hba hHeld.2.2.2.2.2.1, keep_cell hba hHeld.2.2.2.2.2.2.1, keep_cell hba hHeld.2.2.2.2.2.2.2.1, keep_cell hba hHeld.2.2.2.2.2.2.2.2.1, keep_cell hba hHeld.2.2.2.2.2.2.2.2.2.1, keep_cell hba hHeld.2.2.2.2.2.2.2.2.2.2.1, ex_trans hHeld.2.2.2.2.2.2.2.2.2.2.2 hba⟩) (fun hNew => ?_)
            clear hK K hHeld
            have hHeld := hNew
            clear hNew
            try simp only [Act.put, List.setIfInBounds_toArray, List.set_cons_zero, List.set_cons_succ]
            clear hwa hba
            refine held_one 4 (by kernel_rfl) rfl (fun K hK => ?_)
            go_simp
            go_at_call 12
            refine (set_two nA nA x y [⟨nA, intV y⟩] 1 A1 c1 _ (tw_x x y) rfl ((HS1.out.sl (R := RAtr) encAtr (fun _ => rfl)).mono mAtr HB1.out)).mono ?_; rintro e w25 ⟨A2, c2, rfl, hF, hb5⟩
            have hsz_5 : wa_4.heap.size ≤ w25.heap.size := hb5.size
            have HB1 := Lib.hid (HB1.out.trans (hb5.mono HB1.out.size))
            have HDb := Lib.hid (below_keep hb5 HDb.out)
            have HS2 := Lib.hid hF
            have HB2 := Lib.hid (Below.refl w25.heap.size w25)
            go_wp2_with fail
            refine hK.out _ _ (by (try dsimp only); exact ⟨keep_cell hb5 hHeld.1, keep_cell hb5 hHeld.2.1, keep_cell hb5 hHeld.2.2.1, keep_cell hb5 hHeld.2.2.2.1, keep_cell hb5 hHeld.2.2.2.2.1, keep_cell hb5 hHeld.2.2.2.2.2.1, keep_cell hb5 hHeld.2.2.2.2.2.2.1, keep_cell hb5 hHeld.2.2.2.2.2.2.2.1, keep_cell hb5 hHeld.2.2.2.2.2.2.2.2.1, keep_cell hb5 hHeld.2.2.2.2.2.2.2.2.2.1, keep_cell hb5 hHeld.2.2.2.2.2.2.2.2.2.2.1, ex_trans hHeld.2.2.2.2.2.2.2.2.2.2.2 hb5⟩) (fun hNew => ?_)
            clear hK K hHeld
            have hHeld := hNew
            clear hNew
            try simp only [Act.put, List.setIfInBounds_toArray, List.set_cons_zero, List.set_cons_succ]
            clear hb5 hF
            have u0 := blk_cell? HDb.out 0
            have u1 := blk_cell? HDb.out 1
            have u2 := blk_cell? HDb.out 2
            have u3 := blk_cell? HDb.out 3
            have u4 := blk_cell? HDb.out 4
            have uf := blk_free HDb.out
            have ul := blk_lt HDb.out
            simp only [List.getElem?_toArray, List.getElem?_cons_zero, List.getElem?_cons_succ] at u0 u1 u2 u3 u4
            refine held_one 6 (by kernel_rfl) rfl (fun K hK => ?_)
            go_simp
            generalize hst : World.setCell (World.setCell (World.setCell (World.setCell (World.setCell w25 _ _) _ _) _ _) _ _) _ _ = wst_6
            have hc6 : Chg [w21.heap.size] w25 wst_6 := by rw [← hst]; exact ((((((Chg.of_below _ (Below.refl _ _)).set (by simp) _).set (by simp) _).set (by simp) _).set (by simp) _).set (by simp) _)
            have v6_0 : wst_6.cell? ⟨w21.heap.size, 0, none⟩ = some (.int .i64 1) := by subst hst; go_simp
            have v6_1 : wst_6.cell? ⟨w21.heap.size, 1, none⟩ = some (.int .i64 0) := by subst hst; go_simp
            have v6_2 : wst_6.cell? ⟨w21.heap.size, 2, none⟩ = some (.bool false) := by subst hst; go_simp
            have v6_3 : wst_6.cell? ⟨w21.heap.size, 3, none⟩ = some (.int .i64 0) := by subst hst; go_simp
            have v6_4 : wst_6.cell? ⟨w21.heap.size, 4, none⟩ = some (.slice A2 1 c2) := by subst hst; go_simp
            refine hK.out _ _ (by (try dsimp only); exact ⟨hc6.cell hHeld.1 (fun h => by have h1 := List.mem_singleton.1 h; simp only at h1; omega), hc6.cell hHeld.2.1 (fun h => by have h1 := List.mem_singleton.1 h; simp only at h1; omega), hc6.cell hHeld.2.2.1 (fun h => by have h1 := List.mem_singleton.1 h; simp only at h1; omega), hc6.cell hHeld.2.2.2.1 (fun h => by have h1 := List.mem_singleton.1 h; simp only at h1; omega), hc6.cell hHeld.2.2.2.2.1 (fun h => by have h1 := List.mem_singleton.1 h; simp only at h1; omega), hc6.cell hHeld.2.2.2.2.2.1 (fun h => by have h1 := List.mem_singleton.1 h; simp only at h1; omega), hc6.cell hHeld.2.2.2.2.2.2.1 (fun h => by have h1 := List.mem_singleton.1 h; simp only at h1; omega), hc6.cell hHeld.2.2.2.2.2.2.2.1 (fun h => by have h1 := List.mem_singleton.1 h; simp only at h1; omega), hc6.cell hHeld.2.2.2.2.2.2.2.2.1 (fun h => by have h1 := List.mem_singleton.1 h; simp only at h1; omega), hc6.cell hHeld.2.2.2.2.2.2.2.2.2.1 (fun h => by have h1 := List.mem_singleton.1 h; simp only at h1; omega), hc6.cell hHeld.2.2.2.2.2.2.2.2.2.2.1 (fun h => by have h1 := List.mem_singleton.1 h; simp only at h1; omega), Below.mark hHeld.2.2.2.2.2.2.2.2.2.2.2 hc6 hHeld.2.2.2.2.2.2.2.2.2.2.2.size (fun b hb => by obtain rfl := List.mem_singleton.1 hb; omega)⟩) (fun hNew => ?_)
            clear hK K hHeld
            have hHeld := hNew
            clear hNew
            try simp only [Act.put, List.setIfInBounds_toArray, List.set_cons_zero, List.set_cons_succ]
            clear hst uf ul u0 u1 u2 u3 u4
            refine wpAnyH_done (by kernel_rfl) ?_ _
            have hr2 := row_reads (w' := wst_6) HS2.out (fun b h1 h2 => by
              have h3 := HB2.out.size
              exact (hc6.block b (by omega) (fun h => by have h1 := List.mem_singleton.1 h; omega)).trans (HB2.out.block b h2))
            go_wp2_with fail
            go_meet
            exact ⟨_, A2, c2, rfl, v6_0, v6_1, v6_2, v6_3, v6_4, hr2, hHeld.1, hHeld.2.1, hHeld.2.2.1, hHeld.2.2.2.1, hHeld.2.2.2.2.1, hHeld.2.2.2.2.2.1, hHeld.2.2.2.2.2.2.1, hHeld.2.2.2.2.2.2.2.1, hHeld.2.2.2.2.2.2.2.2.1, hHeld.2.2.2.2.2.2.2.2.2.1, hHeld.2.2.2.2.2.2.2.2.2.2.1, hHeld.2.2.2.2.2.2.2.2.2.2.2⟩
        · go_simp
          generalize hwa : World.alloc Wd6 _ = wa_6
          have hba : Below Wd6.heap.size Wd6 wa_6 := by rw [← hwa]; exact (Below.refl _ _).alloc (Nat.le_refl _) _
          have hsz_6 : wa_6.heap.size ≤ Wd6.heap.size + 1 := by rw [← hwa]; simp
          have hsz2_6 : Wd6.heap.size + 1 ≤ wa_6.heap.size := by rw [← hwa]; simp
          have HDb := Lib.hid (show wa_6.heap[Wd6.heap.size]? = some (.cells #[.int .i64 0, .int .i64 0, .bool false, .int .i64 0, .slice none 0 0] 28 (0, 0)) by rw [← hwa]; exact hp_new rfl)
          refine hK.out _ _ (by (try dsimp only); exact ⟨keep_cell hba hHeld.1, keep_cell hba hHeld.2.1, keep_cell hba hHeld.2.2.1, keep_cell hba hHeld.2.2.2.1, keep_cell hba hHeld.2.2.2.2.1, keep_cell hba hHeld.2.2.2.2.2.1, keep_cell hba hHeld.2.2.2.2.2.2.1, keep_cell hba hHeld.2.2.2.2.2.2.2.1, keep_cell hba hHeld.2.2.2.2.2.2.2.2.1, keep_cell hba hHeld.2.2.2.2.2.2.2.2.2.1, keep_cell hba hHeld.2.2.2.2.2.2.2.2.2.2.1, ex_trans hHeld.2.2.2.2.2.2.2.2.2.2.2 hba⟩) (fun hNew => ?_)
          clear hK K hHeld
          have hHeld := hNew
          clear hNew
          try simp only [Act.put, List.setIfInBounds_toArray, List.set_cons_zero, List.set_cons_succ]
          clear hwa hba
          refine held_one 2 (by kernel_rfl) rfl (fun K hK => ?_)
          go_simp
          go_at_call 12
          refine (set_one nA x _).mono ?_; rintro e w27 ⟨A1, c1, rfl, hF, hb7⟩
          have hsz_7 : wa_6.heap.size ≤ w27.heap.size := hb7.size
          have HDb := Lib.hid (below_keep hb7 HDb.out)
          have HS1 := Lib.hid hF
          have HB1 := Lib.hid (Below.refl w27.heap.size w27)
          go_wp2_with fail
          refine hK.out _ _ (by (try dsimp only); exact ⟨keep_cell hb7 hHeld.1, keep_cell hb7 hHeld.2.1, keep_cell hb7 hHeld.2.2.1, keep_cell hb7 hHeld.2.2.2.1, keep_cell hb7 hHeld.2.2.2.2.1, keep_cell hb7 hHeld.2.2.2.2.2.1, keep_cell hb7 hHeld.2.2.2.2.2.2.1, keep_cell hb7 hHeld.2.2.2.2.2.2.2.1, keep_cell hb7 hHeld.2.2.2.2.2.2.2.2.1, keep_cell hb7 hHeld.2.2.2.2.2.2.2.2.2.1, keep_cell hb7 hHeld.2.2.2.2.2.2.2.2.2.2.1, ex_trans hHeld.2.2.2.2.2.2.2.2.2.2.2 hb7⟩) (fun hNew => ?_)
          clear hK K hHeld
          have hHeld := hNew
          clear hNew
          try simp only [Act.put, List.setIfInBounds_toArray, List.set_cons_zero, List.set_cons_succ]
          clear hb7 hF
          refine held_one 4 (by kernel_rfl) rfl (fun K hK => ?_)
          go_simp
          go_at_call 12
          refine (set_two nA nA x y [⟨nA, intV y⟩] 1 A1 c1 _ (tw_x x y) rfl ((HS1.out.sl (R := RAtr) encAtr (fun _ => rfl)).mono mAtr HB1.out)).mono ?_; rintro e w28 ⟨A2, c2, rfl, hF, hb8⟩
          have hsz_8 : w27.heap.size ≤ w28.heap.size := hb8.size
          have HDb := Lib.hid (below_keep hb8 HDb.out)
          have HB1 := Lib.hid (HB1.out.trans (hb8.mono HB1.out.size))
          have HS2 := Lib.hid hF
          have HB2 := Lib.hid (Below.refl w28.heap.size w28)
          go_wp2_with fail
          refine hK.out _ _ (by (try dsimp only); exact ⟨keep_cell hb8 hHeld.1, keep_cell hb8 hHeld.2.1, keep_cell hb8 hHeld.2.2.1, keep_cell hb8 hHeld.2.2.2.1, keep_cell hb8 hHeld.2.2.2.2.1, keep_cell hb8 hHeld.2.2.2.2.2.1, keep_cell hb8 hHeld.2.2.2.2.2.2.1, keep_cell hb8 hHeld.2.2.2.2.2.2.2.1, keep_cell hb8 hHeld.2.2.2.2.2.2.2.2.1, keep_cell hb8 hHeld.2.2.2.2.2.2.2.2.2.1, keep_cell hb8 hHeld.2.2.2.2.2.2.2.2.2.2.1, ex_trans hHeld.2.2.2.2.2.2.2.2.2.2.2 hb8⟩) (fun hNew => ?_)
          clear hK K hHeld
          have hHeld := hNew
          clear hNew
          try simp only [Act.put, List.setIfInBounds_toArray, List.set_cons_zero, List.set_cons_succ]
          clear hb8 hF
          have u0 := blk_cell? HDb.out 0
          have u1 := blk_cell? HDb.out 1
          have u2 := blk_cell? HDb.out 2
          have u3 := blk_cell? HDb.out 3
          have u4 := blk_cell? HDb.out 4
          have uf := blk_free HDb.out
          have ul := blk_lt HDb.out
          simp only [List.getElem?_toArray, List.getElem?_cons_zero, List.getElem?_cons_succ] at u0 u1 u2 u3 u4
          refine held_one 6 (by kernel_rfl) rfl (fun K hK => ?_)
          go_simp
          generalize hst : World.setCell (World.setCell (World.setCell (World.setCell (World.setCell w28 _ _) _ _) _ _) _ _) _ _ = wst_6
          have hc6 : Chg [Wd6.heap.size] w28 wst_6 := by rw [← hst]; exact ((((((Chg.of_below _ (Below.refl _ _)).set (by simp) _).set (by simp) _).set (by simp) _).set (by simp) _).set (by simp) _)
          have v6_0 : wst_6.cell? ⟨Wd6.heap.size, 0, none⟩ = some (.int .i64 1) := by subst hst; go_simp
          have v6_1 : wst_6.cell? ⟨Wd6.heap.size, 1, none⟩ = some (.int .i64 0) := by subst hst; go_simp
          have v6_2 : wst_6.cell? ⟨Wd6.heap.size, 2, none⟩ = some (.bool false) := by subst hst; go_simp
          have v6_3 : wst_6.cell? ⟨Wd6.heap.size, 3, none⟩ = some (.int .i64 0) := by subst hst; go_simp
          have v6_4 : wst_6.cell? ⟨Wd6.heap.size, 4, none⟩ = some (.slice A2 1 c2) := by subst hst; go_simp
          refine hK.out _ _ (by (try dsimp only); exact ⟨hc6.cell hHeld.1 (fun h => by have h1 := List.mem_singleton.1 h; simp only at h1; omega), hc6.cell hHeld.2.1 (fun h => by have h1 := List.mem_singleton.1 h; simp only at h1; omega), hc6.cell hHeld.2.2.1 (fun h => by have h1 := List.mem_singleton.1 h; simp only at h1; omega), hc6.cell hHeld.2.2.2.1 (fun h => by have h1 := List.mem_singleton.1 h; simp only at h1; omega), hc6.cell hHeld.2.2.2.2.1 (fun h => by have h1 := List.mem_singleton.1 h; simp only at h1; omega), hc6.cell hHeld.2.2.2.2.2.1 (fun h => by have h1 := List.mem_singleton.1 h; simp only at h1; omega), hc6.cell hHeld.2.2.2.2.2.2.1 (fun h => by have h1 := List.mem_singleton.1 h; simp only at h1; omega), hc6.cell hHeld.2.2.2.2.2.2.2.1 (fun h => by have h1 := List.mem_singleton.1 h; simp only at h1; omega), hc6.cell hHeld.2.2.2.2.2.2.2.2.1 (fun h => by have h1 := List.mem_singleton.1 h; simp only at h1; omega), hc6.cell hHeld.2.2.2.2.2.2.2.2.2.1 (fun h => by have h1 := List.mem_singleton.1 h; simp only at h1; omega), hc6.cell hHeld.2.2.2.2.2.2.2.2.2.2.1 (fun h => by have h1 := List.mem_singleton.1 h; simp only at h1; omega), Below.mark hHeld.2.2.2.2.2.2.2.2.2.2.2 hc6 hHeld.2.2.2.2.2.2.2.2.2.2.2.size (fun b hb => by obtain rfl := List.mem_singleton.1 hb; omega)⟩) (fun hNew => ?_)
          clear hK K hHeld
          have hHeld := hNew
          clear hNew
          try simp only [Act.put, List.setIfInBounds_toArray, List.set_cons_zero, List.set_cons_succ]
          clear hst uf ul u0 u1 u2 u3 u4
          refine wpAnyH_done (by kernel_rfl) ?_ _
          have hr2 := row_reads (w' := wst_6) HS2.out (fun b h1 h2 => by
            have h3 := HB2.out.size
            exact (hc6.block b (by omega) (fun h => by have h1 := List.mem_singleton.1 h; omega)).trans (HB2.out.block b h2))
          go_wp2_with fail
          go_meet
          exact ⟨_, A2, c2, rfl, v6_0, v6_1, v6_2, v6_3, v6_4, hr2, hHeld.1, hHeld.2.1, hHeld.2.2.1, hHeld.2.2.2.1, hHeld.2.2.2.2.1, hHeld.2.2.2.2.2.1, hHeld.2.2.2.2.2.2.1, hHeld.2.2.2.2.2.2.2.1, hHeld.2.2.2.2.2.2.2.2.1, hHeld.2.2.2.2.2.2.2.2.2.1, hHeld.2.2.2.2.2.2.2.2.2.2.1, hHeld.2.2.2.2.2.2.2.2.2.2.2⟩
      case rest =>
        generalize wc = W6 at *
        clear q0 q1 q2 q3 q4 a0 a1 a2 b0 b1 b2
        obtain ⟨g7, A7, c7, rfl, t7_0, t7_1, t7_2, t7_3, t7_4, hS7, q0, q1, q2, q3, q4, a0, a1, a2, b0, b1, b2, hK⟩ := hcut
        replace gl := keep_lt hK gl
        replace gl5 := keep_lt hK gl5
        replace gl6 := keep_lt hK gl6
        have gl_7 : g7 < W6.heap.size := World.block_lt_of_cell? W6 _ t7_0
        have HB6 := Lib.hid (ex_trans HB5.out hK)
        have HS_7 := Lib.hid hS7
        clear hK hS7
        go_upto_region 7 with fail
        go_cut [8] (fun s w' => ∃ (g : Nat) (A : Option Addr) (c : Nat), s = .pointer (some ⟨g, 0, none⟩) ∧ w'.cell? ⟨g, 0, none⟩ = some (.int .i64 1) ∧ w'.cell? ⟨g, 1, none⟩ = some (.int .i64 0) ∧ w'.cell? ⟨g, 2, none⟩ = some (.bool false) ∧ w'.cell? ⟨g, 3, none⟩ = some (.int .i64 0) ∧ w'.cell? ⟨g, 4, none⟩ = some (.slice A 2 c) ∧ Sl 4 RAtr w' A 2 [⟨nA, intV x⟩, ⟨nB, intV y⟩] ∧ w'.cell? ⟨gf, 0, none⟩ = some (.int .i64 1) ∧ w'.cell? ⟨gf, 1, none⟩ = some (.int .i64 0) ∧ w'.cell? ⟨gf, 2, none⟩ = some (.bool false) ∧ w'.cell? ⟨gf, 3, none⟩ = some (.int .i64 0) ∧ w'.cell? ⟨gf, 4, none⟩ = some (.slice none 0 0) ∧ w'.cell? ⟨g5, 0, none⟩ = some (.int .i64 (intV x).kind) ∧ w'.cell? ⟨g5, 1, none⟩ = some (.int .i64 (intV x).int) ∧ w'.cell? ⟨g5, 2, none⟩ = some (.string (intV x).str) ∧ w'.cell? ⟨g6, 0, none⟩ = some (.int .i64 (intV y).kind) ∧ w'.cell? ⟨g6, 1, none⟩ = some (.int .i64 (intV y).int) ∧ w'.cell? ⟨g6, 2, none⟩ = some (.string (intV y).str) ∧ w'.cell? ⟨g7, 0, none⟩ = some (.int .i64 1) ∧ w'.cell? ⟨g7, 1, none⟩ = some (.int .i64 0) ∧ w'.cell? ⟨g7, 2, none⟩ = some (.bool false) ∧ w'.cell? ⟨g7, 3, none⟩ = some (.int .i64 0) ∧ w'.cell? ⟨g7, 4, none⟩ = some (.slice A7 1 c7) ∧ Below W6.heap.size W6 w')
        case first =>
          refine wp_region_held_drew (S := (fun w' => w'.cell? ⟨gf, 0, none⟩ = some (.int .i64 1) ∧ w'.cell? ⟨gf, 1, none⟩ = some (.int .i64 0) ∧ w'.cell? ⟨gf, 2, none⟩ = some (.bool false) ∧ w'.cell? ⟨gf, 3, none⟩ = some (.int .i64 0) ∧ w'.cell? ⟨gf, 4, none⟩ = some (.slice none 0 0) ∧ w'.cell? ⟨g5, 0, none⟩ = some (.int .i64 (intV x).kind) ∧ w'.cell? ⟨g5, 1, none⟩ = some (.int .i64 (intV x).int) ∧ w'.cell? ⟨g5, 2, none⟩ = some (.string (intV x).str) ∧ w'.cell? ⟨g6, 0, none⟩ = some (.int .i64 (intV y).kind) ∧ w'.cell? ⟨g6, 1, none⟩ = some (.int .i64 (intV y).int) ∧ w'.cell? ⟨g6, 2, none⟩ = some (.string (intV y).str) ∧ w'.cell? ⟨g7, 0, none⟩ = some (.int .i64 1) ∧ w'.cell? ⟨g7, 1, none⟩ = some (.int .i64 0) ∧ w'.cell? ⟨g7, 2, none⟩ = some (.bool false) ∧ w'.cell? ⟨g7, 3, none⟩ = some (.int .i64 0) ∧ w'.cell? ⟨g7, 4, none⟩ = some (.slice A7 1 c7) ∧ Below W6.heap.size W6 w')) (by kernel_rfl) (by (try dsimp only); exact ⟨q0, q1, q2, q3, q4, a0, a1, a2, b0, b1, b2, t7_0, t7_1, t7_2, t7_3, t7_4, (Below.refl _ _).drew⟩) (fun hHeld => ?_)
          first | (refine held_take 0 rfl (by kernel_rfl) (by kernel_rfl) (by kernel_rfl) (by rfl) (fun _ _ _ h => h) (by assumption) (by intro w hSw; (try dsimp only at hSw); go_simp; first | done | with_reducible rfl) ?_) | (refine held_skip 0 rfl (by kernel_rfl) (by kernel_rfl) (by kernel_rfl) (by rfl) (fun _ _ _ h => h) (by assumption) ?_)
          simp only [Act.put, List.setIfInBounds_toArray, List.set_cons_zero, List.set_cons_succ]
          first | (refine held_take 1 rfl (by kernel_rfl) (by kernel_rfl) (by kernel_rfl) (by rfl) (fun _ _ _ h => h) (by assumption) (by intro w hSw; (try dsimp only at hSw); go_simp; first | done | with_reducible rfl) ?_) | (refine held_skip 1 rfl (by kernel_rfl) (by kernel_rfl) (by kernel_rfl) (by rfl) (fun _ _ _ h => h) (by assumption) ?_)
          simp only [Act.put, List.setIfInBounds_toArray, List.set_cons_zero, List.set_cons_succ]
          first | (refine held_take 3 rfl (by kernel_rfl) (by kernel_rfl) (by kernel_rfl) (by rfl) (fun _ _ _ h => h) (by assumption) (by intro w hSw; (try dsimp only at hSw); go_simp; first | done | with_reducible rfl) ?_) | (refine held_skip 3 rfl (by kernel_rfl) (by kernel_rfl) (by kernel_rfl) (by rfl) (fun _ _ _ h => h) (by assumption) ?_)
          simp only [Act.put, List.setIfInBounds_toArray, List.set_cons_zero, List.set_cons_succ]
          generalize hwd : World.drew W6 = Wd7 at *
          have hszd : W6.heap.size ≤ Wd7.heap.size := hHeld.2.2.2.2.2.2.2.2.2.2.2.2.2.2.2.2.size
          clear hwd
          refine held_two 2 5 (by kernel_rfl) rfl rfl (fun K hK => ?_) (fun K hK => ?_)
          · go_simp
            go_at_call 12
            refine (set_one nA x _).mono ?_; rintro e w21 ⟨A1, c1, rfl, hF, hb1⟩
            have hsz_1 : Wd7.heap.size ≤ w21.heap.size := hb1.size
            have HS1 := Lib.hid hF
            have HB1 := Lib.hid (Below.refl w21.heap.size w21)
            go_wp2_with fail
            refine hK.out _ _ (by (try dsimp only); exact ⟨keep_cell hb1 hHeld.1, keep_cell hb1 hHeld.2.1, keep_cell hb1 hHeld.2.2.1, keep_cell hb1 hHeld.2.2.2.1, keep_cell hb1 hHeld.2.2.2.2.1, keep_cell hb1 hHeld.2.2.2.2.2.1, keep_cell hb1 hHeld.2.2.2.2.2.2.1, keep_cell hb1 hHeld.2.2.2.2.2.2.2.1, keep_cell hb1 hHeld.2.2.2.2.2.2.2.2.1, keep_cell hb1 hHeld.2.2.2.2.2.2.2.2.2.1, keep_cell hb1 hHeld.2.2.2.2.2.2.2.2.2.2.1, keep_cell hb1 hHeld.2.2.2.2.2.2.2.2.2.2.2.1, keep_cell hb1 hHeld.2.2.2.2.2.2.2.2.2.2.2.2.1, keep_cell hb1 hHeld.2.2.2.2.2.2.2.2.2.2.2.2.2.1, keep_cell hb1 hHeld.2.2.2.2.2.2.2.2.2.2.2.2.2.2.1, keep_cell hb1 hHeld.2.2.2.2.2.2.2.2.2.2.2.2.2.2.2.1, ex_trans hHeld.2.2.2.2.2.2.2.2.2.2.2.2.2.2.2.2 hb1⟩) (fun hNew => ?_)
            clear hK K hHeld
            have hHeld := hNew
            clear hNew
            try simp only [Act.put, List.setIfInBounds_toArray, List.set_cons_zero, List.set_cons_succ]
            clear hb1 hF
            refine held_two 4 5 (by kernel_rfl) rfl rfl (fun K hK => ?_) (fun K hK => ?_)
            · go_simp
              go_at_call 12
              refine (set_two nA nB x y [⟨nA, intV x⟩, ⟨nB, intV y⟩] 2 A1 c1 _ (tw_y x y) rfl ((HS1.out.sl (R := RAtr) encAtr (fun _ => rfl)).mono mAtr HB1.out)).mono ?_; rintro e w22 ⟨A2, c2, rfl, hF, hb2⟩
              have hsz_2 : w21.heap.size ≤ w22.heap.size := hb2.size
              have HB1 := Lib.hid (HB1.out.trans (hb2.mono HB1.out.size))
              have HS2 := Lib.hid hF
              have HB2 := Lib.hid (Below.refl w22.heap.size w22)
              go_wp2_with fail
              refine hK.out _ _ (by (try dsimp only); exact ⟨keep_cell hb2 hHeld.1, keep_cell hb2 hHeld.2.1, keep_cell hb2 hHeld.2.2.1, keep_cell hb2 hHeld.2.2.2.1, keep_cell hb2 hHeld.2.2.2.2.1, keep_cell hb2 hHeld.2.2.2.2.2.1, keep_cell hb2 hHeld.2.2.2.2.2.2.1, keep_cell hb2 hHeld.2.2.2.2.2.2.2.1, keep_cell hb2 hHeld.2.2.2.2.2.2.2.2.1, keep_cell hb2 hHeld.2.2.2.2.2.2.2.2.2.1, keep_cell hb2 hHeld.2.2.2.2.2.2.2.2.2.2.1, keep_cell hb2 hHeld.2.2.2.2.2.2.2.2.2.2.2.1, keep_cell hb2 hHeld.2.2.2.2.2.2.2.2.2.2.2.2.1, keep_cell hb2 hHeld.2.2.2.2.2.2.2.2.2.2.2.2.2.1, keep_cell hb2 hHeld.2.2.2.2.2.2.2.2.2.2.2.2.2.2.1, keep_cell hb2 hHeld.2.2.2.2.2.2.2.2.2.2.2.2.2.2.2.1, ex_trans hHeld.2.2.2.2.2.2.2.2.2.2.2.2.2.2.2.2 hb2⟩) (fun hNew => ?_)
              clear hK K hHeld
              have hHeld := hNew
              clear hNew
              try simp only [Act.put, List.setIfInBounds_toArray, List.set_cons_zero, List.set_cons_succ]
              clear hb2 hF
              refine held_one 5 (by kernel_rfl) rfl (fun K hK => ?_)
              go_simp
              generalize hwa : World.alloc w22 _ = wa_3
              have hba : Below w22.heap.size w22 wa_3 := by rw [← hwa]; exact (Below.refl _ _).alloc (Nat.le_refl _) _
              have hsz_3 : wa_3.heap.size ≤ w22.heap.size + 1 := by rw [← hwa]; simp
              have hsz2_3 : w22.heap.size + 1 ≤ wa_3.heap.size := by rw [← hwa]; simp
              have HB1 := Lib.hid (HB1.out.trans (hba.mono HB1.out.size))
              have HB2 := Lib.hid (HB2.out.trans (hba.mono HB2.out.size))
              have HDb := Lib.hid (show wa_3.heap[w22.heap.size]? = some (.cells #[.int .i64 0, .int .i64 0, .bool false, .int .i64 0, .slice none 0 0] 28 (0, 0)) by rw [← hwa]; exact hp_new rfl)
              refine hK.out _ _ (by (try dsimp only); exact ⟨keep_cell hba hHeld.1, keep_cell hba hHeld.2.1, keep_cell hba hHeld.2.2.1, keep_cell hba hHeld.2.2.2.1, keep_cell hba hHeld.2.2.2.2.1, keep_cell hba hHeld.2.2.2.2.2.1, keep_cell hba hHeld.2.2.2.2.2.2.1, keep_cell hba hHeld.2.2.2.2.2.2.2.1, keep_cell hba hHeld.2.2.2.2.2.2.2.2.1, keep_cell hba hHeld.2.2.2.2.2.2.2.2.2.1, keep_cell hba hHeld.2.2.2.2.2.2.2.2.2.2.1, keep_cell hba hHeld.2.2.2.2.2.2.2.2.2.2.2.1, keep_cell hba hHeld.2.2.2.2.2.2.2.2.2.2.2.2.1, keep_cell hba hHeld.2.2.2.2.2.2.2.2.2.2.2.2.2.1, keep_cell hba hHeld.2.2.2.2.2.2.2.2.2.2.2.2.2.2.1, keep_cell hba hHeld.2.2.2.2.2.2.2.2.2.2.2.2.2.2.2.1, ex_trans hHeld.2.2.2.2.2.2.2.2.2.2.2.2.2.2.2.2 hba⟩) (fun hNew => ?_)
              clear hK K hHeld
              have hHeld := hNew
              clear hNew
              try simp only [Act.put, List.setIfInBounds_toArray, List.set_cons_zero, List.set_cons_succ]
              clear hwa hba
              have u0 := blk_cell? HDb.out 0
              have u1 := blk_cell? HDb.out 1
              have u2 := blk_cell? HDb.out 2
              have u3 := blk_cell? HDb.out 3
              have u4 := blk_cell? HDb.out 4
              have uf := blk_free HDb.out
              have ul := blk_lt HDb.out
              simp only [List.getElem?_toArray, List.getElem?_cons_zero, List.getElem?_cons_succ] at u0 u1 u2 u3 u4
              refine held_one 6 (by kernel_rfl) rfl (fun K hK => ?_)
              go_simp
              generalize hst : World.setCell (World.setCell (World.setCell (World.setCell (World.setCell wa_3 _ _) _ _) _ _) _ _) _ _ = wst_6
              have hc6 : Chg [w22.heap.size] wa_3 wst_6 := by rw [← hst]; exact ((((((Chg.of_below _ (Below.refl _ _)).set (by simp) _).set (by simp) _).set (by simp) _).set (by simp) _).set (by simp) _)
              have v6_0 : wst_6.cell? ⟨w22.heap.size, 0, none⟩ = some (.int .i64 1) := by subst hst; go_simp
              have v6_1 : wst_6.cell? ⟨w22.heap.size, 1, none⟩ = some (.int .i64 0) := by subst hst; go_simp
              have v6_2 : wst_6.cell? ⟨w22.heap.size, 2, none⟩ = some (.bool false) := by subst hst; go_simp
              have v6_3 : wst_6.cell? ⟨w22.heap.size, 3, none⟩ = some (.int .i64 0) := by subst hst; go_simp
              have v6_4 : wst_6.cell? ⟨w22.heap.size, 4, none⟩ = some (.slice A2 2 c2) := by subst hst; go_simp
              refine hK.out _ _ (by (try dsimp only); exact ⟨hc6.cell hHeld.1 (fun h => by have h1 := List.mem_singleton.1 h; simp only at h1; omega), hc6.cell hHeld.2.1 (fun h => by have h1 := List.mem_singleton.1 h; simp only at h1; omega), hc6.cell hHeld.2.2.1 (fun h => by have h1 := List.mem_singleton.1 h; simp only at h1; omega), hc6.cell hHeld.2.2.2.1 (fun h => by have h1 := List.mem_singleton.1 h; simp only at h1; omega), hc6.cell hHeld.2.2.2.2.1 (fun h => by have h1 := List.mem_singleton.1 h; simp only at h1; omega), hc6.cell hHeld.2.2.2.2.2.1 (fun h => by have h1 := List.mem_singleton.1 h; simp only at h1; omega), hc6.cell hHeld.2.2.2.2.2.2.1 (fun h => by have h1 := List.mem_singleton.1 h; simp only at h1; omega), hc6.cell hHeld.2.2.2.2.2.2.2.1 (fun h => by have h1 := List.mem_singleton.1 h; simp only at h1; omega), hc6.cell hHeld.2.2.2.2.2.2.2.2.1 (fun h => by have h1 := List.mem_singleton.1 h; simp only at h1; omega), hc6.cell hHeld.2.2.2.2.2.2.2.2.2.1 (fun h => by have h1 := List.mem_singleton.1 h; simp only at h1; omega), hc6.cell hHeld.2.2.2.2.2.2.2.2.2.2.1 (fun h => by have h1 := List.mem_singleton.1 h; simp only at h1; omega), hc6.cell hHeld.2.2.2.2.2.2.2.2.2.2.2.1 (fun h => by have h1 := List.mem_singleton.1 h; simp only at h1; omega), hc6.cell hHeld.2.2.2.2.2.2.2.2.2.2.2.2.1 (fun h => by have h1 := List.mem_singleton.1 h; simp only at h1; omega), hc6.cell hHeld.2.2.2.2.2.2.2.2.2.2.2.2.2.1 (fun h => by have h1 := List.mem_singleton.1 h; simp only at h1; omega), hc6.cell hHeld.2.2.2.2.2.2.2.2.2.2.2.2.2.2.1 (fun h => by have h1 := List.mem_singleton.1 h; simp only at h1; omega), hc6.cell hHeld.2.2.2.2.2.2.2.2.2.2.2.2.2.2.2.1 (fun h => by have h1 := List.mem_singleton.1 h; simp only at h1; omega), Below.mark hHeld.2.2.2.2.2.2.2.2.2.2.2.2.2.2.2.2 hc6 hHeld.2.2.2.2.2.2.2.2.2.2.2.2.2.2.2.2.size (fun b hb => by obtain rfl := List.mem_singleton.1 hb; omega)⟩) (fun hNew => ?_)
              clear hK K hHeld
              have hHeld := hNew
              clear hNew
              try simp only [Act.put, List.setIfInBounds_toArray, List.set_cons_zero, List.set_cons_succ]
              clear hst uf ul u0 u1 u2 u3 u4
              refine wpAnyH_done (by kernel_rfl) ?_ _
              have hr2 := row_reads (w' := wst_6) HS2.out (fun b h1 h2 => by
                have h3 := HB2.out.size
                exact (hc6.block b (by omega) (fun h => by have h1 := List.mem_singleton.1 h; omega)).trans (HB2.out.block b h2))
              go_wp2_with fail
              go_meet
              exact ⟨_, A2, c2, rfl, v6_0, v6_1, v6_2, v6_3, v6_4, hr2, hHeld.1, hHeld.2.1, hHeld.2.2.1, hHeld.2.2.2.1, hHeld.2.2.2.2.1, hHeld.2.2.2.2.2.1, hHeld.2.2.2.2.2.2.1, hHeld.2.2.2.2.2.2.2.1, hHeld.2.2.2.2.2.2.2.2.1, hHeld.2.2.2.2.2.2.2.2.2.1, hHeld.2.2.2.2.2.2.2.2.2.2.1, hHeld.2.2.2.2.2.2.2.2.2.2.2.1, hHeld.2.2.2.2.2.2.2.2.2.2.2.2.1, hHeld.2.2.2.2.2.2.2.2.2.2.2.2.2.1, hHeld.2.2.2.2.2.2.2.2.2.2.2.2.2.2.1, hHeld.2.2.2.2.2.2.2.2.2.2.2.2.2.2.2.1, hHeld.2.2.2.2.2.2.2.2.2.2.2.2.2.2.2.2⟩
            · go_simp
              generalize hwa : World.alloc w21 _ = wa_4
              have hba : Below w21.heap.size w21 wa_4 := by rw [← hwa]; exact (Below.refl _ _).alloc (Nat.le_refl _) _
              have hsz_4 : wa_4.heap.size ≤ w21.heap.size + 1 := by rw [← hwa]; simp
              have hsz2_4 : w21.heap.size + 1 ≤ wa_4.heap.size := by rw [← hwa]; simp
              have HB1 := Lib.hid (HB1.out.trans (hba.mono HB1.out.size))
              have HDb := Lib.hid (show wa_4.heap[w21.heap.size]? = some (.cells #[.int .i64 0, .int .i64 0, .bool false, .int .i64 0, .slice none 0 0] 28 (0, 0)) by rw [← hwa]; exact hp_new rfl)
              refine hK.out _ _ (by (try dsimp only); exact ⟨keep_cell hba hHeld.1, keep_cell hba hHeld.2.1, keep_cell hba hHeld.2.2.1, keep_cell hba hHeld.2.2.2.1, keep_cell hba hHeld.2.2.2.2.1, keep_cell hba hHeld.2.2.2.2.2.1, keep_cell hba hHeld.2.2.2.2.2.2.1, keep_cell hba hHeld.2.2.2.2.2.2.2.1, keep_cell hba hHeld.2.2.2.2.2.2.2.2.1, keep_cell hba hHeld.2.2.2.2.2.2.2.2.2.1, keep_cell hba hHeld.2.2.2.2.2.2.2.2.2.2.1, keep_cell hba hHeld.2.2.2.2.2.2.2.2.2.2.2.1, keep_cell hba hHeld.2.2.2.2.2.2.2.2.2.2.2.2.1, keep_cell hba hHeld.2.2.2.2.2.2.2.2.2.2.2.2.2.1, keep_cell hba hHeld.2.2.2.2.2.2.2.2.2.2.2.2.2.2.1, keep_cell hba hHeld.2.2.2.2.2.2.2.2.2.2.2.2.2.2.2.1, ex_trans hHeld.2.2.2.2.2.2.2.2.2.2.2.2.2.2.2.2 hba⟩) (fun hNew => ?_)
              clear hK K hHeld
              have hHeld := hNew
              clear hNew
              try simp only [Act.put, List.setIfInBounds_toArray, List.set_cons_zero, List.set_cons_succ]
              clear hwa hba
              refine held_one 4 (by kernel_rfl) rfl (fun K hK => ?_)
              go_simp
              go_at_call 12
              refine (set_two nA nB x y [⟨nA, intV x⟩, ⟨nB, intV y⟩] 2 A1 c1 _ (tw_y x y) rfl ((HS1.out.sl (R := RAtr) encAtr (fun _ => rfl)).mono mAtr HB1.out)).mono ?_; rintro e w25 ⟨A2, c2, rfl, hF, hb5⟩
              have hsz_5 : wa_4.heap.size ≤ w25.heap.size := hb5.size
              have HB1 := Lib.hid (HB1.out.trans (hb5.mono HB1.out.size))
              have HDb := Lib.hid (below_keep hb5 HDb.out)
              have HS2 := Lib.hid hF
              have HB2 := Lib.hid (Below.refl w25.heap.size w25)
              go_wp2_with fail
              refine hK.out _ _ (by (try dsimp only); exact ⟨keep_cell hb5 hHeld.1, keep_cell hb5 hHeld.2.1, keep_cell hb5 hHeld.2.2.1, keep_cell hb5 hHeld.2.2.2.1, keep_cell hb5 hHeld.2.2.2.2.1, keep_cell hb5 hHeld.2.2.2.2.2.1, keep_cell hb5 hHeld.2.2.2.2.2.2.1, keep_cell hb5 hHeld.2.2.2.2.2.2.2.1, keep_cell hb5 hHeld.2.2.2.2.2.2.2.2.1, keep_cell hb5 hHeld.2.2.2.2.2.2.2.2.2.1, keep_cell hb5 hHeld.2.2.2.2.2.2.2.2.2.2.1, keep_cell hb5 hHeld.2.2.2.2.2.2.2.2.2.2.2.1, keep_cell hb5 hHeld.2.2.2.2.2.2.2.2.2.2.2.2.1, keep_cell hb5 hHeld.2.2.2.2.2.2.2.2.2.2.2.2.2.1, keep_cell hb5 hHeld.2.2.2.2.2.2.2.2.2.2.2.2.2.2.1, keep_cell hb5 hHeld.2.2.2.2.2.2.2.2.2.2.2.2.2.2.2.1, ex_trans hHeld.2.2.2.2.2.2.2.2.2.2.2.2.2.2.2.2 hb5⟩) (fun hNew => ?_)
              clear hK K hHeld
              have hHeld := hNew
              clear hNew
              try simp only [Act.put, List.setIfInBounds_toArray, List.set_cons_zero, List.set_cons_succ]
              clear hb5 hF
              have u0 := blk_cell? HDb.out 0
              have u1 := blk_cell? HDb.out 1
              have u2 := blk_cell? HDb.out 2
              have u3 := blk_cell? HDb.out 3
              have u4 := blk_cell? HDb.out 4
              have uf := blk_free HDb.out
              have ul := blk_lt HDb.out
              simp only [List.getElem?_toArray, List.getElem?_cons_zero, List.getElem?_cons_succ] at u0 u1 u2 u3 u4
              refine held_one 6 (by kernel_rfl) rfl (fun K hK => ?_)
              go_simp
              generalize hst : World.setCell (World.setCell (World.setCell (World.setCell (World.setCell w25 _ _) _ _) _ _) _ _) _ _ = wst_6
              have hc6 : Chg [w21.heap.size] w25 wst_6 := by rw [← hst]; exact ((((((Chg.of_below _ (Below.refl _ _)).set (by simp) _).set (by simp) _).set (by simp) _).set (by simp) _).set (by simp) _)
              have v6_0 : wst_6.cell? ⟨w21.heap.size, 0, none⟩ = some (.int .i64 1) := by subst hst; go_simp
              have v6_1 : wst_6.cell? ⟨w21.heap.size, 1, none⟩ = some (.int .i64 0) := by subst hst; go_simp
              have v6_2 : wst_6.cell? ⟨w21.heap.size, 2, none⟩ = some (.bool false) := by subst hst; go_simp
              have v6_3 : wst_6.cell? ⟨w21.heap.size, 3, none⟩ = some (.int .i64 0) := by subst hst; go_simp
              have v6_4 : wst_6.cell? ⟨w21.heap.size, 4, none⟩ = some (.slice A2 2 c2) := by subst hst; go_simp
              refine hK.out _ _ (by (try dsimp only); exact ⟨hc6.cell hHeld.1 (fun h => by have h1 := List.mem_singleton.1 h; simp only at h1; omega), hc6.cell hHeld.2.1 (fun h => by have h1 := List.mem_singleton.1 h; simp only at h1; omega), hc6.cell hHeld.2.2.1 (fun h => by have h1 := List.mem_singleton.1 h; simp only at h1; omega), hc6.cell hHeld.2.2.2.1 (fun h => by have h1 := List.mem_singleton.1 h; simp only at h1; omega), hc6.cell hHeld.2.2.2.2.1 (fun h => by have h1 := List.mem_singleton.1 h; simp only at h1; omega), hc6.cell hHeld.2.2.2.2.2.1 (fun h => by have h1 := List.mem_singleton.1 h; simp only at h1; omega), hc6.cell hHeld.2.2.2.2.2.2.1 (fun h => by have h1 := List.mem_singleton.1 h; simp only at h1; omega), hc6.cell hHeld.2.2.2.2.2.2.2.1 (fun h => by have h1 := List.mem_singleton.1 h; simp only at h1; omega), hc6.cell hHeld.2.2.2.2.2.2.2.2.1 (fun h => by have h1 := List.mem_singleton.1 h; simp only at h1; omega), hc6.cell hHeld.2.2.2.2.2.2.2.2.2.1 (fun h => by have h1 := List.mem_singleton.1 h; simp only at h1; omega), hc6.cell hHeld.2.2.2.2.2.2.2.2.2.2.1 (fun h => by have h1 := List.mem_singleton.1 h; simp only at h1; omega), hc6.cell hHeld.2.2.2.2.2.2.2.2.2.2.2.1 (fun h => by have h1 := List.mem_singleton.1 h; simp only at h1; omega), hc6.cell hHeld.2.2.2.2.2.2.2.2.2.2.2.2.1 (fun h => by have h1 := List.mem_singleton.1 h; simp only at h1; omega), hc6.cell hHeld.2.2.2.2.2.2.2.2.2.2.2.2.2.1 (fun h => by have h1 := List.mem_singleton.1 h; simp only at h1; omega), hc6.cell hHeld.2.2.2.2.2.2.2.2.2.2.2.2.2.2.1 (fun h => by have h1 := List.mem_singleton.1 h; simp only at h1; omega), hc6.cell hHeld.2.2.2.2.2.2.2.2.2.2.2.2.2.2.2.1 (fun h => by have h1 := List.mem_singleton.1 h; simp only at h1; omega), Below.mark hHeld.2.2.2.2.2.2.2.2.2.2.2.2.2.2.2.2 hc6 hHeld.2.2.2.2.2.2.2.2.2.2.2.2.2.2.2.2.size (fun b hb => by obtain rfl := List.mem_singleton.1 hb; omega)⟩) (fun hNew => ?_)
              clear hK K hHeld
              have hHeld := hNew
              clear hNew
              try simp only [Act.put, List.setIfInBounds_toArray, List.set_cons_zero, List.set_cons_succ]
              clear hst uf ul u0 u1 u2 u3 u4
              refine wpAnyH_done (by kernel_rfl) ?_ _
              have hr2 := row_reads (w' := wst_6) HS2.out (fun b h1 h2 => by
                have h3 := HB2.out.size
                exact (hc6.block b (by omega) (fun h => by have h1 := List.mem_singleton.1 h; omega)).trans (HB2.out.block b h2))
              go_wp2_with fail
              go_meet
              exact ⟨_, A2, c2, rfl, v6_0, v6_1, v6_2, v6_3, v6_4, hr2, hHeld.1, hHeld.2.1, hHeld.2.2.1, hHeld.2.2.2.1, hHeld.2.2.2.2.1, hHeld.2.2.2.2.2.1, hHeld.2.2.2.2.2.2.1, hHeld.2.2.2.2.2.2.2.1, hHeld.2.2.2.2.2.2.2.2.1, hHeld.2.2.2.2.2.2.2.2.2.1, hHeld.2.2.2.2.2.2.2.2.2.2.1, hHeld.2.2.2.2.2.2.2.2.2.2.2.1, hHeld.2.2.2.2.2.2.2.2.2.2.2.2.1, hHeld.2.2.2.2.2.2.2.2.2.2.2.2.2.1, hHeld.2.2.2.2.2.2.2.2.2.2.2.2.2.2.1, hHeld.2.2.2.2.2.2.2.2.2.2.2.2.2.2.2.1, hHeld.2.2.2.2.2.2.2.2.2.2.2.2.2.2.2.2⟩
          · go_simp
            generalize hwa : World.alloc Wd7 _ = wa_6
            have hba : Below Wd7.heap.size Wd7 wa_6 := by rw [← hwa]; exact (Below.refl _ _).alloc (Nat.le_refl _) _
            have hsz_6 : wa_6.heap.size ≤ Wd7.heap.size + 1 := by rw [← hwa]; simp
            have hsz2_6 : Wd7.heap.size + 1 ≤ wa_6.heap.size := by rw [← hwa]; simp
            have HDb := Lib.hid (show wa_6.heap[Wd7.heap.size]? = some (.cells #[.int .i64 0, .int .i64 0, .bool false, .int .i64 0, .slice none 0 0] 28 (0, 0)) by rw [← hwa]; exact hp_new rfl)
            refine hK.out _ _ (by (try dsimp only); exact ⟨keep_cell hba hHeld.1, keep_cell hba hHeld.2.1, keep_cell hba hHeld.2.2.1, keep_cell hba hHeld.2.2.2.1, keep_cell hba hHeld.2.2.2.2.1, keep_cell hba hHeld.2.2.2.2.2.1, keep_cell hba hHeld.2.2.2.2.2.2.1, keep_cell hba hHeld.2.2.2.2.2.2.2.1, keep_cell hba hHeld.2.2.2.2.2.2.2.2.1, keep_cell hba hHeld.2.2.2.2.2.2.2.2.2.1, keep_cell hba hHeld.2.2.2.2.2.2.2.2.2.2.1, keep_cell hba hHeld.2.2.2.2.2.2.2.2.2.2.2.1, keep_cell hba hHeld.2.2.2.2.2.2.2.2.2.2.2.2.1, keep_cell hba hHeld.2.2.2.2.2.2.2.2.2.2.2.2.2.1, keep_cell hba hHeld.2.2.2.2.2.2.2.2.2.2.2.2.2.2.1, keep_cell hba hHeld.2.2.2.2.2.2.2.2.2.2.2.2.2.2.2.1, ex_trans hHeld.2.2.2.2.2.2.2.2.2.2.2.2.2.2.2.2 hba⟩) (fun hNew => ?_)
            clear hK K hHeld
            have hHeld := hNew
            clear hNew
            try simp only [Act.put, List.setIfInBounds_toArray, List.set_cons_zero, List.set_cons_succ]
            clear hwa hba
            refine held_one 2 (by kernel_rfl) rfl (fun K hK => ?_)
            go_simp
            go_at_call 12
            refine (set_one nA x _).mono ?_; rintro e w27 ⟨A1, c1, rfl, hF, hb7⟩
            have hsz_7 : wa_6.heap.size ≤ w27.heap.size := hb7.size
            have HDb := Lib.hid (below_keep hb7 HDb.out)
            have HS1 := Lib.hid hF
            have HB1 := Lib.hid (Below.refl w27.heap.size w27)
            go_wp2_with fail
            refine hK.out _ _ (by (try dsimp only); exact ⟨keep_cell hb7 hHeld.1, keep_cell hb7 hHeld.2.1, keep_cell hb7 hHeld.2.2.1, keep_cell hb7 hHeld.2.2.2.1, keep_cell hb7 hHeld.2.2.2.2.1, keep_cell hb7 hHeld.2.2.2.2.2.1, keep_cell hb7 hHeld.2.2.2.2.2.2.1, keep_cell hb7 hHeld.2.2.2.2.2.2.2.1, keep_cell hb7 hHeld.2.2.2.2.2.2.2.2.1, keep_cell hb7 hHeld.2.2.2.2.2.2.2.2.2.1, keep_cell hb7 hHeld.2.2.2.2.2.2.2.2.2.2.1, keep_cell hb7 hHeld.2.2.2.2.2.2.2.2.2.2.2.1, keep_cell hb7 hHeld.2.2.2.2.2.2.2.2.2.2.2.2.1, keep_cell hb7 hHeld.2.2.2.2.2.2.2.2.2.2.2.2.2.1, keep_cell hb7 hHeld.2.2.2.2.2.2.2.2.2.2.2.2.2.2.1, keep_cell hb7 hHeld.2.2.2.2.2.2.2.2.2.2.2.2.2.2.2.1, ex_trans hHeld.2.2.2.2.2.2.2.2.2.2.2.2.2.2.2.2 hb7⟩) (fun hNew => ?_)
            clear hK K hHeld
            have hHeld := hNew
            clear hNew
            try simp only [Act.put, List.setIfInBounds_toArray, List.set_cons_zero, List.set_cons_succ]
            clear hb7 hF
            refine held_one 4 (by kernel_rfl) rfl (fun K hK => ?_)
            go_simp
            go_at_call 12
            refine (set_two nA nB x y [⟨nA, intV x⟩, ⟨nB, intV y⟩] 2 A1 c1 _ (tw_y x y) rfl ((HS1.out.sl (R := RAtr) encAtr (fun _ => rfl)).mono mAtr HB1.out)).mono ?_; rintro e w28 ⟨A2, c2, rfl, hF, hb8⟩
            have hsz_8 : w27.heap.size ≤ w28.heap.size := hb8.size
            have HDb := Lib.hid (below_keep hb8 HDb.out)
            have HB1 := Lib.hid (HB1.out.trans (hb8.mono HB1.out.size))
            have HS2 := Lib.hid hF
            have HB2 := Lib.hid (Below.refl w28.heap.size w28)
            go_wp2_with fail
            refine hK.out _ _ (by (try dsimp only); exact ⟨keep_cell hb8 hHeld.1, keep_cell hb8 hHeld.2.1, keep_cell hb8 hHeld.2.2.1, keep_cell hb8 hHeld.2.2.2.1, keep_cell hb8 hHeld.2.2.2.2.1, keep_cell hb8 hHeld.2.2.2.2.2.1, keep_cell hb8 hHeld.2.2.2.2.2.2.1, keep_cell hb8 hHeld.2.2.2.2.2.2.2.1, keep_cell hb8 hHeld.2.2.2.2.2.2.2.2.1, keep_cell hb8 hHeld.2.2.2.2.2.2.2.2.2.1, keep_cell hb8 hHeld.2.2.2.2.2.2.2.2.2.2.1, keep_cell hb8 hHeld.2.2.2.2.2.2.2.2.2.2.2.1, keep_cell hb8 hHeld.2.2.2.2.2.2.2.2.2.2.2.2.1, keep_cell hb8 hHeld.2.2.2.2.2.2.2.2.2.2.2.2.2.1, keep_cell hb8 hHeld.2.2.2.2.2.2.2.2.2.2.2.2.2.2.1, keep_cell hb8 hHeld.2.2.2.2.2.2.2.2.2.2.2.2.2.2.2.1, ex_trans hHeld.2.2.2.2.2.2.2.2.2.2.2.2.2.2.2.2 hb8⟩) (fun hNew => ?_)
            clear hK K hHeld
            have hHeld := hNew
            clear hNew
            try simp only [Act.put, List.setIfInBounds_toArray, List.set_cons_zero, List.set_cons_succ]
            clear hb8 hF
            have u0 := blk_cell? HDb.out 0
            have u1 := blk_cell? HDb.out 1
            have u2 := blk_cell? HDb.out 2
            have u3 := blk_cell? HDb.out 3
            have u4 := blk_cell? HDb.out 4
            have uf := blk_free HDb.out
            have ul := blk_lt HDb.out
            simp only [List.getElem?_toArray, List.getElem?_cons_zero, List.getElem?_cons_succ] at u0 u1 u2 u3 u4
            refine held_one 6 (by kernel_rfl) rfl (fun K hK => ?_)
            go_simp
            generalize hst : World.setCell (World.setCell (World.setCell (World.setCell (World.setCell w28 _ _) _ _) _ _) _ _) _ _ = wst_6
            have hc6 : Chg [Wd7.heap.size] w28 wst_6 := by rw [← hst]; exact ((((((Chg.of_below _ (Below.refl _ _)).set (by simp) _).set (by simp) _).set (by simp) _).set (by simp) _).set (by simp) _)
            have v6_0 : wst_6.cell? ⟨Wd7.heap.size, 0, none⟩ = some (.int .i64 1) := by subst hst; go_simp
            have v6_1 : wst_6.cell? ⟨Wd7.heap.size, 1, none⟩ = some (.int .i64 0) := by subst hst; go_simp
            have v6_2 : wst_6.cell? ⟨Wd7.heap.size, 2, none⟩ = some (.bool false) := by subst hst; go_simp
            have v6_3 : wst_6.cell? ⟨Wd7.heap.size, 3, none⟩ = some (.int .i64 0) := by subst hst; go_simp
            have v6_4 : wst_6.cell? ⟨Wd7.heap.size, 4, none⟩ = some (.slice A2 2 c2) := by subst hst; go_simp
            refine hK.out _ _ (by (try dsimp only); exact ⟨hc6.cell hHeld.1 (fun h => by have h1 := List.mem_singleton.1 h; simp only at h1; omega), hc6.cell hHeld.2.1 (fun h => by have h1 := List.mem_singleton.1 h; simp only at h1; omega), hc6.cell hHeld.2.2.1 (fun h => by have h1 := List.mem_singleton.1 h; simp only at h1; omega), hc6.cell hHeld.2.2.2.1 (fun h => by have h1 := List.mem_singleton.1 h; simp only at h1; omega), hc6.cell hHeld.2.2.2.2.1 (fun h => by have h1 := List.mem_singleton.1 h; simp only at h1; omega), hc6.cell hHeld.2.2.2.2.2.1 (fun h => by have h1 := List.mem_singleton.1 h; simp only at h1; omega), hc6.cell hHeld.2.2.2.2.2.2.1 (fun h => by have h1 := List.mem_singleton.1 h; simp only at h1; omega), hc6.cell hHeld.2.2.2.2.2.2.2.1 (fun h => by have h1 := List.mem_singleton.1 h; simp only at h1; omega), hc6.cell hHeld.2.2.2.2.2.2.2.2.1 (fun h => by have h1 := List.mem_singleton.1 h; simp only at h1; omega), hc6.cell hHeld.2.2.2.2.2.2.2.2.2.1 (fun h => by have h1 := List.mem_singleton.1 h; simp only at h1; omega), hc6.cell hHeld.2.2.2.2.2.2.2.2.2.2.1 (fun h => by have h1 := List.mem_singleton.1 h; simp only at h1; omega), hc6.cell hHeld.2.2.2.2.2.2.2.2.2.2.2.1 (fun h => by have h1 := List.mem_singleton.1 h; simp only at h1; omega), hc6.cell hHeld.2.2.2.2.2.2.2.2.2.2.2.2.1 (fun h => by have h1 := List.mem_singleton.1 h; simp only at h1; omega), hc6.cell hHeld.2.2.2.2.2.2.2.2.2.2.2.2.2.1 (fun h => by have h1 := List.mem_singleton.1 h; simp only at h1; omega), hc6.cell hHeld.2.2.2.2.2.2.2.2.2.2.2.2.2.2.1 (fun h => by have h1 := List.mem_singleton.1 h; simp only at h1; omega), hc6.cell hHeld.2.2.2.2.2.2.2.2.2.2.2.2.2.2.2.1 (fun h => by have h1 := List.mem_singleton.1 h; simp only at h1; omega), Below.mark hHeld.2.2.2.2.2.2.2.2.2.2.2.2.2.2.2.2 hc6 hHeld.2.2.2.2.2.2.2.2.2.2.2.2.2.2.2.2.size (fun b hb => by obtain rfl := List.mem_singleton.1 hb; omega)⟩) (fun hNew => ?_)
            clear hK K hHeld
            have hHeld := hNew
            clear hNew
            try simp only [Act.put, List.setIfInBounds_toArray, List.set_cons_zero, List.set_cons_succ]
            clear hst uf ul u0 u1 u2 u3 u4
            refine wpAnyH_done (by kernel_rfl) ?_ _
            have hr2 := row_reads (w' := wst_6) HS2.out (fun b h1 h2 => by
              have h3 := HB2.out.size
              exact (hc6.block b (by omega) (fun h => by have h1 := List.mem_singleton.1 h; omega)).trans (HB2.out.block b h2))
            go_wp2_with fail
            go_meet
            exact ⟨_, A2, c2, rfl, v6_0, v6_1, v6_2, v6_3, v6_4, hr2, hHeld.1, hHeld.2.1, hHeld.2.2.1, hHeld.2.2.2.1, hHeld.2.2.2.2.1, hHeld.2.2.2.2.2.1, hHeld.2.2.2.2.2.2.1, hHeld.2.2.2.2.2.2.2.1, hHeld.2.2.2.2.2.2.2.2.1, hHeld.2.2.2.2.2.2.2.2.2.1, hHeld.2.2.2.2.2.2.2.2.2.2.1, hHeld.2.2.2.2.2.2.2.2.2.2.2.1, hHeld.2.2.2.2.2.2.2.2.2.2.2.2.1, hHeld.2.2.2.2.2.2.2.2.2.2.2.2.2.1, hHeld.2.2.2.2.2.2.2.2.2.2.2.2.2.2.1, hHeld.2.2.2.2.2.2.2.2.2.2.2.2.2.2.2.1, hHeld.2.2.2.2.2.2.2.2.2.2.2.2.2.2.2.2⟩
        case rest =>
          generalize wc = W7 at *
          clear q0 q1 q2 q3 q4 a0 a1 a2 b0 b1 b2 t7_0 t7_1 t7_2 t7_3 t7_4
          obtain ⟨g8, A8, c8, rfl, t8_0, t8_1, t8_2, t8_3, t8_4, hS8, q0, q1, q2, q3, q4, a0, a1, a2, b0, b1, b2, t7_0, t7_1, t7_2, t7_3, t7_4, hK⟩ := hcut
          replace gl := keep_lt hK gl
          replace gl5 := keep_lt hK gl5
          replace gl6 := keep_lt hK gl6
          replace gl_7 := keep_lt hK gl_7
          have gl_8 : g8 < W7.heap.size := World.block_lt_of_cell? W7 _ t8_0
          have HB7 := Lib.hid (ex_trans HB6.out hK)
          have HS_8 := Lib.hid hS8
          have HS_7 := Lib.hid (HS_7.out.mono mAtr hK)
          clear hK hS8
          go_upto_region 8 with fail
          go_cut [9] (fun s w' => ∃ (g : Nat) (A : Option Addr) (c : Nat), s = .pointer (some ⟨g, 0, none⟩) ∧ w'.cell? ⟨g, 0, none⟩ = some (.int .i64 1) ∧ w'.cell? ⟨g, 1, none⟩ = some (.int .i64 0) ∧ w'.cell? ⟨g, 2, none⟩ = some (.bool false) ∧ w'.cell? ⟨g, 3, none⟩ = some (.int .i64 0) ∧ w'.cell? ⟨g, 4, none⟩ = some (.slice A 2 c) ∧ Sl 4 RAtr w' A 2 [⟨nA, intV x⟩, ⟨nB, intV y⟩] ∧ w'.cell? ⟨gf, 0, none⟩ = some (.int .i64 1) ∧ w'.cell? ⟨gf, 1, none⟩ = some (.int .i64 0) ∧ w'.cell? ⟨gf, 2, none⟩ = some (.bool false) ∧ w'.cell? ⟨gf, 3, none⟩ = some (.int .i64 0) ∧ w'.cell? ⟨gf, 4, none⟩ = some (.slice none 0 0) ∧ w'.cell? ⟨g5, 0, none⟩ = some (.int .i64 (intV x).kind) ∧ w'.cell? ⟨g5, 1, none⟩ = some (.int .i64 (intV x).int) ∧ w'.cell? ⟨g5, 2, none⟩ = some (.string (intV x).str) ∧ w'.cell? ⟨g6, 0, none⟩ = some (.int .i64 (intV y).kind) ∧ w'.cell? ⟨g6, 1, none⟩ = some (.int .i64 (intV y).int) ∧ w'.cell? ⟨g6, 2, none⟩ = some (.string (intV y).str) ∧ w'.cell? ⟨g7, 0, none⟩ = some (.int .i64 1) ∧ w'.cell? ⟨g7, 1, none⟩ = some (.int .i64 0) ∧ w'.cell? ⟨g7, 2, none⟩ = some (.bool false) ∧ w'.cell? ⟨g7, 3, none⟩ = some (.int .i64 0) ∧ w'.cell? ⟨g7, 4, none⟩ = some (.slice A7 1 c7) ∧ w'.cell? ⟨g8, 0, none⟩ = some (.int .i64 1) ∧ w'.cell? ⟨g8, 1, none⟩ = some (.int .i64 0) ∧ w'.cell? ⟨g8, 2, none⟩ = some (.bool false) ∧ w'.cell? ⟨g8, 3, none⟩ = some (.int .i64 0) ∧ w'.cell? ⟨g8, 4, none⟩ = some (.slice A8 2 c8) ∧ Below W7.heap.size W7 w')
          case first =>
            refine wp_region_held_drew (S := (fun w' => w'.cell? ⟨gf, 0, none⟩ = some (.int .i64 1) ∧ w'.cell? ⟨gf, 1, none⟩ = some (.int .i64 0) ∧ w'.cell? ⟨gf, 2, none⟩ = some (.bool false) ∧ w'.cell? ⟨gf, 3, none⟩ = some (.int .i64 0) ∧ w'.cell? ⟨gf, 4, none⟩ = some (.slice none 0 0) ∧ w'.cell? ⟨g5, 0, none⟩ = some (.int .i64 (intV x).kind) ∧ w'.cell? ⟨g5, 1, none⟩ = some (.int .i64 (intV x).int) ∧ w'.cell? ⟨g5, 2, none⟩ = some (.string (intV x).str) ∧ w'.cell? ⟨g6, 0, none⟩ = some (.int .i64 (intV y).kind) ∧ w'.cell? ⟨g6, 1, none⟩ = some (.int .i64 (intV y).int) ∧ w'.cell? ⟨g6, 2, none⟩ = some (.string (intV y).str) ∧ w'.cell? ⟨g7, 0, none⟩ = some (.int .i64 1) ∧ w'.cell? ⟨g7, 1, none⟩ = some (.int .i64 0) ∧ w'.cell? ⟨g7, 2, none⟩ = some (.bool false) ∧ w'.cell? ⟨g7, 3, none⟩ = some (.int .i64 0) ∧ w'.cell? ⟨g7, 4, none⟩ = some (.slice A7 1 c7) ∧ w'.cell? ⟨g8, 0, none⟩ = some (.int .i64 1) ∧ w'.cell? ⟨g8, 1, none⟩ = some (.int .i64 0) ∧ w'.cell? ⟨g8, 2, none⟩ = some (.bool false) ∧ w'.cell? ⟨g8, 3, none⟩ = some (.int .i64 0) ∧ w'.cell? ⟨g8, 4, none⟩ = some (.slice A8 2 c8) ∧ Below W7.heap.size W7 w')) (by kernel_rfl) (by (try dsimp only); exact ⟨q0, q1, q2, q3, q4, a0, a1, a2, b0, b1, b2, t7_0, t7_1, t7_2, t7_3, t7_4, t8_0, t8_1, t8_2, t8_3, t8_4, (Below.refl _ _).drew⟩) (fun hHeld => ?_)
            first | (refine held_take 0 rfl (by kernel_rfl) (by kernel_rfl) (by kernel_rfl) (by rfl) (fun _ _ _ h => h) (by assumption) (by intro w hSw; (try dsimp only at hSw); go_simp; first | done | with_reducible rfl) ?_) | (refine held_skip 0 rfl (by kernel_rfl) (by kernel_rfl) (by kernel_rfl) (by rfl) (fun _ _ _ h => h) (by assumption) ?_)
            simp only [Act.put, List.setIfInBounds_toArray, List.set_cons_zero, List.set_cons_succ]
            first | (refine held_take 1 rfl (by kernel_rfl) (by kernel_rfl) (by kernel_rfl) (by rfl) (fun _ _ _ h => h) (by assumption) (by intro w hSw; (try dsimp only at hSw); go_simp; first | done | with_reducible rfl) ?_) | (refine held_skip 1 rfl (by kernel_rfl) (by kernel_rfl) (by kernel_rfl) (by rfl) (fun _ _ _ h => h) (by assumption) ?_)
            simp only [Act.put, List.setIfInBounds_toArray, List.set_cons_zero, List.set_cons_succ]
            first | (refine held_take 3 rfl (by kernel_rfl) (by kernel_rfl) (by kernel_rfl) (by rfl) (fun _ _ _ h => h) (by assumption) (by intro w hSw; (try dsimp only at hSw); go_simp; first | done | with_reducible rfl) ?_) | (refine held_skip 3 rfl (by kernel_rfl) (by kernel_rfl) (by kernel_rfl) (by rfl) (fun _ _ _ h => h) (by assumption) ?_)
            simp only [Act.put, List.setIfInBounds_toArray, List.set_cons_zero, List.set_cons_succ]
            generalize hwd : World.drew W7 = Wd8 at *
            have hszd : W7.heap.size ≤ Wd8.heap.size := hHeld.2.2.2.2.2.2.2.2.2.2.2.2.2.2.2.2.2.2.2.2.2.size
            clear hwd
            refine held_two 2 5 (by kernel_rfl) rfl rfl (fun K hK => ?_) (fun K hK => ?_)
            · go_simp
              go_at_call 12
              refine (set_one nB y _).mono ?_; rintro e w21 ⟨A1, c1, rfl, hF, hb1⟩
              have hsz_1 : Wd8.heap.size ≤ w21.heap.size := hb1.size
              have HS1 := Lib.hid hF
              have HB1 := Lib.hid (Below.refl w21.heap.size w21)
              go_wp2_with fail
              refine hK.out _ _ (by (try dsimp only); exact ⟨keep_cell hb1 hHeld.1, keep_cell hb1 hHeld.2.1, keep_cell hb1 hHeld.2.2.1, keep_cell hb1 hHeld.2.2.2.1, keep_cell hb1 hHeld.2.2.2.2.1, keep_cell hb1 hHeld.2.2.2.2.2.1, keep_cell hb1 hHeld.2.2.2.2.2.2.1, keep_cell hb1 hHeld.2.2.2.2.2.2.2.1, keep_cell hb1 hHeld.2.2.2.2.2.2.2.2.1, keep_cell hb1 hHeld.2.2.2.2.2.2.2.2.2.1, keep_cell hb1 hHeld.2.2.2.2.2.2.2.2.2.2.1, keep_cell hb1 hHeld.2.2.2.2.2.2.2.2.2.2.2.1, keep_cell hb1 hHeld.2.2.2.2.2.2.2.2.2.2.2.2.1, keep_cell hb1 hHeld.2.2.2.2.2.2.2.2.2.2.2.2.2.1, keep_cell hb1 hHeld.2.2.2.2.2.2.2.2.2.2.2.2.2.2.1, keep_cell hb1 hHeld.2.2.2.2.2.2.2.2.2.2.2.2.2.2.2.1, keep_cell hb1 hHeld.2.2.2.2.2.2.2.2.2.2.2.2.2.2.2.2.1, keep_cell hb1 hHeld.2.2.2.2.2.2.2.2.2.2.2.2.2.2.2.2.2.1, keep_cell hb1 hHeld.2.2.2.2.2.2.2.2.2.2.2.2.2.2.2.2.2.2.1, keep_cell hb1 hHeld.2.2.2.2.2.2.2.2.2.2.2.2.2.2.2.2.2.2.2.1, keep_cell hb1 hHeld.2.2.2.2.2.2.2.2.2.2.2.2.2.2.2.2.2.2.2.2.1, ex_trans hHeld.2.2.2.2.2.2.2.2.2.2.2.2.2.2.2.2.2.2.2.2.2 hb1⟩) (fun hNew => ?_)
              clear hK K hHeld
              have hHeld := hNew
              clear hNew
              try simp only [Act.put, List.setIfInBounds_toArray, List.set_cons_zero, List.set_cons_succ]
              clear hb1 hF
              refine held_two 4 5 (by kernel_rfl) rfl rfl (fun K hK => ?_) (fun K hK => ?_)
              · go_simp
                go_at_call 12
                refine (set_two nB nA y x [⟨nA, intV x⟩, ⟨nB, intV y⟩] 2 A1 c1 _ (tw_z x y) rfl ((HS1.out.sl (R := RAtr) encAtr (fun _ => rfl)).mono mAtr HB1.out)).mono ?_; rintro e w22 ⟨A2, c2, rfl, hF, hb2⟩
                have hsz_2 : w21.heap.size ≤ w22.heap.size := hb2.size
                have HB1 := Lib.hid (HB1.out.trans (hb2.mono HB1.out.size))
                have HS2 := Lib.hid hF
                have HB2 := Lib.hid (Below.refl w22.heap.size w22)
                go_wp2_with fail
                refine hK.out _ _ (by (try dsimp only); exact ⟨keep_cell hb2 hHeld.1, keep_cell hb2 hHeld.2.1, keep_cell hb2 hHeld.2.2.1, keep_cell hb2 hHeld.2.2.2.1, keep_cell hb2 hHeld.2.2.2.2.1, keep_cell hb2 hHeld.2.2.2.2.2.1, keep_cell hb2 hHeld.2.2.2.2.2.2.1, keep_cell hb2 hHeld.2.2.2.2.2.2.2.1, keep_cell hb2 hHeld.2.2.2.2.2.2.2.2.1, keep_cell hb2 hHeld.2.2.2.2.2.2.2.2.2.1, keep_cell hb2 hHeld.2.2.2.2.2.2.2.2.2.2.1, keep_cell hb2 hHeld.2.2.2.2.2.2.2.2.2.2.2.1, keep_cell hb2 hHeld.2.2.2.2.2.2.2.2.2.2.2.2.1, keep_cell hb2 hHeld.2.2.2.2.2.2.2.2.2.2.2.2.2.1, keep_cell hb2 hHeld.2.2.2.2.2.2.2.2.2.2.2.2.2.2.1, keep_cell hb2 hHeld.2.2.2.2.2.2.2.2.2.2.2.2.2.2.2.1, keep_cell hb2 hHeld.2.2.2.2.2.2.2.2.2.2.2.2.2.2.2.2.1, keep_cell hb2 hHeld.2.2.2.2.2.2.2.2.2.2.2.2.2.2.2.2.2.1, keep_cell hb2 hHeld.2.2.2.2.2.2.2.2.2.2.2.2.2.2.2.2.2.2.1, keep_cell hb2 hHeld.2.2.2.2.2.2.2.2.2.2.2.2.2.2.2.2.2.2.2.1, keep_cell hb2 hHeld.2.2.2.2.2.2.2.2.2.2.2.2.2.2.2.2.2.2.2.2.1, ex_trans hHeld.2.2.2.2.2.2.2.2.2.2.2.2.2.2.2.2.2.2.2.2.2 hb2⟩) (fun hNew => ?_)
                clear hK K hHeld
                have hHeld := hNew
                clear hNew
                try simp only [Act.put, List.setIfInBounds_toArray, List.set_cons_zero, List.set_cons_succ]
                clear hb2 hF
                refine held_one 5 (by kernel_rfl) rfl (fun K hK => ?_)
                go_simp
                generalize hwa : World.alloc w22 _ = wa_3
                have hba : Below w22.heap.size w22 wa_3 := by rw [← hwa]; exact (Below.refl _ _).alloc (Nat.le_refl _) _
                have hsz_3 : wa_3.heap.size ≤ w22.heap.size + 1 := by rw [← hwa]; simp
                have hsz2_3 : w22.heap.size + 1 ≤ wa_3.heap.size := by rw [← hwa]; simp
                have HB1 := Lib.hid (HB1.out.trans (hba.mono HB1.out.size))
                have HB2 := Lib.hid (HB2.out.trans (hba.mono HB2.out.size))
                have HDb := Lib.hid (show wa_3.heap[w22.heap.size]? = some (.cells #[.int .i64 0, .int .i64 0, .bool false, .int .i64 0, .slice none 0 0] 28 (0, 0)) by rw [← hwa]; exact hp_new rfl)
                refine hK.out _ _ (by (try dsimp only); exact ⟨keep_cell hba hHeld.1, keep_cell hba hHeld.2.1, keep_cell hba hHeld.2.2.1, keep_cell hba hHeld.2.2.2.1, keep_cell hba hHeld.2.2.2.2.1, keep_cell hba hHeld.2.2.2.2.2.1, keep_cell hba hHeld.2.2.2.2.2.2.1, keep_cell hba hHeld.2.2.2.2.2.2.2.1, keep_cell hba hHeld.2.2.2.2.2.2.2.2.1, keep_cell hba hHeld.2.2.2.2.2.2.2.2.2.1, keep_cell hba hHeld.2.2.2.2.2.2.2.2.2.2.1, keep_cell hba hHeld.2.2.2.2.2.2.2.2.2.2.2.1, keep_cell hba hHeld.2.2.2.2.2.2.2.2.2.2.2.2.1, keep_cell hba hHeld.2.2.2.2.2.2.2.2.2.2.2.2.2.1, keep_cell hba hHeld.2.2.2.2.2.2.2.2.2.2.2.2.2.2.1, keep_cell hba hHeld.2.2.2.2.2.2.2.2.2.2.2.2.2.2.2.1, keep_cell hba hHeld.2.2.2.2.2.2.2.2.2.2.2.2.2.2.2.2.1, keep_cell hba hHeld.2.2.2.2.2.2.2.2.2.2.2.2.2.2.2.2.2.1, keep_cell hba hHeld.2.2.2.2.2.2.2.2.2.2.2.2.2.2.2.2.2.2.1, keep_cell hba hHeld.2.2.2.2.2.2.2.2.2.2.2.2.2.2.2.2.2.2.2.1, keep_cell hba hHeld.2.2.2.2.2.2.2.2.2.2.2.2.2.2.2.2.2.2.2.2.1, ex_trans hHeld.2.2.2.2.2.2.2.2.2.2.2.2.2.2.2.2.2.2.2.2.2 hba⟩) (fun hNew => ?_)
                clear hK K hHeld
                have hHeld := hNew
                clear hNew
                try simp only [Act.put, List.setIfInBounds_toArray, List.set_cons_zero, List.set_cons_succ]
                clear hwa hba
                have u0 := blk_cell? HDb.out 0
                have u1 := blk_cell? HDb.out 1
                have u2 := blk_cell? HDb.out 2
                have u3 := blk_cell? HDb.out 3
                have u4 := blk_cell? HDb.out 4
                have uf := blk_free HDb.out
                have ul := blk_lt HDb.out
                simp only [List.getElem?_toArray, List.getElem?_cons_zero, List.getElem?_cons_succ] at u0 u1 u2 u3 u4
                refine held_one 6 (by kernel_rfl) rfl (fun K hK => ?_)
                go_simp
                generalize hst : World.setCell (World.setCell (World.setCell (World.setCell (World.setCell wa_3 _ _) _ _) _ _) _ _) _ _ = wst_6
                have hc6 : Chg [w22.heap.size] wa_3 wst_6 := by rw [← hst]; exact ((((((Chg.of_below _ (Below.refl _ _)).set (by simp) _).set (by simp) _).set (by simp) _).set (by simp) _).set (by simp) _)
                have v6_0 : wst_6.cell? ⟨w22.heap.size, 0, none⟩ = some (.int .i64 1) := by subst hst; go_simp
                have v6_1 : wst_6.cell? ⟨w22.heap.size, 1, none⟩ = some (.int .i64 0) := by subst hst; go_simp
                have v6_2 : wst_6.cell? ⟨w22.heap.size, 2, none⟩ = some (.bool false) := by subst hst; go_simp
                have v6_3 : wst_6.cell? ⟨w22.heap.size, 3, none⟩ = some (.int .i64 0) := by subst hst; go_simp
                have v6_4 : wst_6.cell? ⟨w22.heap.size, 4, none⟩ = some (.slice A2 2 c2) := by subst hst; go_simp
                refine hK.out _ _ (by (try dsimp only); exact ⟨hc6.cell hHeld.1 (fun h => by have h1 := List.mem_singleton.1 h; simp only at h1; omega), hc6.cell hHeld.2.1 (fun h => by have h1 := List.mem_singleton.1 h; simp only at h1; omega), hc6.cell hHeld.2.2.1 (fun h => by have h1 := List.mem_singleton.1 h; simp only at h1; omega), hc6.cell hHeld.2.2.2.1 (fun h => by have h1 := List.mem_singleton.1 h; simp only at h1; omega), hc6.cell hHeld.2.2.2.2.1 (fun h => by have h1 := List.mem_singleton.1 h; simp only at h1; omega), hc6.cell hHeld.2.2.2.2.2.1 (fun h => by have h1 := List.mem_singleton.1 h; simp only at h1; omega), hc6.cell hHeld.2.2.2.2.2.2.1 (fun h => by have h1 := List.mem_singleton.1 h; simp only at h1; omega), hc6.cell hHeld.2.2.2.2.2.2.2.1 (fun h => by have h1 := List.mem_singleton.1 h; simp only at h1; omega), hc6.cell hHeld.2.2.2.2.2.2.2.2.1 (fun h => by have h1 := List.mem_singleton.1 h; simp only at h1; omega), hc6.cell hHeld.2.2.2.2.2.2.2.2.2.1 (fun h => by have h1 := List.mem_singleton.1 h; simp only at h1; omega), hc6.cell hHeld.2.2.2.2.2.2.2.2.2.2.1 (fun h => by have h1 := List.mem_singleton.1 h; simp only at h1; omega), hc6.cell hHeld.2.2.2.2.2.2.2.2.2.2.2.1 (fun h => by have h1 := List.mem_singleton.1 h; simp only at h1; omega), hc6.cell hHeld.2.2.2.2.2.2.2.2.2.2.2.2.1 (fun h => by have h1 := List.mem_singleton.1 h; simp only at h1; omega), hc6.cell hHeld.2.2.2.2.2.2.2.2.2.2.2.2.2.1 (fun h => by have h1 := List.mem_singleton.1 h; simp only at h1; omega), hc6.cell hHeld.2.2.2.2.2.2.2.2.2.2.2.2.2.2.1 (fun h => by have h1 := List.mem_singleton.1 h; simp only at h1; omega), hc6.cell hHeld.2.2.2.2.2.2.2.2.2.2.2.2.2.2.2.1 (fun h => by have h1 := List.mem_singleton.1 h; simp only at h1; omega), hc6.cell hHeld.2.2.2.2.2.2.2.2.2.2.2.2.2.2.2.2.1 (fun h => by have h1 := List.mem_singleton.1 h; simp only at h1; omega), hc6.cell hHeld.2.2.2.2.2.2.2.2.2.2.2.2.2.2.2.2.2.1 (fun h => by have h1 := List.mem_singleton.1 h; simp only at h1; omega), hc6.cell hHeld.2.2.2.2.2.2.2.2.2.2.2.2.2.2.2.2.2.2.1 (fun h => by have h1 := List.mem_singleton.1 h; simp only at h1; omega), hc6.cell hHeld.2.2.2.2.2.2.2.2.2.2.2.2.2.2.2.2.2.2.2.1 (fun h => by have h1 := List.mem_singleton.1 h; simp only at h1; omega), hc6.cell hHeld.2.2.2.2.2.2.2.2.2.2.2.2.2.2.2.2.2.2.2.2.1 (fun h => by have h1 := List.mem_singleton.1 h; simp only at h1; omega), Below.mark hHeld.2.2.2.2.2.2.2.2.2.2.2.2.2.2.2.2.2.2.2.2.2 hc6 hHeld.2.2.2.2.2.2.2.2.2.2.2.2.2.2.2.2.2.2.2.2.2.size (fun b hb => by obtain rfl := List.mem_singleton.1 hb; omega)⟩) (fun hNew => ?_)
                clear hK K hHeld
                have hHeld := hNew
                clear hNew
                try simp only [Act.put, List.setIfInBounds_toArray, List.set_cons_zero, List.set_cons_succ]
                clear hst uf ul u0 u1 u2 u3 u4
                refine wpAnyH_done (by kernel_rfl) ?_ _
                have hr2 := row_reads (w' := wst_6) HS2.out (fun b h1 h2 => by
                  have h3 := HB2.out.size
                  exact (hc6.block b (by omega) (fun h => by have h1 := List.mem_singleton.1 h; omega)).trans (HB2.out.block b h2))
                go_wp2_with fail
                go_meet
                exact ⟨_, A2, c2, rfl, v6_0, v6_1, v6_2, v6_3, v6_4, hr2, hHeld.1, hHeld.2.1, hHeld.2.2.1, hHeld.2.2.2.1, hHeld.2.2.2.2.1, hHeld.2.2.2.2.2.1, hHeld.2.2.2.2.2.2.1, hHeld.2.2.2.2.2.2.2.1, hHeld.2.2.2.2.2.2.2.2.1, hHeld.2.2.2.2.2.2.2.2.2.1, hHeld.2.2.2.2.2.2.2.2.2.2.1, hHeld.2.2.2.2.2.2.2.2.2.2.2.1, hHeld.2.2.2.2.2.2.2.2.2.2.2.2.1, hHeld.2.2.2.2.2.2.2.2.2.2.2.2.2.1, hHeld.2.2.2.2.2.2.2.2.2.2.2.2.2.2.1, hHeld.2.2.2.2.2.2.2.2.2.2.2.2.2.2.2.1, hHeld.2.2.2.2.2.2.2.2.2.2.2.2.2.2.2.2.1, hHeld.2.2.2.2.2.2.2.2.2.2.2.2.2.2.2.2.2.1, hHeld.2.2.2.2.2.2.2.2.2.2.2.2.2.2.2.2.2.2.1, hHeld.2.2.2.2.2.2.2.2.2.2.2.2.2.2.2.2.2.2.2.1, hHeld.2.2.2.2.2.2.2.2.2.2.2.2.2.2.2.2.2.2.2.2.1, hHeld.2.2.2.2.2.2.2.2.2.2.2.2.2.2.2.2.2.2.2.2.2⟩
              · go_simp
                generalize hwa : World.alloc w21 _ = wa_4
                have hba : Below w21.heap.size w21 wa_4 := by rw [← hwa]; exact (Below.refl _ _).alloc (Nat.le_refl _) _
                have hsz_4 : wa_4.heap.size ≤ w21.heap.size + 1 := by rw [← hwa]; simp
                have hsz2_4 : w21.heap.size + 1 ≤ wa_4.heap.size := by rw [← hwa]; simp
                have HB1 := Lib.hid (HB1.out.trans (hba.mono HB1.out.size))
                have HDb := Lib.hid (show wa_4.heap[w21.heap.size]? = some (.cells #[.int .i64 0, .int .i64 0, .bool false, .int .i64 0, .slice none 0 0] 28 (0, 0)) by rw [← hwa]; exact hp_new rfl)
                refine hK.out _ _ (by (try dsimp only); exact ⟨keep_cell hba hHeld.1, keep_cell hba hHeld.2.1, keep_cell hba hHeld.2.2.1, keep_cell hba hHeld.2.2.2.1, keep_cell hba hHeld.2.2.2.2.1, keep_cell hba hHeld.2.2.2.2.2.1, keep_cell hba hHeld.2.2.2.2.2.2.1, keep_cell hba hHeld.2.2.2.2.2.2.2.1, keep_cell hba hHeld.2.2.2.2.2.2.2.2.1, keep_cell hba hHeld.2.2.2.2.2.2.2.2.2.1, keep_cell hba hHeld.2.2.2.2.2.2.2.2.2.2.1, keep_cell hba hHeld.2.2.2.2.2.2.2.2.2.2.2.1, keep_cell hba hHeld.2.2.2.2.2.2.2.2.2.2.2.2.1, keep_cell hba hHeld.2.2.2.2.2.2.2.2.2.2.2.2.2.1, keep_cell hba hHeld.2.2.2.2.2.2.2.2.2.2.2.2.2.2.1, keep_cell hba hHeld.2.2.2.2.2.2.2.2.2.2.2.2.2.2.2.1, keep_cell hba hHeld.2.2.2.2.2.2.2.2.2.2.2.2.2.2.2.2.1, keep_cell hba hHeld.2.2.2.2.2.2.2.2.2.2.2.2.2.2.2.2.2.1, keep_cell hba hHeld.2.2.2.2.2.2.2.2.2.2.2.2.2.2.2.2.2.2.1, keep_cell hba hHeld.2.2.2.2.2.2.2.2.2.2.2.2.2.2.2.2.2.2.2.1, keep_cell hba hHeld.2.2.2.2.2.2.2.2.2.2.2.2.2.2.2.2.2.2.2.2.1, ex_trans hHeld.2.2.2.2.2.2.2.2.2.2.2.2.2.2.2.2.2.2.2.2.2 hba⟩) (fun hNew => ?_)
                clear hK K hHeld
                have hHeld := hNew
                clear hNew
                try simp only [Act.put, List.setIfInBounds_toArray, List.set_cons_zero, List.set_cons_succ]
                clear hwa hba
                refine held_one 4 (by kernel_rfl) rfl (fun K hK => ?_)
                go_simp
                go_at_call 12
                refine (set_two nB nA y x [⟨nA, intV x⟩, ⟨nB, intV y⟩] 2 A1 c1 _ (tw_z x y) rfl ((HS1.out.sl (R := RAtr) encAtr (fun _ => rfl)).mono mAtr HB1.out)).mono ?_; rintro e w25 ⟨A2, c2, rfl, hF, hb5⟩
                have hsz_5 : wa_4.heap.size ≤ w25.heap.size := hb5.size
                have HB1 := Lib.hid (HB1.out.trans (hb5.mono HB1.out.size))
                have HDb := Lib.hid (below_keep hb5 HDb.out)
                have HS2 := Lib.hid hF
                have HB2 := Lib.hid (Below.refl w25.heap.size w25)
                go_wp2_with fail
                refine hK.out _ _ (by (try dsimp only); exact ⟨keep_cell hb5 hHeld.1, keep_cell hb5 hHeld.2.1, keep_cell hb5 hHeld.2.2.1, keep_cell hb5 hHeld.2.2.2.1, keep_cell hb5 hHeld.2.2.2.2.1, keep_cell hb5 hHeld.2.2.2.2.2.1, keep_cell hb5 hHeld.2.2.2.2.2.2.1, keep_cell hb5 hHeld.2.2.2.2.2.2.2.1, keep_cell hb5 hHeld.2.2.2.2.2.2.2.2.1, keep_cell hb5 hHeld.2.2.2.2.2.2.2.2.2.1, keep_cell hb5 hHeld.2.2.2.2.2.2.2.2.2.2.1, keep_cell hb5 hHeld.2.2.2.2.2.2.2.2.2.2.2.1, keep_cell hb5 hHeld.2.2.2.2.2.2.2.2.2.2.2.2.1, keep_cell hb5 hHeld.2.2.2.2.2.2.2.2.2.2.2.2.2.1, keep_cell hb5 hHeld.2.2.2.2.2.2.2.2.2.2.2.2.2.2.1, keep_cell hb5 hHeld.2.2.2.2.2.2.2.2.2.2.2.2.2.2.2.1, keep_cell hb5 hHeld.2.2.2.2.2.2.2.2.2.2.2.2.2.2.2.2.1, keep_cell hb5 hHeld.2.2.2.2.2.2.2.2.2.2.2.2.2.2.2.2.2.1, keep_cell hb5 hHeld.2.2.2.2.2.2.2.2.2.2.2.2.2.2.2.2.2.2.1, keep_cell hb5 hHeld.2.2.2.2.2.2.2.2.2.2.2.2.2.2.2.2.2.2.2.1, keep_cell hb5 hHeld.2.2.2.2.2.2.2.2.2.2.2.2.2.2.2.2.2.2.2.2.1, ex_trans hHeld.2.2.2.2.2.2.2.2.2.2.2.2.2.2.2.2.2.2.2.2.2 hb5⟩) (fun hNew => ?_)
                clear hK K hHeld
                have hHeld := hNew
                clear hNew
                try simp only [Act.put, List.setIfInBounds_toArray, List.set_cons_zero, List.set_cons_succ]
                clear hb5 hF
                have u0 := blk_cell? HDb.out 0
                have u1 := blk_cell? HDb.out 1
                have u2 := blk_cell? HDb.out 2
                have u3 := blk_cell? HDb.out 3
                have u4 := blk_cell? HDb.out 4
                have uf := blk_free HDb.out
                have ul := blk_lt HDb.out
                simp only [List.getElem?_toArray, List.getElem?_cons_zero, List.getElem?_cons_succ] at u0 u1 u2 u3 u4
                refine held_one 6 (by kernel_rfl) rfl (fun K hK => ?_)
                go_simp
                generalize hst : World.setCell (World.setCell (World.setCell (World.setCell (World.setCell w25 _ _) _ _) _ _) _ _) _ _ = wst_6
                have hc6 : Chg [w21.heap.size] w25 wst_6 := by rw [← hst]; exact ((((((Chg.of_below _ (Below.refl _ _)).set (by simp) _).set (by simp) _).set (by simp) _).set (by simp) _).set (by simp) _)
                have v6_0 : wst_6.cell? ⟨w21.heap.size, 0, none⟩ = some (.int .i64 1) := by subst hst; go_simp
                have v6_1 : wst_6.cell? ⟨w21.heap.size, 1, none⟩ = some (.int .i64 0) := by subst hst; go_simp
                have v6_2 : wst_6.cell? ⟨w21.heap.size, 2, none⟩ = some (.bool false) := by subst hst; go_simp
                have v6_3 : wst_6.cell? ⟨w21.heap.size, 3, none⟩ = some (.int .i64 0) := by subst hst; go_simp
                have v6_4 : wst_6.cell? ⟨w21.heap.size, 4, none⟩ = some (.slice A2 2 c2) := by subst hst; go_simp
                refine hK.out _ _ (by (try dsimp only); exact ⟨hc6.cell hHeld.1 (fun h => by have h1 := List.mem_singleton.1 h; simp only at h1; omega), hc6.cell hHeld.2.1 (fun h => by have h1 := List.mem_singleton.1 h; simp only at h1; omega), hc6.cell hHeld.2.2.1 (fun h => by have h1 := List.mem_singleton.1 h; simp only at h1; omega), hc6.cell hHeld.2.2.2.1 (fun h => by have h1 := List.mem_singleton.1 h; simp only at h1; omega), hc6.cell hHeld.2.2.2.2.1 (fun h => by have h1 := List.mem_singleton.1 h; simp only at h1; omega), hc6.cell hHeld.2.2.2.2.2.1 (fun h => by have h1 := List.mem_singleton.1 h; simp only at h1; omega), hc6.cell hHeld.2.2.2.2.2.2.1 (fun h => by have h1 := List.mem_singleton.1 h; simp only at h1; omega), hc6.cell hHeld.2.2.2.2.2.2.2.1 (fun h => by have h1 := List.mem_singleton.1 h; simp only at h1; omega), hc6.cell hHeld.2.2.2.2.2.2.2.2.1 (fun h => by have h1 := List.mem_singleton.1 h; simp only at h1; omega), hc6.cell hHeld.2.2.2.2.2.2.2.2.2.1 (fun h => by have h1 := List.mem_singleton.1 h; simp only at h1; omega), hc6.cell hHeld.2.2.2.2.2.2.2.2.2.2.1 (fun h => by have h1 := List.mem_singleton.1 h; simp only at h1; omega), hc6.cell hHeld.2.2.2.2.2.2.2.2.2.2.2.1 (fun h => by have h1 := List.mem_singleton.1 h; simp only at h1; omega), hc6.cell hHeld.2.2.2.2.2.2.2.2.2.2.2.2.1 (fun h => by have h1 := List.mem_singleton.1 h; simp only at h1; omega), hc6.cell hHeld.2.2.2.2.2.2.2.2.2.2.2.2.2.1 (fun h => by have h1 := List.mem_singleton.1 h; simp only at h1; omega), hc6.cell hHeld.2.2.2.2.2.2.2.2.2.2.2.2.2.2.1 (fun h => by have h1 := List.mem_singleton.1 h; simp only at h1; omega), hc6.cell hHeld.2.2.2.2.2.2.2.2.2.2.2.2.2.2.2.1 (fun h => by have h1 := List.mem_singleton.1 h; simp only at h1; omega), hc6.cell hHeld.2.2.2.2.2.2.2.2.2.2.2.2.2.2.2.2.1 (fun h => by have h1 := List.mem_singleton.1 h; simp only at h1; omega), hc6.cell hHeld.2.2.2.2.2.2.2.2.2.2.2.2.2.2.2.2.2.1 (fun h => by have h1 := List.mem_singleton.1 h; simp only at h1; omega), hc6.cell hHeld.2.2.2.2.2.2.2.2.2.2.2.2.2.2.2.2.2.2.1 (fun h => by have h1 := List.mem_singleton.1 h; simp only at h1; omega), hc6.cell hHeld.2.2.2.2.2.2.2.2.2.2.2.2.2.2.2.2.2.2.2.1 (fun h => by have h1 := List.mem_singleton.1 h; simp only at h1; omega), hc6.cell hHeld.2.2.2.2.2.2.2.2.2.2.2.2.2.2.2.2.2.2.2.2.1 (fun h => by have h1 := List.mem_singleton.1 h; simp only at h1; omega), Below.mark hHeld.2.2.2.2.2.2.2.2.2.2.2.2.2.2.2.2.2.2.2.2.2 hc6 hHeld.2.2.2.2.2.2.2.2.2.2.2.2.2.2.2.2.2.2.2.2.2.size (fun b hb => by obtain rfl := List.mem_singleton.1 hb; omega)⟩) (fun hNew => ?_)
                clear hK K hHeld
                have hHeld := hNew
                clear hNew
                try simp only [Act.put, List.setIfInBounds_toArray, List.set_cons_zero, List.set_cons_succ]
                clear hst uf ul u0 u1 u2 u3 u4
                refine wpAnyH_done (by kernel_rfl) ?_ _
                have hr2 := row_reads (w' := wst_6) HS2.out (fun b h1 h2 => by
                  have h3 := HB2.out.size
                  exact (hc6.block b (by omega) (fun h => by have h1 := List.mem_singleton.1 h; omega)).trans (HB2.out.block b h2))
                go_wp2_with fail
                go_meet
                exact ⟨_, A2, c2, rfl, v6_0, v6_1, v6_2, v6_3, v6_4, hr2, hHeld.1, hHeld.2.1, hHeld.2.2.1, hHeld.2.2.2.1, hHeld.2.2.2.2.1, hHeld.2.2.2.2.2.1, hHeld.2.2.2.2.2.2.1, hHeld.2.2.2.2.2.2.2.1, hHeld.2.2.2.2.2.2.2.2.1, hHeld.2.2.2.2.2.2.2.2.2.1, hHeld.2.2.2.2.2.2.2.2.2.2.1, hHeld.2.2.2.2.2.2.2.2.2.2.2.1, hHeld.2.2.2.2.2.2.2.2.2.2.2.2.1, hHeld.2.2.2.2.2.2.2.2.2.2.2.2.2.1, hHeld.2.2.2.2.2.2.2.2.2.2.2.2.2.2.1, hHeld.2.2.2.2.2.2.2.2.2.2.2.2.2.2.2.1, hHeld.2.2.2.2.2.2.2.2.2.2.2.2.2.2.2.2.1, hHeld.2.2.2.2.2.2.2.2.2.2.2.2.2.2.2.2.2.1, hHeld.2.2.2.2.2.2.2.2.2.2.2.2.2.2.2.2.2.2.1, hHeld.2.2.2.2.2.2.2.2.2.2.2.2.2.2.2.2.2.2.2.1, hHeld.2.2.2.2.2.2.2.2.2.2.2.2.2.2.2.2.2.2.2.2.1, hHeld.2.2.2.2.2.2.2.2.2.2.2.2.2.2.2.2.2.2.2.2.2⟩
            · go_simp
              generalize hwa : World.alloc Wd8 _ = wa_6
              have hba : Below Wd8.heap.size Wd8 wa_6 := by rw [← hwa]; exact (Below.refl _ _).alloc (Nat.le_refl _) _
              have hsz_6 : wa_6.heap.size ≤ Wd8.heap.size + 1 := by rw [← hwa]; simp
              have hsz2_6 : Wd8.heap.size + 1 ≤ wa_6.heap.size := by rw [← hwa]; simp
              have HDb := Lib.hid (show wa_6.heap[Wd8.heap.size]? = some (.cells #[.int .i64 0, .int .i64 0, .bool false, .int .i64 0, .slice none 0 0] 28 (0, 0)) by rw [← hwa]; exact hp_new rfl)
              refine hK.out _ _ (by (try dsimp only); exact ⟨keep_cell hba hHeld.1, keep_cell hba hHeld.2.1, keep_cell hba hHeld.2.2.1, keep_cell hba hHeld.2.2.2.1, keep_cell hba hHeld.2.2.2.2.1, keep_cell hba hHeld.2.2.2.2.2.1, keep_cell hba hHeld.2.2.2.2.2.2.1, keep_cell hba hHeld.2.2.2.2.2.2.2.1, keep_cell hba hHeld.2.2.2.2.2.2.2.2.1, keep_cell hba hHeld.2.2.2.2.2.2.2.2.2.1, keep_cell hba hHeld.2.2.2.2.2.2.2.2.2.2.1, keep_cell hba hHeld.2.2.2.2.2.2.2.2.2.2.2.1, keep_cell hba hHeld.2.2.2.2.2.2.2.2.2.2.2.2.1, keep_cell hba hHeld.2.2.2.2.2.2.2.2.2.2.2.2.2.1, keep_cell hba hHeld.2.2.2.2.2.2.2.2.2.2.2.2.2.2.1, keep_cell hba hHeld.2.2.2.2.2.2.2.2.2.2.2.2.2.2.2.1, keep_cell hba hHeld.2.2.2.2.2.2.2.2.2.2.2.2.2.2.2.2.1, keep_cell hba hHeld.2.2.2.2.2.2.2.2.2.2.2.2.2.2.2.2.2.1, keep_cell hba hHeld.2.2.2.2.2.2.2.2.2.2.2.2.2.2.2.2.2.2.1, keep_cell hba hHeld.2.2.2.2.2.2.2.2.2.2.2.2.2.2.2.2.2.2.2.1, keep_cell hba hHeld.2.2.2.2.2.2.2.2.2.2.2.2.2.2.2.2.2.2.2.2.1, ex_trans hHeld.2.2.2.2.2.2.2.2.2.2.2.2.2.2.2.2.2.2.2.2.2 hba⟩) (fun hNew => ?_)
              clear hK K hHeld
              have hHeld := hNew
              clear hNew
              try simp only [Act.put, List.setIfInBounds_toArray, List.set_cons_zero, List.set_cons_succ]
              clear hwa hba
              refine held_one 2 (by kernel_rfl) rfl (fun K hK => ?_)
              go_simp
              go_at_call 12
              refine (set_one nB y _).mono ?_; rintro e w27 ⟨A1, c1, rfl, hF, hb7⟩
              have hsz_7 : wa_6.heap.size ≤ w27.heap.size := hb7.size
              have HDb := Lib.hid (below_keep hb7 HDb.out)
              have HS1 := Lib.hid hF
              have HB1 := Lib.hid (Below.refl w27.heap.size w27)
              go_wp2_with fail
              refine hK.out _ _ (by (try dsimp only); exact ⟨keep_cell hb7 hHeld.1, keep_cell hb7 hHeld.2.1, keep_cell hb7 hHeld.2.2.1, keep_cell hb7 hHeld.2.2.2.1, keep_cell hb7 hHeld.2.2.2.2.1, keep_cell hb7 hHeld.2.2.2.2.2.1, keep_cell hb7 hHeld.2.2.2.2.2.2.1, keep_cell hb7 hHeld.2.2.2.2.2.2.2.1, keep_cell hb7 hHeld.2.2.2.2.2.2.2.2.1, keep_cell hb7 hHeld.2.2.2.2.2.2.2.2.2.1, keep_cell hb7 hHeld.2.2.2.2.2.2.2.2.2.2.1, keep_cell hb7 hHeld.2.2.2.2.2.2.2.2.2.2.2.1, keep_cell hb7 hHeld.2.2.2.2.2.2.2.2.2.2.2.2.1, keep_cell hb7 hHeld.2.2.2.2.2.2.2.2.2.2.2.2.2.1, keep_cell hb7 hHeld.2.2.2.2.2.2.2.2.2.2.2.2.2.2.1, keep_cell hb7 hHeld.2.2.2.2.2.2.2.2.2.2.2.2.2.2.2.1, keep_cell hb7 hHeld.2.2.2.2.2.2.2.2.2.2.2.2.2.2.2.2.1, keep_cell hb7 hHeld.2.2.2.2.2.2.2.2.2.2.2.2.2.2.2.2.2.1, keep_cell hb7 hHeld.2.2.2.2.2.2.2.2.2.2.2.2.2.2.2.2.2.2.1, keep_cell hb7 hHeld.2.2.2.2.2.2.2.2.2.2.2.2.2.2.2.2.2.2.2.1, keep_cell hb7 hHeld.2.2.2.2.2.2.2.2.2.2.2.2.2.2.2.2.2.2.2.2.1, ex_trans hHeld.2.2.2.2.2.2.2.2.2.2.2.2.2.2.2.2.2.2.2.2.2 hb7⟩) (fun hNew => ?_)
              clear hK K hHeld
              have hHeld := hNew
              clear hNew
              try simp only [Act.put, List.setIfInBounds_toArray, List.set_cons_zero, List.set_cons_succ]
              clear hb7 hF
              refine held_one 4 (by kernel_rfl) rfl (fun K hK => ?_)
              go_simp
              go_at_call 12
              refine (set_two nB nA y x [⟨nA, intV x⟩, ⟨nB, intV y⟩] 2 A1 c1 _ (tw_z x y) rfl ((HS1.out.sl (R := RAtr) encAtr (fun _ => rfl)).mono mAtr HB1.out)).mono ?_; rintro e w28 ⟨A2, c2, rfl, hF, hb8⟩
              have hsz_8 : w27.heap.size ≤ w28.heap.size := hb8.size
              have HDb := Lib.hid (below_keep hb8 HDb.out)
              have HB1 := Lib.hid (HB1.out.trans (hb8.mono HB1.out.size))
              have HS2 := Lib.hid hF
              have HB2 := Lib.hid (Below.refl w28.heap.size w28)
              go_wp2_with fail
              refine hK.out _ _ (by (try dsimp only); exact ⟨keep_cell hb8 hHeld.1, keep_cell hb8 hHeld.2.1, keep_cell hb8 hHeld.2.2.1, keep_cell hb8 hHeld.2.2.2.1, keep_cell hb8 hHeld.2.2.2.2.1, keep_cell hb8 hHeld.2.2.2.2.2.1, keep_cell hb8 hHeld.2.2.2.2.2.2.1, keep_cell hb8 hHeld.2.2.2.2.2.2.2.1, keep_cell hb8 hHeld.2.2.2.2.2.2.2.2.1, keep_cell hb8 hHeld.2.2.2.2.2.2.2.2.2.1, keep_cell hb8 hHeld.2.2.2.2.2.2.2.2.2.2.1, keep_cell hb8 hHeld.2.2.2.2.2.2.2.2.2.2.2.1, keep_cell hb8 hHeld.2.2.2.2.2.2.2.2.2.2.2.2.1, keep_cell hb8 hHeld.2.2.2.2.2.2.2.2.2.2.2.2.2.1, keep_cell hb8 hHeld.2.2.2.2.2.2.2.2.2.2.2.2.2.2.1, keep_cell hb8 hHeld.2.2.2.2.2.2.2.2.2.2.2.2.2.2.2.1, keep_cell hb8 hHeld.2.2.2.2.2.2.2.2.2.2.2.2.2.2.2.2.1, keep_cell hb8 hHeld.2.2.2.2.2.2.2.2.2.2.2.2.2.2.2.2.2.1, keep_cell hb8 hHeld.2.2.2.2.2.2.2.2.2.2.2.2.2.2.2.2.2.2.1, keep_cell hb8 hHeld.2.2.2.2.2.2.2.2.2.2.2.2.2.2.2.2.2.2.2.1, keep_cell hb8 hHeld.2.2.2.2.2.2.2.2.2.2.2.2.2.2.2.2.2.2.2.2.1, ex_trans hHeld.2.2.2.2.2.2.2.2.2.2.2.2.2.2.2.2.2.2.2.2.2 hb8⟩) (fun hNew => ?_)
              clear hK K hHeld
              have hHeld := hNew
              clear hNew
              try simp only [Act.put, List.setIfInBounds_toArray, List.set_cons_zero, List.set_cons_succ]
              clear hb8 hF
              have u0 := blk_cell? HDb.out 0
              have u1 := blk_cell? HDb.out 1
              have u2 := blk_cell? HDb.out 2
              have u3 := blk_cell? HDb.out 3
              have u4 := blk_cell? HDb.out 4
              have uf := blk_free HDb.out
              have ul := blk_lt HDb.out
              simp only [List.getElem?_toArray, List.getElem?_cons_zero, List.getElem?_cons_succ] at u0 u1 u2 u3 u4
              refine held_one 6 (by kernel_rfl) rfl (fun K hK => ?_)
              go_simp
              generalize hst : World.setCell (World.setCell (World.setCell (World.setCell (World.setCell w28 _ _) _ _) _ _) _ _) _ _ = wst_6
              have hc6 : Chg [Wd8.heap.size] w28 wst_6 := by rw [← hst]; exact ((((((Chg.of_below _ (Below.refl _ _)).set (by simp) _).set (by simp) _).set (by simp) _).set (by simp) _).set (by simp) _)
              have v6_0 : wst_6.cell? ⟨Wd8.heap.size, 0, none⟩ = some (.int .i64 1) := by subst hst; go_simp
              have v6_1 : wst_6.cell? ⟨Wd8.heap.size, 1, none⟩ = some (.int .i64 0) := by subst hst; go_simp
              have v6_2 : wst_6.cell? ⟨Wd8.heap.size, 2, none⟩ = some (.bool false) := by subst hst; go_simp
              have v6_3 : wst_6.cell? ⟨Wd8.heap.size, 3, none⟩ = some (.int .i64 0) := by subst hst; go_simp
              have v6_4 : wst_6.cell? ⟨Wd8.heap.size, 4, none⟩ = some (.slice A2 2 c2) := by subst hst; go_simp
              refine hK.out _ _ (by (try dsimp only); exact ⟨hc6.cell hHeld.1 (fun h => by have h1 := List.mem_singleton.1 h; simp only at h1; omega), hc6.cell hHeld.2.1 (fun h => by have h1 := List.mem_singleton.1 h; simp only at h1; omega), hc6.cell hHeld.2.2.1 (fun h => by have h1 := List.mem_singleton.1 h; simp only at h1; omega), hc6.cell hHeld.2.2.2.1 (fun h => by have h1 := List.mem_singleton.1 h; simp only at h1; omega), hc6.cell hHeld.2.2.2.2.1 (fun h => by have h1 := List.mem_singleton.1 h; simp only at h1; omega), hc6.cell hHeld.2.2.2.2.2.1 (fun h => by have h1 := List.mem_singleton.1 h; simp only at h1; omega), hc6.cell hHeld.2.2.2.2.2.2.1 (fun h => by have h1 := List.mem_singleton.1 h; simp only at h1; omega), hc6.cell hHeld.2.2.2.2.2.2.2.1 (fun h => by have h1 := List.mem_singleton.1 h; simp only at h1; omega), hc6.cell hHeld.2.2.2.2.2.2.2.2.1 (fun h => by have h1 := List.mem_singleton.1 h; simp only at h1; omega), hc6.cell hHeld.2.2.2.2.2.2.2.2.2.1 (fun h => by have h1 := List.mem_singleton.1 h; simp only at h1; omega), hc6.cell hHeld.2.2.2.2.2.2.2.2.2.2.1 (fun h => by have h1 := List.mem_singleton.1 h; simp only at h1; omega), hc6.cell hHeld.2.2.2.2.2.2.2.2.2.2.2.1 (fun h => by have h1 := List.mem_singleton.1 h; simp only at h1; omega), hc6.cell hHeld.2.2.2.2.2.2.2.2.2.2.2.2.1 (fun h => by have h1 := List.mem_singleton.1 h; simp only at h1; omega), hc6.cell hHeld.2.2.2.2.2.2.2.2.2.2.2.2.2.1 (fun h => by have h1 := List.mem_singleton.1 h; simp only at h1; omega), hc6.cell hHeld.2.2.2.2.2.2.2.2.2.2.2.2.2.2.1 (fun h => by have h1 := List.mem_singleton.1 h; simp only at h1; omega), hc6.cell hHeld.2.2.2.2.2.2.2.2.2.2.2.2.2.2.2.1 (fun h => by have h1 := List.mem_singleton.1 h; simp only at h1; omega), hc6.cell hHeld.2.2.2.2.2.2.2.2.2.2.2.2.2.2.2.2.1 (fun h => by have h1 := List.mem_singleton.1 h; simp only at h1; omega), hc6.cell hHeld.2.2.2.2.2.2.2.2.2.2.2.2.2.2.2.2.2.1 (fun h => by have h1 := List.mem_singleton.1 h; simp only at h1; omega), hc6.cell hHeld.2.2.2.2.2.2.2.2.2.2.2.2.2.2.2.2.2.2.1 (fun h => by have h1 := List.mem_singleton.1 h; simp only at h1; omega), hc6.cell hHeld.2.2.2.2.2.2.2.2.2.2.2.2.2.2.2.2.2.2.2.1 (fun h => by have h1 := List.mem_singleton.1 h; simp only at h1; omega), hc6.cell hHeld.2.2.2.2.2.2.2.2.2.2.2.2.2.2.2.2.2.2.2.2.1 (fun h => by have h1 := List.mem_singleton.1 h; simp only at h1; omega), Below.mark hHeld.2.2.2.2.2.2.2.2.2.2.2.2.2.2.2.2.2.2.2.2.2 hc6 hHeld.2.2.2.2.2.2.2.2.2.2.2.2.2.2.2.2.2.2.2.2.2.size (fun b hb => by obtain rfl := List.mem_singleton.1 hb; omega)⟩) (fun hNew => ?_)
              clear hK K hHeld
              have hHeld := hNew
              clear hNew
              try simp only [Act.put, List.setIfInBounds_toArray, List.set_cons_zero, List.set_cons_succ]
              clear hst uf ul u0 u1 u2 u3 u4
              refine wpAnyH_done (by kernel_rfl) ?_ _
              have hr2 := row_reads (w' := wst_6) HS2.out (fun b h1 h2 => by
                have h3 := HB2.out.size
                exact (hc6.block b (by omega) (fun h => by have h1 := List.mem_singleton.1 h; omega)).trans (HB2.out.block b h2))
              go_wp2_with fail
              go_meet
              exact ⟨_, A2, c2, rfl, v6_0, v6_1, v6_2, v6_3, v6_4, hr2, hHeld.1, hHeld.2.1, hHeld.2.2.1, hHeld.2.2.2.1, hHeld.2.2.2.2.1, hHeld.2.2.2.2.2.1, hHeld.2.2.2.2.2.2.1, hHeld.2.2.2.2.2.2.2.1, hHeld.2.2.2.2.2.2.2.2.1, hHeld.2.2.2.2.2.2.2.2.2.1, hHeld.2.2.2.2.2.2.2.2.2.2.1, hHeld.2.2.2.2.2.2.2.2.2.2.2.1, hHeld.2.2.2.2.2.2.2.2.2.2.2.2.1, hHeld.2.2.2.2.2.2.2.2.2.2.2.2.2.1, hHeld.2.2.2.2.2.2.2.2.2.2.2.2.2.2.1, hHeld.2.2.2.2.2.2.2.2.2.2.2.2.2.2.2.1, hHeld.2.2.2.2.2.2.2.2.2.2.2.2.2.2.2.2.1, hHeld.2.2.2.2.2.2.2.2.2.2.2.2.2.2.2.2.2.1, hHeld.2.2.2.2.2.2.2.2.2.2.2.2.2.2.2.2.2.2.1, hHeld.2.2.2.2.2.2.2.2.2.2.2.2.2.2.2.2.2.2.2.1, hHeld.2.2.2.2.2.2.2.2.2.2.2.2.2.2.2.2.2.2.2.2.1, hHeld.2.2.2.2.2.2.2.2.2.2.2.2.2.2.2.2.2.2.2.2.2⟩
          case rest =>
            generalize wc = W8 at *
            clear q0 q1 q2 q3 q4 a0 a1 a2 b0 b1 b2 t7_0 t7_1 t7_2 t7_3 t7_4 t8_0 t8_1 t8_2 t8_3 t8_4
            obtain ⟨g9, A9, c9, rfl, t9_0, t9_1, t9_2, t9_3, t9_4, hS9, q0, q1, q2, q3, q4, a0, a1, a2, b0, b1, b2, t7_0, t7_1, t7_2, t7_3, t7_4, t8_0, t8_1, t8_2, t8_3, t8_4, hK⟩ := hcut
            replace gl := keep_lt hK gl
            replace gl5 := keep_lt hK gl5
            replace gl6 := keep_lt hK gl6
            replace gl_7 := keep_lt hK gl_7
            replace gl_8 := keep_lt hK gl_8
            have gl_9 : g9 < W8.heap.size := World.block_lt_of_cell? W8 _ t9_0
            have HB8 := Lib.hid (ex_trans HB7.out hK)
            have HS_9 := Lib.hid hS9
            have HS_7 := Lib.hid (HS_7.out.mono mAtr hK)
            have HS_8 := Lib.hid (HS_8.out.mono mAtr hK)
            clear hK hS9
            go_upto_region 9 with fail
            refine wp_region_held_drew (S := (fun w' => w'.cell? ⟨g6, 0, none⟩ = some (.int .i64 (intV y).kind) ∧ w'.cell? ⟨g6, 1, none⟩ = some (.int .i64 (intV y).int) ∧ w'.cell? ⟨g6, 2, none⟩ = some (.string (intV y).str) ∧ w'.cell? ⟨g7, 0, none⟩ = some (.int .i64 1) ∧ w'.cell? ⟨g7, 1, none⟩ = some (.int .i64 0) ∧ w'.cell? ⟨g7, 2, none⟩ = some (.bool false) ∧ w'.cell? ⟨g7, 3, none⟩ = some (.int .i64 0) ∧ w'.cell? ⟨g7, 4, none⟩ = some (.slice A7 1 c7) ∧ w'.cell? ⟨g8, 0, none⟩ = some (.int .i64 1) ∧ w'.cell? ⟨g8, 1, none⟩ = some (.int .i64 0) ∧ w'.cell? ⟨g8, 2, none⟩ = some (.bool false) ∧ w'.cell? ⟨g8, 3, none⟩ = some (.int .i64 0) ∧ w'.cell? ⟨g8, 4, none⟩ = some (.slice A8 2 c8) ∧ w'.cell? ⟨g9, 0, none⟩ = some (.int .i64 1) ∧ w'.cell? ⟨g9, 1, none⟩ = some (.int .i64 0) ∧ w'.cell? ⟨g9, 2, none⟩ = some (.bool false) ∧ w'.cell? ⟨g9, 3, none⟩ = some (.int .i64 0) ∧ w'.cell? ⟨g9, 4, none⟩ = some (.slice A9 2 c9) ∧ Sl 4 RAtr w' A7 1 [⟨nA, intV y⟩] ∧ Sl 4 RAtr w' A8 2 [⟨nA, intV x⟩, ⟨nB, intV y⟩] ∧ Sl 4 RAtr w' A9 2 [⟨nA, intV x⟩, ⟨nB, intV y⟩] ∧ Below W.heap.size W w')) (by kernel_rfl) (by (try dsimp only); exact ⟨b0, b1, b2, t7_0, t7_1, t7_2, t7_3, t7_4, t8_0, t8_1, t8_2, t8_3, t8_4, t9_0, t9_1, t9_2, t9_3, t9_4, HS_7.out.mono mAtr (Below.refl _ _).drew, HS_8.out.mono mAtr (Below.refl _ _).drew, HS_9.out.mono mAtr (Below.refl _ _).drew, HB8.out.drew⟩) (fun hHeld => ?_)
            first | (refine held_take 0 rfl (by kernel_rfl) (by kernel_rfl) (by kernel_rfl) (by rfl) (fun _ _ _ h => h) (by assumption) (by intro w hSw; (try dsimp only at hSw); go_simp; first | done | with_reducible rfl) ?_) | (refine held_skip 0 rfl (by kernel_rfl) (by kernel_rfl) (by kernel_rfl) (by rfl) (fun _ _ _ h => h) (by assumption) ?_)
            simp only [Act.put, List.setIfInBounds_toArray, List.set_cons_zero, List.set_cons_succ]
            first | (refine held_take 2 rfl (by kernel_rfl) (by kernel_rfl) (by kernel_rfl) (by rfl) (fun _ _ _ h => h) (by assumption) (by intro w hSw; (try dsimp only at hSw); go_simp; first | done | with_reducible rfl) ?_) | (refine held_skip 2 rfl (by kernel_rfl) (by kernel_rfl) (by kernel_rfl) (by rfl) (fun _ _ _ h => h) (by assumption) ?_)
            simp only [Act.put, List.setIfInBounds_toArray, List.set_cons_zero, List.set_cons_succ]
            refine held_one 1 (by kernel_rfl) rfl (fun K hK => ?_)
            go_simp
            go_at_call 13
            refine (get_one y A7 c7 _ hHeld.2.2.2.2.2.2.2.2.2.2.2.2.2.2.2.2.2.2.1).mono ?_; rintro e wq1 ⟨rfl, hbq1⟩
            go_wp2_with fail
            refine hK.out _ _ (by (try dsimp only); exact ⟨keep_cell hbq1 hHeld.1, keep_cell hbq1 hHeld.2.1, keep_cell hbq1 hHeld.2.2.1, keep_cell hbq1 hHeld.2.2.2.1, keep_cell hbq1 hHeld.2.2.2.2.1, keep_cell hbq1 hHeld.2.2.2.2.2.1, keep_cell hbq1 hHeld.2.2.2.2.2.2.1, keep_cell hbq1 hHeld.2.2.2.2.2.2.2.1, keep_cell hbq1 hHeld.2.2.2.2.2.2.2.2.1, keep_cell hbq1 hHeld.2.2.2.2.2.2.2.2.2.1, keep_cell hbq1 hHeld.2.2.2.2.2.2.2.2.2.2.1, keep_cell hbq1 hHeld.2.2.2.2.2.2.2.2.2.2.2.1, keep_cell hbq1 hHeld.2.2.2.2.2.2.2.2.2.2.2.2.1, keep_cell hbq1 hHeld.2.2.2.2.2.2.2.2.2.2.2.2.2.1, keep_cell hbq1 hHeld.2.2.2.2.2.2.2.2.2.2.2.2.2.2.1, keep_cell hbq1 hHeld.2.2.2.2.2.2.2.2.2.2.2.2.2.2.2.1, keep_cell hbq1 hHeld.2.2.2.2.2.2.2.2.2.2.2.2.2.2.2.2.1, keep_cell hbq1 hHeld.2.2.2.2.2.2.2.2.2.2.2.2.2.2.2.2.2.1, hHeld.2.2.2.2.2.2.2.2.2.2.2.2.2.2.2.2.2.2.1.mono mAtr hbq1, hHeld.2.2.2.2.2.2.2.2.2.2.2.2.2.2.2.2.2.2.2.1.mono mAtr hbq1, hHeld.2.2.2.2.2.2.2.2.2.2.2.2.2.2.2.2.2.2.2.2.1.mono mAtr hbq1, ex_trans hHeld.2.2.2.2.2.2.2.2.2.2.2.2.2.2.2.2.2.2.2.2.2 hbq1⟩) (fun hNew => ?_)
            clear hK K hHeld
            have hHeld := hNew
            clear hNew
            try simp only [Act.put, List.setIfInBounds_toArray, List.set_cons_zero, List.set_cons_succ]
            first | (refine held_take 3 rfl (by kernel_rfl) (by kernel_rfl) (by kernel_rfl) (by rfl) (fun _ _ _ h => h) (by assumption) (by intro w hSw; (try dsimp only at hSw); go_simp; first | done | with_reducible rfl) ?_) | (refine held_skip 3 rfl (by kernel_rfl) (by kernel_rfl) (by kernel_rfl) (by rfl) (fun _ _ _ h => h) (by assumption) ?_)
            simp only [Act.put, List.setIfInBounds_toArray, List.set_cons_zero, List.set_cons_succ]
            first | (refine held_take 4 rfl (by kernel_rfl) (by kernel_rfl) (by kernel_rfl) (by rfl) (fun _ _ _ h => h) (by assumption) (by intro w hSw; (try dsimp only at hSw); go_simp; first | done | with_reducible rfl) ?_) | (refine held_skip 4 rfl (by kernel_rfl) (by kernel_rfl) (by kernel_rfl) (by rfl) (fun _ _ _ h => h) (by assumption) ?_)
            simp only [Act.put, List.setIfInBounds_toArray, List.set_cons_zero, List.set_cons_succ]
            first | (refine held_take 5 rfl (by kernel_rfl) (by kernel_rfl) (by kernel_rfl) (by rfl) (fun _ _ _ h => h) (by assumption) (by intro w hSw; (try dsimp only at hSw); go_simp; first | done | with_reducible rfl) ?_) | (refine held_skip 5 rfl (by kernel_rfl) (by kernel_rfl) (by kernel_rfl) (by rfl) (fun _ _ _ h => h) (by assumption) ?_)
            simp only [Act.put, List.setIfInBounds_toArray, List.set_cons_zero, List.set_cons_succ]
            refine held_one 6 (by kernel_rfl) rfl (fun K hK => ?_)
            go_simp
            go_at_call 14
            refine (names_one _ A7 c7 _ hHeld.2.2.2.2.2.2.2.2.2.2.2.2.2.2.2.2.2.2.1).mono ?_; rintro e wq2 ⟨B1, d1, rfl, hbq2⟩
            go_wp2_with fail
            refine hK.out _ _ (by (try dsimp only); exact ⟨keep_cell hbq2 hHeld.1, keep_cell hbq2 hHeld.2.1, keep_cell hbq2 hHeld.2.2.1, keep_cell hbq2 hHeld.2.2.2.1, keep_cell hbq2 hHeld.2.2.2.2.1, keep_cell hbq2 hHeld.2.2.2.2.2.1, keep_cell hbq2 hHeld.2.2.2.2.2.2.1, keep_cell hbq2 hHeld.2.2.2.2.2.2.2.1, keep_cell hbq2 hHeld.2.2.2.2.2.2.2.2.1, keep_cell hbq2 hHeld.2.2.2.2.2.2.2.2.2.1, keep_cell hbq2 hHeld.2.2.2.2.2.2.2.2.2.2.1, keep_cell hbq2 hHeld.2.2.2.2.2.2.2.2.2.2.2.1, keep_cell hbq2 hHeld.2.2.2.2.2.2.2.2.2.2.2.2.1, keep_cell hbq2 hHeld.2.2.2.2.2.2.2.2.2.2.2.2.2.1, keep_cell hbq2 hHeld.2.2.2.2.2.2.2.2.2.2.2.2.2.2.1, keep_cell hbq2 hHeld.2.2.2.2.2.2.2.2.2.2.2.2.2.2.2.1, keep_cell hbq2 hHeld.2.2.2.2.2.2.2.2.2.2.2.2.2.2.2.2.1, keep_cell hbq2 hHeld.2.2.2.2.2.2.2.2.2.2.2.2.2.2.2.2.2.1, hHeld.2.2.2.2.2.2.2.2.2.2.2.2.2.2.2.2.2.2.1.mono mAtr hbq2, hHeld.2.2.2.2.2.2.2.2.2.2.2.2.2.2.2.2.2.2.2.1.mono mAtr hbq2, hHeld.2.2.2.2.2.2.2.2.2.2.2.2.2.2.2.2.2.2.2.2.1.mono mAtr hbq2, ex_trans hHeld.2.2.2.2.2.2.2.2.2.2.2.2.2.2.2.2.2.2.2.2.2 hbq2⟩) (fun hNew => ?_)
            clear hK K hHeld
            have hHeld := hNew
            clear hNew
            try simp only [Act.put, List.setIfInBounds_toArray, List.set_cons_zero, List.set_cons_succ]
            first | (refine held_take 7 rfl (by kernel_rfl) (by kernel_rfl) (by kernel_rfl) (by rfl) (fun _ _ _ h => h) (by assumption) (by intro w hSw; (try dsimp only at hSw); go_simp; first | done | with_reducible rfl) ?_) | (refine held_skip 7 rfl (by kernel_rfl) (by kernel_rfl) (by kernel_rfl) (by rfl) (fun _ _ _ h => h) (by assumption) ?_)
            simp only [Act.put, List.setIfInBounds_toArray, List.set_cons_zero, List.set_cons_succ]
            first | (refine held_take 8 rfl (by kernel_rfl) (by kernel_rfl) (by kernel_rfl) (by rfl) (fun _ _ _ h => h) (by assumption) (by intro w hSw; (try dsimp only at hSw); go_simp; first | done | with_reducible rfl) ?_) | (refine held_skip 8 rfl (by kernel_rfl) (by kernel_rfl) (by kernel_rfl) (by rfl) (fun _ _ _ h => h) (by assumption) ?_)
            simp only [Act.put, List.setIfInBounds_toArray, List.set_cons_zero, List.set_cons_succ]
            first | (refine held_take 9 rfl (by kernel_rfl) (by kernel_rfl) (by kernel_rfl) (by rfl) (fun _ _ _ h => h) (by assumption) (by intro w hSw; (try dsimp only at hSw); go_simp; first | done | with_reducible rfl) ?_) | (refine held_skip 9 rfl (by kernel_rfl) (by kernel_rfl) (by kernel_rfl) (by rfl) (fun _ _ _ h => h) (by assumption) ?_)
            simp only [Act.put, List.setIfInBounds_toArray, List.set_cons_zero, List.set_cons_succ]
            first | (refine held_take 10 rfl (by kernel_rfl) (by kernel_rfl) (by kernel_rfl) (by rfl) (fun _ _ _ h => h) (by assumption) (by intro w hSw; (try dsimp only at hSw); go_simp; first | done | with_reducible rfl) ?_) | (refine held_skip 10 rfl (by kernel_rfl) (by kernel_rfl) (by kernel_rfl) (by rfl) (fun _ _ _ h => h) (by assumption) ?_)
            simp only [Act.put, List.setIfInBounds_toArray, List.set_cons_zero, List.set_cons_succ]
            first | (refine held_take 11 rfl (by kernel_rfl) (by kernel_rfl) (by kernel_rfl) (by rfl) (fun _ _ _ h => h) (by assumption) (by intro w hSw; (try dsimp only at hSw); go_simp; first | done | with_reducible rfl) ?_) | (refine held_skip 11 rfl (by kernel_rfl) (by kernel_rfl) (by kernel_rfl) (by rfl) (fun _ _ _ h => h) (by assumption) ?_)
            simp only [Act.put, List.setIfInBounds_toArray, List.set_cons_zero, List.set_cons_succ]
            first | (refine held_take 12 rfl (by kernel_rfl) (by kernel_rfl) (by kernel_rfl) (by rfl) (fun _ _ _ h => h) (by assumption) (by intro w hSw; (try dsimp only at hSw); go_simp; first | done | with_reducible rfl) ?_) | (refine held_skip 12 rfl (by kernel_rfl) (by kernel_rfl) (by kernel_rfl) (by rfl) (fun _ _ _ h => h) (by assumption) ?_)
            simp only [Act.put, List.setIfInBounds_toArray, List.set_cons_zero, List.set_cons_succ]
            refine held_one 13 (by kernel_rfl) rfl (fun K hK => ?_)
            go_simp
            go_at_call 15
            refine (same_two [⟨nA, intV x⟩, ⟨nB, intV y⟩] 2 A8 A9 c8 c9 _ (by decide) hHeld.2.2.2.2.2.2.2.2.2.2.2.2.2.2.2.2.2.2.2.1 hHeld.2.2.2.2.2.2.2.2.2.2.2.2.2.2.2.2.2.2.2.2.1).mono ?_; rintro e wq3 ⟨rfl, hbq3⟩
            go_wp2_with fail
            refine hK.out _ _ (by (try dsimp only); exact ⟨keep_cell hbq3 hHeld.1, keep_cell hbq3 hHeld.2.1, keep_cell hbq3 hHeld.2.2.1, keep_cell hbq3 hHeld.2.2.2.1, keep_cell hbq3 hHeld.2.2.2.2.1, keep_cell hbq3 hHeld.2.2.2.2.2.1, keep_cell hbq3 hHeld.2.2.2.2.2.2.1, keep_cell hbq3 hHeld.2.2.2.2.2.2.2.1, keep_cell hbq3 hHeld.2.2.2.2.2.2.2.2.1, keep_cell hbq3 hHeld.2.2.2.2.2.2.2.2.2.1, keep_cell hbq3 hHeld.2.2.2.2.2.2.2.2.2.2.1, keep_cell hbq3 hHeld.2.2.2.2.2.2.2.2.2.2.2.1, keep_cell hbq3 hHeld.2.2.2.2.2.2.2.2.2.2.2.2.1, keep_cell hbq3 hHeld.2.2.2.2.2.2.2.2.2.2.2.2.2.1, keep_cell hbq3 hHeld.2.2.2.2.2.2.2.2.2.2.2.2.2.2.1, keep_cell hbq3 hHeld.2.2.2.2.2.2.2.2.2.2.2.2.2.2.2.1, keep_cell hbq3 hHeld.2.2.2.2.2.2.2.2.2.2.2.2.2.2.2.2.1, keep_cell hbq3 hHeld.2.2.2.2.2.2.2.2.2.2.2.2.2.2.2.2.2.1, hHeld.2.2.2.2.2.2.2.2.2.2.2.2.2.2.2.2.2.2.1.mono mAtr hbq3, hHeld.2.2.2.2.2.2.2.2.2.2.2.2.2.2.2.2.2.2.2.1.mono mAtr hbq3, hHeld.2.2.2.2.2.2.2.2.2.2.2.2.2.2.2.2.2.2.2.2.1.mono mAtr hbq3, ex_trans hHeld.2.2.2.2.2.2.2.2.2.2.2.2.2.2.2.2.2.2.2.2.2 hbq3⟩) (fun hNew => ?_)
            clear hK K hHeld
            have hHeld := hNew
            clear hNew
            try simp only [Act.put, List.setIfInBounds_toArray, List.set_cons_zero, List.set_cons_succ]
            first | (refine held_take 14 rfl (by kernel_rfl) (by kernel_rfl) (by kernel_rfl) (by rfl) (fun _ _ _ h => h) (by assumption) (by intro w hSw; (try dsimp only at hSw); go_simp; first | done | with_reducible rfl) ?_) | (refine held_skip 14 rfl (by kernel_rfl) (by kernel_rfl) (by kernel_rfl) (by rfl) (fun _ _ _ h => h) (by assumption) ?_)
            simp only [Act.put, List.setIfInBounds_toArray, List.set_cons_zero, List.set_cons_succ]
            first | (refine held_take 15 rfl (by kernel_rfl) (by kernel_rfl) (by kernel_rfl) (by rfl) (fun _ _ _ h => h) (by assumption) (by intro w hSw; (try dsimp only at hSw); go_simp; first | done | with_reducible rfl) ?_) | (refine held_skip 15 rfl (by kernel_rfl) (by kernel_rfl) (by kernel_rfl) (by rfl) (fun _ _ _ h => h) (by assumption) ?_)
            simp only [Act.put, List.setIfInBounds_toArray, List.set_cons_zero, List.set_cons_succ]
            first | (refine held_take 16 rfl (by kernel_rfl) (by kernel_rfl) (by kernel_rfl) (by rfl) (fun _ _ _ h => h) (by assumption) (by intro w hSw; (try dsimp only at hSw); go_simp; first | done | with_reducible rfl) ?_) | (refine held_skip 16 rfl (by kernel_rfl) (by kernel_rfl) (by kernel_rfl) (by rfl) (fun _ _ _ h => h) (by assumption) ?_)
            simp only [Act.put, List.setIfInBounds_toArray, List.set_cons_zero, List.set_cons_succ]
            first | (refine held_take 17 rfl (by kernel_rfl) (by kernel_rfl) (by kernel_rfl) (by rfl) (fun _ _ _ h => h) (by assumption) (by intro w hSw; (try dsimp only at hSw); go_simp; first | done | with_reducible rfl) ?_) | (refine held_skip 17 rfl (by kernel_rfl) (by kernel_rfl) (by kernel_rfl) (by rfl) (fun _ _ _ h => h) (by assumption) ?_)
            simp only [Act.put, List.setIfInBounds_toArray, List.set_cons_zero, List.set_cons_succ]
            refine held_one 18 (by kernel_rfl) rfl (fun K hK => ?_)
            go_simp
            go_at_call 12
            refine (set_zero x y A8 c8 _ hHeld.2.2.2.2.2.2.2.2.2.2.2.2.2.2.2.2.2.2.2.1).mono ?_; rintro e wq4 ⟨B2, d2, rfl, hF, hbq4⟩
            go_wp2_with fail
            refine hK.out _ _ (by (try dsimp only); exact ⟨keep_cell hbq4 hHeld.1, keep_cell hbq4 hHeld.2.1, keep_cell hbq4 hHeld.2.2.1, keep_cell hbq4 hHeld.2.2.2.1, keep_cell hbq4 hHeld.2.2.2.2.1, keep_cell hbq4 hHeld.2.2.2.2.2.1, keep_cell hbq4 hHeld.2.2.2.2.2.2.1, keep_cell hbq4 hHeld.2.2.2.2.2.2.2.1, keep_cell hbq4 hHeld.2.2.2.2.2.2.2.2.1, keep_cell hbq4 hHeld.2.2.2.2.2.2.2.2.2.1, keep_cell hbq4 hHeld.2.2.2.2.2.2.2.2.2.2.1, keep_cell hbq4 hHeld.2.2.2.2.2.2.2.2.2.2.2.1, keep_cell hbq4 hHeld.2.2.2.2.2.2.2.2.2.2.2.2.1, keep_cell hbq4 hHeld.2.2.2.2.2.2.2.2.2.2.2.2.2.1, keep_cell hbq4 hHeld.2.2.2.2.2.2.2.2.2.2.2.2.2.2.1, keep_cell hbq4 hHeld.2.2.2.2.2.2.2.2.2.2.2.2.2.2.2.1, keep_cell hbq4 hHeld.2.2.2.2.2.2.2.2.2.2.2.2.2.2.2.2.1, keep_cell hbq4 hHeld.2.2.2.2.2.2.2.2.2.2.2.2.2.2.2.2.2.1, hHeld.2.2.2.2.2.2.2.2.2.2.2.2.2.2.2.2.2.2.1.mono mAtr hbq4, hHeld.2.2.2.2.2.2.2.2.2.2.2.2.2.2.2.2.2.2.2.1.mono mAtr hbq4, hHeld.2.2.2.2.2.2.2.2.2.2.2.2.2.2.2.2.2.2.2.2.1.mono mAtr hbq4, ex_trans hHeld.2.2.2.2.2.2.2.2.2.2.2.2.2.2.2.2.2.2.2.2.2 hbq4⟩) (fun hNew => ?_)
            clear hK K hHeld
            have hHeld := hNew
            clear hNew
            try simp only [Act.put, List.setIfInBounds_toArray, List.set_cons_zero, List.set_cons_succ]
            have HF := Lib.hid hF
            clear hF
            refine held_one 19 (by kernel_rfl) rfl (fun K hK => ?_)
            go_simp
            go_at_call 14
            refine (names_one _ B2 d2 _ (HF.out.sl (R := RAtr) encAtr (fun _ => rfl))).mono ?_; rintro e wq5 ⟨B3, d3, rfl, hbq5⟩
            go_wp2_with fail
            refine hK.out _ _ (by (try dsimp only); exact ⟨keep_cell hbq5 hHeld.1, keep_cell hbq5 hHeld.2.1, keep_cell hbq5 hHeld.2.2.1, keep_cell hbq5 hHeld.2.2.2.1, keep_cell hbq5 hHeld.2.2.2.2.1, keep_cell hbq5 hHeld.2.2.2.2.2.1, keep_cell hbq5 hHeld.2.2.2.2.2.2.1, keep_cell hbq5 hHeld.2.2.2.2.2.2.2.1, keep_cell hbq5 hHeld.2.2.2.2.2.2.2.2.1, keep_cell hbq5 hHeld.2.2.2.2.2.2.2.2.2.1, keep_cell hbq5 hHeld.2.2.2.2.2.2.2.2.2.2.1, keep_cell hbq5 hHeld.2.2.2.2.2.2.2.2.2.2.2.1, keep_cell hbq5 hHeld.2.2.2.2.2.2.2.2.2.2.2.2.1, keep_cell hbq5 hHeld.2.2.2.2.2.2.2.2.2.2.2.2.2.1, keep_cell hbq5 hHeld.2.2.2.2.2.2.2.2.2.2.2.2.2.2.1, keep_cell hbq5 hHeld.2.2.2.2.2.2.2.2.2.2.2.2.2.2.2.1, keep_cell hbq5 hHeld.2.2.2.2.2.2.2.2.2.2.2.2.2.2.2.2.1, keep_cell hbq5 hHeld.2.2.2.2.2.2.2.2.2.2.2.2.2.2.2.2.2.1, hHeld.2.2.2.2.2.2.2.2.2.2.2.2.2.2.2.2.2.2.1.mono mAtr hbq5, hHeld.2.2.2.2.2.2.2.2.2.2.2.2.2.2.2.2.2.2.2.1.mono mAtr hbq5, hHeld.2.2.2.2.2.2.2.2.2.2.2.2.2.2.2.2.2.2.2.2.1.mono mAtr hbq5, ex_trans hHeld.2.2.2.2.2.2.2.2.2.2.2.2.2.2.2.2.2.2.2.2.2 hbq5⟩) (fun hNew => ?_)
            clear hK K hHeld
            have hHeld := hNew
            clear hNew
            try simp only [Act.put, List.setIfInBounds_toArray, List.set_cons_zero, List.set_cons_succ]
            first | (refine held_take 20 rfl (by kernel_rfl) (by kernel_rfl) (by kernel_rfl) (by rfl) (fun _ _ _ h => h) (by assumption) (by intro w hSw; (try dsimp only at hSw); go_simp; first | done | with_reducible rfl) ?_) | (refine held_skip 20 rfl (by kernel_rfl) (by kernel_rfl) (by kernel_rfl) (by rfl) (fun _ _ _ h => h) (by assumption) ?_)
            simp only [Act.put, List.setIfInBounds_toArray, List.set_cons_zero, List.set_cons_succ]
            first | (refine held_take 21 rfl (by kernel_rfl) (by kernel_rfl) (by kernel_rfl) (by rfl) (fun _ _ _ h => h) (by assumption) (by intro w hSw; (try dsimp only at hSw); go_simp; first | done | with_reducible rfl) ?_) | (refine held_skip 21 rfl (by kernel_rfl) (by kernel_rfl) (by kernel_rfl) (by rfl) (fun _ _ _ h => h) (by assumption) ?_)
            simp only [Act.put, List.setIfInBounds_toArray, List.set_cons_zero, List.set_cons_succ]
            first | (refine held_take 22 rfl (by kernel_rfl) (by kernel_rfl) (by kernel_rfl) (by rfl) (fun _ _ _ h => h) (by assumption) (by intro w hSw; (try dsimp only at hSw); go_simp; first | done | with_reducible rfl) ?_) | (refine held_skip 22 rfl (by kernel_rfl) (by kernel_rfl) (by kernel_rfl) (by rfl) (fun _ _ _ h => h) (by assumption) ?_)
            simp only [Act.put, List.setIfInBounds_toArray, List.set_cons_zero, List.set_cons_succ]
            first | (refine held_take 23 rfl (by kernel_rfl) (by kernel_rfl) (by kernel_rfl) (by rfl) (fun _ _ _ h => h) (by assumption) (by intro w hSw; (try dsimp only at hSw); go_simp; first | done | with_reducible rfl) ?_) | (refine held_skip 23 rfl (by kernel_rfl) (by kernel_rfl) (by kernel_rfl) (by rfl) (fun _ _ _ h => h) (by assumption) ?_)
            simp only [Act.put, List.setIfInBounds_toArray, List.set_cons_zero, List.set_cons_succ]
            refine wpAnyH_done (by kernel_rfl) ?_ _
            have hB := hHeld.2.2.2.2.2.2.2.2.2.2.2.2.2.2.2.2.2.2.2.2.2
            clear hHeld
            go_wp2_with fail
            go_returns
            exact ⟨rfl, hB⟩
  · go_enter Try.func3, Try.ntmps3
    go_wp2_with fail
    refine (laws_big_t A0 n0 c0 _ (by omega)).mono ?_; rintro e w0 ⟨rfl, rfl⟩
    go_wp2_with fail
    go_returns
    exact ⟨rfl, Below.refl _ _⟩
theorem core_FnSetAttrTwice {H : Type} (enc : TypeId × Value → H) (W : World) (base : Nat) (args : Array Value) (ds : List (DataW H)) (p : List MemPlace)
    (hA : DataW.TrodAll enc Try.prog W 0 (fun _ => true) true Try.f3.params.toList args.toList ds p)
    (hval : ∀ (j : Nat) t v, Try.f3.params[j]? = some t → args[j]? = some v → Value.okWide Try.prog W .any base t v) :
    Calls Try.prog 3 args W fun e W' => e = .returned (.bool true) ∧ Below W.heap.size W W' := by
  rw [Try.params3] at hA hval
  obtain ⟨u0, vs0, d0, ds0, p0, q0, hargs, rfl, rfl, h0, r0⟩ := trodAll_cons hA
  obtain ⟨rfl, rfl, rfl⟩ := trodAll_nil r0
  obtain rfl : args = #[u0] := by cases args; simp_all
  obtain ⟨ad0, ln0, cp0, rfl⟩ := okWide_slice Try.underlying22 (hval 0 22 u0 rfl rfl)
  obtain ⟨fu0, g0⟩ := h0
  obtain ⟨A0, n0, c0, l0, e0, hn0, _, hS0, hl0⟩ := opens_slice Try.underlying22 (by omega) Op_byt g0
  simp only [Value.cells, List.cons.injEq, Value.slice.injEq, and_true] at e0
  obtain ⟨rfl, rfl, rfl⟩ := e0
  exact walk_FnSetAttrTwice W ad0 ln0 cp0 l0 hS0 hn0 hl0
set_option maxRecDepth 100000 in
theorem lifted_FnSetAttrTwice (os : Os) (started : os.Started) (H : Type) (enc : TypeId × Value → H) :
    ReturnsInHanded {} Try.checked os 3 .any (Rows.fnSetAttrTwiceSpec.pre6 enc Try.prog Try.f3 Rows.fnSetAttrTwiceRow.domain false) (Rows.fnSetAttrTwiceSpec.post enc Try.prog Try.f3 false true false false) :=
  law_lifted (C := Try.checked) (tb := 4) (n := 1) own started (by kernel_rfl) Try.func3 rfl (by kernel_rfl) Try.underlying4 (by kernel_rfl)
    (fun ds h => by match ds, h with | [_], _ => rfl) laidOut' (by kernel_rfl)
    (ChangeSpec.witness6 (enc := enc) (C := Try.checked) false ⟨#[], #[.slice none 0 0], []⟩ 8 (by kernel_rfl) (by kernel_rfl) (by kernel_rfl) (by kernel_rfl))
    (fun W base args ds p hA hval => core_FnSetAttrTwice enc W base args ds p hA hval)
theorem holds_FnSetAttrTwice : Rows.FnSetAttrTwiceSaid :=
  OpenClaim.holds_of_wide 3 Try.f3 rfl rfl rfl rfl rfl rfl rfl ⟨rfl, rfl, rfl, rfl, rfl⟩ rfl rfl rfl rfl rfl (by kernel_rfl) Try.func3 (by kernel_rfl)
    (of_decide_eq_true (by kernel_rfl)) (by unfold Func.isWrapper; first | (rw [if_pos (by decide +kernel)]; kernel_rfl) | (rw [if_neg (by decide +kernel)]; exact ⟨rfl, rfl⟩))
    (fun os started H enc _ => lifted_FnSetAttrTwice os started H enc)
end Go.Proofs.Ytjobgnioehkomaa
