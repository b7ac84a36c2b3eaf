/-
  FnSchemaChecks RETURNS true AND LEAVES ITS ARGUMENTS AS THEY WERE, FOR EVERY INPUT THAT THE STATEMENT SPEAKS OF. No condition.
-/
import Derived.WalkKit
import Derived.ProofKit
import Derived.OpenShut
import Derived.Handy
import Derived.Lib.Hide
import Derived.Deep.QuietTactic
import Derived.BigQuiet
import Derived.Deep.RegionHeld3
import Derived.Deep.DeepCutAuto
import Derived.Test.YtdlocbmhadhhhaaLib
import Derived.Test.YtdlocbmhadhhhaaOp
import Derived.Test.YtdlocbmhadhhhaaC1
import Derived.Test.YtdlocbmhadhhhaaC2
import Derived.Test.YtdlocbmhadhhhaaC3
import Derived.Test.YtdlocbmhadhhhaaC4
import Derived.Test.YtdlocbmhadhhhaaC5
import Derived.Test.YtdlocbmhadhhhaaOwn
import Derived.Test.YtdlocbmhadhhhaaRow
import Derived.Test.YtdlocbmhadhhhaaN0
import Derived.Test.YtdlocbmhadhhhaaHld
import Derived.Test.YtdlocbmhadhhhaaD1
import Derived.Test.YtdlocbmhadhhhaaSz
import Derived.Test.YtdlocbmhadhhhaaY1
import Derived.Test.YtdlocbmhadhhhaaY2
import Derived.Test.YtdlocbmhadhhhaaY3
import Derived.Test.YtdlocbmhadhhhaaZ1
import Derived.Test.YtdlocbmhadhhhaaZ2
import Derived.Test.YtdlocbmhadhhhaaRows
namespace Go.Proofs.Ytdlocbmhadhhhaa
open Go.RowKit Go.ChangeShapes Go.WideShapes Go.ChangeAt Go.ChangeMaps
set_option linter.unusedVariables false
set_option maxRecDepth 100000
theorem lit_kind : fldKind [⟨⟨#[97]⟩, 2⟩] ⟨#[97]⟩ = 2 := by decide +kernel
theorem lit_sl (w : World) (e : TypeId) : Sl 2 RFld (w.alloc (.cells #[.string ⟨#[97]⟩, .int .i64 2] e)) (some ⟨w.heap.size, 0, none⟩) 1 [⟨⟨#[97]⟩, 2⟩] :=
  (FRow.lit (l := [⟨⟨#[97]⟩, 2⟩]) encFld w (by unfold maxLen; decide) (Nat.le_refl _) rfl).sl encFld (fun _ => rfl)
set_option maxHeartbeats 4000000 in
theorem walk_FnSchemaChecks (W : World) (A0 : Option Addr) (n0 c0 : Nat) (l0 : List Int) (hS0 : Sl 1 RByt W A0 n0 l0) (hn0 : n0 ≤ maxLen) (hl0 : ∀ y ∈ l0, 0 ≤ y ∧ y ≤ 255) : Calls Try.prog 4 #[.slice A0 n0 c0] W fun e w' => e = .returned (.bool true) ∧ Below W.heap.size W w' := by
  by_cases hc : n0 ≤ 1048576
  · have HD1 := Lib.hid (spec_DrawMatchesSchema A0 n0 c0 l0 W hS0 hc hl0)
    have HD2 := Lib.hid fun w (hb : Below W.heap.size W w) => spec_DrawIsValidSchema A0 n0 c0 l0 w (hS0.mono mByt hb) hc hl0
    have HD3 := Lib.hid fun w (hb : Below W.heap.size W w) => spec_DrawIsValidAttrName A0 n0 c0 l0 w (hS0.mono mByt hb) hc hl0
    clear hS0 hl0
    go_enter Try.func4, Try.ntmps4
    go_wp2_with fail
    refine (laws_big_f A0 n0 c0 _ hc).mono ?_; rintro e w0 ⟨rfl, rfl⟩
    go_wp2_with fail
    refine HD1.out.mono ?_; rintro e w1 ⟨A1, n1, c1, l1, s, ⟨vk, vi, vs⟩, rfl, hS1, hn1, hsm1, hs, hv, hb1⟩
    have hvs : vs.size ≤ 16 := hv
    have H1 := Lib.hid (And.intro hS1 hb1)
    clear hS1 hb1 HD1 hsm1 hv
    go_upto_region 4 with fail
    have hx0 : (w1.alloc (.cells #[.int .i64 vk, .int .i64 vi, .string vs] 25)).cell? ⟨w1.heap.size, 0, none⟩ = some (.int .i64 vk) := by simp
    have hx1 : (w1.alloc (.cells #[.int .i64 vk, .int .i64 vi, .string vs] 25)).cell? ⟨w1.heap.size, 1, none⟩ = some (.int .i64 vi) := by simp
    have hx2 : (w1.alloc (.cells #[.int .i64 vk, .int .i64 vi, .string vs] 25)).cell? ⟨w1.heap.size, 2, none⟩ = some (.string vs) := by simp
    have hxz : w1.heap.size < (w1.alloc (.cells #[.int .i64 vk, .int .i64 vi, .string vs] 25)).heap.size := by simp
    have H2 := Lib.hid (And.intro (H1.out.1.mono mFld (show Below w1.heap.size w1 (w1.alloc (.cells #[.int .i64 vk, .int .i64 vi, .string vs] 25)) from ex_alloc (Below.refl _ _) _)) (ex_alloc H1.out.2 (.cells #[.int .i64 vk, .int .i64 vi, .string vs] 25)))
    clear H1
    generalize w1.alloc (.cells #[.int .i64 vk, .int .i64 vi, .string vs] 25) = w2 at *
    generalize w1.heap.size = gb at *
    go_wp2_with fail
    refine (HD2.out _ H2.out.2).mono ?_; rintro e w3 ⟨A2, n2, c2, l2, rfl, hS2, hn2, hsm2, hb3⟩
    have H3 := Lib.hid (And.intro (H2.out.1.mono mFld hb3) (And.intro hS2 (ex_trans H2.out.2 hb3)))
    replace hx0 := keep_cell hb3 hx0
    replace hx1 := keep_cell hb3 hx1
    replace hx2 := keep_cell hb3 hx2
    replace hxz := keep_lt hb3 hxz
    have HSM := Lib.hid (show ∀ y ∈ l2, y.ok 1073741824 from fun y hy => Nat.le_trans (hsm2 y hy) (by omega))
    clear hS2 hsm2 hb3 H2
    go_wp2_with fail
    refine (HD3.out _ H3.out.2.2).mono ?_; rintro e w4 ⟨nm, rfl, hnm, hb4⟩
    have H4 := Lib.hid (And.intro (H3.out.1.mono mFld hb4) (And.intro (H3.out.2.1.mono mFld hb4) (ex_trans H3.out.2.2 hb4)))
    replace hx0 := keep_cell hb4 hx0
    replace hx1 := keep_cell hb4 hx1
    replace hx2 := keep_cell hb4 hx2
    replace hxz := keep_lt hb4 hxz
    clear hb4 H3
    have HM1 := Lib.hid fun w (h : Sl 2 RFld w A1 n1 l1) => impl_MatchesSchema A1 n1 c1 l1 s ⟨vk, vi, vs⟩ w h (by omega) (by show vs.size ≤ _; omega)
    have HM2 := Lib.hid fun w (h : Sl 2 RFld w A1 n1 l1) => spec_MatchesSchema A1 n1 c1 l1 s ⟨vk, vi, vs⟩ w h (by omega) (by show vs.size ≤ _; omega)
    have HIS := Lib.hid fun w (h : Sl 2 RFld w A2 n2 l2) => impl_IsValidSchema A2 n2 c2 l2 w h (by omega) HSM.out
    have HSS := Lib.hid fun w (h : Sl 2 RFld w A2 n2 l2) => spec_IsValidSchema A2 n2 c2 l2 w h (by omega) HSM.out
    have HIA := Lib.hid fun w => impl_IsValidAttrName nm w (by omega)
    have HSA := Lib.hid fun w => spec_IsValidAttrName nm w (by omega)
    have HLF := Lib.hid fun (w : World) (e : TypeId) => impl_FieldKind (some ⟨w.heap.size, 0, none⟩) 1 1 [⟨⟨#[97]⟩, 2⟩] ⟨#[97]⟩ _ (lit_sl w e) (by omega)
    rw [lit_kind] at HLF
    generalize okSchema l2 = os at *
    generalize txt nm 1 = on at *
    have hos : (os == os) = true := by cases os <;> rfl
    have hon : (on == on) = true := by cases on <;> rfl
    go_wp2_with fail
    refine (HM1.out _ H4.out.1).mono ?_; rintro e w5 ⟨rfl, hb5⟩
    have x0 := keep_cell hb5 hx0
    have x1 := keep_cell hb5 hx1
    have x2 := keep_cell hb5 hx2
    have xz := keep_lt hb5 hxz
    have hS1 := H4.out.1.mono mFld hb5
    have hS2 := H4.out.2.1.mono mFld hb5
    have hB := ex_trans H4.out.2.2 hb5
    clear hx0 hx1 hx2 hxz hb5 H4 HM1
    cases hm : matchF l1 s ⟨vk, vi, vs⟩ with
    | false =>
      rw [hm] at HM2
      clear hm
      go_upto_region 7 with fail
      refine wp_region_held_drew (S := (fun w' => w'.cell? ⟨gb, 0, none⟩ = some (.int .i64 vk) ∧ w'.cell? ⟨gb, 1, none⟩ = some (.int .i64 vi) ∧ w'.cell? ⟨gb, 2, none⟩ = some (.string vs) ∧ gb < w'.heap.size ∧ Sl 2 RFld w' A1 n1 l1 ∧ Sl 2 RFld w' A2 n2 l2 ∧ Below W.heap.size W w')) (by kernel_rfl) (by (try dsimp only); exact ⟨x0, x1, x2, xz, hS1.mono mFld (Below.refl _ _).drew, hS2.mono mFld (Below.refl _ _).drew, hB.drew⟩) (fun hHeld => ?_)
      first | (refine held_take 0 rfl (by kernel_rfl) (by kernel_rfl) (by kernel_rfl) (by rfl) (fun _ _ _ h => h) (by assumption) (by intro w hSw; (try dsimp only at hSw); go_simp; first | done | with_reducible rfl) ?_) | (refine held_skip 0 rfl (by kernel_rfl) (by kernel_rfl) (by kernel_rfl) (by rfl) (fun _ _ _ h => h) (by assumption) ?_)
      simp only [Act.put, List.setIfInBounds_toArray, List.set_cons_zero, List.set_cons_succ]
      first | (refine held_take 1 rfl (by kernel_rfl) (by kernel_rfl) (by kernel_rfl) (by rfl) (fun _ _ _ h => h) (by assumption) (by intro w hSw; (try dsimp only at hSw); go_simp; first | done | with_reducible rfl) ?_) | (refine held_skip 1 rfl (by kernel_rfl) (by kernel_rfl) (by kernel_rfl) (by rfl) (fun _ _ _ h => h) (by assumption) ?_)
      simp only [Act.put, List.setIfInBounds_toArray, List.set_cons_zero, List.set_cons_succ]
      first | (refine held_take 2 rfl (by kernel_rfl) (by kernel_rfl) (by kernel_rfl) (by rfl) (fun _ _ _ h => h) (by assumption) (by intro w hSw; (try dsimp only at hSw); go_simp; first | done | with_reducible rfl) ?_) | (refine held_skip 2 rfl (by kernel_rfl) (by kernel_rfl) (by kernel_rfl) (by rfl) (fun _ _ _ h => h) (by assumption) ?_)
      simp only [Act.put, List.setIfInBounds_toArray, List.set_cons_zero, List.set_cons_succ]
      first | (refine held_take 3 rfl (by kernel_rfl) (by kernel_rfl) (by kernel_rfl) (by rfl) (fun _ _ _ h => h) (by assumption) (by intro w hSw; (try dsimp only at hSw); go_simp; first | done | with_reducible rfl) ?_) | (refine held_skip 3 rfl (by kernel_rfl) (by kernel_rfl) (by kernel_rfl) (by rfl) (fun _ _ _ h => h) (by assumption) ?_)
      simp only [Act.put, List.setIfInBounds_toArray, List.set_cons_zero, List.set_cons_succ]
      refine held_one 4 (by kernel_rfl) rfl (fun K hK => ?_)
      go_simp
      go_at_call 24
      refine (HM2.out _ hHeld.2.2.2.2.1).mono ?_; rintro e wq1 ⟨rfl, hbq1⟩
      go_wp2_with fail
      refine hK.out _ _ (by (try dsimp only); exact ⟨keep_cell ‹_› hHeld.1, keep_cell ‹_› hHeld.2.1, keep_cell ‹_› hHeld.2.2.1, keep_lt ‹_› hHeld.2.2.2.1, hHeld.2.2.2.2.1.mono mFld ‹_›, hHeld.2.2.2.2.2.1.mono mFld ‹_›, ex_trans hHeld.2.2.2.2.2.2 ‹_›⟩) (fun hNew => ?_)
      clear hK K hHeld
      have hHeld := hNew
      clear hNew
      try simp only [Act.put, List.setIfInBounds_toArray, List.set_cons_zero, List.set_cons_succ]
      first | (refine held_take 5 rfl (by kernel_rfl) (by kernel_rfl) (by kernel_rfl) (by rfl) (fun _ _ _ h => h) (by assumption) (by intro w hSw; (try dsimp only at hSw); go_simp; first | done | with_reducible rfl) ?_) | (refine held_skip 5 rfl (by kernel_rfl) (by kernel_rfl) (by kernel_rfl) (by rfl) (fun _ _ _ h => h) (by assumption) ?_)
      simp only [Act.put, List.setIfInBounds_toArray, List.set_cons_zero, List.set_cons_succ]
      first | (refine held_take 6 rfl (by kernel_rfl) (by kernel_rfl) (by kernel_rfl) (by rfl) (fun _ _ _ h => h) (by assumption) (by intro w hSw; (try dsimp only at hSw); go_simp; first | done | with_reducible rfl) ?_) | (refine held_skip 6 rfl (by kernel_rfl) (by kernel_rfl) (by kernel_rfl) (by rfl) (fun _ _ _ h => h) (by assumption) ?_)
      simp only [Act.put, List.setIfInBounds_toArray, List.set_cons_zero, List.set_cons_succ]
      first | (refine held_take 7 rfl (by kernel_rfl) (by kernel_rfl) (by kernel_rfl) (by rfl) (fun _ _ _ h => h) (by assumption) (by intro w hSw; (try dsimp only at hSw); go_simp; first | done | with_reducible rfl) ?_) | (refine held_skip 7 rfl (by kernel_rfl) (by kernel_rfl) (by kernel_rfl) (by rfl) (fun _ _ _ h => h) (by assumption) ?_)
      simp only [Act.put, List.setIfInBounds_toArray, List.set_cons_zero, List.set_cons_succ]
      first | (refine held_take 8 rfl (by kernel_rfl) (by kernel_rfl) (by kernel_rfl) (by rfl) (fun _ _ _ h => h) (by assumption) (by intro w hSw; (try dsimp only at hSw); go_simp; first | done | with_reducible rfl) ?_) | (refine held_skip 8 rfl (by kernel_rfl) (by kernel_rfl) (by kernel_rfl) (by rfl) (fun _ _ _ h => h) (by assumption) ?_)
      simp only [Act.put, List.setIfInBounds_toArray, List.set_cons_zero, List.set_cons_succ]
      first | (refine held_take 9 rfl (by kernel_rfl) (by kernel_rfl) (by kernel_rfl) (by rfl) (fun _ _ _ h => h) (by assumption) (by intro w hSw; (try dsimp only at hSw); go_simp; first | done | with_reducible rfl) ?_) | (refine held_skip 9 rfl (by kernel_rfl) (by kernel_rfl) (by kernel_rfl) (by rfl) (fun _ _ _ h => h) (by assumption) ?_)
      simp only [Act.put, List.setIfInBounds_toArray, List.set_cons_zero, List.set_cons_succ]
      first | (refine held_take 10 rfl (by kernel_rfl) (by kernel_rfl) (by kernel_rfl) (by rfl) (fun _ _ _ h => h) (by assumption) (by intro w hSw; (try dsimp only at hSw); go_simp; first | done | with_reducible rfl) ?_) | (refine held_skip 10 rfl (by kernel_rfl) (by kernel_rfl) (by kernel_rfl) (by rfl) (fun _ _ _ h => h) (by assumption) ?_)
      simp only [Act.put, List.setIfInBounds_toArray, List.set_cons_zero, List.set_cons_succ]
      first | (refine held_take 11 rfl (by kernel_rfl) (by kernel_rfl) (by kernel_rfl) (by rfl) (fun _ _ _ h => h) (by assumption) (by intro w hSw; (try dsimp only at hSw); go_simp; first | done | with_reducible rfl) ?_) | (refine held_skip 11 rfl (by kernel_rfl) (by kernel_rfl) (by kernel_rfl) (by rfl) (fun _ _ _ h => h) (by assumption) ?_)
      simp only [Act.put, List.setIfInBounds_toArray, List.set_cons_zero, List.set_cons_succ]
      first | (refine held_take 12 rfl (by kernel_rfl) (by kernel_rfl) (by kernel_rfl) (by rfl) (fun _ _ _ h => h) (by assumption) (by intro w hSw; (try dsimp only at hSw); go_simp; first | done | with_reducible rfl) ?_) | (refine held_skip 12 rfl (by kernel_rfl) (by kernel_rfl) (by kernel_rfl) (by rfl) (fun _ _ _ h => h) (by assumption) ?_)
      simp only [Act.put, List.setIfInBounds_toArray, List.set_cons_zero, List.set_cons_succ]
      first | (refine held_take 13 rfl (by kernel_rfl) (by kernel_rfl) (by kernel_rfl) (by rfl) (fun _ _ _ h => h) (by assumption) (by intro w hSw; (try dsimp only at hSw); go_simp; first | done | with_reducible rfl) ?_) | (refine held_skip 13 rfl (by kernel_rfl) (by kernel_rfl) (by kernel_rfl) (by rfl) (fun _ _ _ h => h) (by assumption) ?_)
      simp only [Act.put, List.setIfInBounds_toArray, List.set_cons_zero, List.set_cons_succ]
      first | (refine held_take 14 rfl (by kernel_rfl) (by kernel_rfl) (by kernel_rfl) (by rfl) (fun _ _ _ h => h) (by assumption) (by intro w hSw; (try dsimp only at hSw); go_simp; first | done | with_reducible rfl) ?_) | (refine held_skip 14 rfl (by kernel_rfl) (by kernel_rfl) (by kernel_rfl) (by rfl) (fun _ _ _ h => h) (by assumption) ?_)
      simp only [Act.put, List.setIfInBounds_toArray, List.set_cons_zero, List.set_cons_succ]
      first | (refine held_take 15 rfl (by kernel_rfl) (by kernel_rfl) (by kernel_rfl) (by rfl) (fun _ _ _ h => h) (by assumption) (by intro w hSw; (try dsimp only at hSw); go_simp; first | done | with_reducible rfl) ?_) | (refine held_skip 15 rfl (by kernel_rfl) (by kernel_rfl) (by kernel_rfl) (by rfl) (fun _ _ _ h => h) (by assumption) ?_)
      simp only [Act.put, List.setIfInBounds_toArray, List.set_cons_zero, List.set_cons_succ]
      first | (refine held_take 16 rfl (by kernel_rfl) (by kernel_rfl) (by kernel_rfl) (by rfl) (fun _ _ _ h => h) (by assumption) (by intro w hSw; (try dsimp only at hSw); go_simp; first | done | with_reducible rfl) ?_) | (refine held_skip 16 rfl (by kernel_rfl) (by kernel_rfl) (by kernel_rfl) (by rfl) (fun _ _ _ h => h) (by assumption) ?_)
      simp only [Act.put, List.setIfInBounds_toArray, List.set_cons_zero, List.set_cons_succ]
      first | (refine held_take 17 rfl (by kernel_rfl) (by kernel_rfl) (by kernel_rfl) (by rfl) (fun _ _ _ h => h) (by assumption) (by intro w hSw; (try dsimp only at hSw); go_simp; first | done | with_reducible rfl) ?_) | (refine held_skip 17 rfl (by kernel_rfl) (by kernel_rfl) (by kernel_rfl) (by rfl) (fun _ _ _ h => h) (by assumption) ?_)
      simp only [Act.put, List.setIfInBounds_toArray, List.set_cons_zero, List.set_cons_succ]
      first | (refine held_take 18 rfl (by kernel_rfl) (by kernel_rfl) (by kernel_rfl) (by rfl) (fun _ _ _ h => h) (by assumption) (by intro w hSw; (try dsimp only at hSw); go_simp; first | done | with_reducible rfl) ?_) | (refine held_skip 18 rfl (by kernel_rfl) (by kernel_rfl) (by kernel_rfl) (by rfl) (fun _ _ _ h => h) (by assumption) ?_)
      simp only [Act.put, List.setIfInBounds_toArray, List.set_cons_zero, List.set_cons_succ]
      first | (refine held_take 19 rfl (by kernel_rfl) (by kernel_rfl) (by kernel_rfl) (by rfl) (fun _ _ _ h => h) (by assumption) (by intro w hSw; (try dsimp only at hSw); go_simp; first | done | with_reducible rfl) ?_) | (refine held_skip 19 rfl (by kernel_rfl) (by kernel_rfl) (by kernel_rfl) (by rfl) (fun _ _ _ h => h) (by assumption) ?_)
      simp only [Act.put, List.setIfInBounds_toArray, List.set_cons_zero, List.set_cons_succ]
      first | (refine held_take 20 rfl (by kernel_rfl) (by kernel_rfl) (by kernel_rfl) (by rfl) (fun _ _ _ h => h) (by assumption) (by intro w hSw; (try dsimp only at hSw); go_simp; first | done | with_reducible rfl) ?_) | (refine held_skip 20 rfl (by kernel_rfl) (by kernel_rfl) (by kernel_rfl) (by rfl) (fun _ _ _ h => h) (by assumption) ?_)
      simp only [Act.put, List.setIfInBounds_toArray, List.set_cons_zero, List.set_cons_succ]
      first | (refine held_take 21 rfl (by kernel_rfl) (by kernel_rfl) (by kernel_rfl) (by rfl) (fun _ _ _ h => h) (by assumption) (by intro w hSw; (try dsimp only at hSw); go_simp; first | done | with_reducible rfl) ?_) | (refine held_skip 21 rfl (by kernel_rfl) (by kernel_rfl) (by kernel_rfl) (by rfl) (fun _ _ _ h => h) (by assumption) ?_)
      simp only [Act.put, List.setIfInBounds_toArray, List.set_cons_zero, List.set_cons_succ]
      first | (refine held_take 22 rfl (by kernel_rfl) (by kernel_rfl) (by kernel_rfl) (by rfl) (fun _ _ _ h => h) (by assumption) (by intro w hSw; (try dsimp only at hSw); go_simp; first | done | with_reducible rfl) ?_) | (refine held_skip 22 rfl (by kernel_rfl) (by kernel_rfl) (by kernel_rfl) (by rfl) (fun _ _ _ h => h) (by assumption) ?_)
      simp only [Act.put, List.setIfInBounds_toArray, List.set_cons_zero, List.set_cons_succ]
      first | (refine held_take 23 rfl (by kernel_rfl) (by kernel_rfl) (by kernel_rfl) (by rfl) (fun _ _ _ h => h) (by assumption) (by intro w hSw; (try dsimp only at hSw); go_simp; first | done | with_reducible rfl) ?_) | (refine held_skip 23 rfl (by kernel_rfl) (by kernel_rfl) (by kernel_rfl) (by rfl) (fun _ _ _ h => h) (by assumption) ?_)
      simp only [Act.put, List.setIfInBounds_toArray, List.set_cons_zero, List.set_cons_succ]
      first | (refine held_take 25 rfl (by kernel_rfl) (by kernel_rfl) (by kernel_rfl) (by rfl) (fun _ _ _ h => h) (by assumption) (by intro w hSw; (try dsimp only at hSw); go_simp; first | done | with_reducible rfl) ?_) | (refine held_skip 25 rfl (by kernel_rfl) (by kernel_rfl) (by kernel_rfl) (by rfl) (fun _ _ _ h => h) (by assumption) ?_)
      simp only [Act.put, List.setIfInBounds_toArray, List.set_cons_zero, List.set_cons_succ]
      refine held_one 24 (by kernel_rfl) rfl (fun K hK => ?_)
      go_simp
      go_at_call 27
      refine (HIS.out _ hHeld.2.2.2.2.2.1).mono ?_; rintro e wq4 ⟨rfl, hbq4⟩
      go_wp2_with fail
      refine hK.out _ _ (by (try dsimp only); exact ⟨keep_cell ‹_› hHeld.1, keep_cell ‹_› hHeld.2.1, keep_cell ‹_› hHeld.2.2.1, keep_lt ‹_› hHeld.2.2.2.1, hHeld.2.2.2.2.1.mono mFld ‹_›, hHeld.2.2.2.2.2.1.mono mFld ‹_›, ex_trans hHeld.2.2.2.2.2.2 ‹_›⟩) (fun hNew => ?_)
      clear hK K hHeld
      have hHeld := hNew
      clear hNew
      try simp only [Act.put, List.setIfInBounds_toArray, List.set_cons_zero, List.set_cons_succ]
      refine held_one 26 (by kernel_rfl) rfl (fun K hK => ?_)
      go_simp
      go_at_call 28
      refine (HSS.out _ hHeld.2.2.2.2.2.1).mono ?_; rintro e wq5 ⟨rfl, hbq5⟩
      go_wp2_with fail
      refine hK.out _ _ (by (try dsimp only); exact ⟨keep_cell ‹_› hHeld.1, keep_cell ‹_› hHeld.2.1, keep_cell ‹_› hHeld.2.2.1, keep_lt ‹_› hHeld.2.2.2.1, hHeld.2.2.2.2.1.mono mFld ‹_›, hHeld.2.2.2.2.2.1.mono mFld ‹_›, ex_trans hHeld.2.2.2.2.2.2 ‹_›⟩) (fun hNew => ?_)
      clear hK K hHeld
      have hHeld := hNew
      clear hNew
      try simp only [Act.put, List.setIfInBounds_toArray, List.set_cons_zero, List.set_cons_succ]
      first | (refine held_take 27 rfl (by kernel_rfl) (by kernel_rfl) (by kernel_rfl) (by rfl) (fun _ _ _ h => h) (by assumption) (by intro w hSw; (try dsimp only at hSw); go_simp; first | done | with_reducible rfl) ?_) | (refine held_skip 27 rfl (by kernel_rfl) (by kernel_rfl) (by kernel_rfl) (by rfl) (fun _ _ _ h => h) (by assumption) ?_)
      simp only [Act.put, List.setIfInBounds_toArray, List.set_cons_zero, List.set_cons_succ]
      first | (refine held_take 28 rfl (by kernel_rfl) (by kernel_rfl) (by kernel_rfl) (by rfl) (fun _ _ _ h => h) (by assumption) (by intro w hSw; (try dsimp only at hSw); go_simp; first | done | with_reducible rfl) ?_) | (refine held_skip 28 rfl (by kernel_rfl) (by kernel_rfl) (by kernel_rfl) (by rfl) (fun _ _ _ h => h) (by assumption) ?_)
      simp only [Act.put, List.setIfInBounds_toArray, List.set_cons_zero, List.set_cons_succ]
      first | (refine held_take 29 rfl (by kernel_rfl) (by kernel_rfl) (by kernel_rfl) (by rfl) (fun _ _ _ h => h) (by assumption) (by intro w hSw; (try dsimp only at hSw); go_simp; first | done | with_reducible rfl) ?_) | (refine held_skip 29 rfl (by kernel_rfl) (by kernel_rfl) (by kernel_rfl) (by rfl) (fun _ _ _ h => h) (by assumption) ?_)
      simp only [Act.put, List.setIfInBounds_toArray, List.set_cons_zero, List.set_cons_succ]
      first | (refine held_take 30 rfl (by kernel_rfl) (by kernel_rfl) (by kernel_rfl) (by rfl) (fun _ _ _ h => h) (by assumption) (by intro w hSw; (try dsimp only at hSw); go_simp; first | done | with_reducible rfl) ?_) | (refine held_skip 30 rfl (by kernel_rfl) (by kernel_rfl) (by kernel_rfl) (by rfl) (fun _ _ _ h => h) (by assumption) ?_)
      simp only [Act.put, List.setIfInBounds_toArray, List.set_cons_zero, List.set_cons_succ]
      first | (refine held_take 32 rfl (by kernel_rfl) (by kernel_rfl) (by kernel_rfl) (by rfl) (fun _ _ _ h => h) (by assumption) (by intro w hSw; (try dsimp only at hSw); go_simp; first | done | with_reducible rfl) ?_) | (refine held_skip 32 rfl (by kernel_rfl) (by kernel_rfl) (by kernel_rfl) (by rfl) (fun _ _ _ h => h) (by assumption) ?_)
      simp only [Act.put, List.setIfInBounds_toArray, List.set_cons_zero, List.set_cons_succ]
      refine held_one 31 (by kernel_rfl) rfl (fun K hK => ?_)
      go_simp
      go_at_call 29
      refine (HIA.out _).mono ?_; rintro e wq6 ⟨rfl, rfl⟩
      go_wp2_with fail
      refine hK.out _ _ (by (try dsimp only); exact hHeld) (fun hNew => ?_)
      clear hK K hHeld
      have hHeld := hNew
      clear hNew
      try simp only [Act.put, List.setIfInBounds_toArray, List.set_cons_zero, List.set_cons_succ]
      refine held_one 33 (by kernel_rfl) rfl (fun K hK => ?_)
      go_simp
      go_at_call 30
      refine (HSA.out _).mono ?_; rintro e wq7 ⟨rfl, rfl⟩
      go_wp2_with fail
      refine hK.out _ _ (by (try dsimp only); exact hHeld) (fun hNew => ?_)
      clear hK K hHeld
      have hHeld := hNew
      clear hNew
      try simp only [Act.put, List.setIfInBounds_toArray, List.set_cons_zero, List.set_cons_succ]
      first | (refine held_take 34 rfl (by kernel_rfl) (by kernel_rfl) (by kernel_rfl) (by rfl) (fun _ _ _ h => h) (by assumption) (by intro w hSw; (try dsimp only at hSw); go_simp; first | done | with_reducible rfl) ?_) | (refine held_skip 34 rfl (by kernel_rfl) (by kernel_rfl) (by kernel_rfl) (by rfl) (fun _ _ _ h => h) (by assumption) ?_)
      simp only [Act.put, List.setIfInBounds_toArray, List.set_cons_zero, List.set_cons_succ]
      first | (refine held_take 35 rfl (by kernel_rfl) (by kernel_rfl) (by kernel_rfl) (by rfl) (fun _ _ _ h => h) (by assumption) (by intro w hSw; (try dsimp only at hSw); go_simp; first | done | with_reducible rfl) ?_) | (refine held_skip 35 rfl (by kernel_rfl) (by kernel_rfl) (by kernel_rfl) (by rfl) (fun _ _ _ h => h) (by assumption) ?_)
      simp only [Act.put, List.setIfInBounds_toArray, List.set_cons_zero, List.set_cons_succ]
      first | (refine held_take 36 rfl (by kernel_rfl) (by kernel_rfl) (by kernel_rfl) (by rfl) (fun _ _ _ h => h) (by assumption) (by intro w hSw; (try dsimp only at hSw); go_simp; first | done | with_reducible rfl) ?_) | (refine held_skip 36 rfl (by kernel_rfl) (by kernel_rfl) (by kernel_rfl) (by rfl) (fun _ _ _ h => h) (by assumption) ?_)
      simp only [Act.put, List.setIfInBounds_toArray, List.set_cons_zero, List.set_cons_succ]
      first | (refine held_take 37 rfl (by kernel_rfl) (by kernel_rfl) (by kernel_rfl) (by rfl) (fun _ _ _ h => h) (by assumption) (by intro w hSw; (try dsimp only at hSw); go_simp; first | done | with_reducible rfl) ?_) | (refine held_skip 37 rfl (by kernel_rfl) (by kernel_rfl) (by kernel_rfl) (by rfl) (fun _ _ _ h => h) (by assumption) ?_)
      simp only [Act.put, List.setIfInBounds_toArray, List.set_cons_zero, List.set_cons_succ]
      refine held_one 38 (by kernel_rfl) rfl (fun K hK => ?_)
      go_simp
      go_wp2_with fail
      refine hK.out _ _ (by (try dsimp only); exact ⟨keep_cell (ex_alloc (Below.refl _ _) _) hHeld.1, keep_cell (ex_alloc (Below.refl _ _) _) hHeld.2.1, keep_cell (ex_alloc (Below.refl _ _) _) hHeld.2.2.1, keep_lt (ex_alloc (Below.refl _ _) _) hHeld.2.2.2.1, hHeld.2.2.2.2.1.mono mFld (ex_alloc (Below.refl _ _) _), hHeld.2.2.2.2.2.1.mono mFld (ex_alloc (Below.refl _ _) _), ex_trans hHeld.2.2.2.2.2.2 (ex_alloc (Below.refl _ _) _)⟩) (fun hNew => ?_)
      clear hK K hHeld
      have hHeld := hNew
      clear hNew
      try simp only [Act.put, List.setIfInBounds_toArray, List.set_cons_zero, List.set_cons_succ]
      refine held_one 39 (by kernel_rfl) rfl (fun K hK => ?_)
      go_simp
      go_at_call 26
      refine (HLF.out _ _).mono ?_; rintro e wq8 ⟨rfl, hbq8⟩
      go_wp2_with fail
      refine hK.out _ _ (by (try dsimp only); exact ⟨keep_cell ‹_› hHeld.1, keep_cell ‹_› hHeld.2.1, keep_cell ‹_› hHeld.2.2.1, keep_lt ‹_› hHeld.2.2.2.1, hHeld.2.2.2.2.1.mono mFld ‹_›, hHeld.2.2.2.2.2.1.mono mFld ‹_›, ex_trans hHeld.2.2.2.2.2.2 ‹_›⟩) (fun hNew => ?_)
      clear hK K hHeld
      have hHeld := hNew
      clear hNew
      try simp only [Act.put, List.setIfInBounds_toArray, List.set_cons_zero, List.set_cons_succ]
      first | (refine held_take 40 rfl (by kernel_rfl) (by kernel_rfl) (by kernel_rfl) (by rfl) (fun _ _ _ h => h) (by assumption) (by intro w hSw; (try dsimp only at hSw); go_simp; first | done | with_reducible rfl) ?_) | (refine held_skip 40 rfl (by kernel_rfl) (by kernel_rfl) (by kernel_rfl) (by rfl) (fun _ _ _ h => h) (by assumption) ?_)
      simp only [Act.put, List.setIfInBounds_toArray, List.set_cons_zero, List.set_cons_succ]
      first | (refine held_take 41 rfl (by kernel_rfl) (by kernel_rfl) (by kernel_rfl) (by rfl) (fun _ _ _ h => h) (by assumption) (by intro w hSw; (try dsimp only at hSw); go_simp; first | done | with_reducible rfl) ?_) | (refine held_skip 41 rfl (by kernel_rfl) (by kernel_rfl) (by kernel_rfl) (by rfl) (fun _ _ _ h => h) (by assumption) ?_)
      simp only [Act.put, List.setIfInBounds_toArray, List.set_cons_zero, List.set_cons_succ]
      first | (refine held_take 42 rfl (by kernel_rfl) (by kernel_rfl) (by kernel_rfl) (by rfl) (fun _ _ _ h => h) (by assumption) (by intro w hSw; (try dsimp only at hSw); go_simp; first | done | with_reducible rfl) ?_) | (refine held_skip 42 rfl (by kernel_rfl) (by kernel_rfl) (by kernel_rfl) (by rfl) (fun _ _ _ h => h) (by assumption) ?_)
      simp only [Act.put, List.setIfInBounds_toArray, List.set_cons_zero, List.set_cons_succ]
      refine wpAnyH_done (by kernel_rfl) ?_ _
      have hB := hHeld.2.2.2.2.2.2
      clear hHeld
      go_wp2_with fail
      go_returns
      exact ⟨rfl, hB⟩
    | true =>
      rw [hm] at HM2
      have HVV := Lib.hid fun w => spec_IsValidValue ⟨vk, vi, vs⟩ w (by show vs.size ≤ _; omega)
      have HFK := Lib.hid fun w (h : Sl 2 RFld w A1 n1 l1) => impl_FieldKind A1 n1 c1 l1 s w h (by omega)
      unfold matchF at hm
      simp only [Bool.and_eq_true, beq_iff_eq] at hm
      rw [hm.1.1] at HVV
      rw [← hm.2] at HFK
      clear hm
      go_upto_region 7 with fail
      refine wp_region_held_drew (S := (fun w' => w'.cell? ⟨gb, 0, none⟩ = some (.int .i64 vk) ∧ w'.cell? ⟨gb, 1, none⟩ = some (.int .i64 vi) ∧ w'.cell? ⟨gb, 2, none⟩ = some (.string vs) ∧ gb < w'.heap.size ∧ Sl 2 RFld w' A1 n1 l1 ∧ Sl 2 RFld w' A2 n2 l2 ∧ Below W.heap.size W w')) (by kernel_rfl) (by (try dsimp only); exact ⟨x0, x1, x2, xz, hS1.mono mFld (Below.refl _ _).drew, hS2.mono mFld (Below.refl _ _).drew, hB.drew⟩) (fun hHeld => ?_)
      first | (refine held_take 0 rfl (by kernel_rfl) (by kernel_rfl) (by kernel_rfl) (by rfl) (fun _ _ _ h => h) (by assumption) (by intro w hSw; (try dsimp only at hSw); go_simp; first | done | with_reducible rfl) ?_) | (refine held_skip 0 rfl (by kernel_rfl) (by kernel_rfl) (by kernel_rfl) (by rfl) (fun _ _ _ h => h) (by assumption) ?_)
      simp only [Act.put, List.setIfInBounds_toArray, List.set_cons_zero, List.set_cons_succ]
      first | (refine held_take 1 rfl (by kernel_rfl) (by kernel_rfl) (by kernel_rfl) (by rfl) (fun _ _ _ h => h) (by assumption) (by intro w hSw; (try dsimp only at hSw); go_simp; first | done | with_reducible rfl) ?_) | (refine held_skip 1 rfl (by kernel_rfl) (by kernel_rfl) (by kernel_rfl) (by rfl) (fun _ _ _ h => h) (by assumption) ?_)
      simp only [Act.put, List.setIfInBounds_toArray, List.set_cons_zero, List.set_cons_succ]
      first | (refine held_take 2 rfl (by kernel_rfl) (by kernel_rfl) (by kernel_rfl) (by rfl) (fun _ _ _ h => h) (by assumption) (by intro w hSw; (try dsimp only at hSw); go_simp; first | done | with_reducible rfl) ?_) | (refine held_skip 2 rfl (by kernel_rfl) (by kernel_rfl) (by kernel_rfl) (by rfl) (fun _ _ _ h => h) (by assumption) ?_)
      simp only [Act.put, List.setIfInBounds_toArray, List.set_cons_zero, List.set_cons_succ]
      first | (refine held_take 3 rfl (by kernel_rfl) (by kernel_rfl) (by kernel_rfl) (by rfl) (fun _ _ _ h => h) (by assumption) (by intro w hSw; (try dsimp only at hSw); go_simp; first | done | with_reducible rfl) ?_) | (refine held_skip 3 rfl (by kernel_rfl) (by kernel_rfl) (by kernel_rfl) (by rfl) (fun _ _ _ h => h) (by assumption) ?_)
      simp only [Act.put, List.setIfInBounds_toArray, List.set_cons_zero, List.set_cons_succ]
      refine held_one 4 (by kernel_rfl) rfl (fun K hK => ?_)
      go_simp
      go_at_call 24
      refine (HM2.out _ hHeld.2.2.2.2.1).mono ?_; rintro e wq1 ⟨rfl, hbq1⟩
      go_wp2_with fail
      refine hK.out _ _ (by (try dsimp only); exact ⟨keep_cell ‹_› hHeld.1, keep_cell ‹_› hHeld.2.1, keep_cell ‹_› hHeld.2.2.1, keep_lt ‹_› hHeld.2.2.2.1, hHeld.2.2.2.2.1.mono mFld ‹_›, hHeld.2.2.2.2.2.1.mono mFld ‹_›, ex_trans hHeld.2.2.2.2.2.2 ‹_›⟩) (fun hNew => ?_)
      clear hK K hHeld
      have hHeld := hNew
      clear hNew
      try simp only [Act.put, List.setIfInBounds_toArray, List.set_cons_zero, List.set_cons_succ]
      first | (refine held_take 5 rfl (by kernel_rfl) (by kernel_rfl) (by kernel_rfl) (by rfl) (fun _ _ _ h => h) (by assumption) (by intro w hSw; (try dsimp only at hSw); go_simp; first | done | with_reducible rfl) ?_) | (refine held_skip 5 rfl (by kernel_rfl) (by kernel_rfl) (by kernel_rfl) (by rfl) (fun _ _ _ h => h) (by assumption) ?_)
      simp only [Act.put, List.setIfInBounds_toArray, List.set_cons_zero, List.set_cons_succ]
      first | (refine held_take 6 rfl (by kernel_rfl) (by kernel_rfl) (by kernel_rfl) (by rfl) (fun _ _ _ h => h) (by assumption) (by intro w hSw; (try dsimp only at hSw); go_simp; first | done | with_reducible rfl) ?_) | (refine held_skip 6 rfl (by kernel_rfl) (by kernel_rfl) (by kernel_rfl) (by rfl) (fun _ _ _ h => h) (by assumption) ?_)
      simp only [Act.put, List.setIfInBounds_toArray, List.set_cons_zero, List.set_cons_succ]
      first | (refine held_take 7 rfl (by kernel_rfl) (by kernel_rfl) (by kernel_rfl) (by rfl) (fun _ _ _ h => h) (by assumption) (by intro w hSw; (try dsimp only at hSw); go_simp; first | done | with_reducible rfl) ?_) | (refine held_skip 7 rfl (by kernel_rfl) (by kernel_rfl) (by kernel_rfl) (by rfl) (fun _ _ _ h => h) (by assumption) ?_)
      simp only [Act.put, List.setIfInBounds_toArray, List.set_cons_zero, List.set_cons_succ]
      first | (refine held_take 8 rfl (by kernel_rfl) (by kernel_rfl) (by kernel_rfl) (by rfl) (fun _ _ _ h => h) (by assumption) (by intro w hSw; (try dsimp only at hSw); go_simp; first | done | with_reducible rfl) ?_) | (refine held_skip 8 rfl (by kernel_rfl) (by kernel_rfl) (by kernel_rfl) (by rfl) (fun _ _ _ h => h) (by assumption) ?_)
      simp only [Act.put, List.setIfInBounds_toArray, List.set_cons_zero, List.set_cons_succ]
      first | (refine held_take 9 rfl (by kernel_rfl) (by kernel_rfl) (by kernel_rfl) (by rfl) (fun _ _ _ h => h) (by assumption) (by intro w hSw; (try dsimp only at hSw); go_simp; first | done | with_reducible rfl) ?_) | (refine held_skip 9 rfl (by kernel_rfl) (by kernel_rfl) (by kernel_rfl) (by rfl) (fun _ _ _ h => h) (by assumption) ?_)
      simp only [Act.put, List.setIfInBounds_toArray, List.set_cons_zero, List.set_cons_succ]
      first | (refine held_take 10 rfl (by kernel_rfl) (by kernel_rfl) (by kernel_rfl) (by rfl) (fun _ _ _ h => h) (by assumption) (by intro w hSw; (try dsimp only at hSw); go_simp; first | done | with_reducible rfl) ?_) | (refine held_skip 10 rfl (by kernel_rfl) (by kernel_rfl) (by kernel_rfl) (by rfl) (fun _ _ _ h => h) (by assumption) ?_)
      simp only [Act.put, List.setIfInBounds_toArray, List.set_cons_zero, List.set_cons_succ]
      refine held_one 11 (by kernel_rfl) rfl (fun K hK => ?_)
      go_simp
      go_at_call 25
      refine (HVV.out _).mono ?_; rintro e wq2 ⟨rfl, hbq2⟩
      go_wp2_with fail
      refine hK.out _ _ (by (try dsimp only); exact ⟨keep_cell ‹_› hHeld.1, keep_cell ‹_› hHeld.2.1, keep_cell ‹_› hHeld.2.2.1, keep_lt ‹_› hHeld.2.2.2.1, hHeld.2.2.2.2.1.mono mFld ‹_›, hHeld.2.2.2.2.2.1.mono mFld ‹_›, ex_trans hHeld.2.2.2.2.2.2 ‹_›⟩) (fun hNew => ?_)
      clear hK K hHeld
      have hHeld := hNew
      clear hNew
      try simp only [Act.put, List.setIfInBounds_toArray, List.set_cons_zero, List.set_cons_succ]
      first | (refine held_take 12 rfl (by kernel_rfl) (by kernel_rfl) (by kernel_rfl) (by rfl) (fun _ _ _ h => h) (by assumption) (by intro w hSw; (try dsimp only at hSw); go_simp; first | done | with_reducible rfl) ?_) | (refine held_skip 12 rfl (by kernel_rfl) (by kernel_rfl) (by kernel_rfl) (by rfl) (fun _ _ _ h => h) (by assumption) ?_)
      simp only [Act.put, List.setIfInBounds_toArray, List.set_cons_zero, List.set_cons_succ]
      first | (refine held_take 13 rfl (by kernel_rfl) (by kernel_rfl) (by kernel_rfl) (by rfl) (fun _ _ _ h => h) (by assumption) (by intro w hSw; (try dsimp only at hSw); go_simp; first | done | with_reducible rfl) ?_) | (refine held_skip 13 rfl (by kernel_rfl) (by kernel_rfl) (by kernel_rfl) (by rfl) (fun _ _ _ h => h) (by assumption) ?_)
      simp only [Act.put, List.setIfInBounds_toArray, List.set_cons_zero, List.set_cons_succ]
      first | (refine held_take 14 rfl (by kernel_rfl) (by kernel_rfl) (by kernel_rfl) (by rfl) (fun _ _ _ h => h) (by assumption) (by intro w hSw; (try dsimp only at hSw); go_simp; first | done | with_reducible rfl) ?_) | (refine held_skip 14 rfl (by kernel_rfl) (by kernel_rfl) (by kernel_rfl) (by rfl) (fun _ _ _ h => h) (by assumption) ?_)
      simp only [Act.put, List.setIfInBounds_toArray, List.set_cons_zero, List.set_cons_succ]
      first | (refine held_take 15 rfl (by kernel_rfl) (by kernel_rfl) (by kernel_rfl) (by rfl) (fun _ _ _ h => h) (by assumption) (by intro w hSw; (try dsimp only at hSw); go_simp; first | done | with_reducible rfl) ?_) | (refine held_skip 15 rfl (by kernel_rfl) (by kernel_rfl) (by kernel_rfl) (by rfl) (fun _ _ _ h => h) (by assumption) ?_)
      simp only [Act.put, List.setIfInBounds_toArray, List.set_cons_zero, List.set_cons_succ]
      first | (refine held_take 16 rfl (by kernel_rfl) (by kernel_rfl) (by kernel_rfl) (by rfl) (fun _ _ _ h => h) (by assumption) (by intro w hSw; (try dsimp only at hSw); go_simp; first | done | with_reducible rfl) ?_) | (refine held_skip 16 rfl (by kernel_rfl) (by kernel_rfl) (by kernel_rfl) (by rfl) (fun _ _ _ h => h) (by assumption) ?_)
      simp only [Act.put, List.setIfInBounds_toArray, List.set_cons_zero, List.set_cons_succ]
      refine held_one 17 (by kernel_rfl) rfl (fun K hK => ?_)
      go_simp
      go_at_call 26
      refine (HFK.out _ hHeld.2.2.2.2.1).mono ?_; rintro e wq3 ⟨rfl, hbq3⟩
      go_wp2_with fail
      refine hK.out _ _ (by (try dsimp only); exact ⟨keep_cell ‹_› hHeld.1, keep_cell ‹_› hHeld.2.1, keep_cell ‹_› hHeld.2.2.1, keep_lt ‹_› hHeld.2.2.2.1, hHeld.2.2.2.2.1.mono mFld ‹_›, hHeld.2.2.2.2.2.1.mono mFld ‹_›, ex_trans hHeld.2.2.2.2.2.2 ‹_›⟩) (fun hNew => ?_)
      clear hK K hHeld
      have hHeld := hNew
      clear hNew
      try simp only [Act.put, List.setIfInBounds_toArray, List.set_cons_zero, List.set_cons_succ]
      first | (refine held_take 18 rfl (by kernel_rfl) (by kernel_rfl) (by kernel_rfl) (by rfl) (fun _ _ _ h => h) (by assumption) (by intro w hSw; (try dsimp only at hSw); go_simp; first | done | with_reducible rfl) ?_) | (refine held_skip 18 rfl (by kernel_rfl) (by kernel_rfl) (by kernel_rfl) (by rfl) (fun _ _ _ h => h) (by assumption) ?_)
      simp only [Act.put, List.setIfInBounds_toArray, List.set_cons_zero, List.set_cons_succ]
      first | (refine held_take 19 rfl (by kernel_rfl) (by kernel_rfl) (by kernel_rfl) (by rfl) (fun _ _ _ h => h) (by assumption) (by intro w hSw; (try dsimp only at hSw); go_simp; first | done | with_reducible rfl) ?_) | (refine held_skip 19 rfl (by kernel_rfl) (by kernel_rfl) (by kernel_rfl) (by rfl) (fun _ _ _ h => h) (by assumption) ?_)
      simp only [Act.put, List.setIfInBounds_toArray, List.set_cons_zero, List.set_cons_succ]
      first | (refine held_take 20 rfl (by kernel_rfl) (by kernel_rfl) (by kernel_rfl) (by rfl) (fun _ _ _ h => h) (by assumption) (by intro w hSw; (try dsimp only at hSw); go_simp; first | done | with_reducible rfl) ?_) | (refine held_skip 20 rfl (by kernel_rfl) (by kernel_rfl) (by kernel_rfl) (by rfl) (fun _ _ _ h => h) (by assumption) ?_)
      simp only [Act.put, List.setIfInBounds_toArray, List.set_cons_zero, List.set_cons_succ]
      first | (refine held_take 21 rfl (by kernel_rfl) (by kernel_rfl) (by kernel_rfl) (by rfl) (fun _ _ _ h => h) (by assumption) (by intro w hSw; (try dsimp only at hSw); go_simp; first | done | with_reducible rfl) ?_) | (refine held_skip 21 rfl (by kernel_rfl) (by kernel_rfl) (by kernel_rfl) (by rfl) (fun _ _ _ h => h) (by assumption) ?_)
      simp only [Act.put, List.setIfInBounds_toArray, List.set_cons_zero, List.set_cons_succ]
      first | (refine held_take 22 rfl (by kernel_rfl) (by kernel_rfl) (by kernel_rfl) (by rfl) (fun _ _ _ h => h) (by assumption) (by intro w hSw; (try dsimp only at hSw); go_simp; first | done | with_reducible rfl) ?_) | (refine held_skip 22 rfl (by kernel_rfl) (by kernel_rfl) (by kernel_rfl) (by rfl) (fun _ _ _ h => h) (by assumption) ?_)
      simp only [Act.put, List.setIfInBounds_toArray, List.set_cons_zero, List.set_cons_succ]
      first | (refine held_take 23 rfl (by kernel_rfl) (by kernel_rfl) (by kernel_rfl) (by rfl) (fun _ _ _ h => h) (by assumption) (by intro w hSw; (try dsimp only at hSw); go_simp; first | done | with_reducible rfl) ?_) | (refine held_skip 23 rfl (by kernel_rfl) (by kernel_rfl) (by kernel_rfl) (by rfl) (fun _ _ _ h => h) (by assumption) ?_)
      simp only [Act.put, List.setIfInBounds_toArray, List.set_cons_zero, List.set_cons_succ]
      first | (refine held_take 25 rfl (by kernel_rfl) (by kernel_rfl) (by kernel_rfl) (by rfl) (fun _ _ _ h => h) (by assumption) (by intro w hSw; (try dsimp only at hSw); go_simp; first | done | with_reducible rfl) ?_) | (refine held_skip 25 rfl (by kernel_rfl) (by kernel_rfl) (by kernel_rfl) (by rfl) (fun _ _ _ h => h) (by assumption) ?_)
      simp only [Act.put, List.setIfInBounds_toArray, List.set_cons_zero, List.set_cons_succ]
      refine held_one 24 (by kernel_rfl) rfl (fun K hK => ?_)
      go_simp
      go_at_call 27
      refine (HIS.out _ hHeld.2.2.2.2.2.1).mono ?_; rintro e wq4 ⟨rfl, hbq4⟩
      go_wp2_with fail
      refine hK.out _ _ (by (try dsimp only); exact ⟨keep_cell ‹_› hHeld.1, keep_cell ‹_› hHeld.2.1, keep_cell ‹_› hHeld.2.2.1, keep_lt ‹_› hHeld.2.2.2.1, hHeld.2.2.2.2.1.mono mFld ‹_›, hHeld.2.2.2.2.2.1.mono mFld ‹_›, ex_trans hHeld.2.2.2.2.2.2 ‹_›⟩) (fun hNew => ?_)
      clear hK K hHeld
      have hHeld := hNew
      clear hNew
      try simp only [Act.put, List.setIfInBounds_toArray, List.set_cons_zero, List.set_cons_succ]
      refine held_one 26 (by kernel_rfl) rfl (fun K hK => ?_)
      go_simp
      go_at_call 28
      refine (HSS.out _ hHeld.2.2.2.2.2.1).mono ?_; rintro e wq5 ⟨rfl, hbq5⟩
      go_wp2_with fail
      refine hK.out _ _ (by (try dsimp only); exact ⟨keep_cell ‹_› hHeld.1, keep_cell ‹_› hHeld.2.1, keep_cell ‹_› hHeld.2.2.1, keep_lt ‹_› hHeld.2.2.2.1, hHeld.2.2.2.2.1.mono mFld ‹_›, hHeld.2.2.2.2.2.1.mono mFld ‹_›, ex_trans hHeld.2.2.2.2.2.2 ‹_›⟩) (fun hNew => ?_)
      clear hK K hHeld
      have hHeld := hNew
      clear hNew
      try simp only [Act.put, List.setIfInBounds_toArray, List.set_cons_zero, List.set_cons_succ]
      first | (refine held_take 27 rfl (by kernel_rfl) (by kernel_rfl) (by kernel_rfl) (by rfl) (fun _ _ _ h => h) (by assumption) (by intro w hSw; (try dsimp only at hSw); go_simp; first | done | with_reducible rfl) ?_) | (refine held_skip 27 rfl (by kernel_rfl) (by kernel_rfl) (by kernel_rfl) (by rfl) (fun _ _ _ h => h) (by assumption) ?_)
      simp only [Act.put, List.setIfInBounds_toArray, List.set_cons_zero, List.set_cons_succ]
      first | (refine held_take 28 rfl (by kernel_rfl) (by kernel_rfl) (by kernel_rfl) (by rfl) (fun _ _ _ h => h) (by assumption) (by intro w hSw; (try dsimp only at hSw); go_simp; first | done | with_reducible rfl) ?_) | (refine held_skip 28 rfl (by kernel_rfl) (by kernel_rfl) (by kernel_rfl) (by rfl) (fun _ _ _ h => h) (by assumption) ?_)
      simp only [Act.put, List.setIfInBounds_toArray, List.set_cons_zero, List.set_cons_succ]
      first | (refine held_take 29 rfl (by kernel_rfl) (by kernel_rfl) (by kernel_rfl) (by rfl) (fun _ _ _ h => h) (by assumption) (by intro w hSw; (try dsimp only at hSw); go_simp; first | done | with_reducible rfl) ?_) | (refine held_skip 29 rfl (by kernel_rfl) (by kernel_rfl) (by kernel_rfl) (by rfl) (fun _ _ _ h => h) (by assumption) ?_)
      simp only [Act.put, List.setIfInBounds_toArray, List.set_cons_zero, List.set_cons_succ]
      first | (refine held_take 30 rfl (by kernel_rfl) (by kernel_rfl) (by kernel_rfl) (by rfl) (fun _ _ _ h => h) (by assumption) (by intro w hSw; (try dsimp only at hSw); go_simp; first | done | with_reducible rfl) ?_) | (refine held_skip 30 rfl (by kernel_rfl) (by kernel_rfl) (by kernel_rfl) (by rfl) (fun _ _ _ h => h) (by assumption) ?_)
      simp only [Act.put, List.setIfInBounds_toArray, List.set_cons_zero, List.set_cons_succ]
      first | (refine held_take 32 rfl (by kernel_rfl) (by kernel_rfl) (by kernel_rfl) (by rfl) (fun _ _ _ h => h) (by assumption) (by intro w hSw; (try dsimp only at hSw); go_simp; first | done | with_reducible rfl) ?_) | (refine held_skip 32 rfl (by kernel_rfl) (by kernel_rfl) (by kernel_rfl) (by rfl) (fun _ _ _ h => h) (by assumption) ?_)
      simp only [Act.put, List.setIfInBounds_toArray, List.set_cons_zero, List.set_cons_succ]
      refine held_one 31 (by kernel_rfl) rfl (fun K hK => ?_)
      go_simp
      go_at_call 29
      refine (HIA.out _).mono ?_; rintro e wq6 ⟨rfl, rfl⟩
      go_wp2_with fail
      refine hK.out _ _ (by (try dsimp only); exact hHeld) (fun hNew => ?_)
      clear hK K hHeld
      have hHeld := hNew
      clear hNew
      try simp only [Act.put, List.setIfInBounds_toArray, List.set_cons_zero, List.set_cons_succ]
      refine held_one 33 (by kernel_rfl) rfl (fun K hK => ?_)
      go_simp
      go_at_call 30
      refine (HSA.out _).mono ?_; rintro e wq7 ⟨rfl, rfl⟩
      go_wp2_with fail
      refine hK.out _ _ (by (try dsimp only); exact hHeld) (fun hNew => ?_)
      clear hK K hHeld
      have hHeld := hNew
      clear hNew
      try simp only [Act.put, List.setIfInBounds_toArray, List.set_cons_zero, List.set_cons_succ]
      first | (refine held_take 34 rfl (by kernel_rfl) (by kernel_rfl) (by kernel_rfl) (by rfl) (fun _ _ _ h => h) (by assumption) (by intro w hSw; (try dsimp only at hSw); go_simp; first | done | with_reducible rfl) ?_) | (refine held_skip 34 rfl (by kernel_rfl) (by kernel_rfl) (by kernel_rfl) (by rfl) (fun _ _ _ h => h) (by assumption) ?_)
      simp only [Act.put, List.setIfInBounds_toArray, List.set_cons_zero, List.set_cons_succ]
      first | (refine held_take 35 rfl (by kernel_rfl) (by kernel_rfl) (by kernel_rfl) (by rfl) (fun _ _ _ h => h) (by assumption) (by intro w hSw; (try dsimp only at hSw); go_simp; first | done | with_reducible rfl) ?_) | (refine held_skip 35 rfl (by kernel_rfl) (by kernel_rfl) (by kernel_rfl) (by rfl) (fun _ _ _ h => h) (by assumption) ?_)
      simp only [Act.put, List.setIfInBounds_toArray, List.set_cons_zero, List.set_cons_succ]
      first | (refine held_take 36 rfl (by kernel_rfl) (by kernel_rfl) (by kernel_rfl) (by rfl) (fun _ _ _ h => h) (by assumption) (by intro w hSw; (try dsimp only at hSw); go_simp; first | done | with_reducible rfl) ?_) | (refine held_skip 36 rfl (by kernel_rfl) (by kernel_rfl) (by kernel_rfl) (by rfl) (fun _ _ _ h => h) (by assumption) ?_)
      simp only [Act.put, List.setIfInBounds_toArray, List.set_cons_zero, List.set_cons_succ]
      first | (refine held_take 37 rfl (by kernel_rfl) (by kernel_rfl) (by kernel_rfl) (by rfl) (fun _ _ _ h => h) (by assumption) (by intro w hSw; (try dsimp only at hSw); go_simp; first | done | with_reducible rfl) ?_) | (refine held_skip 37 rfl (by kernel_rfl) (by kernel_rfl) (by kernel_rfl) (by rfl) (fun _ _ _ h => h) (by assumption) ?_)
      simp only [Act.put, List.setIfInBounds_toArray, List.set_cons_zero, List.set_cons_succ]
      refine held_one 38 (by kernel_rfl) rfl (fun K hK => ?_)
      go_simp
      go_wp2_with fail
      refine hK.out _ _ (by (try dsimp only); exact ⟨keep_cell (ex_alloc (Below.refl _ _) _) hHeld.1, keep_cell (ex_alloc (Below.refl _ _) _) hHeld.2.1, keep_cell (ex_alloc (Below.refl _ _) _) hHeld.2.2.1, keep_lt (ex_alloc (Below.refl _ _) _) hHeld.2.2.2.1, hHeld.2.2.2.2.1.mono mFld (ex_alloc (Below.refl _ _) _), hHeld.2.2.2.2.2.1.mono mFld (ex_alloc (Below.refl _ _) _), ex_trans hHeld.2.2.2.2.2.2 (ex_alloc (Below.refl _ _) _)⟩) (fun hNew => ?_)
      clear hK K hHeld
      have hHeld := hNew
      clear hNew
      try simp only [Act.put, List.setIfInBounds_toArray, List.set_cons_zero, List.set_cons_succ]
      refine held_one 39 (by kernel_rfl) rfl (fun K hK => ?_)
      go_simp
      go_at_call 26
      refine (HLF.out _ _).mono ?_; rintro e wq8 ⟨rfl, hbq8⟩
      go_wp2_with fail
      refine hK.out _ _ (by (try dsimp only); exact ⟨keep_cell ‹_› hHeld.1, keep_cell ‹_› hHeld.2.1, keep_cell ‹_› hHeld.2.2.1, keep_lt ‹_› hHeld.2.2.2.1, hHeld.2.2.2.2.1.mono mFld ‹_›, hHeld.2.2.2.2.2.1.mono mFld ‹_›, ex_trans hHeld.2.2.2.2.2.2 ‹_›⟩) (fun hNew => ?_)
      clear hK K hHeld
      have hHeld := hNew
      clear hNew
      try simp only [Act.put, List.setIfInBounds_toArray, List.set_cons_zero, List.set_cons_succ]
      first | (refine held_take 40 rfl (by kernel_rfl) (by kernel_rfl) (by kernel_rfl) (by rfl) (fun _ _ _ h => h) (by assumption) (by intro w hSw; (try dsimp only at hSw); go_simp; first | done | with_reducible rfl) ?_) | (refine held_skip 40 rfl (by kernel_rfl) (by kernel_rfl) (by kernel_rfl) (by rfl) (fun _ _ _ h => h) (by assumption) ?_)
      simp only [Act.put, List.setIfInBounds_toArray, List.set_cons_zero, List.set_cons_succ]
      first | (refine held_take 41 rfl (by kernel_rfl) (by kernel_rfl) (by kernel_rfl) (by rfl) (fun _ _ _ h => h) (by assumption) (by intro w hSw; (try dsimp only at hSw); go_simp; first | done | with_reducible rfl) ?_) | (refine held_skip 41 rfl (by kernel_rfl) (by kernel_rfl) (by kernel_rfl) (by rfl) (fun _ _ _ h => h) (by assumption) ?_)
      simp only [Act.put, List.setIfInBounds_toArray, List.set_cons_zero, List.set_cons_succ]
      first | (refine held_take 42 rfl (by kernel_rfl) (by kernel_rfl) (by kernel_rfl) (by rfl) (fun _ _ _ h => h) (by assumption) (by intro w hSw; (try dsimp only at hSw); go_simp; first | done | with_reducible rfl) ?_) | (refine held_skip 42 rfl (by kernel_rfl) (by kernel_rfl) (by kernel_rfl) (by rfl) (fun _ _ _ h => h) (by assumption) ?_)
      simp only [Act.put, List.setIfInBounds_toArray, List.set_cons_zero, List.set_cons_succ]
      refine wpAnyH_done (by kernel_rfl) ?_ _
      have hB := hHeld.2.2.2.2.2.2
      clear hHeld
      go_wp2_with fail
      go_returns
      exact ⟨rfl, hB⟩
  · go_enter Try.func4, Try.ntmps4
    go_wp2_with fail
    refine (laws_big_t A0 n0 c0 _ (by omega)).mono ?_; rintro e w0 ⟨rfl, rfl⟩
    go_wp2_with fail
    go_returns
    exact ⟨rfl, Below.refl _ _⟩
theorem core_FnSchemaChecks {H : Type} (enc : TypeId × Value → H) (W : World) (base : Nat) (args : Array Value) (ds : List (DataW H)) (p : List MemPlace)
    (hA : DataW.TrodAll enc Try.prog W 0 (fun _ => true) true Try.f4.params.toList args.toList ds p)
    (hval : ∀ (j : Nat) t v, Try.f4.params[j]? = some t → args[j]? = some v → Value.okWide Try.prog W .any base t v) :
    Calls Try.prog 4 args W fun e W' => e = .returned (.bool true) ∧ Below W.heap.size W W' := by
  rw [Try.params4] at hA hval
  obtain ⟨u0, vs0, d0, ds0, p0, q0, hargs, rfl, rfl, h0, r0⟩ := trodAll_cons hA
  obtain ⟨rfl, rfl, rfl⟩ := trodAll_nil r0
  obtain rfl : args = #[u0] := by cases args; simp_all
  obtain ⟨ad0, ln0, cp0, rfl⟩ := okWide_slice Try.underlying22 (hval 0 22 u0 rfl rfl)
  obtain ⟨fu0, g0⟩ := h0
  obtain ⟨A0, n0, c0, l0, e0, hn0, _, hS0, hl0⟩ := opens_slice Try.underlying22 (by omega) Op_byt g0
  simp only [Value.cells, List.cons.injEq, Value.slice.injEq, and_true] at e0
  obtain ⟨rfl, rfl, rfl⟩ := e0
  exact walk_FnSchemaChecks W ad0 ln0 cp0 l0 hS0 hn0 hl0
set_option maxRecDepth 100000 in
theorem lifted_FnSchemaChecks (os : Os) (started : os.Started) (H : Type) (enc : TypeId × Value → H) :
    ReturnsInHanded {} Try.checked os 4 .any (Rows.fnSchemaChecksSpec.pre6 enc Try.prog Try.f4 Rows.fnSchemaChecksRow.domain false) (Rows.fnSchemaChecksSpec.post enc Try.prog Try.f4 false true false false) :=
  law_lifted (C := Try.checked) (tb := 4) (n := 1) own started (by kernel_rfl) Try.func4 rfl (by kernel_rfl) Try.underlying4 (by kernel_rfl)
    (fun ds h => by match ds, h with | [_], _ => rfl) laidOut' (by kernel_rfl)
    (ChangeSpec.witness6 (enc := enc) (C := Try.checked) false ⟨#[], #[.slice none 0 0], []⟩ 8 (by kernel_rfl) (by kernel_rfl) (by kernel_rfl) (by kernel_rfl))
    (fun W base args ds p hA hval => core_FnSchemaChecks enc W base args ds p hA hval)
theorem holds_FnSchemaChecks : Rows.FnSchemaChecksSaid :=
  OpenClaim.holds_of_wide 4 Try.f4 rfl rfl rfl rfl rfl rfl rfl ⟨rfl, rfl, rfl, rfl, rfl⟩ rfl rfl rfl rfl rfl (by kernel_rfl) Try.func4 (by kernel_rfl)
    (of_decide_eq_true (by kernel_rfl)) (by unfold Func.isWrapper; first | (rw [if_pos (by decide +kernel)]; kernel_rfl) | (rw [if_neg (by decide +kernel)]; exact ⟨rfl, rfl⟩))
    (fun os started H enc _ => lifted_FnSchemaChecks os started H enc)
end Go.Proofs.Ytdlocbmhadhhhaa
