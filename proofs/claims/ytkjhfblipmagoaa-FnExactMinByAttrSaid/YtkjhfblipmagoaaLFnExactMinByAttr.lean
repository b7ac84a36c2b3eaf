/-
  FnExactMinByAttr RETURNS true AND LEAVES ITS ARGUMENTS AS THEY WERE, FOR EVERY INPUT THAT THE STATEMENT SPEAKS OF. No condition.
-/
import Derived.WalkKit
import Derived.ProofKit
import Derived.OpenShut
import Derived.Handy
import Derived.Lib.Hide
import Derived.Deep.QuietTactic
import Derived.BigQuiet
import Derived.Deep.RegionHeld3
import Derived.Deep.DeepCutAuto
import Derived.Test.YtkjhfblipmagoaaLib
import Derived.Test.YtkjhfblipmagoaaOp
import Derived.Test.YtkjhfblipmagoaaC1
import Derived.Test.YtkjhfblipmagoaaC2
import Derived.Test.YtkjhfblipmagoaaOwn
import Derived.Test.YtkjhfblipmagoaaRow
import Derived.Test.YtkjhfblipmagoaaHld
import Derived.Test.YtkjhfblipmagoaaT1
import Derived.Test.YtkjhfblipmagoaaT6
import Derived.Test.YtkjhfblipmagoaaSz
import Derived.Test.YtkjhfblipmagoaaM0
import Derived.Test.YtkjhfblipmagoaaM1
import Derived.Test.YtkjhfblipmagoaaD1
import Derived.Test.YtkjhfblipmagoaaT2
import Derived.Test.YtkjhfblipmagoaaT3
import Derived.Test.YtkjhfblipmagoaaM2
import Derived.Test.YtkjhfblipmagoaaC4
import Derived.Test.YtkjhfblipmagoaaN0
import Derived.Test.YtkjhfblipmagoaaT4
import Derived.Test.YtkjhfblipmagoaaC3
import Derived.Test.YtkjhfblipmagoaaC5
import Derived.Test.YtkjhfblipmagoaaD3
import Derived.Test.YtkjhfblipmagoaaH1
import Derived.Test.YtkjhfblipmagoaaU0
import Derived.Test.YtkjhfblipmagoaaU4
import Derived.Test.YtkjhfblipmagoaaU5
import Derived.Test.YtkjhfblipmagoaaU6
import Derived.Test.YtkjhfblipmagoaaU7
import Derived.Test.YtkjhfblipmagoaaRows
namespace Go.Proofs.Ytkjhfblipmagoaa
open Go.RowKit Go.ChangeShapes Go.WideShapes Go.ChangeAt Go.ChangeMaps
set_option linter.unusedVariables false
set_option maxRecDepth 100000
set_option maxHeartbeats 16000000 in
theorem walk_FnExactMinByAttr (W : World) (s0 : Sto) (A0 : Option Addr) (n0 c0 : Nat) (B0 : Option Addr) (m0 d0 : Nat) (hS0 : Sl 2 RFld W A0 n0 s0.schema) (hT0 : Sl 5 RFil W B0 m0 s0.files) (hs0 : s0.ok maxLen) (s1 : ByteArray) (hs1 : s1.size ≤ maxLen) : Calls Try.prog 9 #[.agg #[.slice A0 n0 c0, .slice B0 m0 d0, .int .i64 s0.next], .string s1] W fun e w' => e = .returned (.bool true) ∧ Below W.heap.size W w' := by
  obtain rfl : s0.schema.length = n0 := hS0.len
  obtain rfl : s0.files.length = m0 := hT0.len
  unfold maxLen at hs1
  by_cases hc1 : s1.size ≤ 1048576
  · have hd1 : (s1.size : Int) ≤ 1048576 := by omega
    have nn0 := Sto.sz_nn s0
    by_cases hc0 : s0.sz ≤ 1048576
    · obtain ⟨hk0, hm0, hp0⟩ := Sto.okB (show s0.sz ≤ 1048576 by omega)
      have hcnt0 := Sto.cntB (show s0.sz ≤ 1048576 by omega)
      have g0 : 0 ≤ 1048576 - s0.sz := by omega
      have hK0 := Below.refl W.heap.size W
      go_enter Try.func9, Try.ntmps9
      go_wp2_with fail
      refine (laws_szStore_ok s0 A0 s0.schema.length c0 B0 s0.files.length d0 1048576 _ (hS0.mono mFld (ex_trans hK0 (by go_grown))) (hT0.mono mFil (ex_trans hK0 (by go_grown))) hs0 (by omega) (by omega) (by omega)).mono ?_; rintro e w1 ⟨rfl, hb1⟩
      have hx1 : Below W.heap.size W w1 := ex_trans (by go_grown) hb1
      replace hK0 := ex_trans hK0 hx1
      have x0_0 : w1.cell? ⟨W.heap.size, 0, none⟩ = some (.slice A0 s0.schema.length c0) := keep_cell hb1 (by go_simp)
      have x0_1 : w1.cell? ⟨W.heap.size, 1, none⟩ = some (.slice B0 s0.files.length d0) := keep_cell hb1 (by go_simp)
      have x0_2 : w1.cell? ⟨W.heap.size, 2, none⟩ = some (.int .i64 s0.next) := keep_cell hb1 (by go_simp)
      have z0 : W.heap.size < w1.heap.size := keep_lt hb1 (by simp <;> omega)
      go_wp2_with fail
      refine (laws_toStore s0 A0 s0.schema.length c0 B0 s0.files.length d0 _ (hS0.mono mFld (ex_trans hK0 (by go_grown))) (hT0.mono mFil (ex_trans hK0 (by go_grown))) hk0).mono ?_; rintro e w2 hN2
      obtain ⟨A'2, c'2, B'2, d'2, bs2, bt2, rfl, hcc2, hcd2, hW2, hX2, hF2, hb2⟩ := hN2.out
      have hL2 : Hid (∀ b ∈ bs2 ++ bt2, b < w2.heap.size) := Lib.hid (fun b hb => (List.mem_append.1 hb).elim (hW2.lt lFld b) (hX2.lt (lFil _) b))
      have hR2 := hW2.sl (R := RFld) (fun h => h.1)
      have hQ2 := hX2.sl (R := RFil) (fun h => h.r)
      have hx2 : Below w1.heap.size w1 w2 := ex_trans (by go_grown) hb2
      replace hK0 := ex_trans hK0 hx2
      replace x0_0 := keep_cell hx2 x0_0
      replace x0_1 := keep_cell hx2 x0_1
      replace x0_2 := keep_cell hx2 x0_2
      replace z0 := keep_lt hx2 z0
      have hK2 := Below.refl w2.heap.size w2
      go_wp2_with fail
      refine (spec_MinByAttr s0 A'2 s0.schema.length c'2 B'2 s0.files.length d'2 s1 _ (hQ2.mono mFil (ex_trans hK2 (by go_grown))) (by omega) hk0).mono ?_; rintro e w3 ⟨rfl, hb3⟩
      have hx3 : Below w2.heap.size w2 w3 := ex_trans (by go_grown) hb3
      replace hK0 := ex_trans hK0 hx3
      replace hK2 := ex_trans hK2 hx3
      replace x0_0 := keep_cell hx3 x0_0
      replace x0_1 := keep_cell hx3 x0_1
      replace x0_2 := keep_cell hx3 x0_2
      replace z0 := keep_lt hx3 z0
      go_wp2_with fail
      refine (laws_toStore s0 A0 s0.schema.length c0 B0 s0.files.length d0 _ (hS0.mono mFld (ex_trans hK0 (by go_grown))) (hT0.mono mFil (ex_trans hK0 (by go_grown))) hk0).mono ?_; rintro e w4 hN4
      obtain ⟨A'4, c'4, B'4, d'4, bs4, bt4, rfl, hcc4, hcd4, hW4, hX4, hF4, hb4⟩ := hN4.out
      have hL4 : Hid (∀ b ∈ bs4 ++ bt4, b < w4.heap.size) := Lib.hid (fun b hb => (List.mem_append.1 hb).elim (hW4.lt lFld b) (hX4.lt (lFil _) b))
      have hR4 := hW4.sl (R := RFld) (fun h => h.1)
      have hQ4 := hX4.sl (R := RFil) (fun h => h.r)
      have hx4 : Below w3.heap.size w3 w4 := ex_trans (by go_grown) hb4
      replace hK0 := ex_trans hK0 hx4
      replace hK2 := ex_trans hK2 hx4
      replace x0_0 := keep_cell hx4 x0_0
      replace x0_1 := keep_cell hx4 x0_1
      replace x0_2 := keep_cell hx4 x0_2
      replace z0 := keep_lt hx4 z0
      have hK4 := Below.refl w4.heap.size w4
      go_wp2_with fail
      refine (impl_MinByAttr s0 A'4 s0.schema.length c'4 B'4 s0.files.length d'4 s1 _ (hQ4.mono mFil (ex_trans hK4 (by go_grown))) (by omega) hk0).mono ?_; rintro e w5 ⟨rfl, hb5⟩
      have hx5 : Below w4.heap.size w4 w5 := ex_trans (by go_grown) hb5
      replace hK0 := ex_trans hK0 hx5
      replace hK2 := ex_trans hK2 hx5
      replace hK4 := ex_trans hK4 hx5
      replace x0_0 := keep_cell hx5 x0_0
      replace x0_1 := keep_cell hx5 x0_1
      replace x0_2 := keep_cell hx5 x0_2
      replace z0 := keep_lt hx5 z0
      have x1_0 : w5.cell? ⟨w4.heap.size, 0, none⟩ = some (.slice A'4 s0.schema.length c'4) := keep_cell hb5 (by go_simp)
      have x1_1 : w5.cell? ⟨w4.heap.size, 1, none⟩ = some (.slice B'4 s0.files.length d'4) := keep_cell hb5 (by go_simp)
      have x1_2 : w5.cell? ⟨w4.heap.size, 2, none⟩ = some (.int .i64 s0.next) := keep_cell hb5 (by go_simp)
      have z1 : w4.heap.size < w5.heap.size := keep_lt hb5 (by simp <;> omega)
      go_wp2_with fail
      refine wp_region_held_drew (S := (fun w' => w'.cell? ⟨W.heap.size, 0, none⟩ = some (.slice A0 s0.schema.length c0) ∧ w'.cell? ⟨W.heap.size, 1, none⟩ = some (.slice B0 s0.files.length d0) ∧ w'.cell? ⟨W.heap.size, 2, none⟩ = some (.int .i64 s0.next) ∧ W.heap.size < w'.heap.size ∧ w'.cell? ⟨w4.heap.size, 0, none⟩ = some (.slice A'4 s0.schema.length c'4) ∧ w'.cell? ⟨w4.heap.size, 1, none⟩ = some (.slice B'4 s0.files.length d'4) ∧ w'.cell? ⟨w4.heap.size, 2, none⟩ = some (.int .i64 s0.next) ∧ w4.heap.size < w'.heap.size ∧ Below W.heap.size W w' ∧ Below w2.heap.size w2 w' ∧ Below w4.heap.size w4 w')) (by kernel_rfl) (by (try dsimp only); exact ⟨x0_0, x0_1, x0_2, z0, x1_0, x1_1, x1_2, z1, (hK0).drew, (hK2).drew, (hK4).drew⟩) (fun hHeld => ?_)
      first | (refine held_take 0 rfl (by kernel_rfl) (by kernel_rfl) (by kernel_rfl) (by rfl) (fun _ _ _ h => h) (by assumption) (by intro w hSw; (try dsimp only at hSw); go_simp; first | done | with_reducible rfl) ?_) | (refine held_skip 0 rfl (by kernel_rfl) (by kernel_rfl) (by kernel_rfl) (by rfl) (fun _ _ _ h => h) (by assumption) ?_)
      simp only [Act.put, List.setIfInBounds_toArray, List.set_cons_zero, List.set_cons_succ]
      first | (refine held_take 1 rfl (by kernel_rfl) (by kernel_rfl) (by kernel_rfl) (by rfl) (fun _ _ _ h => h) (by assumption) (by intro w hSw; (try dsimp only at hSw); go_simp; first | done | with_reducible rfl) ?_) | (refine held_skip 1 rfl (by kernel_rfl) (by kernel_rfl) (by kernel_rfl) (by rfl) (fun _ _ _ h => h) (by assumption) ?_)
      simp only [Act.put, List.setIfInBounds_toArray, List.set_cons_zero, List.set_cons_succ]
      refine held_one 2 (by kernel_rfl) rfl (fun K hK => ?_)
      go_simp
      go_at_call 13
      refine (laws_toStore s0 A0 s0.schema.length c0 B0 s0.files.length d0 _ (hS0.mono mFld hHeld.2.2.2.2.2.2.2.2.1) (hT0.mono mFil hHeld.2.2.2.2.2.2.2.2.1) hk0).mono ?_; rintro e w6 hN6
      obtain ⟨A'6, c'6, B'6, d'6, bs6, bt6, rfl, hcc6, hcd6, hW6, hX6, hF6, hb6⟩ := hN6.out
      have hL6 : Hid (∀ b ∈ bs6 ++ bt6, b < w6.heap.size) := Lib.hid (fun b hb => (List.mem_append.1 hb).elim (hW6.lt lFld b) (hX6.lt (lFil _) b))
      have hR6 := hW6.sl (R := RFld) (fun h => h.1)
      have hQ6 := hX6.sl (R := RFil) (fun h => h.r)
      go_wp2_with fail
      refine hK.out _ _ (by (try dsimp only); exact ⟨keep_cell hb6 hHeld.1, keep_cell hb6 hHeld.2.1, keep_cell hb6 hHeld.2.2.1, keep_lt hb6 hHeld.2.2.2.1, keep_cell hb6 hHeld.2.2.2.2.1, keep_cell hb6 hHeld.2.2.2.2.2.1, keep_cell hb6 hHeld.2.2.2.2.2.2.1, keep_lt hb6 hHeld.2.2.2.2.2.2.2.1, ex_trans hHeld.2.2.2.2.2.2.2.2.1 hb6, ex_trans hHeld.2.2.2.2.2.2.2.2.2.1 hb6, ex_trans hHeld.2.2.2.2.2.2.2.2.2.2 hb6⟩) (fun hNew => ?_)
      clear hK K hHeld
      have hHeld := hNew
      clear hNew
      try simp only [Act.put, List.setIfInBounds_toArray, List.set_cons_zero, List.set_cons_succ]
      refine held_one 3 (by kernel_rfl) rfl (fun K hK => ?_)
      go_simp
      go_at_call 15
      refine (laws_eqStore_same s0 A'4 s0.schema.length c'4 B'4 s0.files.length d'4 A'6 s0.schema.length c'6 B'6 s0.files.length d'6 _ (hR4.mono mFld hHeld.2.2.2.2.2.2.2.2.2.2) (hQ4.mono mFil hHeld.2.2.2.2.2.2.2.2.2.2) (hR6.mono mFld (Below.refl _ _)) (hQ6.mono mFil (Below.refl _ _)) hk0).mono ?_; rintro e w7 ⟨rfl, hb7⟩
      go_wp2_with fail
      refine hK.out _ _ (by (try dsimp only); exact ⟨keep_cell hb7 hHeld.1, keep_cell hb7 hHeld.2.1, keep_cell hb7 hHeld.2.2.1, keep_lt hb7 hHeld.2.2.2.1, keep_cell hb7 hHeld.2.2.2.2.1, keep_cell hb7 hHeld.2.2.2.2.2.1, keep_cell hb7 hHeld.2.2.2.2.2.2.1, keep_lt hb7 hHeld.2.2.2.2.2.2.2.1, ex_trans hHeld.2.2.2.2.2.2.2.2.1 hb7, ex_trans hHeld.2.2.2.2.2.2.2.2.2.1 hb7, ex_trans hHeld.2.2.2.2.2.2.2.2.2.2 hb7⟩) (fun hNew => ?_)
      clear hK K hHeld
      have hHeld := hNew
      clear hNew
      try simp only [Act.put, List.setIfInBounds_toArray, List.set_cons_zero, List.set_cons_succ]
      first | (refine held_take 4 rfl (by kernel_rfl) (by kernel_rfl) (by kernel_rfl) (by rfl) (fun _ _ _ h => h) (by assumption) (by intro w hSw; (try dsimp only at hSw); go_simp; first | done | with_reducible rfl) ?_) | (refine held_skip 4 rfl (by kernel_rfl) (by kernel_rfl) (by kernel_rfl) (by rfl) (fun _ _ _ h => h) (by assumption) ?_)
      simp only [Act.put, List.setIfInBounds_toArray, List.set_cons_zero, List.set_cons_succ]
      refine wpAnyH_done (by kernel_rfl) ?_ _
      obtain ⟨x0_0', x0_1', x0_2', z0', x1_0', x1_1', x1_2', z1', hK0', hK2', hK4'⟩ := hHeld
      clear x0_0 x0_1 x0_2 z0 x1_0 x1_1 x1_2 z1 hK0 hK2 hK4
      have x0_0 := x0_0'
      clear x0_0'
      have x0_1 := x0_1'
      clear x0_1'
      have x0_2 := x0_2'
      clear x0_2'
      have z0 := z0'
      clear z0'
      have x1_0 := x1_0'
      clear x1_0'
      have x1_1 := x1_1'
      clear x1_1'
      have x1_2 := x1_2'
      clear x1_2'
      have z1 := z1'
      clear z1'
      have hK0 := hK0'
      clear hK0'
      have hK2 := hK2'
      clear hK2'
      have hK4 := hK4'
      clear hK4'
      have hK6 : Below w6.heap.size w6 w7 := (ex_trans (Below.refl _ _) hb7)
      go_wp2_with fail
      go_returns
      exact ⟨rfl, hK0⟩
    · have g0 : (-1 : Int) < 0 := by omega
      have hK0 := Below.refl W.heap.size W
      go_enter Try.func9, Try.ntmps9
      go_wp2_with fail
      refine (laws_szStore_no s0 A0 s0.schema.length c0 B0 s0.files.length d0 1048576 _ (hS0.mono mFld (ex_trans hK0 (by go_grown))) (hT0.mono mFil (ex_trans hK0 (by go_grown))) hs0 (by omega) (by omega) (by omega)).mono ?_; rintro e w1 ⟨rfl, hb1⟩
      have hx1 : Below W.heap.size W w1 := ex_trans (by go_grown) hb1
      replace hK0 := ex_trans hK0 hx1
      have x0_0 : w1.cell? ⟨W.heap.size, 0, none⟩ = some (.slice A0 s0.schema.length c0) := keep_cell hb1 (by go_simp)
      have x0_1 : w1.cell? ⟨W.heap.size, 1, none⟩ = some (.slice B0 s0.files.length d0) := keep_cell hb1 (by go_simp)
      have x0_2 : w1.cell? ⟨W.heap.size, 2, none⟩ = some (.int .i64 s0.next) := keep_cell hb1 (by go_simp)
      have z0 : W.heap.size < w1.heap.size := keep_lt hb1 (by simp <;> omega)
      go_wp2_with fail
      go_returns
      exact ⟨rfl, hK0⟩
  · have hd1 : (1048576 : Int) < (s1.size : Int) := by omega
    go_enter Try.func9, Try.ntmps9
    go_wp2_with fail
    go_returns
    exact ⟨rfl, by go_grown⟩
theorem core_FnExactMinByAttr {H : Type} (enc : TypeId × Value → H) (W : World) (base : Nat) (args : Array Value) (ds : List (DataW H)) (p : List MemPlace)
    (hA : DataW.TrodAll enc Try.prog W 0 (fun _ => true) true Try.f9.params.toList args.toList ds p)
    (hval : ∀ (j : Nat) t v, Try.f9.params[j]? = some t → args[j]? = some v → Value.okWide Try.prog W .any base t v) :
    Calls Try.prog 9 args W fun e W' => e = .returned (.bool true) ∧ Below W.heap.size W W' := by
  rw [Try.params9] at hA hval
  obtain ⟨u0, vs0, d0, ds0, p0, q0, hargs, rfl, rfl, h0, r0⟩ := trodAll_cons hA
  obtain ⟨u1, vs1, d1, ds1, p1, q1, rfl, rfl, rfl, h1, r1⟩ := trodAll_cons r0
  obtain ⟨rfl, rfl, rfl⟩ := trodAll_nil r1
  obtain rfl : args = #[u0, u1] := by cases args; simp_all
  obtain ⟨fu0, g0⟩ := h0
  obtain ⟨x0, e0, ok0⟩ := Op_Store.2 _ _ _ g0
  obtain ⟨A0, n0, c0, B0, m0, d'0, e0, hS0, hT0⟩ := e0
  have z0 := agg_of Try.underlying25 (hval 0 25 u0 rfl rfl)
  have y0 : u0 = .agg ⟨_⟩ := z0.trans (congrArg (fun l => Value.agg ⟨l⟩) e0)
  subst y0
  obtain ⟨s1, rfl, _, _, hs1⟩ := open_string Try.underlying9 (hval 1 9 u1 rfl rfl) h1
  exact walk_FnExactMinByAttr W x0 A0 n0 c0 B0 m0 d'0 hS0 hT0 ok0 s1 hs1
set_option maxRecDepth 100000 in
theorem lifted_FnExactMinByAttr (os : Os) (started : os.Started) (H : Type) (enc : TypeId × Value → H) :
    ReturnsInHanded {} Try.checked os 9 .any (Rows.fnExactMinByAttrSpec.pre6 enc Try.prog Try.f9 Rows.fnExactMinByAttrRow.domain false) (Rows.fnExactMinByAttrSpec.post enc Try.prog Try.f9 false true false false) :=
  law_lifted (C := Try.checked) (tb := 4) (n := 2) own started (by kernel_rfl) Try.func9 rfl (by kernel_rfl) Try.underlying4 (by kernel_rfl)
    (fun ds h => by match ds, h with | [_, _], _ => rfl) laidOut' (by kernel_rfl)
    (ChangeSpec.witness6 (enc := enc) (C := Try.checked) false ⟨#[], #[.agg #[.slice none 0 0, .slice none 0 0, .int .i64 0], .string ByteArray.empty], []⟩ 8 (by kernel_rfl) (by kernel_rfl) (by kernel_rfl) (by kernel_rfl))
    (fun W base args ds p hA hval => core_FnExactMinByAttr enc W base args ds p hA hval)
theorem holds_FnExactMinByAttr : Rows.FnExactMinByAttrSaid :=
  OpenClaim.holds_of_wide 9 Try.f9 rfl rfl rfl rfl rfl rfl rfl ⟨rfl, rfl, rfl, rfl, rfl⟩ rfl rfl rfl rfl rfl (by kernel_rfl) Try.func9 (by kernel_rfl)
    (of_decide_eq_true (by kernel_rfl)) (by unfold Func.isWrapper; first | (rw [if_pos (by decide +kernel)]; kernel_rfl) | (rw [if_neg (by decide +kernel)]; exact ⟨rfl, rfl⟩))
    (fun os started H enc _ => lifted_FnExactMinByAttr os started H enc)
end Go.Proofs.Ytkjhfblipmagoaa
