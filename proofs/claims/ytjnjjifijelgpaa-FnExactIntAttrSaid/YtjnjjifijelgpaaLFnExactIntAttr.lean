/-
  FnExactIntAttr RETURNS true AND LEAVES ITS ARGUMENTS AS THEY WERE, FOR EVERY INPUT THAT THE STATEMENT SPEAKS OF. No condition.
-/
import Derived.WalkKit
import Derived.ProofKit
import Derived.OpenShut
import Derived.Handy
import Derived.Lib.Hide
import Derived.Deep.QuietTactic
import Derived.BigQuiet
import Derived.Deep.RegionHeld3
import Derived.Test.YtjnjjifijelgpaaLib
import Derived.Test.YtjnjjifijelgpaaOp
import Derived.Test.YtjnjjifijelgpaaC1
import Derived.Test.YtjnjjifijelgpaaC2
import Derived.Test.YtjnjjifijelgpaaOwn
import Derived.Test.YtjnjjifijelgpaaT1
import Derived.Test.YtjnjjifijelgpaaSz
import Derived.Test.YtjnjjifijelgpaaT2
import Derived.Test.YtjnjjifijelgpaaT3
import Derived.Test.YtjnjjifijelgpaaC4
import Derived.Test.YtjnjjifijelgpaaRows
namespace Go.Proofs.Ytjnjjifijelgpaa
open Go.RowKit Go.ChangeShapes Go.WideShapes Go.ChangeAt Go.ChangeMaps
set_option linter.unusedVariables false
set_option maxRecDepth 100000

theorem walk_FnExactIntAttr (W : World) (f0 : Fil) (A0 : Option Addr) (n0 c0 : Nat) (hS0 : Sl 4 RAtr W A0 n0 f0.attrs) (hf0 : f0.ok maxLen) (s1 : ByteArray) (hs1 : s1.size ≤ maxLen) : Calls Try.prog 12 #[.agg #[.int .i64 f0.id, .int .i64 f0.owner, .bool f0.shared, .int .i64 f0.link, .slice A0 n0 c0], .string s1] W fun e w' => e = .returned (.bool true) ∧ Below W.heap.size W w' := by
  obtain rfl : f0.attrs.length = n0 := hS0.len
  unfold maxLen at hs1
  by_cases hc1 : s1.size ≤ 1048576
  · have hd1 : (s1.size : Int) ≤ 1048576 := by omega
    have nn0 := Fil.sz_nn f0
    by_cases hc0 : f0.sz ≤ 1048576
    · obtain ⟨hk0, hm0⟩ := Fil.okB (show f0.sz ≤ 1048576 by omega)
      have g0 : 0 ≤ 1048576 - f0.sz := by omega
      go_enter Try.func12, Try.ntmps12
      go_wp2_with fail
      refine (laws_szFile_ok f0 A0 f0.attrs.length c0 1048576 _ (hS0.mono mAtr (by go_grown)) hf0 (by omega) (by omega) (by omega)).mono ?_; rintro e w1 ⟨rfl, hb1⟩
      have hx1 : Below W.heap.size W w1 := ex_trans (by go_grown) hb1
      have x0_0 : w1.cell? ⟨W.heap.size, 0, none⟩ = some (.int .i64 f0.id) := keep_cell hb1 (by go_simp)
      have x0_1 : w1.cell? ⟨W.heap.size, 1, none⟩ = some (.int .i64 f0.owner) := keep_cell hb1 (by go_simp)
      have x0_2 : w1.cell? ⟨W.heap.size, 2, none⟩ = some (.bool f0.shared) := keep_cell hb1 (by go_simp)
      have x0_3 : w1.cell? ⟨W.heap.size, 3, none⟩ = some (.int .i64 f0.link) := keep_cell hb1 (by go_simp)
      have x0_4 : w1.cell? ⟨W.heap.size, 4, none⟩ = some (.slice A0 f0.attrs.length c0) := keep_cell hb1 (by go_simp)
      have z0 : W.heap.size < w1.heap.size := keep_lt hb1 (by simp)
      replace hS0 := hS0.mono mAtr hx1
      have hB : Below W.heap.size W w1 := hx1
      go_wp2_with fail
      refine (laws_toFile f0 A0 f0.attrs.length c0 _ (hS0.mono mAtr (by go_grown)) hk0).mono ?_; rintro e w2 hN2
      obtain ⟨A'2, c'2, bs2, rfl, hcc2, hW2, hF2, hb2⟩ := hN2.out
      have hO2 : Sl 4 RAtr w2 A'2 f0.attrs.length f0.attrs := hW2.sl (fun h => h.1)
      have hx2 : Below w1.heap.size w1 w2 := ex_trans (by go_grown) hb2
      replace x0_0 := keep_cell hx2 x0_0
      replace x0_1 := keep_cell hx2 x0_1
      replace x0_2 := keep_cell hx2 x0_2
      replace x0_3 := keep_cell hx2 x0_3
      replace x0_4 := keep_cell hx2 x0_4
      replace z0 := keep_lt hx2 z0
      replace hS0 := hS0.mono mAtr hx2
      replace hB := ex_trans hB hx2
      go_wp2_with fail
      refine (spec_IntAttr f0 A'2 f0.attrs.length c'2 s1 _ (hO2.mono mAtr (by go_grown)) (by omega)).mono ?_; rintro e w3 ⟨rfl, hb3⟩
      have hx3 : Below w2.heap.size w2 w3 := ex_trans (by go_grown) hb3
      replace x0_0 := keep_cell hx3 x0_0
      replace x0_1 := keep_cell hx3 x0_1
      replace x0_2 := keep_cell hx3 x0_2
      replace x0_3 := keep_cell hx3 x0_3
      replace x0_4 := keep_cell hx3 x0_4
      replace z0 := keep_lt hx3 z0
      replace hS0 := hS0.mono mAtr hx3
      replace hO2 := hO2.mono mAtr hx3
      replace hB := ex_trans hB hx3
      go_wp2_with fail
      refine (laws_toFile f0 A0 f0.attrs.length c0 _ (hS0.mono mAtr (by go_grown)) hk0).mono ?_; rintro e w4 hN4
      obtain ⟨A'4, c'4, bs4, rfl, hcc4, hW4, hF4, hb4⟩ := hN4.out
      have hO4 : Sl 4 RAtr w4 A'4 f0.attrs.length f0.attrs := hW4.sl (fun h => h.1)
      have hx4 : Below w3.heap.size w3 w4 := ex_trans (by go_grown) hb4
      replace x0_0 := keep_cell hx4 x0_0
      replace x0_1 := keep_cell hx4 x0_1
      replace x0_2 := keep_cell hx4 x0_2
      replace x0_3 := keep_cell hx4 x0_3
      replace x0_4 := keep_cell hx4 x0_4
      replace z0 := keep_lt hx4 z0
      replace hS0 := hS0.mono mAtr hx4
      replace hO2 := hO2.mono mAtr hx4
      replace hB := ex_trans hB hx4
      go_wp2_with fail
      refine (impl_IntAttr f0 A'4 f0.attrs.length c'4 s1 _ (hO4.mono mAtr (by go_grown)) (by omega)).mono ?_; rintro e w5 ⟨rfl, hb5⟩
      have hx5 : Below w4.heap.size w4 w5 := ex_trans (by go_grown) hb5
      replace x0_0 := keep_cell hx5 x0_0
      replace x0_1 := keep_cell hx5 x0_1
      replace x0_2 := keep_cell hx5 x0_2
      replace x0_3 := keep_cell hx5 x0_3
      replace x0_4 := keep_cell hx5 x0_4
      replace z0 := keep_lt hx5 z0
      have x1_0 : w5.cell? ⟨w4.heap.size, 0, none⟩ = some (.int .i64 f0.id) := keep_cell hb5 (by go_simp)
      have x1_1 : w5.cell? ⟨w4.heap.size, 1, none⟩ = some (.int .i64 f0.owner) := keep_cell hb5 (by go_simp)
      have x1_2 : w5.cell? ⟨w4.heap.size, 2, none⟩ = some (.bool f0.shared) := keep_cell hb5 (by go_simp)
      have x1_3 : w5.cell? ⟨w4.heap.size, 3, none⟩ = some (.int .i64 f0.link) := keep_cell hb5 (by go_simp)
      have x1_4 : w5.cell? ⟨w4.heap.size, 4, none⟩ = some (.slice A'4 f0.attrs.length c'4) := keep_cell hb5 (by go_simp)
      have z1 : w4.heap.size < w5.heap.size := keep_lt hb5 (by simp)
      replace hS0 := hS0.mono mAtr hx5
      replace hO2 := hO2.mono mAtr hx5
      replace hO4 := hO4.mono mAtr hx5
      replace hB := ex_trans hB hx5
      go_wp2_with fail
      go_region_held3 (fun w' => Tok w' ∧ w'.cell? ⟨W.heap.size, 0, none⟩ = some (.int .i64 f0.id) ∧ w'.cell? ⟨W.heap.size, 1, none⟩ = some (.int .i64 f0.owner) ∧ w'.cell? ⟨W.heap.size, 2, none⟩ = some (.bool f0.shared) ∧ w'.cell? ⟨W.heap.size, 3, none⟩ = some (.int .i64 f0.link) ∧ w'.cell? ⟨W.heap.size, 4, none⟩ = some (.slice A0 f0.attrs.length c0) ∧ W.heap.size < w'.heap.size ∧ w'.cell? ⟨w4.heap.size, 0, none⟩ = some (.int .i64 f0.id) ∧ w'.cell? ⟨w4.heap.size, 1, none⟩ = some (.int .i64 f0.owner) ∧ w'.cell? ⟨w4.heap.size, 2, none⟩ = some (.bool f0.shared) ∧ w'.cell? ⟨w4.heap.size, 3, none⟩ = some (.int .i64 f0.link) ∧ w'.cell? ⟨w4.heap.size, 4, none⟩ = some (.slice A'4 f0.attrs.length c'4) ∧ w4.heap.size < w'.heap.size ∧ Sl 4 RAtr w' A0 f0.attrs.length f0.attrs ∧ Sl 4 RAtr w' A'2 f0.attrs.length f0.attrs ∧ Sl 4 RAtr w' A'4 f0.attrs.length f0.attrs ∧ Below W.heap.size W w')
        (first | exact ⟨trivial, x0_0, x0_1, x0_2, x0_3, x0_4, z0, x1_0, x1_1, x1_2, x1_3, x1_4, z1, hS0.mono mAtr (Below.refl _ _).drew, hO2.mono mAtr (Below.refl _ _).drew, hO4.mono mAtr (Below.refl _ _).drew, hB.drew⟩ | exact ‹Tok _ ∧ _› | (have hh := ‹Tok _ ∧ _›; exact ⟨trivial, keep_cell ‹_› hh.2.1, keep_cell ‹_› hh.2.2.1, keep_cell ‹_› hh.2.2.2.1, keep_cell ‹_› hh.2.2.2.2.1, keep_cell ‹_› hh.2.2.2.2.2.1, keep_lt ‹_› hh.2.2.2.2.2.2.1, keep_cell ‹_› hh.2.2.2.2.2.2.2.1, keep_cell ‹_› hh.2.2.2.2.2.2.2.2.1, keep_cell ‹_› hh.2.2.2.2.2.2.2.2.2.1, keep_cell ‹_› hh.2.2.2.2.2.2.2.2.2.2.1, keep_cell ‹_› hh.2.2.2.2.2.2.2.2.2.2.2.1, keep_lt ‹_› hh.2.2.2.2.2.2.2.2.2.2.2.2.1, hh.2.2.2.2.2.2.2.2.2.2.2.2.2.1.mono mAtr ‹_›, hh.2.2.2.2.2.2.2.2.2.2.2.2.2.2.1.mono mAtr ‹_›, hh.2.2.2.2.2.2.2.2.2.2.2.2.2.2.2.1.mono mAtr ‹_›, ex_trans hh.2.2.2.2.2.2.2.2.2.2.2.2.2.2.2.2 ‹_›⟩))
        (first | (go_at_call 40; obtain ⟨_, x0_0, x0_1, x0_2, x0_3, x0_4, z0, x1_0, x1_1, x1_2, x1_3, x1_4, z1, hS0, hO2, hO4, hB⟩ := ‹Tok _ ∧ _›; (with_reducible refine (laws_toFile f0 A0 f0.attrs.length c0 _ hS0 hk0).mono ?_); rintro e w6 hN6; obtain ⟨A'6, c'6, bs6, rfl, hcc6, hW6, hF6, hb6⟩ := hN6.out; have hO6 : Sl 4 RAtr w6 A'6 f0.attrs.length f0.attrs := hW6.sl (fun h => h.1)) | (go_at_call 42; obtain ⟨_, x0_0, x0_1, x0_2, x0_3, x0_4, z0, x1_0, x1_1, x1_2, x1_3, x1_4, z1, hS0, hO2, hO4, hB⟩ := ‹Tok _ ∧ _›; (with_reducible refine (laws_eqFile_same f0 A'4 f0.attrs.length c'4 A'6 f0.attrs.length c'6 _ hO4 hO6 hk0).mono ?_); rintro e w7 ⟨rfl, hb7⟩; replace hO6 := hO6.mono mAtr hb7))
      obtain ⟨_, x0_0, x0_1, x0_2, x0_3, x0_4, z0, x1_0, x1_1, x1_2, x1_3, x1_4, z1, hS0, hO2, hO4, hB⟩ := ‹Tok _ ∧ _›
      go_wp2_with fail
      go_returns
      exact ⟨rfl, hB⟩
    · have g0 : (-1 : Int) < 0 := by omega
      go_enter Try.func12, Try.ntmps12
      go_wp2_with fail
      refine (laws_szFile_no f0 A0 f0.attrs.length c0 1048576 _ (hS0.mono mAtr (by go_grown)) hf0 (by omega) (by omega) (by omega)).mono ?_; rintro e w1 ⟨rfl, hb1⟩
      have hx1 : Below W.heap.size W w1 := ex_trans (by go_grown) hb1
      have x0_0 : w1.cell? ⟨W.heap.size, 0, none⟩ = some (.int .i64 f0.id) := keep_cell hb1 (by go_simp)
      have x0_1 : w1.cell? ⟨W.heap.size, 1, none⟩ = some (.int .i64 f0.owner) := keep_cell hb1 (by go_simp)
      have x0_2 : w1.cell? ⟨W.heap.size, 2, none⟩ = some (.bool f0.shared) := keep_cell hb1 (by go_simp)
      have x0_3 : w1.cell? ⟨W.heap.size, 3, none⟩ = some (.int .i64 f0.link) := keep_cell hb1 (by go_simp)
      have x0_4 : w1.cell? ⟨W.heap.size, 4, none⟩ = some (.slice A0 f0.attrs.length c0) := keep_cell hb1 (by go_simp)
      have z0 : W.heap.size < w1.heap.size := keep_lt hb1 (by simp)
      replace hS0 := hS0.mono mAtr hx1
      have hB : Below W.heap.size W w1 := hx1
      go_wp2_with fail
      go_returns
      exact ⟨rfl, hB⟩
  · have hd1 : (1048576 : Int) < (s1.size : Int) := by omega
    go_enter Try.func12, Try.ntmps12
    go_wp2_with fail
    go_returns
    exact ⟨rfl, by go_grown⟩
theorem core_FnExactIntAttr {H : Type} (enc : TypeId × Value → H) (W : World) (base : Nat) (args : Array Value) (ds : List (DataW H)) (p : List MemPlace)
    (hA : DataW.TrodAll enc Try.prog W 0 (fun _ => true) true Try.f12.params.toList args.toList ds p)
    (hval : ∀ (j : Nat) t v, Try.f12.params[j]? = some t → args[j]? = some v → Value.okWide Try.prog W .any base t v) :
    Calls Try.prog 12 args W fun e W' => e = .returned (.bool true) ∧ Below W.heap.size W W' := by
  rw [Try.params12] at hA hval
  obtain ⟨u0, vs0, d0, ds0, p0, q0, hargs, rfl, rfl, h0, r0⟩ := trodAll_cons hA
  obtain ⟨u1, vs1, d1, ds1, p1, q1, rfl, rfl, rfl, h1, r1⟩ := trodAll_cons r0
  obtain ⟨rfl, rfl, rfl⟩ := trodAll_nil r1
  obtain rfl : args = #[u0, u1] := by cases args; simp_all
  obtain ⟨fu0, g0⟩ := h0
  obtain ⟨x0, e0, ok0⟩ := Op_File.2 _ _ _ g0
  obtain ⟨A0, n0, c0, e0, hS0⟩ := e0
  have z0 := agg_of Try.underlying60 (hval 0 60 u0 rfl rfl)
  have y0 : u0 = .agg ⟨_⟩ := z0.trans (congrArg (fun l => Value.agg ⟨l⟩) e0)
  subst y0
  obtain ⟨s1, rfl, _, _, hs1⟩ := open_string Try.underlying9 (hval 1 9 u1 rfl rfl) h1
  exact walk_FnExactIntAttr W x0 A0 n0 c0 hS0 ok0 s1 hs1
set_option maxRecDepth 100000 in
theorem lifted_FnExactIntAttr (os : Os) (started : os.Started) (H : Type) (enc : TypeId × Value → H) :
    ReturnsInHanded {} Try.checked os 12 .any (Rows.fnExactIntAttrSpec.pre6 enc Try.prog Try.f12 Rows.fnExactIntAttrRow.domain false) (Rows.fnExactIntAttrSpec.post enc Try.prog Try.f12 false true false false) :=
  law_lifted (C := Try.checked) (tb := 4) (n := 2) own started (by kernel_rfl) Try.func12 rfl (by kernel_rfl) Try.underlying4 (by kernel_rfl)
    (fun ds h => by match ds, h with | [_, _], _ => rfl) laidOut' (by kernel_rfl)
    (ChangeSpec.witness6 (enc := enc) (C := Try.checked) false ⟨#[], #[.agg #[.int .i64 0, .int .i64 0, .bool false, .int .i64 0, .slice none 0 0], .string ByteArray.empty], []⟩ 8 (by kernel_rfl) (by kernel_rfl) (by kernel_rfl) (by kernel_rfl))
    (fun W base args ds p hA hval => core_FnExactIntAttr enc W base args ds p hA hval)
theorem holds_FnExactIntAttr : Rows.FnExactIntAttrSaid :=
  OpenClaim.holds_of_wide 12 Try.f12 rfl rfl rfl rfl rfl rfl rfl ⟨rfl, rfl, rfl, rfl, rfl⟩ rfl rfl rfl rfl rfl (by kernel_rfl) Try.func12 (by kernel_rfl)
    (of_decide_eq_true (by kernel_rfl)) (by unfold Func.isWrapper; first | (rw [if_pos (by decide +kernel)]; kernel_rfl) | (rw [if_neg (by decide +kernel)]; exact ⟨rfl, rfl⟩))
    (fun os started H enc _ => lifted_FnExactIntAttr os started H enc)
end Go.Proofs.Ytjnjjifijelgpaa
