/-
  FnExactEqualFiles RETURNS true AND LEAVES ITS ARGUMENTS AS THEY WERE, FOR EVERY INPUT THAT THE STATEMENT SPEAKS OF. No condition.
-/
import Derived.WalkKit
import Derived.ProofKit
import Derived.OpenShut
import Derived.Handy
import Derived.Lib.Hide
import Derived.Deep.QuietTactic
import Derived.BigQuiet
import Derived.Deep.RegionHeld3
import Derived.Test.YtjnjjifijelgpaaLib
import Derived.Test.YtjnjjifijelgpaaOp
import Derived.Test.YtjnjjifijelgpaaC1
import Derived.Test.YtjnjjifijelgpaaC2
import Derived.Test.YtjnjjifijelgpaaOwn
import Derived.Test.YtjnjjifijelgpaaT1
import Derived.Test.YtjnjjifijelgpaaSz
import Derived.Test.YtjnjjifijelgpaaT2
import Derived.Test.YtjnjjifijelgpaaT3
import Derived.Test.YtjnjjifijelgpaaC4
import Derived.Test.YtjnjjifijelgpaaC5
import Derived.Test.YtjnjjifijelgpaaC6
import Derived.Test.YtjnjjifijelgpaaRows
namespace Go.Proofs.Ytjnjjifijelgpaa
open Go.RowKit Go.ChangeShapes Go.WideShapes Go.ChangeAt Go.ChangeMaps
set_option linter.unusedVariables false
set_option maxRecDepth 100000

theorem walk_FnExactEqualFiles (W : World) (f0 : Fil) (A0 : Option Addr) (n0 c0 : Nat) (hS0 : Sl 4 RAtr W A0 n0 f0.attrs) (hf0 : f0.ok maxLen) (f1 : Fil) (A1 : Option Addr) (n1 c1 : Nat) (hS1 : Sl 4 RAtr W A1 n1 f1.attrs) (hf1 : f1.ok maxLen) : Calls Try.prog 11 #[.agg #[.int .i64 f0.id, .int .i64 f0.owner, .bool f0.shared, .int .i64 f0.link, .slice A0 n0 c0], .agg #[.int .i64 f1.id, .int .i64 f1.owner, .bool f1.shared, .int .i64 f1.link, .slice A1 n1 c1]] W fun e w' => e = .returned (.bool true) ∧ Below W.heap.size W w' := by
  obtain rfl : f0.attrs.length = n0 := hS0.len
  obtain rfl : f1.attrs.length = n1 := hS1.len
  have nn0 := Fil.sz_nn f0
  by_cases hc0 : f0.sz ≤ 1048576
  · obtain ⟨hk0, hm0⟩ := Fil.okB (show f0.sz ≤ 1048576 by omega)
    have g0 : 0 ≤ 1048576 - f0.sz := by omega
    have nn1 := Fil.sz_nn f1
    by_cases hc1 : f1.sz ≤ 1048576 - f0.sz
    · obtain ⟨hk1, hm1⟩ := Fil.okB (show f1.sz ≤ 1048576 by omega)
      have g1 : 0 ≤ 1048576 - f0.sz - f1.sz := by omega
      go_enter Try.func11, Try.ntmps11
      go_wp2_with fail
      refine (laws_szFile_ok f0 A0 f0.attrs.length c0 1048576 _ (hS0.mono mAtr (by go_grown)) hf0 (by omega) (by omega) (by omega)).mono ?_; rintro e w1 ⟨rfl, hb1⟩
      have hx1 : Below W.heap.size W w1 := ex_trans (by go_grown) hb1
      have x0_0 : w1.cell? ⟨W.heap.size, 0, none⟩ = some (.int .i64 f0.id) := keep_cell hb1 (by go_simp)
      have x0_1 : w1.cell? ⟨W.heap.size, 1, none⟩ = some (.int .i64 f0.owner) := keep_cell hb1 (by go_simp)
      have x0_2 : w1.cell? ⟨W.heap.size, 2, none⟩ = some (.bool f0.shared) := keep_cell hb1 (by go_simp)
      have x0_3 : w1.cell? ⟨W.heap.size, 3, none⟩ = some (.int .i64 f0.link) := keep_cell hb1 (by go_simp)
      have x0_4 : w1.cell? ⟨W.heap.size, 4, none⟩ = some (.slice A0 f0.attrs.length c0) := keep_cell hb1 (by go_simp)
      have z0 : W.heap.size < w1.heap.size := keep_lt hb1 (by simp <;> omega)
      have x1_0 : w1.cell? ⟨W.heap.size + 1, 0, none⟩ = some (.int .i64 f1.id) := keep_cell hb1 (by go_simp)
      have x1_1 : w1.cell? ⟨W.heap.size + 1, 1, none⟩ = some (.int .i64 f1.owner) := keep_cell hb1 (by go_simp)
      have x1_2 : w1.cell? ⟨W.heap.size + 1, 2, none⟩ = some (.bool f1.shared) := keep_cell hb1 (by go_simp)
      have x1_3 : w1.cell? ⟨W.heap.size + 1, 3, none⟩ = some (.int .i64 f1.link) := keep_cell hb1 (by go_simp)
      have x1_4 : w1.cell? ⟨W.heap.size + 1, 4, none⟩ = some (.slice A1 f1.attrs.length c1) := keep_cell hb1 (by go_simp)
      have z1 : W.heap.size + 1 < w1.heap.size := keep_lt hb1 (by simp <;> omega)
      replace hS0 := hS0.mono mAtr hx1
      replace hS1 := hS1.mono mAtr hx1
      have hB : Below W.heap.size W w1 := hx1
      go_wp2_with fail
      refine (laws_szFile_ok f1 A1 f1.attrs.length c1 (1048576 - f0.sz) _ (hS1.mono mAtr (by go_grown)) hf1 (by omega) (by omega) (by omega)).mono ?_; rintro e w2 ⟨rfl, hb2⟩
      have hx2 : Below w1.heap.size w1 w2 := ex_trans (by go_grown) hb2
      replace x0_0 := keep_cell hx2 x0_0
      replace x0_1 := keep_cell hx2 x0_1
      replace x0_2 := keep_cell hx2 x0_2
      replace x0_3 := keep_cell hx2 x0_3
      replace x0_4 := keep_cell hx2 x0_4
      replace z0 := keep_lt hx2 z0
      replace x1_0 := keep_cell hx2 x1_0
      replace x1_1 := keep_cell hx2 x1_1
      replace x1_2 := keep_cell hx2 x1_2
      replace x1_3 := keep_cell hx2 x1_3
      replace x1_4 := keep_cell hx2 x1_4
      replace z1 := keep_lt hx2 z1
      replace hS0 := hS0.mono mAtr hx2
      replace hS1 := hS1.mono mAtr hx2
      replace hB := ex_trans hB hx2
      go_wp2_with fail
      go_region_held3 (fun w' => Tok w' ∧ w'.cell? ⟨W.heap.size, 0, none⟩ = some (.int .i64 f0.id) ∧ w'.cell? ⟨W.heap.size, 1, none⟩ = some (.int .i64 f0.owner) ∧ w'.cell? ⟨W.heap.size, 2, none⟩ = some (.bool f0.shared) ∧ w'.cell? ⟨W.heap.size, 3, none⟩ = some (.int .i64 f0.link) ∧ w'.cell? ⟨W.heap.size, 4, none⟩ = some (.slice A0 f0.attrs.length c0) ∧ W.heap.size < w'.heap.size ∧ w'.cell? ⟨W.heap.size + 1, 0, none⟩ = some (.int .i64 f1.id) ∧ w'.cell? ⟨W.heap.size + 1, 1, none⟩ = some (.int .i64 f1.owner) ∧ w'.cell? ⟨W.heap.size + 1, 2, none⟩ = some (.bool f1.shared) ∧ w'.cell? ⟨W.heap.size + 1, 3, none⟩ = some (.int .i64 f1.link) ∧ w'.cell? ⟨W.heap.size + 1, 4, none⟩ = some (.slice A1 f1.attrs.length c1) ∧ W.heap.size + 1 < w'.heap.size ∧ Sl 4 RAtr w' A0 f0.attrs.length f0.attrs ∧ Sl 4 RAtr w' A1 f1.attrs.length f1.attrs ∧ Below W.heap.size W w')
        (first | exact ⟨trivial, x0_0, x0_1, x0_2, x0_3, x0_4, z0, x1_0, x1_1, x1_2, x1_3, x1_4, z1, hS0.mono mAtr (Below.refl _ _).drew, hS1.mono mAtr (Below.refl _ _).drew, hB.drew⟩ | exact ‹Tok _ ∧ _› | (have hh := ‹Tok _ ∧ _›; exact ⟨trivial, keep_cell ‹_› hh.2.1, keep_cell ‹_› hh.2.2.1, keep_cell ‹_› hh.2.2.2.1, keep_cell ‹_› hh.2.2.2.2.1, keep_cell ‹_› hh.2.2.2.2.2.1, keep_lt ‹_› hh.2.2.2.2.2.2.1, keep_cell ‹_› hh.2.2.2.2.2.2.2.1, keep_cell ‹_› hh.2.2.2.2.2.2.2.2.1, keep_cell ‹_› hh.2.2.2.2.2.2.2.2.2.1, keep_cell ‹_› hh.2.2.2.2.2.2.2.2.2.2.1, keep_cell ‹_› hh.2.2.2.2.2.2.2.2.2.2.2.1, keep_lt ‹_› hh.2.2.2.2.2.2.2.2.2.2.2.2.1, hh.2.2.2.2.2.2.2.2.2.2.2.2.2.1.mono mAtr ‹_›, hh.2.2.2.2.2.2.2.2.2.2.2.2.2.2.1.mono mAtr ‹_›, ex_trans hh.2.2.2.2.2.2.2.2.2.2.2.2.2.2.2 ‹_›⟩))
        (first | (go_at_call 40; obtain ⟨_, x0_0, x0_1, x0_2, x0_3, x0_4, z0, x1_0, x1_1, x1_2, x1_3, x1_4, z1, hS0, hS1, hB⟩ := ‹Tok _ ∧ _›; (with_reducible refine (laws_toFile f0 A0 f0.attrs.length c0 _ hS0 hk0).mono ?_); rintro e w3 hN3; obtain ⟨A'3, c'3, bs3, rfl, hcc3, hW3, hF3, hb3⟩ := hN3.out; have hO3 : Sl 4 RAtr w3 A'3 f0.attrs.length f0.attrs := hW3.sl (fun h => h.1)) | (go_at_call 40; obtain ⟨_, x0_0, x0_1, x0_2, x0_3, x0_4, z0, x1_0, x1_1, x1_2, x1_3, x1_4, z1, hS0, hS1, hB⟩ := ‹Tok _ ∧ _›; (with_reducible refine (laws_toFile f1 A1 f1.attrs.length c1 _ hS1 hk1).mono ?_); rintro e w4 hN4; obtain ⟨A'4, c'4, bs4, rfl, hcc4, hW4, hF4, hb4⟩ := hN4.out; have hO4 : Sl 4 RAtr w4 A'4 f1.attrs.length f1.attrs := hW4.sl (fun h => h.1); replace hO3 := hO3.mono mAtr hb4) | (go_at_call 52; obtain ⟨_, x0_0, x0_1, x0_2, x0_3, x0_4, z0, x1_0, x1_1, x1_2, x1_3, x1_4, z1, hS0, hS1, hB⟩ := ‹Tok _ ∧ _›; (with_reducible refine (spec_EqualFiles f0 f1 A'3 f0.attrs.length c'3 A'4 f1.attrs.length c'4 _ hO3 hO4 hk0 hk1).mono ?_); rintro e w5 ⟨rfl, hb5⟩; replace hO3 := hO3.mono mAtr hb5; replace hO4 := hO4.mono mAtr hb5))
      obtain ⟨_, x0_0, x0_1, x0_2, x0_3, x0_4, z0, x1_0, x1_1, x1_2, x1_3, x1_4, z1, hS0, hS1, hB⟩ := ‹Tok _ ∧ _›
      go_wp2_with fail
      refine (laws_toFile f0 A0 f0.attrs.length c0 _ (hS0.mono mAtr (by go_grown)) hk0).mono ?_; rintro e w6 hN6
      obtain ⟨A'6, c'6, bs6, rfl, hcc6, hW6, hF6, hb6⟩ := hN6.out
      have hO6 : Sl 4 RAtr w6 A'6 f0.attrs.length f0.attrs := hW6.sl (fun h => h.1)
      have hx6 : Below w5.heap.size w5 w6 := ex_trans (by go_grown) hb6
      replace x0_0 := keep_cell hx6 x0_0
      replace x0_1 := keep_cell hx6 x0_1
      replace x0_2 := keep_cell hx6 x0_2
      replace x0_3 := keep_cell hx6 x0_3
      replace x0_4 := keep_cell hx6 x0_4
      replace z0 := keep_lt hx6 z0
      replace x1_0 := keep_cell hx6 x1_0
      replace x1_1 := keep_cell hx6 x1_1
      replace x1_2 := keep_cell hx6 x1_2
      replace x1_3 := keep_cell hx6 x1_3
      replace x1_4 := keep_cell hx6 x1_4
      replace z1 := keep_lt hx6 z1
      replace hS0 := hS0.mono mAtr hx6
      replace hS1 := hS1.mono mAtr hx6
      replace hO3 := hO3.mono mAtr hx6
      replace hO4 := hO4.mono mAtr hx6
      replace hB := ex_trans hB hx6
      go_wp2_with fail
      refine (laws_toFile f1 A1 f1.attrs.length c1 _ (hS1.mono mAtr (by go_grown)) hk1).mono ?_; rintro e w7 hN7
      obtain ⟨A'7, c'7, bs7, rfl, hcc7, hW7, hF7, hb7⟩ := hN7.out
      have hO7 : Sl 4 RAtr w7 A'7 f1.attrs.length f1.attrs := hW7.sl (fun h => h.1)
      have hx7 : Below w6.heap.size w6 w7 := ex_trans (by go_grown) hb7
      replace x0_0 := keep_cell hx7 x0_0
      replace x0_1 := keep_cell hx7 x0_1
      replace x0_2 := keep_cell hx7 x0_2
      replace x0_3 := keep_cell hx7 x0_3
      replace x0_4 := keep_cell hx7 x0_4
      replace z0 := keep_lt hx7 z0
      replace x1_0 := keep_cell hx7 x1_0
      replace x1_1 := keep_cell hx7 x1_1
      replace x1_2 := keep_cell hx7 x1_2
      replace x1_3 := keep_cell hx7 x1_3
      replace x1_4 := keep_cell hx7 x1_4
      replace z1 := keep_lt hx7 z1
      have x2_0 : w7.cell? ⟨w6.heap.size, 0, none⟩ = some (.int .i64 f0.id) := keep_cell hb7 (by go_simp)
      have x2_1 : w7.cell? ⟨w6.heap.size, 1, none⟩ = some (.int .i64 f0.owner) := keep_cell hb7 (by go_simp)
      have x2_2 : w7.cell? ⟨w6.heap.size, 2, none⟩ = some (.bool f0.shared) := keep_cell hb7 (by go_simp)
      have x2_3 : w7.cell? ⟨w6.heap.size, 3, none⟩ = some (.int .i64 f0.link) := keep_cell hb7 (by go_simp)
      have x2_4 : w7.cell? ⟨w6.heap.size, 4, none⟩ = some (.slice A'6 f0.attrs.length c'6) := keep_cell hb7 (by go_simp)
      have z2 : w6.heap.size < w7.heap.size := keep_lt hb7 (by simp <;> omega)
      replace hS0 := hS0.mono mAtr hx7
      replace hS1 := hS1.mono mAtr hx7
      replace hO3 := hO3.mono mAtr hx7
      replace hO4 := hO4.mono mAtr hx7
      replace hO6 := hO6.mono mAtr hx7
      replace hB := ex_trans hB hx7
      go_wp2_with fail
      refine (impl_EqualFiles f0 f1 A'6 f0.attrs.length c'6 A'7 f1.attrs.length c'7 _ (hO6.mono mAtr (by go_grown)) (hO7.mono mAtr (by go_grown)) hk0 hk1).mono ?_; rintro e w8 ⟨rfl, hb8⟩
      have hx8 : Below w7.heap.size w7 w8 := ex_trans (by go_grown) hb8
      replace x0_0 := keep_cell hx8 x0_0
      replace x0_1 := keep_cell hx8 x0_1
      replace x0_2 := keep_cell hx8 x0_2
      replace x0_3 := keep_cell hx8 x0_3
      replace x0_4 := keep_cell hx8 x0_4
      replace z0 := keep_lt hx8 z0
      replace x1_0 := keep_cell hx8 x1_0
      replace x1_1 := keep_cell hx8 x1_1
      replace x1_2 := keep_cell hx8 x1_2
      replace x1_3 := keep_cell hx8 x1_3
      replace x1_4 := keep_cell hx8 x1_4
      replace z1 := keep_lt hx8 z1
      replace x2_0 := keep_cell hx8 x2_0
      replace x2_1 := keep_cell hx8 x2_1
      replace x2_2 := keep_cell hx8 x2_2
      replace x2_3 := keep_cell hx8 x2_3
      replace x2_4 := keep_cell hx8 x2_4
      replace z2 := keep_lt hx8 z2
      have x3_0 : w8.cell? ⟨w7.heap.size, 0, none⟩ = some (.int .i64 f1.id) := keep_cell hb8 (by go_simp)
      have x3_1 : w8.cell? ⟨w7.heap.size, 1, none⟩ = some (.int .i64 f1.owner) := keep_cell hb8 (by go_simp)
      have x3_2 : w8.cell? ⟨w7.heap.size, 2, none⟩ = some (.bool f1.shared) := keep_cell hb8 (by go_simp)
      have x3_3 : w8.cell? ⟨w7.heap.size, 3, none⟩ = some (.int .i64 f1.link) := keep_cell hb8 (by go_simp)
      have x3_4 : w8.cell? ⟨w7.heap.size, 4, none⟩ = some (.slice A'7 f1.attrs.length c'7) := keep_cell hb8 (by go_simp)
      have z3 : w7.heap.size < w8.heap.size := keep_lt hb8 (by simp <;> omega)
      replace hS0 := hS0.mono mAtr hx8
      replace hS1 := hS1.mono mAtr hx8
      replace hO3 := hO3.mono mAtr hx8
      replace hO4 := hO4.mono mAtr hx8
      replace hO6 := hO6.mono mAtr hx8
      replace hO7 := hO7.mono mAtr hx8
      replace hB := ex_trans hB hx8
      go_wp2_with fail
      go_region_held3 (fun w' => Tok w' ∧ w'.cell? ⟨W.heap.size, 0, none⟩ = some (.int .i64 f0.id) ∧ w'.cell? ⟨W.heap.size, 1, none⟩ = some (.int .i64 f0.owner) ∧ w'.cell? ⟨W.heap.size, 2, none⟩ = some (.bool f0.shared) ∧ w'.cell? ⟨W.heap.size, 3, none⟩ = some (.int .i64 f0.link) ∧ w'.cell? ⟨W.heap.size, 4, none⟩ = some (.slice A0 f0.attrs.length c0) ∧ W.heap.size < w'.heap.size ∧ w'.cell? ⟨W.heap.size + 1, 0, none⟩ = some (.int .i64 f1.id) ∧ w'.cell? ⟨W.heap.size + 1, 1, none⟩ = some (.int .i64 f1.owner) ∧ w'.cell? ⟨W.heap.size + 1, 2, none⟩ = some (.bool f1.shared) ∧ w'.cell? ⟨W.heap.size + 1, 3, none⟩ = some (.int .i64 f1.link) ∧ w'.cell? ⟨W.heap.size + 1, 4, none⟩ = some (.slice A1 f1.attrs.length c1) ∧ W.heap.size + 1 < w'.heap.size ∧ w'.cell? ⟨w6.heap.size, 0, none⟩ = some (.int .i64 f0.id) ∧ w'.cell? ⟨w6.heap.size, 1, none⟩ = some (.int .i64 f0.owner) ∧ w'.cell? ⟨w6.heap.size, 2, none⟩ = some (.bool f0.shared) ∧ w'.cell? ⟨w6.heap.size, 3, none⟩ = some (.int .i64 f0.link) ∧ w'.cell? ⟨w6.heap.size, 4, none⟩ = some (.slice A'6 f0.attrs.length c'6) ∧ w6.heap.size < w'.heap.size ∧ w'.cell? ⟨w7.heap.size, 0, none⟩ = some (.int .i64 f1.id) ∧ w'.cell? ⟨w7.heap.size, 1, none⟩ = some (.int .i64 f1.owner) ∧ w'.cell? ⟨w7.heap.size, 2, none⟩ = some (.bool f1.shared) ∧ w'.cell? ⟨w7.heap.size, 3, none⟩ = some (.int .i64 f1.link) ∧ w'.cell? ⟨w7.heap.size, 4, none⟩ = some (.slice A'7 f1.attrs.length c'7) ∧ w7.heap.size < w'.heap.size ∧ Sl 4 RAtr w' A0 f0.attrs.length f0.attrs ∧ Sl 4 RAtr w' A1 f1.attrs.length f1.attrs ∧ Sl 4 RAtr w' A'3 f0.attrs.length f0.attrs ∧ Sl 4 RAtr w' A'4 f1.attrs.length f1.attrs ∧ Sl 4 RAtr w' A'6 f0.attrs.length f0.attrs ∧ Sl 4 RAtr w' A'7 f1.attrs.length f1.attrs ∧ Below W.heap.size W w')
        (first | exact ⟨trivial, x0_0, x0_1, x0_2, x0_3, x0_4, z0, x1_0, x1_1, x1_2, x1_3, x1_4, z1, x2_0, x2_1, x2_2, x2_3, x2_4, z2, x3_0, x3_1, x3_2, x3_3, x3_4, z3, hS0.mono mAtr (Below.refl _ _).drew, hS1.mono mAtr (Below.refl _ _).drew, hO3.mono mAtr (Below.refl _ _).drew, hO4.mono mAtr (Below.refl _ _).drew, hO6.mono mAtr (Below.refl _ _).drew, hO7.mono mAtr (Below.refl _ _).drew, hB.drew⟩ | exact ‹Tok _ ∧ _› | (have hh := ‹Tok _ ∧ _›; exact ⟨trivial, keep_cell ‹_› hh.2.1, keep_cell ‹_› hh.2.2.1, keep_cell ‹_› hh.2.2.2.1, keep_cell ‹_› hh.2.2.2.2.1, keep_cell ‹_› hh.2.2.2.2.2.1, keep_lt ‹_› hh.2.2.2.2.2.2.1, keep_cell ‹_› hh.2.2.2.2.2.2.2.1, keep_cell ‹_› hh.2.2.2.2.2.2.2.2.1, keep_cell ‹_› hh.2.2.2.2.2.2.2.2.2.1, keep_cell ‹_› hh.2.2.2.2.2.2.2.2.2.2.1, keep_cell ‹_› hh.2.2.2.2.2.2.2.2.2.2.2.1, keep_lt ‹_› hh.2.2.2.2.2.2.2.2.2.2.2.2.1, keep_cell ‹_› hh.2.2.2.2.2.2.2.2.2.2.2.2.2.1, keep_cell ‹_› hh.2.2.2.2.2.2.2.2.2.2.2.2.2.2.1, keep_cell ‹_› hh.2.2.2.2.2.2.2.2.2.2.2.2.2.2.2.1, keep_cell ‹_› hh.2.2.2.2.2.2.2.2.2.2.2.2.2.2.2.2.1, keep_cell ‹_› hh.2.2.2.2.2.2.2.2.2.2.2.2.2.2.2.2.2.1, keep_lt ‹_› hh.2.2.2.2.2.2.2.2.2.2.2.2.2.2.2.2.2.2.1, keep_cell ‹_› hh.2.2.2.2.2.2.2.2.2.2.2.2.2.2.2.2.2.2.2.1, keep_cell ‹_› hh.2.2.2.2.2.2.2.2.2.2.2.2.2.2.2.2.2.2.2.2.1, keep_cell ‹_› hh.2.2.2.2.2.2.2.2.2.2.2.2.2.2.2.2.2.2.2.2.2.1, keep_cell ‹_› hh.2.2.2.2.2.2.2.2.2.2.2.2.2.2.2.2.2.2.2.2.2.2.1, keep_cell ‹_› hh.2.2.2.2.2.2.2.2.2.2.2.2.2.2.2.2.2.2.2.2.2.2.2.1, keep_lt ‹_› hh.2.2.2.2.2.2.2.2.2.2.2.2.2.2.2.2.2.2.2.2.2.2.2.2.1, hh.2.2.2.2.2.2.2.2.2.2.2.2.2.2.2.2.2.2.2.2.2.2.2.2.2.1.mono mAtr ‹_›, hh.2.2.2.2.2.2.2.2.2.2.2.2.2.2.2.2.2.2.2.2.2.2.2.2.2.2.1.mono mAtr ‹_›, hh.2.2.2.2.2.2.2.2.2.2.2.2.2.2.2.2.2.2.2.2.2.2.2.2.2.2.2.1.mono mAtr ‹_›, hh.2.2.2.2.2.2.2.2.2.2.2.2.2.2.2.2.2.2.2.2.2.2.2.2.2.2.2.2.1.mono mAtr ‹_›, hh.2.2.2.2.2.2.2.2.2.2.2.2.2.2.2.2.2.2.2.2.2.2.2.2.2.2.2.2.2.1.mono mAtr ‹_›, hh.2.2.2.2.2.2.2.2.2.2.2.2.2.2.2.2.2.2.2.2.2.2.2.2.2.2.2.2.2.2.1.mono mAtr ‹_›, ex_trans hh.2.2.2.2.2.2.2.2.2.2.2.2.2.2.2.2.2.2.2.2.2.2.2.2.2.2.2.2.2.2.2 ‹_›⟩))
        (first | (go_at_call 40; obtain ⟨_, x0_0, x0_1, x0_2, x0_3, x0_4, z0, x1_0, x1_1, x1_2, x1_3, x1_4, z1, x2_0, x2_1, x2_2, x2_3, x2_4, z2, x3_0, x3_1, x3_2, x3_3, x3_4, z3, hS0, hS1, hO3, hO4, hO6, hO7, hB⟩ := ‹Tok _ ∧ _›; (with_reducible refine (laws_toFile f0 A0 f0.attrs.length c0 _ hS0 hk0).mono ?_); rintro e w9 hN9; obtain ⟨A'9, c'9, bs9, rfl, hcc9, hW9, hF9, hb9⟩ := hN9.out; have hO9 : Sl 4 RAtr w9 A'9 f0.attrs.length f0.attrs := hW9.sl (fun h => h.1)) | (go_at_call 42; obtain ⟨_, x0_0, x0_1, x0_2, x0_3, x0_4, z0, x1_0, x1_1, x1_2, x1_3, x1_4, z1, x2_0, x2_1, x2_2, x2_3, x2_4, z2, x3_0, x3_1, x3_2, x3_3, x3_4, z3, hS0, hS1, hO3, hO4, hO6, hO7, hB⟩ := ‹Tok _ ∧ _›; (with_reducible refine (laws_eqFile_same f0 A'6 f0.attrs.length c'6 A'9 f0.attrs.length c'9 _ hO6 hO9 hk0).mono ?_); rintro e w10 ⟨rfl, hb10⟩; replace hO9 := hO9.mono mAtr hb10))
      obtain ⟨_, x0_0, x0_1, x0_2, x0_3, x0_4, z0, x1_0, x1_1, x1_2, x1_3, x1_4, z1, x2_0, x2_1, x2_2, x2_3, x2_4, z2, x3_0, x3_1, x3_2, x3_3, x3_4, z3, hS0, hS1, hO3, hO4, hO6, hO7, hB⟩ := ‹Tok _ ∧ _›
      go_wp2_with fail
      go_region_held3 (fun w' => Tok w' ∧ w'.cell? ⟨W.heap.size, 0, none⟩ = some (.int .i64 f0.id) ∧ w'.cell? ⟨W.heap.size, 1, none⟩ = some (.int .i64 f0.owner) ∧ w'.cell? ⟨W.heap.size, 2, none⟩ = some (.bool f0.shared) ∧ w'.cell? ⟨W.heap.size, 3, none⟩ = some (.int .i64 f0.link) ∧ w'.cell? ⟨W.heap.size, 4, none⟩ = some (.slice A0 f0.attrs.length c0) ∧ W.heap.size < w'.heap.size ∧ w'.cell? ⟨W.heap.size + 1, 0, none⟩ = some (.int .i64 f1.id) ∧ w'.cell? ⟨W.heap.size + 1, 1, none⟩ = some (.int .i64 f1.owner) ∧ w'.cell? ⟨W.heap.size + 1, 2, none⟩ = some (.bool f1.shared) ∧ w'.cell? ⟨W.heap.size + 1, 3, none⟩ = some (.int .i64 f1.link) ∧ w'.cell? ⟨W.heap.size + 1, 4, none⟩ = some (.slice A1 f1.attrs.length c1) ∧ W.heap.size + 1 < w'.heap.size ∧ w'.cell? ⟨w6.heap.size, 0, none⟩ = some (.int .i64 f0.id) ∧ w'.cell? ⟨w6.heap.size, 1, none⟩ = some (.int .i64 f0.owner) ∧ w'.cell? ⟨w6.heap.size, 2, none⟩ = some (.bool f0.shared) ∧ w'.cell? ⟨w6.heap.size, 3, none⟩ = some (.int .i64 f0.link) ∧ w'.cell? ⟨w6.heap.size, 4, none⟩ = some (.slice A'6 f0.attrs.length c'6) ∧ w6.heap.size < w'.heap.size ∧ w'.cell? ⟨w7.heap.size, 0, none⟩ = some (.int .i64 f1.id) ∧ w'.cell? ⟨w7.heap.size, 1, none⟩ = some (.int .i64 f1.owner) ∧ w'.cell? ⟨w7.heap.size, 2, none⟩ = some (.bool f1.shared) ∧ w'.cell? ⟨w7.heap.size, 3, none⟩ = some (.int .i64 f1.link) ∧ w'.cell? ⟨w7.heap.size, 4, none⟩ = some (.slice A'7 f1.attrs.length c'7) ∧ w7.heap.size < w'.heap.size ∧ Sl 4 RAtr w' A0 f0.attrs.length f0.attrs ∧ Sl 4 RAtr w' A1 f1.attrs.length f1.attrs ∧ Sl 4 RAtr w' A'3 f0.attrs.length f0.attrs ∧ Sl 4 RAtr w' A'4 f1.attrs.length f1.attrs ∧ Sl 4 RAtr w' A'6 f0.attrs.length f0.attrs ∧ Sl 4 RAtr w' A'7 f1.attrs.length f1.attrs ∧ Sl 4 RAtr w' A'9 f0.attrs.length f0.attrs ∧ Below W.heap.size W w')
        (first | exact ⟨trivial, x0_0, x0_1, x0_2, x0_3, x0_4, z0, x1_0, x1_1, x1_2, x1_3, x1_4, z1, x2_0, x2_1, x2_2, x2_3, x2_4, z2, x3_0, x3_1, x3_2, x3_3, x3_4, z3, hS0.mono mAtr (Below.refl _ _).drew, hS1.mono mAtr (Below.refl _ _).drew, hO3.mono mAtr (Below.refl _ _).drew, hO4.mono mAtr (Below.refl _ _).drew, hO6.mono mAtr (Below.refl _ _).drew, hO7.mono mAtr (Below.refl _ _).drew, hO9.mono mAtr (Below.refl _ _).drew, hB.drew⟩ | exact ‹Tok _ ∧ _› | (have hh := ‹Tok _ ∧ _›; exact ⟨trivial, keep_cell ‹_› hh.2.1, keep_cell ‹_› hh.2.2.1, keep_cell ‹_› hh.2.2.2.1, keep_cell ‹_› hh.2.2.2.2.1, keep_cell ‹_› hh.2.2.2.2.2.1, keep_lt ‹_› hh.2.2.2.2.2.2.1, keep_cell ‹_› hh.2.2.2.2.2.2.2.1, keep_cell ‹_› hh.2.2.2.2.2.2.2.2.1, keep_cell ‹_› hh.2.2.2.2.2.2.2.2.2.1, keep_cell ‹_› hh.2.2.2.2.2.2.2.2.2.2.1, keep_cell ‹_› hh.2.2.2.2.2.2.2.2.2.2.2.1, keep_lt ‹_› hh.2.2.2.2.2.2.2.2.2.2.2.2.1, keep_cell ‹_› hh.2.2.2.2.2.2.2.2.2.2.2.2.2.1, keep_cell ‹_› hh.2.2.2.2.2.2.2.2.2.2.2.2.2.2.1, keep_cell ‹_› hh.2.2.2.2.2.2.2.2.2.2.2.2.2.2.2.1, keep_cell ‹_› hh.2.2.2.2.2.2.2.2.2.2.2.2.2.2.2.2.1, keep_cell ‹_› hh.2.2.2.2.2.2.2.2.2.2.2.2.2.2.2.2.2.1, keep_lt ‹_› hh.2.2.2.2.2.2.2.2.2.2.2.2.2.2.2.2.2.2.1, keep_cell ‹_› hh.2.2.2.2.2.2.2.2.2.2.2.2.2.2.2.2.2.2.2.1, keep_cell ‹_› hh.2.2.2.2.2.2.2.2.2.2.2.2.2.2.2.2.2.2.2.2.1, keep_cell ‹_› hh.2.2.2.2.2.2.2.2.2.2.2.2.2.2.2.2.2.2.2.2.2.1, keep_cell ‹_› hh.2.2.2.2.2.2.2.2.2.2.2.2.2.2.2.2.2.2.2.2.2.2.1, keep_cell ‹_› hh.2.2.2.2.2.2.2.2.2.2.2.2.2.2.2.2.2.2.2.2.2.2.2.1, keep_lt ‹_› hh.2.2.2.2.2.2.2.2.2.2.2.2.2.2.2.2.2.2.2.2.2.2.2.2.1, hh.2.2.2.2.2.2.2.2.2.2.2.2.2.2.2.2.2.2.2.2.2.2.2.2.2.1.mono mAtr ‹_›, hh.2.2.2.2.2.2.2.2.2.2.2.2.2.2.2.2.2.2.2.2.2.2.2.2.2.2.1.mono mAtr ‹_›, hh.2.2.2.2.2.2.2.2.2.2.2.2.2.2.2.2.2.2.2.2.2.2.2.2.2.2.2.1.mono mAtr ‹_›, hh.2.2.2.2.2.2.2.2.2.2.2.2.2.2.2.2.2.2.2.2.2.2.2.2.2.2.2.2.1.mono mAtr ‹_›, hh.2.2.2.2.2.2.2.2.2.2.2.2.2.2.2.2.2.2.2.2.2.2.2.2.2.2.2.2.2.1.mono mAtr ‹_›, hh.2.2.2.2.2.2.2.2.2.2.2.2.2.2.2.2.2.2.2.2.2.2.2.2.2.2.2.2.2.2.1.mono mAtr ‹_›, hh.2.2.2.2.2.2.2.2.2.2.2.2.2.2.2.2.2.2.2.2.2.2.2.2.2.2.2.2.2.2.2.1.mono mAtr ‹_›, ex_trans hh.2.2.2.2.2.2.2.2.2.2.2.2.2.2.2.2.2.2.2.2.2.2.2.2.2.2.2.2.2.2.2.2 ‹_›⟩))
        (first | (go_at_call 40; obtain ⟨_, x0_0, x0_1, x0_2, x0_3, x0_4, z0, x1_0, x1_1, x1_2, x1_3, x1_4, z1, x2_0, x2_1, x2_2, x2_3, x2_4, z2, x3_0, x3_1, x3_2, x3_3, x3_4, z3, hS0, hS1, hO3, hO4, hO6, hO7, hO9, hB⟩ := ‹Tok _ ∧ _›; (with_reducible refine (laws_toFile f1 A1 f1.attrs.length c1 _ hS1 hk1).mono ?_); rintro e w11 hN11; obtain ⟨A'11, c'11, bs11, rfl, hcc11, hW11, hF11, hb11⟩ := hN11.out; have hO11 : Sl 4 RAtr w11 A'11 f1.attrs.length f1.attrs := hW11.sl (fun h => h.1)) | (go_at_call 42; obtain ⟨_, x0_0, x0_1, x0_2, x0_3, x0_4, z0, x1_0, x1_1, x1_2, x1_3, x1_4, z1, x2_0, x2_1, x2_2, x2_3, x2_4, z2, x3_0, x3_1, x3_2, x3_3, x3_4, z3, hS0, hS1, hO3, hO4, hO6, hO7, hO9, hB⟩ := ‹Tok _ ∧ _›; (with_reducible refine (laws_eqFile_same f1 A'7 f1.attrs.length c'7 A'11 f1.attrs.length c'11 _ hO7 hO11 hk1).mono ?_); rintro e w12 ⟨rfl, hb12⟩; replace hO11 := hO11.mono mAtr hb12))
      obtain ⟨_, x0_0, x0_1, x0_2, x0_3, x0_4, z0, x1_0, x1_1, x1_2, x1_3, x1_4, z1, x2_0, x2_1, x2_2, x2_3, x2_4, z2, x3_0, x3_1, x3_2, x3_3, x3_4, z3, hS0, hS1, hO3, hO4, hO6, hO7, hO9, hB⟩ := ‹Tok _ ∧ _›
      go_wp2_with fail
      go_returns
      exact ⟨rfl, hB⟩
    · have g1 : (-1 : Int) < 0 := by omega
      go_enter Try.func11, Try.ntmps11
      go_wp2_with fail
      refine (laws_szFile_ok f0 A0 f0.attrs.length c0 1048576 _ (hS0.mono mAtr (by go_grown)) hf0 (by omega) (by omega) (by omega)).mono ?_; rintro e w1 ⟨rfl, hb1⟩
      have hx1 : Below W.heap.size W w1 := ex_trans (by go_grown) hb1
      have x0_0 : w1.cell? ⟨W.heap.size, 0, none⟩ = some (.int .i64 f0.id) := keep_cell hb1 (by go_simp)
      have x0_1 : w1.cell? ⟨W.heap.size, 1, none⟩ = some (.int .i64 f0.owner) := keep_cell hb1 (by go_simp)
      have x0_2 : w1.cell? ⟨W.heap.size, 2, none⟩ = some (.bool f0.shared) := keep_cell hb1 (by go_simp)
      have x0_3 : w1.cell? ⟨W.heap.size, 3, none⟩ = some (.int .i64 f0.link) := keep_cell hb1 (by go_simp)
      have x0_4 : w1.cell? ⟨W.heap.size, 4, none⟩ = some (.slice A0 f0.attrs.length c0) := keep_cell hb1 (by go_simp)
      have z0 : W.heap.size < w1.heap.size := keep_lt hb1 (by simp <;> omega)
      have x1_0 : w1.cell? ⟨W.heap.size + 1, 0, none⟩ = some (.int .i64 f1.id) := keep_cell hb1 (by go_simp)
      have x1_1 : w1.cell? ⟨W.heap.size + 1, 1, none⟩ = some (.int .i64 f1.owner) := keep_cell hb1 (by go_simp)
      have x1_2 : w1.cell? ⟨W.heap.size + 1, 2, none⟩ = some (.bool f1.shared) := keep_cell hb1 (by go_simp)
      have x1_3 : w1.cell? ⟨W.heap.size + 1, 3, none⟩ = some (.int .i64 f1.link) := keep_cell hb1 (by go_simp)
      have x1_4 : w1.cell? ⟨W.heap.size + 1, 4, none⟩ = some (.slice A1 f1.attrs.length c1) := keep_cell hb1 (by go_simp)
      have z1 : W.heap.size + 1 < w1.heap.size := keep_lt hb1 (by simp <;> omega)
      replace hS0 := hS0.mono mAtr hx1
      replace hS1 := hS1.mono mAtr hx1
      have hB : Below W.heap.size W w1 := hx1
      go_wp2_with fail
      refine (laws_szFile_no f1 A1 f1.attrs.length c1 (1048576 - f0.sz) _ (hS1.mono mAtr (by go_grown)) hf1 (by omega) (by omega) (by omega)).mono ?_; rintro e w2 ⟨rfl, hb2⟩
      have hx2 : Below w1.heap.size w1 w2 := ex_trans (by go_grown) hb2
      replace x0_0 := keep_cell hx2 x0_0
      replace x0_1 := keep_cell hx2 x0_1
      replace x0_2 := keep_cell hx2 x0_2
      replace x0_3 := keep_cell hx2 x0_3
      replace x0_4 := keep_cell hx2 x0_4
      replace z0 := keep_lt hx2 z0
      replace x1_0 := keep_cell hx2 x1_0
      replace x1_1 := keep_cell hx2 x1_1
      replace x1_2 := keep_cell hx2 x1_2
      replace x1_3 := keep_cell hx2 x1_3
      replace x1_4 := keep_cell hx2 x1_4
      replace z1 := keep_lt hx2 z1
      replace hS0 := hS0.mono mAtr hx2
      replace hS1 := hS1.mono mAtr hx2
      replace hB := ex_trans hB hx2
      go_wp2_with fail
      go_returns
      exact ⟨rfl, hB⟩
  · have g0 : (-1 : Int) < 0 := by omega
    go_enter Try.func11, Try.ntmps11
    go_wp2_with fail
    refine (laws_szFile_no f0 A0 f0.attrs.length c0 1048576 _ (hS0.mono mAtr (by go_grown)) hf0 (by omega) (by omega) (by omega)).mono ?_; rintro e w1 ⟨rfl, hb1⟩
    have hx1 : Below W.heap.size W w1 := ex_trans (by go_grown) hb1
    have x0_0 : w1.cell? ⟨W.heap.size, 0, none⟩ = some (.int .i64 f0.id) := keep_cell hb1 (by go_simp)
    have x0_1 : w1.cell? ⟨W.heap.size, 1, none⟩ = some (.int .i64 f0.owner) := keep_cell hb1 (by go_simp)
    have x0_2 : w1.cell? ⟨W.heap.size, 2, none⟩ = some (.bool f0.shared) := keep_cell hb1 (by go_simp)
    have x0_3 : w1.cell? ⟨W.heap.size, 3, none⟩ = some (.int .i64 f0.link) := keep_cell hb1 (by go_simp)
    have x0_4 : w1.cell? ⟨W.heap.size, 4, none⟩ = some (.slice A0 f0.attrs.length c0) := keep_cell hb1 (by go_simp)
    have z0 : W.heap.size < w1.heap.size := keep_lt hb1 (by simp <;> omega)
    have x1_0 : w1.cell? ⟨W.heap.size + 1, 0, none⟩ = some (.int .i64 f1.id) := keep_cell hb1 (by go_simp)
    have x1_1 : w1.cell? ⟨W.heap.size + 1, 1, none⟩ = some (.int .i64 f1.owner) := keep_cell hb1 (by go_simp)
    have x1_2 : w1.cell? ⟨W.heap.size + 1, 2, none⟩ = some (.bool f1.shared) := keep_cell hb1 (by go_simp)
    have x1_3 : w1.cell? ⟨W.heap.size + 1, 3, none⟩ = some (.int .i64 f1.link) := keep_cell hb1 (by go_simp)
    have x1_4 : w1.cell? ⟨W.heap.size + 1, 4, none⟩ = some (.slice A1 f1.attrs.length c1) := keep_cell hb1 (by go_simp)
    have z1 : W.heap.size + 1 < w1.heap.size := keep_lt hb1 (by simp <;> omega)
    replace hS0 := hS0.mono mAtr hx1
    replace hS1 := hS1.mono mAtr hx1
    have hB : Below W.heap.size W w1 := hx1
    go_wp2_with fail
    go_returns
    exact ⟨rfl, hB⟩
theorem core_FnExactEqualFiles {H : Type} (enc : TypeId × Value → H) (W : World) (base : Nat) (args : Array Value) (ds : List (DataW H)) (p : List MemPlace)
    (hA : DataW.TrodAll enc Try.prog W 0 (fun _ => true) true Try.f11.params.toList args.toList ds p)
    (hval : ∀ (j : Nat) t v, Try.f11.params[j]? = some t → args[j]? = some v → Value.okWide Try.prog W .any base t v) :
    Calls Try.prog 11 args W fun e W' => e = .returned (.bool true) ∧ Below W.heap.size W W' := by
  rw [Try.params11] at hA hval
  obtain ⟨u0, vs0, d0, ds0, p0, q0, hargs, rfl, rfl, h0, r0⟩ := trodAll_cons hA
  obtain ⟨u1, vs1, d1, ds1, p1, q1, rfl, rfl, rfl, h1, r1⟩ := trodAll_cons r0
  obtain ⟨rfl, rfl, rfl⟩ := trodAll_nil r1
  obtain rfl : args = #[u0, u1] := by cases args; simp_all
  obtain ⟨fu0, g0⟩ := h0
  obtain ⟨x0, e0, ok0⟩ := Op_File.2 _ _ _ g0
  obtain ⟨A0, n0, c0, e0, hS0⟩ := e0
  have z0 := agg_of Try.underlying60 (hval 0 60 u0 rfl rfl)
  have y0 : u0 = .agg ⟨_⟩ := z0.trans (congrArg (fun l => Value.agg ⟨l⟩) e0)
  subst y0
  obtain ⟨fu1, g1⟩ := h1
  obtain ⟨x1, e1, ok1⟩ := Op_File.2 _ _ _ g1
  obtain ⟨A1, n1, c1, e1, hS1⟩ := e1
  have z1 := agg_of Try.underlying60 (hval 1 60 u1 rfl rfl)
  have y1 : u1 = .agg ⟨_⟩ := z1.trans (congrArg (fun l => Value.agg ⟨l⟩) e1)
  subst y1
  exact walk_FnExactEqualFiles W x0 A0 n0 c0 hS0 ok0 x1 A1 n1 c1 hS1 ok1
set_option maxRecDepth 100000 in
theorem lifted_FnExactEqualFiles (os : Os) (started : os.Started) (H : Type) (enc : TypeId × Value → H) :
    ReturnsInHanded {} Try.checked os 11 .any (Rows.fnExactEqualFilesSpec.pre6 enc Try.prog Try.f11 Rows.fnExactEqualFilesRow.domain false) (Rows.fnExactEqualFilesSpec.post enc Try.prog Try.f11 false true false false) :=
  law_lifted (C := Try.checked) (tb := 4) (n := 2) own started (by kernel_rfl) Try.func11 rfl (by kernel_rfl) Try.underlying4 (by kernel_rfl)
    (fun ds h => by match ds, h with | [_, _], _ => rfl) laidOut' (by kernel_rfl)
    (ChangeSpec.witness6 (enc := enc) (C := Try.checked) false ⟨#[], #[.agg #[.int .i64 0, .int .i64 0, .bool false, .int .i64 0, .slice none 0 0], .agg #[.int .i64 0, .int .i64 0, .bool false, .int .i64 0, .slice none 0 0]], []⟩ 8 (by kernel_rfl) (by kernel_rfl) (by kernel_rfl) (by kernel_rfl))
    (fun W base args ds p hA hval => core_FnExactEqualFiles enc W base args ds p hA hval)
theorem holds_FnExactEqualFiles : Rows.FnExactEqualFilesSaid :=
  OpenClaim.holds_of_wide 11 Try.f11 rfl rfl rfl rfl rfl rfl rfl ⟨rfl, rfl, rfl, rfl, rfl⟩ rfl rfl rfl rfl rfl (by kernel_rfl) Try.func11 (by kernel_rfl)
    (of_decide_eq_true (by kernel_rfl)) (by unfold Func.isWrapper; first | (rw [if_pos (by decide +kernel)]; kernel_rfl) | (rw [if_neg (by decide +kernel)]; exact ⟨rfl, rfl⟩))
    (fun os started H enc _ => lifted_FnExactEqualFiles os started H enc)
end Go.Proofs.Ytjnjjifijelgpaa
