/-
  FnAttrChanges RETURNS true AND LEAVES ITS ARGUMENTS AS THEY WERE, FOR EVERY INPUT THAT THE STATEMENT SPEAKS OF. No condition.
-/
import Derived.WalkKit
import Derived.ProofKit
import Derived.OpenShut
import Derived.Handy
import Derived.Lib.Hide
import Derived.Deep.QuietTactic
import Derived.BigQuiet
import Derived.Deep.RegionHeld3
import Derived.Deep.DeepCutAuto
import Derived.Test.YtjobgnioehkomaaLib
import Derived.Test.YtjobgnioehkomaaOp
import Derived.Test.YtjobgnioehkomaaC1
import Derived.Test.YtjobgnioehkomaaC2
import Derived.Test.YtjobgnioehkomaaC4
import Derived.Test.YtjobgnioehkomaaOwn
import Derived.Test.YtjobgnioehkomaaRow
import Derived.Test.YtjobgnioehkomaaN0
import Derived.Test.YtjobgnioehkomaaHld
import Derived.Test.YtjobgnioehkomaaD1
import Derived.Test.YtjobgnioehkomaaD3
import Derived.Test.YtjobgnioehkomaaD5
import Derived.Test.YtjobgnioehkomaaD7
import Derived.Test.YtjobgnioehkomaaE4
import Derived.Test.YtjobgnioehkomaaH1
import Derived.Test.YtjobgnioehkomaaI1
import Derived.Test.YtjobgnioehkomaaI2
import Derived.Test.YtjobgnioehkomaaD8
import Derived.Test.YtjobgnioehkomaaSz
import Derived.Test.YtjobgnioehkomaaT1
import Derived.Test.YtjobgnioehkomaaT2
import Derived.Test.YtjobgnioehkomaaT3
import Derived.Test.YtjobgnioehkomaaC3
import Derived.Test.YtjobgnioehkomaaC5
import Derived.Test.YtjobgnioehkomaaC6
import Derived.Test.YtjobgnioehkomaaHl2
import Derived.Test.YtjobgnioehkomaaY1
import Derived.Test.YtjobgnioehkomaaY2
import Derived.Test.YtjobgnioehkomaaY3
import Derived.Test.YtjobgnioehkomaaY9
import Derived.Test.YtjobgnioehkomaaZ1
import Derived.Test.YtjobgnioehkomaaZ3
import Derived.Test.YtjobgnioehkomaaZ4
import Derived.Test.YtjobgnioehkomaaZ5
import Derived.Test.YtjobgnioehkomaaZa
import Derived.Test.YtjobgnioehkomaaQ5
import Derived.Test.YtjobgnioehkomaaP4
import Derived.Test.YtjobgnioehkomaaR0
import Derived.Test.YtjobgnioehkomaaR1
import Derived.Test.YtjobgnioehkomaaR2
import Derived.Test.YtjobgnioehkomaaS3
import Derived.Test.YtjobgnioehkomaaR3
import Derived.Test.YtjobgnioehkomaaRows
namespace Go.Proofs.Ytjobgnioehkomaa
open Go.RowKit Go.ChangeShapes Go.WideShapes Go.ChangeAt Go.ChangeMaps
set_option linter.unusedVariables false
set_option maxRecDepth 100000
theorem NewRow.strs {w w' : World} {l : List ByteArray} {q : Nat} {en : Ending} (hq : l.length = q) (h : NewRow (fun v => v) 9 1 eStr w l en w') : ∃ A c, en = .returned (.slice A q c) ∧ Sl 1 RStr w' A q l ∧ Below w.heap.size w w' := by
  subst hq
  obtain ⟨A, c, h1, h2, h3⟩ := h
  exact ⟨A, c, h1, h2.sl encStr (fun _ => rfl), h3⟩
theorem texts_self (A : Option Addr) (n c : Nat) (B : Option Addr) (d : Nat) (l : List ByteArray) (w : World) (hn : n ≤ 1073741824) (hS : Sl 1 RStr w A n l) (hT : Sl 1 RStr w B n l) :
    Calls Try.prog 31 #[.slice A n c, .slice B n d] w fun e w' => e = .returned (.bool true) ∧ Below w.heap.size w w' := by
  have h := laws_sameTexts A n c l B n d l w hS hT hn hn
  rw [(eqL_iff (f := eqS) (fun a b => eqS_iff)).2 rfl] at h
  exact h
set_option maxHeartbeats 8000000 in
theorem walk_FnAttrChanges (W : World) (A0 : Option Addr) (n0 c0 : Nat) (l0 : List Int) (hS0 : Sl 1 RByt W A0 n0 l0) (hn0 : n0 ≤ maxLen) (hl0 : ∀ y ∈ l0, 0 ≤ y ∧ y ≤ 255) : Calls Try.prog 6 #[.slice A0 n0 c0] W fun e w' => e = .returned (.bool true) ∧ Below W.heap.size W w' := by
  by_cases hc : n0 ≤ 1048576
  · have HD := Lib.hid (spec_DrawChangedAttrs A0 n0 c0 l0 W hS0 hc hl0)
    have HD2 := Lib.hid fun w' (hb : Below W.heap.size W w') => spec_DrawEqualFiles A0 n0 c0 l0 w' (hS0.mono mByt hb) hc hl0
    have HD3 := Lib.hid fun w' (hb : Below W.heap.size W w') => spec_DrawSetAttr A0 n0 c0 l0 w' (hS0.mono mByt hb) hc hl0
    clear hS0 hl0
    go_enter Try.func6, Try.ntmps6
    go_wp2_with fail
    refine (laws_big_f A0 n0 c0 _ hc).mono ?_; rintro e w0 ⟨rfl, rfl⟩
    have HB := Lib.hid (Below.refl W.heap.size W)
    go_upto_region 3 with fail
    go_cut [3, 4] from 15 to 19 (fun sa sb w' => ∃ (a : Fil) (A3 : Option Addr) (n3 c3 : Nat) (b : Fil) (A4 : Option Addr) (n4 c4 : Nat) (g3 g4 : Nat), sa = .pointer (some ⟨g3, 0, none⟩) ∧ sb = .pointer (some ⟨g4, 0, none⟩) ∧ w'.cell? ⟨g3, 0, none⟩ = some (.int .i64 a.id) ∧ w'.cell? ⟨g3, 1, none⟩ = some (.int .i64 a.owner) ∧ w'.cell? ⟨g3, 2, none⟩ = some (.bool a.shared) ∧ w'.cell? ⟨g3, 3, none⟩ = some (.int .i64 a.link) ∧ w'.cell? ⟨g3, 4, none⟩ = some (.slice A3 n3 c3) ∧ w'.cell? ⟨g4, 0, none⟩ = some (.int .i64 b.id) ∧ w'.cell? ⟨g4, 1, none⟩ = some (.int .i64 b.owner) ∧ w'.cell? ⟨g4, 2, none⟩ = some (.bool b.shared) ∧ w'.cell? ⟨g4, 3, none⟩ = some (.int .i64 b.link) ∧ w'.cell? ⟨g4, 4, none⟩ = some (.slice A4 n4 c4) ∧ Sl 4 RAtr w' A3 n3 a.attrs ∧ Sl 4 RAtr w' A4 n4 b.attrs ∧ n3 ≤ 6 ∧ n4 ≤ 6 ∧ smallA a.attrs ∧ smallA b.attrs ∧ Below W.heap.size W w')
    case first =>
      go_wp2_with fail
      refine (HD.out).mono ?_; rintro e w1 ⟨f, A, n, c, f', A', n', c', rfl, hr, hr', hn6, hn6', hsm, hsm', hb1⟩
      have HX := Lib.hid (And.intro (hr.sl (R := RAtr) encAtr (fun _ => rfl)) (And.intro (hr'.sl (R := RAtr) encAtr (fun _ => rfl)) hb1))
      clear hr hr' hb1 HD HD2 HD3
      go_wp2_with fail
      go_meet
      exact ⟨f, A, n, c, f', A', n', c', w1.heap.size, w1.heap.size + 1, rfl, rfl, by go_simp, by go_simp, by go_simp, by go_simp, by go_simp, by go_simp, by go_simp, by go_simp, by go_simp, by go_simp, HX.out.1.mono mAtr (by go_grown), HX.out.2.1.mono mAtr (by go_grown), hn6, hn6', hsm, hsm', ex_trans HX.out.2.2 (by go_grown)⟩
    case rest =>
      generalize wc = W3 at *
      obtain ⟨a, A3, n3, c3, b, A4, n4, c4, g3, g4, rfl, rfl, p0, p1, p2, p3, p4, u0, u1, u2, u3, u4, hS3, hS4, hn3, hn4, hsm3, hsm4, hK⟩ := hcut
      replace HB := Lib.hid (ex_trans HB.out hK)
      clear hK
      have HS3 := Lib.hid hS3
      have HS4 := Lib.hid hS4
      have HO3 := Lib.hid (show a.ok 1073741824 from ⟨by have := hS3.len; omega, fun x hx => ⟨Nat.le_trans (hsm3 x hx).1 (by omega), Nat.le_trans (hsm3 x hx).2 (by omega)⟩⟩)
      have HO4 := Lib.hid (show b.ok 1073741824 from ⟨by have := hS4.len; omega, fun x hx => ⟨Nat.le_trans (hsm4 x hx).1 (by omega), Nat.le_trans (hsm4 x hx).2 (by omega)⟩⟩)
      clear hS3 hS4 hsm3 hsm4
      have hlen3 := HS3.out.len
      have hlen4 := HS4.out.len
      have HLL := Lib.hid (show (chgL a b).length ≤ 12 from Nat.le_trans (chgL_len a b) (by omega))
      clear hlen3 hlen4
      have HI := Lib.hid fun w (h1 : Sl 4 RAtr w A3 n3 a.attrs) (h2 : Sl 4 RAtr w A4 n4 b.attrs) => impl_ChangedAttrs a A3 n3 c3 b A4 n4 c4 w h1 h2 (by omega) (by omega)
      have HSP := Lib.hid fun w (h1 : Sl 4 RAtr w A3 n3 a.attrs) (h2 : Sl 4 RAtr w A4 n4 b.attrs) => spec_ChangedAttrs a A3 n3 c3 b A4 n4 c4 w h1 h2 (by omega) (by omega)
      have HBA := Lib.hid fun w (h1 : Sl 4 RAtr w A3 n3 a.attrs) (h2 : Sl 4 RAtr w A4 n4 b.attrs) => impl_ChangedAttrs b A4 n4 c4 a A3 n3 c3 w h2 h1 (by omega) (by omega)
      have HAA := Lib.hid fun w (h1 : Sl 4 RAtr w A3 n3 a.attrs) => impl_ChangedAttrs a A3 n3 c3 a A3 n3 c3 w h1 h1 (by omega) (by omega)
      simp only [chg_comm b a] at HBA
      simp only [chg_self] at HAA
      obtain ⟨L, hL⟩ : ∃ L, L = chgL a b := ⟨_, rfl⟩
      simp only [← hL] at HI HSP HBA HLL
      obtain ⟨q, hq⟩ : ∃ q, q = L.length := ⟨_, rfl⟩
      have HQ := Lib.hid hq.symm
      have hq12 : q ≤ 12 := by rw [hq]; exact HLL.out
      clear hL hq HLL
      go_upto_region 4 with fail
      go_cut [5] from 20 to 22 (fun s5 w' => ∃ (A5 : Option Addr) (c5 : Nat), s5 = .slice A5 q c5 ∧ Sl 1 RStr w' A5 q L ∧ Below W3.heap.size W3 w')
      case first =>
        go_wp2_with fail
        refine (HI.out _ HS3.out HS4.out).mono (fun e w1 h => ?_)
        obtain ⟨A5, c5, rfl, hr, hb1⟩ := NewRow.strs HQ.out h
        have HX := Lib.hid (And.intro hr hb1)
        clear hr hb1 h
        go_wp2_with fail
        go_meet
        exact ⟨A5, c5, rfl, HX.out.1, HX.out.2⟩
      case rest =>
        generalize wc = W4 at *
        obtain ⟨A5, c5, rfl, hS5, hK⟩ := hcut
        replace HB := Lib.hid (ex_trans HB.out hK)
        replace p0 := keep_cell hK p0
        replace p1 := keep_cell hK p1
        replace p2 := keep_cell hK p2
        replace p3 := keep_cell hK p3
        replace p4 := keep_cell hK p4
        replace u0 := keep_cell hK u0
        replace u1 := keep_cell hK u1
        replace u2 := keep_cell hK u2
        replace u3 := keep_cell hK u3
        replace u4 := keep_cell hK u4
        replace HS3 := Lib.hid (HS3.out.mono mAtr hK)
        replace HS4 := Lib.hid (HS4.out.mono mAtr hK)
        clear hK
        have HS5 := Lib.hid hS5
        clear hS5 HI
        go_upto_region 5 with fail
        go_cut [6, 7] from 23 to 27 (fun sa sb w' => ∃ (c : Fil) (A6 : Option Addr) (n6 c6 : Nat) (d : Fil) (A7 : Option Addr) (n7 c7 : Nat) (g6 g7 : Nat), sa = .pointer (some ⟨g6, 0, none⟩) ∧ sb = .pointer (some ⟨g7, 0, none⟩) ∧ w'.cell? ⟨g6, 0, none⟩ = some (.int .i64 c.id) ∧ w'.cell? ⟨g6, 1, none⟩ = some (.int .i64 c.owner) ∧ w'.cell? ⟨g6, 2, none⟩ = some (.bool c.shared) ∧ w'.cell? ⟨g6, 3, none⟩ = some (.int .i64 c.link) ∧ w'.cell? ⟨g6, 4, none⟩ = some (.slice A6 n6 c6) ∧ w'.cell? ⟨g7, 0, none⟩ = some (.int .i64 d.id) ∧ w'.cell? ⟨g7, 1, none⟩ = some (.int .i64 d.owner) ∧ w'.cell? ⟨g7, 2, none⟩ = some (.bool d.shared) ∧ w'.cell? ⟨g7, 3, none⟩ = some (.int .i64 d.link) ∧ w'.cell? ⟨g7, 4, none⟩ = some (.slice A7 n7 c7) ∧ Sl 4 RAtr w' A6 n6 c.attrs ∧ Sl 4 RAtr w' A7 n7 d.attrs ∧ n6 ≤ 6 ∧ n7 ≤ 6 ∧ smallA c.attrs ∧ smallA d.attrs ∧ Below W4.heap.size W4 w')
        case first =>
          go_wp2_with fail
          refine (HD2.out _ HB.out).mono ?_; rintro e w1 ⟨f, A, n, c, f', A', n', c', rfl, hr, hr', hn6, hn6', hsm, hsm', hb1⟩
          have HX := Lib.hid (And.intro (hr.sl (R := RAtr) encAtr (fun _ => rfl)) (And.intro (hr'.sl (R := RAtr) encAtr (fun _ => rfl)) hb1))
          clear hr hr' hb1 HD HD2 HD3 p0 p1 p2 p3 p4 u0 u1 u2 u3 u4
          go_wp2_with fail
          go_meet
          exact ⟨f, A, n, c, f', A', n', c', w1.heap.size, w1.heap.size + 1, rfl, rfl, by go_simp, by go_simp, by go_simp, by go_simp, by go_simp, by go_simp, by go_simp, by go_simp, by go_simp, by go_simp, HX.out.1.mono mAtr (by go_grown), HX.out.2.1.mono mAtr (by go_grown), hn6, hn6', hsm, hsm', ex_trans HX.out.2.2 (by go_grown)⟩
        case rest =>
          generalize wc = W5 at *
          obtain ⟨c, A6, n6, c6, d, A7, n7, c7, g6, g7, rfl, rfl, r0, r1, r2, r3, r4, s0, s1, s2, s3, s4, hS6, hS7, hn6, hn7, hsm6, hsm7, hK⟩ := hcut
          replace HB := Lib.hid (ex_trans HB.out hK)
          replace p0 := keep_cell hK p0
          replace p1 := keep_cell hK p1
          replace p2 := keep_cell hK p2
          replace p3 := keep_cell hK p3
          replace p4 := keep_cell hK p4
          replace u0 := keep_cell hK u0
          replace u1 := keep_cell hK u1
          replace u2 := keep_cell hK u2
          replace u3 := keep_cell hK u3
          replace u4 := keep_cell hK u4
          replace HS3 := Lib.hid (HS3.out.mono mAtr hK)
          replace HS4 := Lib.hid (HS4.out.mono mAtr hK)
          replace HS5 := Lib.hid (HS5.out.mono mStr hK)
          clear hK
          have HS6 := Lib.hid hS6
          have HS7 := Lib.hid hS7
          have HO6 := Lib.hid (show c.ok 1073741824 from ⟨by have := hS6.len; omega, fun x hx => ⟨Nat.le_trans (hsm6 x hx).1 (by omega), Nat.le_trans (hsm6 x hx).2 (by omega)⟩⟩)
          have HO7 := Lib.hid (show d.ok 1073741824 from ⟨by have := hS7.len; omega, fun x hx => ⟨Nat.le_trans (hsm7 x hx).1 (by omega), Nat.le_trans (hsm7 x hx).2 (by omega)⟩⟩)
          clear hS6 hS7 hsm6 hsm7
          have HEQ := Lib.hid fun w (h1 : Sl 4 RAtr w A6 n6 c.attrs) (h2 : Sl 4 RAtr w A7 n7 d.attrs) => impl_EqualFiles c d A6 n6 c6 A7 n7 c7 w h1 h2 HO6.out HO7.out
          have HSF := Lib.hid fun w (h1 : Sl 4 RAtr w A6 n6 c.attrs) (h2 : Sl 4 RAtr w A7 n7 d.attrs) => laws_sameFile c d A6 n6 c6 A7 n7 c7 w h1 h2 (by omega) (by omega)
          obtain ⟨ee, hee⟩ : ∃ ee, ee = c.eqb d := ⟨_, rfl⟩
          simp only [← hee] at HEQ HSF
          clear hee
          go_upto_region 6 with fail
          go_cut [8, 9, 10] from 28 to 33 (fun s8 s9 s10 w' => ∃ (f : Fil) (A8 : Option Addr) (n8 c8 : Nat) (nm : ByteArray) (vk vi : Int) (vs : ByteArray) (g8 g10 : Nat), s8 = .pointer (some ⟨g8, 0, none⟩) ∧ s9 = .string nm ∧ s10 = .pointer (some ⟨g10, 0, none⟩) ∧ w'.cell? ⟨g8, 0, none⟩ = some (.int .i64 f.id) ∧ w'.cell? ⟨g8, 1, none⟩ = some (.int .i64 f.owner) ∧ w'.cell? ⟨g8, 2, none⟩ = some (.bool f.shared) ∧ w'.cell? ⟨g8, 3, none⟩ = some (.int .i64 f.link) ∧ w'.cell? ⟨g8, 4, none⟩ = some (.slice A8 n8 c8) ∧ w'.cell? ⟨g10, 0, none⟩ = some (.int .i64 vk) ∧ w'.cell? ⟨g10, 1, none⟩ = some (.int .i64 vi) ∧ w'.cell? ⟨g10, 2, none⟩ = some (.string vs) ∧ Sl 4 RAtr w' A8 n8 f.attrs ∧ n8 ≤ 5 ∧ Below W5.heap.size W5 w')
          case first =>
            go_wp2_with fail
            refine (HD3.out _ HB.out).mono ?_; rintro e w1 ⟨f, A8, n8, c8, nm, ⟨vk, vi, vs⟩, rfl, hU, hn8, hsm, hnm, hv, hb1⟩
            have HX := Lib.hid (And.intro hU hb1)
            clear hU hb1 HD3 hsm hnm hv p0 p1 p2 p3 p4 u0 u1 u2 u3 u4 r0 r1 r2 r3 r4 s0 s1 s2 s3 s4
            go_wp2_with fail
            go_meet
            exact ⟨f, A8, n8, c8, nm, vk, vi, vs, w1.heap.size, w1.heap.size + 1, rfl, rfl, rfl, by go_simp, by go_simp, by go_simp, by go_simp, by go_simp, by go_simp, by go_simp, by go_simp, HX.out.1.mono mAtr (by go_grown), hn8, ex_trans HX.out.2 (by go_grown)⟩
          case rest =>
            generalize wc = W6 at *
            obtain ⟨f, A8, n8, c8, nm, vk, vi, vs, g8, g10, rfl, rfl, rfl, t0, t1, t2, t3, t4, v0, v1, v2, hU, hn8, hK⟩ := hcut
            replace HB := Lib.hid (ex_trans HB.out hK)
            replace p0 := keep_cell hK p0
            replace p1 := keep_cell hK p1
            replace p2 := keep_cell hK p2
            replace p3 := keep_cell hK p3
            replace p4 := keep_cell hK p4
            replace u0 := keep_cell hK u0
            replace u1 := keep_cell hK u1
            replace u2 := keep_cell hK u2
            replace u3 := keep_cell hK u3
            replace u4 := keep_cell hK u4
            replace r0 := keep_cell hK r0
            replace r1 := keep_cell hK r1
            replace r2 := keep_cell hK r2
            replace r3 := keep_cell hK r3
            replace r4 := keep_cell hK r4
            replace s0 := keep_cell hK s0
            replace s1 := keep_cell hK s1
            replace s2 := keep_cell hK s2
            replace s3 := keep_cell hK s3
            replace s4 := keep_cell hK s4
            replace HS3 := Lib.hid (HS3.out.mono mAtr hK)
            replace HS4 := Lib.hid (HS4.out.mono mAtr hK)
            replace HS5 := Lib.hid (HS5.out.mono mStr hK)
            replace HS6 := Lib.hid (HS6.out.mono mAtr hK)
            replace HS7 := Lib.hid (HS7.out.mono mAtr hK)
            clear hK
            have HU := Lib.hid hU
            have hlen8 := hU.len
            have HST := Lib.hid fun w (h : Sl 4 RAtr w A8 n8 f.attrs) => spec_SetAttr f A8 n8 c8 nm ⟨vk, vi, vs⟩ w h (by omega)
            have HCH := Lib.hid (chg_set f nm ⟨vk, vi, vs⟩)
            have hgl : (setA f nm ⟨vk, vi, vs⟩).attrs.length ≤ 6 := Nat.le_trans (setL_len f.attrs nm ⟨vk, vi, vs⟩) (by omega)
            obtain ⟨x, hx⟩ : ∃ x, x = setA f nm ⟨vk, vi, vs⟩ := ⟨_, rfl⟩
            rw [← hx] at HST HCH hgl
            obtain ⟨nx, hnx⟩ : ∃ nx, nx = x.attrs.length := ⟨_, rfl⟩
            have HNX := Lib.hid hnx
            rw [← hnx] at hgl
            clear hU hlen8 hx hnx
            have HCI := Lib.hid fun w (B : Option Addr) (d : Nat) (h1 : Sl 4 RAtr w A8 n8 f.attrs) (h2 : Sl 4 RAtr w B nx x.attrs) => impl_ChangedAttrs f A8 n8 c8 x B nx d w h1 h2 (by omega) (by omega)
            have HCS := Lib.hid fun w (B : Option Addr) (d : Nat) (h1 : Sl 4 RAtr w A8 n8 f.attrs) (h2 : Sl 4 RAtr w B nx x.attrs) => spec_ChangedAttrs f A8 n8 c8 x B nx d w h1 h2 (by omega) (by omega)
            have HG1 := Lib.hid fun w (h1 : Sl 4 RAtr w A8 n8 f.attrs) => spec_GetAttr f A8 n8 c8 nm w h1 (by omega)
            have HG2 := Lib.hid fun w (B : Option Addr) (d : Nat) (h2 : Sl 4 RAtr w B nx x.attrs) => spec_GetAttr x B nx d nm w h2 (by omega)
            obtain ⟨L2, hL2⟩ : ∃ L2, L2 = chgL f x := ⟨_, rfl⟩
            simp only [← hL2] at HCI HCS HCH
            obtain ⟨q2, hq2⟩ : ∃ q2, q2 = L2.length := ⟨_, rfl⟩
            have HQ2 := Lib.hid hq2.symm
            obtain ⟨dd, hdd⟩ : ∃ dd, dd = difA f.attrs x.attrs nm := ⟨_, rfl⟩
            rw [← hdd] at HCH
            have hq21 : q2 ≤ 1 := by rw [hq2, HCH.out]; split <;> simp
            unfold difA at hdd
            obtain ⟨⟨yk, yi, ys⟩, hy⟩ : ∃ y, y = getA f.attrs nm := ⟨_, rfl⟩
            obtain ⟨⟨zk, zi, zs⟩, hz⟩ : ∃ z, z = getA x.attrs nm := ⟨_, rfl⟩
            rw [← hy] at HG1 hdd
            rw [← hz] at HG2 hdd
            have HDD := Lib.hid hdd
            clear hL2 hq2 hdd hy hz
            go_upto_region 7 with fail
            go_cut [11] from 34 to 39 (fun s11 w' => ∃ (A11 : Option Addr) (c11 : Nat), s11 = .slice A11 q2 c11 ∧ Sl 1 RStr w' A11 q2 L2 ∧ Below W6.heap.size W6 w')
            case first =>
              refine wp_region_held_drew (S := (fun w' => w'.cell? ⟨g8, 0, none⟩ = some (.int .i64 f.id) ∧ w'.cell? ⟨g8, 1, none⟩ = some (.int .i64 f.owner) ∧ w'.cell? ⟨g8, 2, none⟩ = some (.bool f.shared) ∧ w'.cell? ⟨g8, 3, none⟩ = some (.int .i64 f.link) ∧ w'.cell? ⟨g8, 4, none⟩ = some (.slice A8 n8 c8) ∧ w'.cell? ⟨g10, 0, none⟩ = some (.int .i64 vk) ∧ w'.cell? ⟨g10, 1, none⟩ = some (.int .i64 vi) ∧ w'.cell? ⟨g10, 2, none⟩ = some (.string vs) ∧ Below W6.heap.size W6 w')) (by kernel_rfl) (by (try dsimp only); exact ⟨t0, t1, t2, t3, t4, v0, v1, v2, (Below.refl _ _).drew⟩) (fun hHeld => ?_)
              first | (refine held_take 0 rfl (by kernel_rfl) (by kernel_rfl) (by kernel_rfl) (by rfl) (fun _ _ _ h => h) (by assumption) (by intro w hSw; (try dsimp only at hSw); go_simp; first | done | with_reducible rfl) ?_) | (refine held_skip 0 rfl (by kernel_rfl) (by kernel_rfl) (by kernel_rfl) (by rfl) (fun _ _ _ h => h) (by assumption) ?_)
              simp only [Act.put, List.setIfInBounds_toArray, List.set_cons_zero, List.set_cons_succ]
              first | (refine held_take 1 rfl (by kernel_rfl) (by kernel_rfl) (by kernel_rfl) (by rfl) (fun _ _ _ h => h) (by assumption) (by intro w hSw; (try dsimp only at hSw); go_simp; first | done | with_reducible rfl) ?_) | (refine held_skip 1 rfl (by kernel_rfl) (by kernel_rfl) (by kernel_rfl) (by rfl) (fun _ _ _ h => h) (by assumption) ?_)
              simp only [Act.put, List.setIfInBounds_toArray, List.set_cons_zero, List.set_cons_succ]
              first | (refine held_take 2 rfl (by kernel_rfl) (by kernel_rfl) (by kernel_rfl) (by rfl) (fun _ _ _ h => h) (by assumption) (by intro w hSw; (try dsimp only at hSw); go_simp; first | done | with_reducible rfl) ?_) | (refine held_skip 2 rfl (by kernel_rfl) (by kernel_rfl) (by kernel_rfl) (by rfl) (fun _ _ _ h => h) (by assumption) ?_)
              simp only [Act.put, List.setIfInBounds_toArray, List.set_cons_zero, List.set_cons_succ]
              first | (refine held_take 3 rfl (by kernel_rfl) (by kernel_rfl) (by kernel_rfl) (by rfl) (fun _ _ _ h => h) (by assumption) (by intro w hSw; (try dsimp only at hSw); go_simp; first | done | with_reducible rfl) ?_) | (refine held_skip 3 rfl (by kernel_rfl) (by kernel_rfl) (by kernel_rfl) (by rfl) (fun _ _ _ h => h) (by assumption) ?_)
              simp only [Act.put, List.setIfInBounds_toArray, List.set_cons_zero, List.set_cons_succ]
              refine held_one 4 (by kernel_rfl) rfl (fun K hK => ?_)
              go_simp
              go_at_call 23
              refine (HST.out _ (HU.out.mono mAtr hHeld.2.2.2.2.2.2.2.2)).mono ?_; rintro e wq1 ⟨B1, d1, rfl, hr1, hbq1⟩; rw [← HNX.out] at hr1 ⊢
              have HR1 := Lib.hid (hr1.sl (R := RAtr) encAtr (fun _ => rfl))
              clear hr1
              go_wp2_with fail
              refine hK.out _ _ (by (try dsimp only); exact ⟨keep_cell hbq1 hHeld.1, keep_cell hbq1 hHeld.2.1, keep_cell hbq1 hHeld.2.2.1, keep_cell hbq1 hHeld.2.2.2.1, keep_cell hbq1 hHeld.2.2.2.2.1, keep_cell hbq1 hHeld.2.2.2.2.2.1, keep_cell hbq1 hHeld.2.2.2.2.2.2.1, keep_cell hbq1 hHeld.2.2.2.2.2.2.2.1, ex_trans hHeld.2.2.2.2.2.2.2.2 hbq1⟩) (fun hNew => ?_)
              clear hK K hHeld
              have hHeld := hNew
              clear hNew
              try simp only [Act.put, List.setIfInBounds_toArray, List.set_cons_zero, List.set_cons_succ]
              refine held_one 5 (by kernel_rfl) rfl (fun K hK => ?_)
              go_simp
              go_at_call 29
              refine (HCI.out _ B1 d1 (HU.out.mono mAtr hHeld.2.2.2.2.2.2.2.2) HR1.out).mono (fun e wq2 h => ?_)
              obtain ⟨R2, d2, rfl, hr2, hbq2⟩ := NewRow.strs HQ2.out h
              clear h
              have HR2 := Lib.hid hr2
              clear hr2
              go_wp2_with fail
              refine hK.out _ _ (by (try dsimp only); exact ⟨keep_cell hbq2 hHeld.1, keep_cell hbq2 hHeld.2.1, keep_cell hbq2 hHeld.2.2.1, keep_cell hbq2 hHeld.2.2.2.1, keep_cell hbq2 hHeld.2.2.2.2.1, keep_cell hbq2 hHeld.2.2.2.2.2.1, keep_cell hbq2 hHeld.2.2.2.2.2.2.1, keep_cell hbq2 hHeld.2.2.2.2.2.2.2.1, ex_trans hHeld.2.2.2.2.2.2.2.2 hbq2⟩) (fun hNew => ?_)
              clear hK K hHeld
              have hHeld := hNew
              clear hNew
              try simp only [Act.put, List.setIfInBounds_toArray, List.set_cons_zero, List.set_cons_succ]
              first | (refine held_take 6 rfl (by kernel_rfl) (by kernel_rfl) (by kernel_rfl) (by rfl) (fun _ _ _ h => h) (by assumption) (by intro w hSw; (try dsimp only at hSw); go_simp; first | done | with_reducible rfl) ?_) | (refine held_skip 6 rfl (by kernel_rfl) (by kernel_rfl) (by kernel_rfl) (by rfl) (fun _ _ _ h => h) (by assumption) ?_)
              simp only [Act.put, List.setIfInBounds_toArray, List.set_cons_zero, List.set_cons_succ]
              refine wpAnyH_done (by kernel_rfl) ?_ _
              have hB := hHeld.2.2.2.2.2.2.2.2
              clear hHeld
              go_wp2_with fail
              go_meet
              exact ⟨R2, d2, rfl, HR2.out, hB⟩
            case rest =>
              generalize wc = W7 at *
              obtain ⟨A11, c11, rfl, hS11, hK⟩ := hcut
              replace HB := Lib.hid (ex_trans HB.out hK)
              replace p0 := keep_cell hK p0
              replace p1 := keep_cell hK p1
              replace p2 := keep_cell hK p2
              replace p3 := keep_cell hK p3
              replace p4 := keep_cell hK p4
              replace u0 := keep_cell hK u0
              replace u1 := keep_cell hK u1
              replace u2 := keep_cell hK u2
              replace u3 := keep_cell hK u3
              replace u4 := keep_cell hK u4
              replace r0 := keep_cell hK r0
              replace r1 := keep_cell hK r1
              replace r2 := keep_cell hK r2
              replace r3 := keep_cell hK r3
              replace r4 := keep_cell hK r4
              replace s0 := keep_cell hK s0
              replace s1 := keep_cell hK s1
              replace s2 := keep_cell hK s2
              replace s3 := keep_cell hK s3
              replace s4 := keep_cell hK s4
              replace t0 := keep_cell hK t0
              replace t1 := keep_cell hK t1
              replace t2 := keep_cell hK t2
              replace t3 := keep_cell hK t3
              replace t4 := keep_cell hK t4
              replace v0 := keep_cell hK v0
              replace v1 := keep_cell hK v1
              replace v2 := keep_cell hK v2
              replace HS3 := Lib.hid (HS3.out.mono mAtr hK)
              replace HS4 := Lib.hid (HS4.out.mono mAtr hK)
              replace HS5 := Lib.hid (HS5.out.mono mStr hK)
              replace HS6 := Lib.hid (HS6.out.mono mAtr hK)
              replace HS7 := Lib.hid (HS7.out.mono mAtr hK)
              replace HU := Lib.hid (HU.out.mono mAtr hK)
              clear hK
              have HS11 := Lib.hid hS11
              clear hS11 HCI
              go_upto_region 8 with fail
              go_cut [48] from 40 to 48 (fun s48 w' => s48 = .bool false ∧ Below W7.heap.size W7 w')
              case first =>
                refine wp_region_held_drew (S := (fun w' => w'.cell? ⟨g8, 0, none⟩ = some (.int .i64 f.id) ∧ w'.cell? ⟨g8, 1, none⟩ = some (.int .i64 f.owner) ∧ w'.cell? ⟨g8, 2, none⟩ = some (.bool f.shared) ∧ w'.cell? ⟨g8, 3, none⟩ = some (.int .i64 f.link) ∧ w'.cell? ⟨g8, 4, none⟩ = some (.slice A8 n8 c8) ∧ w'.cell? ⟨g10, 0, none⟩ = some (.int .i64 vk) ∧ w'.cell? ⟨g10, 1, none⟩ = some (.int .i64 vi) ∧ w'.cell? ⟨g10, 2, none⟩ = some (.string vs) ∧ Below W7.heap.size W7 w')) (by kernel_rfl) (by (try dsimp only); exact ⟨t0, t1, t2, t3, t4, v0, v1, v2, (Below.refl _ _).drew⟩) (fun hHeld => ?_)
                first | (refine held_take 0 rfl (by kernel_rfl) (by kernel_rfl) (by kernel_rfl) (by rfl) (fun _ _ _ h => h) (by assumption) (by intro w hSw; (try dsimp only at hSw); go_simp; first | done | with_reducible rfl) ?_) | (refine held_skip 0 rfl (by kernel_rfl) (by kernel_rfl) (by kernel_rfl) (by rfl) (fun _ _ _ h => h) (by assumption) ?_)
                simp only [Act.put, List.setIfInBounds_toArray, List.set_cons_zero, List.set_cons_succ]
                first | (refine held_take 1 rfl (by kernel_rfl) (by kernel_rfl) (by kernel_rfl) (by rfl) (fun _ _ _ h => h) (by assumption) (by intro w hSw; (try dsimp only at hSw); go_simp; first | done | with_reducible rfl) ?_) | (refine held_skip 1 rfl (by kernel_rfl) (by kernel_rfl) (by kernel_rfl) (by rfl) (fun _ _ _ h => h) (by assumption) ?_)
                simp only [Act.put, List.setIfInBounds_toArray, List.set_cons_zero, List.set_cons_succ]
                first | (refine held_take 2 rfl (by kernel_rfl) (by kernel_rfl) (by kernel_rfl) (by rfl) (fun _ _ _ h => h) (by assumption) (by intro w hSw; (try dsimp only at hSw); go_simp; first | done | with_reducible rfl) ?_) | (refine held_skip 2 rfl (by kernel_rfl) (by kernel_rfl) (by kernel_rfl) (by rfl) (fun _ _ _ h => h) (by assumption) ?_)
                simp only [Act.put, List.setIfInBounds_toArray, List.set_cons_zero, List.set_cons_succ]
                first | (refine held_take 3 rfl (by kernel_rfl) (by kernel_rfl) (by kernel_rfl) (by rfl) (fun _ _ _ h => h) (by assumption) (by intro w hSw; (try dsimp only at hSw); go_simp; first | done | with_reducible rfl) ?_) | (refine held_skip 3 rfl (by kernel_rfl) (by kernel_rfl) (by kernel_rfl) (by rfl) (fun _ _ _ h => h) (by assumption) ?_)
                simp only [Act.put, List.setIfInBounds_toArray, List.set_cons_zero, List.set_cons_succ]
                first | (refine held_take 4 rfl (by kernel_rfl) (by kernel_rfl) (by kernel_rfl) (by rfl) (fun _ _ _ h => h) (by assumption) (by intro w hSw; (try dsimp only at hSw); go_simp; first | done | with_reducible rfl) ?_) | (refine held_skip 4 rfl (by kernel_rfl) (by kernel_rfl) (by kernel_rfl) (by rfl) (fun _ _ _ h => h) (by assumption) ?_)
                simp only [Act.put, List.setIfInBounds_toArray, List.set_cons_zero, List.set_cons_succ]
                refine held_one 5 (by kernel_rfl) rfl (fun K hK => ?_)
                go_simp
                go_at_call 23
                refine (HST.out _ (HU.out.mono mAtr hHeld.2.2.2.2.2.2.2.2)).mono ?_; rintro e wq1 ⟨B1, d1, rfl, hr1, hbq1⟩; rw [← HNX.out] at hr1 ⊢
                have HR1 := Lib.hid (hr1.sl (R := RAtr) encAtr (fun _ => rfl))
                clear hr1
                go_wp2_with fail
                refine hK.out _ _ (by (try dsimp only); exact ⟨keep_cell hbq1 hHeld.1, keep_cell hbq1 hHeld.2.1, keep_cell hbq1 hHeld.2.2.1, keep_cell hbq1 hHeld.2.2.2.1, keep_cell hbq1 hHeld.2.2.2.2.1, keep_cell hbq1 hHeld.2.2.2.2.2.1, keep_cell hbq1 hHeld.2.2.2.2.2.2.1, keep_cell hbq1 hHeld.2.2.2.2.2.2.2.1, ex_trans hHeld.2.2.2.2.2.2.2.2 hbq1⟩) (fun hNew => ?_)
                clear hK K hHeld
                have hHeld := hNew
                clear hNew
                try simp only [Act.put, List.setIfInBounds_toArray, List.set_cons_zero, List.set_cons_succ]
                refine held_one 6 (by kernel_rfl) rfl (fun K hK => ?_)
                go_simp
                go_at_call 32
                refine (HCS.out _ B1 d1 (HU.out.mono mAtr hHeld.2.2.2.2.2.2.2.2) HR1.out).mono (fun e wq2 h => ?_)
                obtain ⟨R2, d2, rfl, hr2, hbq2⟩ := NewRow.strs HQ2.out h
                clear h
                have HR2 := Lib.hid hr2
                clear hr2
                go_wp2_with fail
                refine hK.out _ _ (by (try dsimp only); exact ⟨keep_cell hbq2 hHeld.1, keep_cell hbq2 hHeld.2.1, keep_cell hbq2 hHeld.2.2.1, keep_cell hbq2 hHeld.2.2.2.1, keep_cell hbq2 hHeld.2.2.2.2.1, keep_cell hbq2 hHeld.2.2.2.2.2.1, keep_cell hbq2 hHeld.2.2.2.2.2.2.1, keep_cell hbq2 hHeld.2.2.2.2.2.2.2.1, ex_trans hHeld.2.2.2.2.2.2.2.2 hbq2⟩) (fun hNew => ?_)
                clear hK K hHeld
                have hHeld := hNew
                clear hNew
                try simp only [Act.put, List.setIfInBounds_toArray, List.set_cons_zero, List.set_cons_succ]
                refine held_one 7 (by kernel_rfl) rfl (fun K hK => ?_)
                go_simp
                go_at_call 31
                refine (texts_self A11 q2 c11 R2 d2 L2 _ (by omega) (HS11.out.mono mStr hHeld.2.2.2.2.2.2.2.2) HR2.out).mono ?_; rintro e wq3 ⟨rfl, hbq3⟩
                go_wp2_with fail
                refine hK.out _ _ (by (try dsimp only); exact ⟨keep_cell hbq3 hHeld.1, keep_cell hbq3 hHeld.2.1, keep_cell hbq3 hHeld.2.2.1, keep_cell hbq3 hHeld.2.2.2.1, keep_cell hbq3 hHeld.2.2.2.2.1, keep_cell hbq3 hHeld.2.2.2.2.2.1, keep_cell hbq3 hHeld.2.2.2.2.2.2.1, keep_cell hbq3 hHeld.2.2.2.2.2.2.2.1, ex_trans hHeld.2.2.2.2.2.2.2.2 hbq3⟩) (fun hNew => ?_)
                clear hK K hHeld
                have hHeld := hNew
                clear hNew
                try simp only [Act.put, List.setIfInBounds_toArray, List.set_cons_zero, List.set_cons_succ]
                first | (refine held_take 8 rfl (by kernel_rfl) (by kernel_rfl) (by kernel_rfl) (by rfl) (fun _ _ _ h => h) (by assumption) (by intro w hSw; (try dsimp only at hSw); go_simp; first | done | with_reducible rfl) ?_) | (refine held_skip 8 rfl (by kernel_rfl) (by kernel_rfl) (by kernel_rfl) (by rfl) (fun _ _ _ h => h) (by assumption) ?_)
                simp only [Act.put, List.setIfInBounds_toArray, List.set_cons_zero, List.set_cons_succ]
                refine wpAnyH_done (by kernel_rfl) ?_ _
                have hB := hHeld.2.2.2.2.2.2.2.2
                clear hHeld
                go_wp2_with fail
                go_meet
                exact ⟨rfl, hB⟩
              case rest =>
                generalize wc = W8 at *
                obtain ⟨rfl, hK⟩ := hcut
                replace HB := Lib.hid (ex_trans HB.out hK)
                replace p0 := keep_cell hK p0
                replace p1 := keep_cell hK p1
                replace p2 := keep_cell hK p2
                replace p3 := keep_cell hK p3
                replace p4 := keep_cell hK p4
                replace u0 := keep_cell hK u0
                replace u1 := keep_cell hK u1
                replace u2 := keep_cell hK u2
                replace u3 := keep_cell hK u3
                replace u4 := keep_cell hK u4
                replace r0 := keep_cell hK r0
                replace r1 := keep_cell hK r1
                replace r2 := keep_cell hK r2
                replace r3 := keep_cell hK r3
                replace r4 := keep_cell hK r4
                replace s0 := keep_cell hK s0
                replace s1 := keep_cell hK s1
                replace s2 := keep_cell hK s2
                replace s3 := keep_cell hK s3
                replace s4 := keep_cell hK s4
                replace t0 := keep_cell hK t0
                replace t1 := keep_cell hK t1
                replace t2 := keep_cell hK t2
                replace t3 := keep_cell hK t3
                replace t4 := keep_cell hK t4
                replace v0 := keep_cell hK v0
                replace v1 := keep_cell hK v1
                replace v2 := keep_cell hK v2
                replace HS3 := Lib.hid (HS3.out.mono mAtr hK)
                replace HS4 := Lib.hid (HS4.out.mono mAtr hK)
                replace HS5 := Lib.hid (HS5.out.mono mStr hK)
                replace HS6 := Lib.hid (HS6.out.mono mAtr hK)
                replace HS7 := Lib.hid (HS7.out.mono mAtr hK)
                replace HU := Lib.hid (HU.out.mono mAtr hK)
                replace HS11 := Lib.hid (HS11.out.mono mStr hK)
                clear hK
                clear HCS
                go_upto_region 10 with fail
                go_cut [12] from 49 to 58 (fun s12 w' => s12 = .bool dd ∧ Below W8.heap.size W8 w')
                case first =>
                  cases h1 : (yk == zk) with
                  | false =>
                    refine wp_region_held_drew (S := (fun w' => w'.cell? ⟨g8, 0, none⟩ = some (.int .i64 f.id) ∧ w'.cell? ⟨g8, 1, none⟩ = some (.int .i64 f.owner) ∧ w'.cell? ⟨g8, 2, none⟩ = some (.bool f.shared) ∧ w'.cell? ⟨g8, 3, none⟩ = some (.int .i64 f.link) ∧ w'.cell? ⟨g8, 4, none⟩ = some (.slice A8 n8 c8) ∧ w'.cell? ⟨g10, 0, none⟩ = some (.int .i64 vk) ∧ w'.cell? ⟨g10, 1, none⟩ = some (.int .i64 vi) ∧ w'.cell? ⟨g10, 2, none⟩ = some (.string vs) ∧ Below W8.heap.size W8 w')) (by kernel_rfl) (by (try dsimp only); exact ⟨t0, t1, t2, t3, t4, v0, v1, v2, (Below.refl _ _).drew⟩) (fun hHeld => ?_)
                    first | (refine held_take 0 rfl (by kernel_rfl) (by kernel_rfl) (by kernel_rfl) (by rfl) (fun _ _ _ h => h) (by assumption) (by intro w hSw; (try dsimp only at hSw); go_simp; first | done | with_reducible rfl) ?_) | (refine held_skip 0 rfl (by kernel_rfl) (by kernel_rfl) (by kernel_rfl) (by rfl) (fun _ _ _ h => h) (by assumption) ?_)
                    simp only [Act.put, List.setIfInBounds_toArray, List.set_cons_zero, List.set_cons_succ]
                    first | (refine held_take 1 rfl (by kernel_rfl) (by kernel_rfl) (by kernel_rfl) (by rfl) (fun _ _ _ h => h) (by assumption) (by intro w hSw; (try dsimp only at hSw); go_simp; first | done | with_reducible rfl) ?_) | (refine held_skip 1 rfl (by kernel_rfl) (by kernel_rfl) (by kernel_rfl) (by rfl) (fun _ _ _ h => h) (by assumption) ?_)
                    simp only [Act.put, List.setIfInBounds_toArray, List.set_cons_zero, List.set_cons_succ]
                    first | (refine held_take 3 rfl (by kernel_rfl) (by kernel_rfl) (by kernel_rfl) (by rfl) (fun _ _ _ h => h) (by assumption) (by intro w hSw; (try dsimp only at hSw); go_simp; first | done | with_reducible rfl) ?_) | (refine held_skip 3 rfl (by kernel_rfl) (by kernel_rfl) (by kernel_rfl) (by rfl) (fun _ _ _ h => h) (by assumption) ?_)
                    simp only [Act.put, List.setIfInBounds_toArray, List.set_cons_zero, List.set_cons_succ]
                    first | (refine held_take 4 rfl (by kernel_rfl) (by kernel_rfl) (by kernel_rfl) (by rfl) (fun _ _ _ h => h) (by assumption) (by intro w hSw; (try dsimp only at hSw); go_simp; first | done | with_reducible rfl) ?_) | (refine held_skip 4 rfl (by kernel_rfl) (by kernel_rfl) (by kernel_rfl) (by rfl) (fun _ _ _ h => h) (by assumption) ?_)
                    simp only [Act.put, List.setIfInBounds_toArray, List.set_cons_zero, List.set_cons_succ]
                    first | (refine held_take 5 rfl (by kernel_rfl) (by kernel_rfl) (by kernel_rfl) (by rfl) (fun _ _ _ h => h) (by assumption) (by intro w hSw; (try dsimp only at hSw); go_simp; first | done | with_reducible rfl) ?_) | (refine held_skip 5 rfl (by kernel_rfl) (by kernel_rfl) (by kernel_rfl) (by rfl) (fun _ _ _ h => h) (by assumption) ?_)
                    simp only [Act.put, List.setIfInBounds_toArray, List.set_cons_zero, List.set_cons_succ]
                    first | (refine held_take 7 rfl (by kernel_rfl) (by kernel_rfl) (by kernel_rfl) (by rfl) (fun _ _ _ h => h) (by assumption) (by intro w hSw; (try dsimp only at hSw); go_simp; first | done | with_reducible rfl) ?_) | (refine held_skip 7 rfl (by kernel_rfl) (by kernel_rfl) (by kernel_rfl) (by rfl) (fun _ _ _ h => h) (by assumption) ?_)
                    simp only [Act.put, List.setIfInBounds_toArray, List.set_cons_zero, List.set_cons_succ]
                    refine held_one 2 (by kernel_rfl) rfl (fun K hK => ?_)
                    go_simp
                    go_at_call 24
                    refine (HG1.out _ (HU.out.mono mAtr hHeld.2.2.2.2.2.2.2.2)).mono (fun e wq1 h => ?_)
                    obtain ⟨rfl, hbq1⟩ : e = .returned (.agg #[.int .i64 yk, .int .i64 yi, .string ys]) ∧ _ := h
                    go_wp2_with fail
                    refine hK.out _ _ (by (try dsimp only); exact ⟨keep_cell hbq1 hHeld.1, keep_cell hbq1 hHeld.2.1, keep_cell hbq1 hHeld.2.2.1, keep_cell hbq1 hHeld.2.2.2.1, keep_cell hbq1 hHeld.2.2.2.2.1, keep_cell hbq1 hHeld.2.2.2.2.2.1, keep_cell hbq1 hHeld.2.2.2.2.2.2.1, keep_cell hbq1 hHeld.2.2.2.2.2.2.2.1, ex_trans hHeld.2.2.2.2.2.2.2.2 hbq1⟩) (fun hNew => ?_)
                    clear hK K hHeld
                    have hHeld := hNew
                    clear hNew
                    try simp only [Act.put, List.setIfInBounds_toArray, List.set_cons_zero, List.set_cons_succ]
                    refine held_one 6 (by kernel_rfl) rfl (fun K hK => ?_)
                    go_simp
                    go_at_call 23
                    refine (HST.out _ (HU.out.mono mAtr hHeld.2.2.2.2.2.2.2.2)).mono ?_; rintro e wq2 ⟨B2, d2, rfl, hr2, hbq2⟩; rw [← HNX.out] at hr2 ⊢
                    have HR2 := Lib.hid (hr2.sl (R := RAtr) encAtr (fun _ => rfl))
                    clear hr2
                    go_wp2_with fail
                    refine hK.out _ _ (by (try dsimp only); exact ⟨keep_cell hbq2 hHeld.1, keep_cell hbq2 hHeld.2.1, keep_cell hbq2 hHeld.2.2.1, keep_cell hbq2 hHeld.2.2.2.1, keep_cell hbq2 hHeld.2.2.2.2.1, keep_cell hbq2 hHeld.2.2.2.2.2.1, keep_cell hbq2 hHeld.2.2.2.2.2.2.1, keep_cell hbq2 hHeld.2.2.2.2.2.2.2.1, ex_trans hHeld.2.2.2.2.2.2.2.2 hbq2⟩) (fun hNew => ?_)
                    clear hK K hHeld
                    have hHeld := hNew
                    clear hNew
                    try simp only [Act.put, List.setIfInBounds_toArray, List.set_cons_zero, List.set_cons_succ]
                    refine held_one 8 (by kernel_rfl) rfl (fun K hK => ?_)
                    go_simp
                    go_at_call 24
                    refine (HG2.out _ B2 d2 HR2.out).mono (fun e wq3 h => ?_)
                    obtain ⟨rfl, hbq3⟩ : e = .returned (.agg #[.int .i64 zk, .int .i64 zi, .string zs]) ∧ _ := h
                    go_wp2_with fail
                    refine hK.out _ _ (by (try dsimp only); exact ⟨keep_cell hbq3 hHeld.1, keep_cell hbq3 hHeld.2.1, keep_cell hbq3 hHeld.2.2.1, keep_cell hbq3 hHeld.2.2.2.1, keep_cell hbq3 hHeld.2.2.2.2.1, keep_cell hbq3 hHeld.2.2.2.2.2.1, keep_cell hbq3 hHeld.2.2.2.2.2.2.1, keep_cell hbq3 hHeld.2.2.2.2.2.2.2.1, ex_trans hHeld.2.2.2.2.2.2.2.2 hbq3⟩) (fun hNew => ?_)
                    clear hK K hHeld
                    have hHeld := hNew
                    clear hNew
                    try simp only [Act.put, List.setIfInBounds_toArray, List.set_cons_zero, List.set_cons_succ]
                    first | (refine held_take 9 rfl (by kernel_rfl) (by kernel_rfl) (by kernel_rfl) (by rfl) (fun _ _ _ h => h) (by assumption) (by intro w hSw; (try dsimp only at hSw); go_simp; first | done | with_reducible rfl) ?_) | (refine held_skip 9 rfl (by kernel_rfl) (by kernel_rfl) (by kernel_rfl) (by rfl) (fun _ _ _ h => h) (by assumption) ?_)
                    simp only [Act.put, List.setIfInBounds_toArray, List.set_cons_zero, List.set_cons_succ]
                    first | (refine held_take 10 rfl (by kernel_rfl) (by kernel_rfl) (by kernel_rfl) (by rfl) (fun _ _ _ h => h) (by assumption) (by intro w hSw; (try dsimp only at hSw); go_simp; first | done | with_reducible rfl) ?_) | (refine held_skip 10 rfl (by kernel_rfl) (by kernel_rfl) (by kernel_rfl) (by rfl) (fun _ _ _ h => h) (by assumption) ?_)
                    simp only [Act.put, List.setIfInBounds_toArray, List.set_cons_zero, List.set_cons_succ]
                    refine wpAnyH_done (by kernel_rfl) ?_ _
                    have hB := hHeld.2.2.2.2.2.2.2.2
                    clear hHeld
                    go_wp2_with fail
                    go_meet
                    exact ⟨by rw [HDD.out]; simp [Vl.eqb, eqS, h1], hB⟩
                  | true =>
                    cases h2 : (yi == zi) with
                    | false =>
                      refine wp_region_held_drew (S := (fun w' => w'.cell? ⟨g8, 0, none⟩ = some (.int .i64 f.id) ∧ w'.cell? ⟨g8, 1, none⟩ = some (.int .i64 f.owner) ∧ w'.cell? ⟨g8, 2, none⟩ = some (.bool f.shared) ∧ w'.cell? ⟨g8, 3, none⟩ = some (.int .i64 f.link) ∧ w'.cell? ⟨g8, 4, none⟩ = some (.slice A8 n8 c8) ∧ w'.cell? ⟨g10, 0, none⟩ = some (.int .i64 vk) ∧ w'.cell? ⟨g10, 1, none⟩ = some (.int .i64 vi) ∧ w'.cell? ⟨g10, 2, none⟩ = some (.string vs) ∧ Below W8.heap.size W8 w')) (by kernel_rfl) (by (try dsimp only); exact ⟨t0, t1, t2, t3, t4, v0, v1, v2, (Below.refl _ _).drew⟩) (fun hHeld => ?_)
                      first | (refine held_take 0 rfl (by kernel_rfl) (by kernel_rfl) (by kernel_rfl) (by rfl) (fun _ _ _ h => h) (by assumption) (by intro w hSw; (try dsimp only at hSw); go_simp; first | done | with_reducible rfl) ?_) | (refine held_skip 0 rfl (by kernel_rfl) (by kernel_rfl) (by kernel_rfl) (by rfl) (fun _ _ _ h => h) (by assumption) ?_)
                      simp only [Act.put, List.setIfInBounds_toArray, List.set_cons_zero, List.set_cons_succ]
                      first | (refine held_take 1 rfl (by kernel_rfl) (by kernel_rfl) (by kernel_rfl) (by rfl) (fun _ _ _ h => h) (by assumption) (by intro w hSw; (try dsimp only at hSw); go_simp; first | done | with_reducible rfl) ?_) | (refine held_skip 1 rfl (by kernel_rfl) (by kernel_rfl) (by kernel_rfl) (by rfl) (fun _ _ _ h => h) (by assumption) ?_)
                      simp only [Act.put, List.setIfInBounds_toArray, List.set_cons_zero, List.set_cons_succ]
                      first | (refine held_take 3 rfl (by kernel_rfl) (by kernel_rfl) (by kernel_rfl) (by rfl) (fun _ _ _ h => h) (by assumption) (by intro w hSw; (try dsimp only at hSw); go_simp; first | done | with_reducible rfl) ?_) | (refine held_skip 3 rfl (by kernel_rfl) (by kernel_rfl) (by kernel_rfl) (by rfl) (fun _ _ _ h => h) (by assumption) ?_)
                      simp only [Act.put, List.setIfInBounds_toArray, List.set_cons_zero, List.set_cons_succ]
                      first | (refine held_take 4 rfl (by kernel_rfl) (by kernel_rfl) (by kernel_rfl) (by rfl) (fun _ _ _ h => h) (by assumption) (by intro w hSw; (try dsimp only at hSw); go_simp; first | done | with_reducible rfl) ?_) | (refine held_skip 4 rfl (by kernel_rfl) (by kernel_rfl) (by kernel_rfl) (by rfl) (fun _ _ _ h => h) (by assumption) ?_)
                      simp only [Act.put, List.setIfInBounds_toArray, List.set_cons_zero, List.set_cons_succ]
                      first | (refine held_take 5 rfl (by kernel_rfl) (by kernel_rfl) (by kernel_rfl) (by rfl) (fun _ _ _ h => h) (by assumption) (by intro w hSw; (try dsimp only at hSw); go_simp; first | done | with_reducible rfl) ?_) | (refine held_skip 5 rfl (by kernel_rfl) (by kernel_rfl) (by kernel_rfl) (by rfl) (fun _ _ _ h => h) (by assumption) ?_)
                      simp only [Act.put, List.setIfInBounds_toArray, List.set_cons_zero, List.set_cons_succ]
                      first | (refine held_take 7 rfl (by kernel_rfl) (by kernel_rfl) (by kernel_rfl) (by rfl) (fun _ _ _ h => h) (by assumption) (by intro w hSw; (try dsimp only at hSw); go_simp; first | done | with_reducible rfl) ?_) | (refine held_skip 7 rfl (by kernel_rfl) (by kernel_rfl) (by kernel_rfl) (by rfl) (fun _ _ _ h => h) (by assumption) ?_)
                      simp only [Act.put, List.setIfInBounds_toArray, List.set_cons_zero, List.set_cons_succ]
                      refine held_one 2 (by kernel_rfl) rfl (fun K hK => ?_)
                      go_simp
                      go_at_call 24
                      refine (HG1.out _ (HU.out.mono mAtr hHeld.2.2.2.2.2.2.2.2)).mono (fun e wq1 h => ?_)
                      obtain ⟨rfl, hbq1⟩ : e = .returned (.agg #[.int .i64 yk, .int .i64 yi, .string ys]) ∧ _ := h
                      go_wp2_with fail
                      refine hK.out _ _ (by (try dsimp only); exact ⟨keep_cell hbq1 hHeld.1, keep_cell hbq1 hHeld.2.1, keep_cell hbq1 hHeld.2.2.1, keep_cell hbq1 hHeld.2.2.2.1, keep_cell hbq1 hHeld.2.2.2.2.1, keep_cell hbq1 hHeld.2.2.2.2.2.1, keep_cell hbq1 hHeld.2.2.2.2.2.2.1, keep_cell hbq1 hHeld.2.2.2.2.2.2.2.1, ex_trans hHeld.2.2.2.2.2.2.2.2 hbq1⟩) (fun hNew => ?_)
                      clear hK K hHeld
                      have hHeld := hNew
                      clear hNew
                      try simp only [Act.put, List.setIfInBounds_toArray, List.set_cons_zero, List.set_cons_succ]
                      refine held_one 6 (by kernel_rfl) rfl (fun K hK => ?_)
                      go_simp
                      go_at_call 23
                      refine (HST.out _ (HU.out.mono mAtr hHeld.2.2.2.2.2.2.2.2)).mono ?_; rintro e wq2 ⟨B2, d2, rfl, hr2, hbq2⟩; rw [← HNX.out] at hr2 ⊢
                      have HR2 := Lib.hid (hr2.sl (R := RAtr) encAtr (fun _ => rfl))
                      clear hr2
                      go_wp2_with fail
                      refine hK.out _ _ (by (try dsimp only); exact ⟨keep_cell hbq2 hHeld.1, keep_cell hbq2 hHeld.2.1, keep_cell hbq2 hHeld.2.2.1, keep_cell hbq2 hHeld.2.2.2.1, keep_cell hbq2 hHeld.2.2.2.2.1, keep_cell hbq2 hHeld.2.2.2.2.2.1, keep_cell hbq2 hHeld.2.2.2.2.2.2.1, keep_cell hbq2 hHeld.2.2.2.2.2.2.2.1, ex_trans hHeld.2.2.2.2.2.2.2.2 hbq2⟩) (fun hNew => ?_)
                      clear hK K hHeld
                      have hHeld := hNew
                      clear hNew
                      try simp only [Act.put, List.setIfInBounds_toArray, List.set_cons_zero, List.set_cons_succ]
                      refine held_one 8 (by kernel_rfl) rfl (fun K hK => ?_)
                      go_simp
                      go_at_call 24
                      refine (HG2.out _ B2 d2 HR2.out).mono (fun e wq3 h => ?_)
                      obtain ⟨rfl, hbq3⟩ : e = .returned (.agg #[.int .i64 zk, .int .i64 zi, .string zs]) ∧ _ := h
                      go_wp2_with fail
                      refine hK.out _ _ (by (try dsimp only); exact ⟨keep_cell hbq3 hHeld.1, keep_cell hbq3 hHeld.2.1, keep_cell hbq3 hHeld.2.2.1, keep_cell hbq3 hHeld.2.2.2.1, keep_cell hbq3 hHeld.2.2.2.2.1, keep_cell hbq3 hHeld.2.2.2.2.2.1, keep_cell hbq3 hHeld.2.2.2.2.2.2.1, keep_cell hbq3 hHeld.2.2.2.2.2.2.2.1, ex_trans hHeld.2.2.2.2.2.2.2.2 hbq3⟩) (fun hNew => ?_)
                      clear hK K hHeld
                      have hHeld := hNew
                      clear hNew
                      try simp only [Act.put, List.setIfInBounds_toArray, List.set_cons_zero, List.set_cons_succ]
                      first | (refine held_take 9 rfl (by kernel_rfl) (by kernel_rfl) (by kernel_rfl) (by rfl) (fun _ _ _ h => h) (by assumption) (by intro w hSw; (try dsimp only at hSw); go_simp; first | done | with_reducible rfl) ?_) | (refine held_skip 9 rfl (by kernel_rfl) (by kernel_rfl) (by kernel_rfl) (by rfl) (fun _ _ _ h => h) (by assumption) ?_)
                      simp only [Act.put, List.setIfInBounds_toArray, List.set_cons_zero, List.set_cons_succ]
                      first | (refine held_take 10 rfl (by kernel_rfl) (by kernel_rfl) (by kernel_rfl) (by rfl) (fun _ _ _ h => h) (by assumption) (by intro w hSw; (try dsimp only at hSw); go_simp; first | done | with_reducible rfl) ?_) | (refine held_skip 10 rfl (by kernel_rfl) (by kernel_rfl) (by kernel_rfl) (by rfl) (fun _ _ _ h => h) (by assumption) ?_)
                      simp only [Act.put, List.setIfInBounds_toArray, List.set_cons_zero, List.set_cons_succ]
                      refine wpAnyH_done (by kernel_rfl) ?_ _
                      have hB := hHeld.2.2.2.2.2.2.2.2
                      clear hHeld
                      go_wp2_with fail
                      go_meet
                      exact ⟨by rw [HDD.out]; simp [Vl.eqb, eqS, h1, h2], hB⟩
                    | true =>
                      cases h3 : (ys.toList == zs.toList) with
                      | false =>
                        refine wp_region_held_drew (S := (fun w' => w'.cell? ⟨g8, 0, none⟩ = some (.int .i64 f.id) ∧ w'.cell? ⟨g8, 1, none⟩ = some (.int .i64 f.owner) ∧ w'.cell? ⟨g8, 2, none⟩ = some (.bool f.shared) ∧ w'.cell? ⟨g8, 3, none⟩ = some (.int .i64 f.link) ∧ w'.cell? ⟨g8, 4, none⟩ = some (.slice A8 n8 c8) ∧ w'.cell? ⟨g10, 0, none⟩ = some (.int .i64 vk) ∧ w'.cell? ⟨g10, 1, none⟩ = some (.int .i64 vi) ∧ w'.cell? ⟨g10, 2, none⟩ = some (.string vs) ∧ Below W8.heap.size W8 w')) (by kernel_rfl) (by (try dsimp only); exact ⟨t0, t1, t2, t3, t4, v0, v1, v2, (Below.refl _ _).drew⟩) (fun hHeld => ?_)
                        first | (refine held_take 0 rfl (by kernel_rfl) (by kernel_rfl) (by kernel_rfl) (by rfl) (fun _ _ _ h => h) (by assumption) (by intro w hSw; (try dsimp only at hSw); go_simp; first | done | with_reducible rfl) ?_) | (refine held_skip 0 rfl (by kernel_rfl) (by kernel_rfl) (by kernel_rfl) (by rfl) (fun _ _ _ h => h) (by assumption) ?_)
                        simp only [Act.put, List.setIfInBounds_toArray, List.set_cons_zero, List.set_cons_succ]
                        first | (refine held_take 1 rfl (by kernel_rfl) (by kernel_rfl) (by kernel_rfl) (by rfl) (fun _ _ _ h => h) (by assumption) (by intro w hSw; (try dsimp only at hSw); go_simp; first | done | with_reducible rfl) ?_) | (refine held_skip 1 rfl (by kernel_rfl) (by kernel_rfl) (by kernel_rfl) (by rfl) (fun _ _ _ h => h) (by assumption) ?_)
                        simp only [Act.put, List.setIfInBounds_toArray, List.set_cons_zero, List.set_cons_succ]
                        first | (refine held_take 3 rfl (by kernel_rfl) (by kernel_rfl) (by kernel_rfl) (by rfl) (fun _ _ _ h => h) (by assumption) (by intro w hSw; (try dsimp only at hSw); go_simp; first | done | with_reducible rfl) ?_) | (refine held_skip 3 rfl (by kernel_rfl) (by kernel_rfl) (by kernel_rfl) (by rfl) (fun _ _ _ h => h) (by assumption) ?_)
                        simp only [Act.put, List.setIfInBounds_toArray, List.set_cons_zero, List.set_cons_succ]
                        first | (refine held_take 4 rfl (by kernel_rfl) (by kernel_rfl) (by kernel_rfl) (by rfl) (fun _ _ _ h => h) (by assumption) (by intro w hSw; (try dsimp only at hSw); go_simp; first | done | with_reducible rfl) ?_) | (refine held_skip 4 rfl (by kernel_rfl) (by kernel_rfl) (by kernel_rfl) (by rfl) (fun _ _ _ h => h) (by assumption) ?_)
                        simp only [Act.put, List.setIfInBounds_toArray, List.set_cons_zero, List.set_cons_succ]
                        first | (refine held_take 5 rfl (by kernel_rfl) (by kernel_rfl) (by kernel_rfl) (by rfl) (fun _ _ _ h => h) (by assumption) (by intro w hSw; (try dsimp only at hSw); go_simp; first | done | with_reducible rfl) ?_) | (refine held_skip 5 rfl (by kernel_rfl) (by kernel_rfl) (by kernel_rfl) (by rfl) (fun _ _ _ h => h) (by assumption) ?_)
                        simp only [Act.put, List.setIfInBounds_toArray, List.set_cons_zero, List.set_cons_succ]
                        first | (refine held_take 7 rfl (by kernel_rfl) (by kernel_rfl) (by kernel_rfl) (by rfl) (fun _ _ _ h => h) (by assumption) (by intro w hSw; (try dsimp only at hSw); go_simp; first | done | with_reducible rfl) ?_) | (refine held_skip 7 rfl (by kernel_rfl) (by kernel_rfl) (by kernel_rfl) (by rfl) (fun _ _ _ h => h) (by assumption) ?_)
                        simp only [Act.put, List.setIfInBounds_toArray, List.set_cons_zero, List.set_cons_succ]
                        refine held_one 2 (by kernel_rfl) rfl (fun K hK => ?_)
                        go_simp
                        go_at_call 24
                        refine (HG1.out _ (HU.out.mono mAtr hHeld.2.2.2.2.2.2.2.2)).mono (fun e wq1 h => ?_)
                        obtain ⟨rfl, hbq1⟩ : e = .returned (.agg #[.int .i64 yk, .int .i64 yi, .string ys]) ∧ _ := h
                        go_wp2_with fail
                        refine hK.out _ _ (by (try dsimp only); exact ⟨keep_cell hbq1 hHeld.1, keep_cell hbq1 hHeld.2.1, keep_cell hbq1 hHeld.2.2.1, keep_cell hbq1 hHeld.2.2.2.1, keep_cell hbq1 hHeld.2.2.2.2.1, keep_cell hbq1 hHeld.2.2.2.2.2.1, keep_cell hbq1 hHeld.2.2.2.2.2.2.1, keep_cell hbq1 hHeld.2.2.2.2.2.2.2.1, ex_trans hHeld.2.2.2.2.2.2.2.2 hbq1⟩) (fun hNew => ?_)
                        clear hK K hHeld
                        have hHeld := hNew
                        clear hNew
                        try simp only [Act.put, List.setIfInBounds_toArray, List.set_cons_zero, List.set_cons_succ]
                        refine held_one 6 (by kernel_rfl) rfl (fun K hK => ?_)
                        go_simp
                        go_at_call 23
                        refine (HST.out _ (HU.out.mono mAtr hHeld.2.2.2.2.2.2.2.2)).mono ?_; rintro e wq2 ⟨B2, d2, rfl, hr2, hbq2⟩; rw [← HNX.out] at hr2 ⊢
                        have HR2 := Lib.hid (hr2.sl (R := RAtr) encAtr (fun _ => rfl))
                        clear hr2
                        go_wp2_with fail
                        refine hK.out _ _ (by (try dsimp only); exact ⟨keep_cell hbq2 hHeld.1, keep_cell hbq2 hHeld.2.1, keep_cell hbq2 hHeld.2.2.1, keep_cell hbq2 hHeld.2.2.2.1, keep_cell hbq2 hHeld.2.2.2.2.1, keep_cell hbq2 hHeld.2.2.2.2.2.1, keep_cell hbq2 hHeld.2.2.2.2.2.2.1, keep_cell hbq2 hHeld.2.2.2.2.2.2.2.1, ex_trans hHeld.2.2.2.2.2.2.2.2 hbq2⟩) (fun hNew => ?_)
                        clear hK K hHeld
                        have hHeld := hNew
                        clear hNew
                        try simp only [Act.put, List.setIfInBounds_toArray, List.set_cons_zero, List.set_cons_succ]
                        refine held_one 8 (by kernel_rfl) rfl (fun K hK => ?_)
                        go_simp
                        go_at_call 24
                        refine (HG2.out _ B2 d2 HR2.out).mono (fun e wq3 h => ?_)
                        obtain ⟨rfl, hbq3⟩ : e = .returned (.agg #[.int .i64 zk, .int .i64 zi, .string zs]) ∧ _ := h
                        go_wp2_with fail
                        refine hK.out _ _ (by (try dsimp only); exact ⟨keep_cell hbq3 hHeld.1, keep_cell hbq3 hHeld.2.1, keep_cell hbq3 hHeld.2.2.1, keep_cell hbq3 hHeld.2.2.2.1, keep_cell hbq3 hHeld.2.2.2.2.1, keep_cell hbq3 hHeld.2.2.2.2.2.1, keep_cell hbq3 hHeld.2.2.2.2.2.2.1, keep_cell hbq3 hHeld.2.2.2.2.2.2.2.1, ex_trans hHeld.2.2.2.2.2.2.2.2 hbq3⟩) (fun hNew => ?_)
                        clear hK K hHeld
                        have hHeld := hNew
                        clear hNew
                        try simp only [Act.put, List.setIfInBounds_toArray, List.set_cons_zero, List.set_cons_succ]
                        first | (refine held_take 9 rfl (by kernel_rfl) (by kernel_rfl) (by kernel_rfl) (by rfl) (fun _ _ _ h => h) (by assumption) (by intro w hSw; (try dsimp only at hSw); go_simp; first | done | with_reducible rfl) ?_) | (refine held_skip 9 rfl (by kernel_rfl) (by kernel_rfl) (by kernel_rfl) (by rfl) (fun _ _ _ h => h) (by assumption) ?_)
                        simp only [Act.put, List.setIfInBounds_toArray, List.set_cons_zero, List.set_cons_succ]
                        first | (refine held_take 10 rfl (by kernel_rfl) (by kernel_rfl) (by kernel_rfl) (by rfl) (fun _ _ _ h => h) (by assumption) (by intro w hSw; (try dsimp only at hSw); go_simp; first | done | with_reducible rfl) ?_) | (refine held_skip 10 rfl (by kernel_rfl) (by kernel_rfl) (by kernel_rfl) (by rfl) (fun _ _ _ h => h) (by assumption) ?_)
                        simp only [Act.put, List.setIfInBounds_toArray, List.set_cons_zero, List.set_cons_succ]
                        refine wpAnyH_done (by kernel_rfl) ?_ _
                        have hB := hHeld.2.2.2.2.2.2.2.2
                        clear hHeld
                        go_wp2_with fail
                        go_meet
                        exact ⟨by rw [HDD.out]; simp [Vl.eqb, eqS, h1, h2, h3], hB⟩
                      | true =>
                        refine wp_region_held_drew (S := (fun w' => w'.cell? ⟨g8, 0, none⟩ = some (.int .i64 f.id) ∧ w'.cell? ⟨g8, 1, none⟩ = some (.int .i64 f.owner) ∧ w'.cell? ⟨g8, 2, none⟩ = some (.bool f.shared) ∧ w'.cell? ⟨g8, 3, none⟩ = some (.int .i64 f.link) ∧ w'.cell? ⟨g8, 4, none⟩ = some (.slice A8 n8 c8) ∧ w'.cell? ⟨g10, 0, none⟩ = some (.int .i64 vk) ∧ w'.cell? ⟨g10, 1, none⟩ = some (.int .i64 vi) ∧ w'.cell? ⟨g10, 2, none⟩ = some (.string vs) ∧ Below W8.heap.size W8 w')) (by kernel_rfl) (by (try dsimp only); exact ⟨t0, t1, t2, t3, t4, v0, v1, v2, (Below.refl _ _).drew⟩) (fun hHeld => ?_)
                        first | (refine held_take 0 rfl (by kernel_rfl) (by kernel_rfl) (by kernel_rfl) (by rfl) (fun _ _ _ h => h) (by assumption) (by intro w hSw; (try dsimp only at hSw); go_simp; first | done | with_reducible rfl) ?_) | (refine held_skip 0 rfl (by kernel_rfl) (by kernel_rfl) (by kernel_rfl) (by rfl) (fun _ _ _ h => h) (by assumption) ?_)
                        simp only [Act.put, List.setIfInBounds_toArray, List.set_cons_zero, List.set_cons_succ]
                        first | (refine held_take 1 rfl (by kernel_rfl) (by kernel_rfl) (by kernel_rfl) (by rfl) (fun _ _ _ h => h) (by assumption) (by intro w hSw; (try dsimp only at hSw); go_simp; first | done | with_reducible rfl) ?_) | (refine held_skip 1 rfl (by kernel_rfl) (by kernel_rfl) (by kernel_rfl) (by rfl) (fun _ _ _ h => h) (by assumption) ?_)
                        simp only [Act.put, List.setIfInBounds_toArray, List.set_cons_zero, List.set_cons_succ]
                        first | (refine held_take 3 rfl (by kernel_rfl) (by kernel_rfl) (by kernel_rfl) (by rfl) (fun _ _ _ h => h) (by assumption) (by intro w hSw; (try dsimp only at hSw); go_simp; first | done | with_reducible rfl) ?_) | (refine held_skip 3 rfl (by kernel_rfl) (by kernel_rfl) (by kernel_rfl) (by rfl) (fun _ _ _ h => h) (by assumption) ?_)
                        simp only [Act.put, List.setIfInBounds_toArray, List.set_cons_zero, List.set_cons_succ]
                        first | (refine held_take 4 rfl (by kernel_rfl) (by kernel_rfl) (by kernel_rfl) (by rfl) (fun _ _ _ h => h) (by assumption) (by intro w hSw; (try dsimp only at hSw); go_simp; first | done | with_reducible rfl) ?_) | (refine held_skip 4 rfl (by kernel_rfl) (by kernel_rfl) (by kernel_rfl) (by rfl) (fun _ _ _ h => h) (by assumption) ?_)
                        simp only [Act.put, List.setIfInBounds_toArray, List.set_cons_zero, List.set_cons_succ]
                        first | (refine held_take 5 rfl (by kernel_rfl) (by kernel_rfl) (by kernel_rfl) (by rfl) (fun _ _ _ h => h) (by assumption) (by intro w hSw; (try dsimp only at hSw); go_simp; first | done | with_reducible rfl) ?_) | (refine held_skip 5 rfl (by kernel_rfl) (by kernel_rfl) (by kernel_rfl) (by rfl) (fun _ _ _ h => h) (by assumption) ?_)
                        simp only [Act.put, List.setIfInBounds_toArray, List.set_cons_zero, List.set_cons_succ]
                        first | (refine held_take 7 rfl (by kernel_rfl) (by kernel_rfl) (by kernel_rfl) (by rfl) (fun _ _ _ h => h) (by assumption) (by intro w hSw; (try dsimp only at hSw); go_simp; first | done | with_reducible rfl) ?_) | (refine held_skip 7 rfl (by kernel_rfl) (by kernel_rfl) (by kernel_rfl) (by rfl) (fun _ _ _ h => h) (by assumption) ?_)
                        simp only [Act.put, List.setIfInBounds_toArray, List.set_cons_zero, List.set_cons_succ]
                        refine held_one 2 (by kernel_rfl) rfl (fun K hK => ?_)
                        go_simp
                        go_at_call 24
                        refine (HG1.out _ (HU.out.mono mAtr hHeld.2.2.2.2.2.2.2.2)).mono (fun e wq1 h => ?_)
                        obtain ⟨rfl, hbq1⟩ : e = .returned (.agg #[.int .i64 yk, .int .i64 yi, .string ys]) ∧ _ := h
                        go_wp2_with fail
                        refine hK.out _ _ (by (try dsimp only); exact ⟨keep_cell hbq1 hHeld.1, keep_cell hbq1 hHeld.2.1, keep_cell hbq1 hHeld.2.2.1, keep_cell hbq1 hHeld.2.2.2.1, keep_cell hbq1 hHeld.2.2.2.2.1, keep_cell hbq1 hHeld.2.2.2.2.2.1, keep_cell hbq1 hHeld.2.2.2.2.2.2.1, keep_cell hbq1 hHeld.2.2.2.2.2.2.2.1, ex_trans hHeld.2.2.2.2.2.2.2.2 hbq1⟩) (fun hNew => ?_)
                        clear hK K hHeld
                        have hHeld := hNew
                        clear hNew
                        try simp only [Act.put, List.setIfInBounds_toArray, List.set_cons_zero, List.set_cons_succ]
                        refine held_one 6 (by kernel_rfl) rfl (fun K hK => ?_)
                        go_simp
                        go_at_call 23
                        refine (HST.out _ (HU.out.mono mAtr hHeld.2.2.2.2.2.2.2.2)).mono ?_; rintro e wq2 ⟨B2, d2, rfl, hr2, hbq2⟩; rw [← HNX.out] at hr2 ⊢
                        have HR2 := Lib.hid (hr2.sl (R := RAtr) encAtr (fun _ => rfl))
                        clear hr2
                        go_wp2_with fail
                        refine hK.out _ _ (by (try dsimp only); exact ⟨keep_cell hbq2 hHeld.1, keep_cell hbq2 hHeld.2.1, keep_cell hbq2 hHeld.2.2.1, keep_cell hbq2 hHeld.2.2.2.1, keep_cell hbq2 hHeld.2.2.2.2.1, keep_cell hbq2 hHeld.2.2.2.2.2.1, keep_cell hbq2 hHeld.2.2.2.2.2.2.1, keep_cell hbq2 hHeld.2.2.2.2.2.2.2.1, ex_trans hHeld.2.2.2.2.2.2.2.2 hbq2⟩) (fun hNew => ?_)
                        clear hK K hHeld
                        have hHeld := hNew
                        clear hNew
                        try simp only [Act.put, List.setIfInBounds_toArray, List.set_cons_zero, List.set_cons_succ]
                        refine held_one 8 (by kernel_rfl) rfl (fun K hK => ?_)
                        go_simp
                        go_at_call 24
                        refine (HG2.out _ B2 d2 HR2.out).mono (fun e wq3 h => ?_)
                        obtain ⟨rfl, hbq3⟩ : e = .returned (.agg #[.int .i64 zk, .int .i64 zi, .string zs]) ∧ _ := h
                        go_wp2_with fail
                        refine hK.out _ _ (by (try dsimp only); exact ⟨keep_cell hbq3 hHeld.1, keep_cell hbq3 hHeld.2.1, keep_cell hbq3 hHeld.2.2.1, keep_cell hbq3 hHeld.2.2.2.1, keep_cell hbq3 hHeld.2.2.2.2.1, keep_cell hbq3 hHeld.2.2.2.2.2.1, keep_cell hbq3 hHeld.2.2.2.2.2.2.1, keep_cell hbq3 hHeld.2.2.2.2.2.2.2.1, ex_trans hHeld.2.2.2.2.2.2.2.2 hbq3⟩) (fun hNew => ?_)
                        clear hK K hHeld
                        have hHeld := hNew
                        clear hNew
                        try simp only [Act.put, List.setIfInBounds_toArray, List.set_cons_zero, List.set_cons_succ]
                        first | (refine held_take 9 rfl (by kernel_rfl) (by kernel_rfl) (by kernel_rfl) (by rfl) (fun _ _ _ h => h) (by assumption) (by intro w hSw; (try dsimp only at hSw); go_simp; first | done | with_reducible rfl) ?_) | (refine held_skip 9 rfl (by kernel_rfl) (by kernel_rfl) (by kernel_rfl) (by rfl) (fun _ _ _ h => h) (by assumption) ?_)
                        simp only [Act.put, List.setIfInBounds_toArray, List.set_cons_zero, List.set_cons_succ]
                        first | (refine held_take 10 rfl (by kernel_rfl) (by kernel_rfl) (by kernel_rfl) (by rfl) (fun _ _ _ h => h) (by assumption) (by intro w hSw; (try dsimp only at hSw); go_simp; first | done | with_reducible rfl) ?_) | (refine held_skip 10 rfl (by kernel_rfl) (by kernel_rfl) (by kernel_rfl) (by rfl) (fun _ _ _ h => h) (by assumption) ?_)
                        simp only [Act.put, List.setIfInBounds_toArray, List.set_cons_zero, List.set_cons_succ]
                        refine wpAnyH_done (by kernel_rfl) ?_ _
                        have hB := hHeld.2.2.2.2.2.2.2.2
                        clear hHeld
                        go_wp2_with fail
                        go_meet
                        exact ⟨by rw [HDD.out]; simp [Vl.eqb, eqS, h1, h2, h3], hB⟩
                case rest =>
                  generalize wc = W10 at *
                  obtain ⟨rfl, hK⟩ := hcut
                  replace HB := Lib.hid (ex_trans HB.out hK)
                  replace p0 := keep_cell hK p0
                  replace p1 := keep_cell hK p1
                  replace p2 := keep_cell hK p2
                  replace p3 := keep_cell hK p3
                  replace p4 := keep_cell hK p4
                  replace u0 := keep_cell hK u0
                  replace u1 := keep_cell hK u1
                  replace u2 := keep_cell hK u2
                  replace u3 := keep_cell hK u3
                  replace u4 := keep_cell hK u4
                  replace r0 := keep_cell hK r0
                  replace r1 := keep_cell hK r1
                  replace r2 := keep_cell hK r2
                  replace r3 := keep_cell hK r3
                  replace r4 := keep_cell hK r4
                  replace s0 := keep_cell hK s0
                  replace s1 := keep_cell hK s1
                  replace s2 := keep_cell hK s2
                  replace s3 := keep_cell hK s3
                  replace s4 := keep_cell hK s4
                  replace t0 := keep_cell hK t0
                  replace t1 := keep_cell hK t1
                  replace t2 := keep_cell hK t2
                  replace t3 := keep_cell hK t3
                  replace t4 := keep_cell hK t4
                  replace v0 := keep_cell hK v0
                  replace v1 := keep_cell hK v1
                  replace v2 := keep_cell hK v2
                  replace HS3 := Lib.hid (HS3.out.mono mAtr hK)
                  replace HS4 := Lib.hid (HS4.out.mono mAtr hK)
                  replace HS5 := Lib.hid (HS5.out.mono mStr hK)
                  replace HS6 := Lib.hid (HS6.out.mono mAtr hK)
                  replace HS7 := Lib.hid (HS7.out.mono mAtr hK)
                  replace HU := Lib.hid (HU.out.mono mAtr hK)
                  replace HS11 := Lib.hid (HS11.out.mono mStr hK)
                  clear hK
                  clear t0 t1 t2 t3 t4 v0 v1 v2 HG1 HG2 HST HDD
                  have hee2 : (ee == ee) = true := by cases ee <;> rfl
                  cases dd with
                  | true =>
                    have hL2 : L2 = [nm] := by rw [HCH.out]; rfl
                    have hq2 : q2 = 1 := by rw [← HQ2.out, hL2]; rfl
                    subst hq2 hL2
                    obtain ⟨lb, lo5, rfl, lbw, lc⟩ := HS11.out.str (by omega)
                    have y0 := lc 0 (by simp)
                    simp only [Nat.add_zero, List.getElem_cons_zero] at y0
                    clear lc HCH
                    go_upto_region 11 with fail
                    refine wp_region_held_drew (S := (fun w' => w'.cell? ⟨g3, 0, none⟩ = some (.int .i64 a.id) ∧ w'.cell? ⟨g3, 1, none⟩ = some (.int .i64 a.owner) ∧ w'.cell? ⟨g3, 2, none⟩ = some (.bool a.shared) ∧ w'.cell? ⟨g3, 3, none⟩ = some (.int .i64 a.link) ∧ w'.cell? ⟨g3, 4, none⟩ = some (.slice A3 n3 c3) ∧ w'.cell? ⟨g4, 0, none⟩ = some (.int .i64 b.id) ∧ w'.cell? ⟨g4, 1, none⟩ = some (.int .i64 b.owner) ∧ w'.cell? ⟨g4, 2, none⟩ = some (.bool b.shared) ∧ w'.cell? ⟨g4, 3, none⟩ = some (.int .i64 b.link) ∧ w'.cell? ⟨g4, 4, none⟩ = some (.slice A4 n4 c4) ∧ w'.cell? ⟨g6, 0, none⟩ = some (.int .i64 c.id) ∧ w'.cell? ⟨g6, 1, none⟩ = some (.int .i64 c.owner) ∧ w'.cell? ⟨g6, 2, none⟩ = some (.bool c.shared) ∧ w'.cell? ⟨g6, 3, none⟩ = some (.int .i64 c.link) ∧ w'.cell? ⟨g6, 4, none⟩ = some (.slice A6 n6 c6) ∧ w'.cell? ⟨g7, 0, none⟩ = some (.int .i64 d.id) ∧ w'.cell? ⟨g7, 1, none⟩ = some (.int .i64 d.owner) ∧ w'.cell? ⟨g7, 2, none⟩ = some (.bool d.shared) ∧ w'.cell? ⟨g7, 3, none⟩ = some (.int .i64 d.link) ∧ w'.cell? ⟨g7, 4, none⟩ = some (.slice A7 n7 c7) ∧ w'.cell? ⟨lb, lo5, none⟩ = some (.string nm) ∧ Below W10.heap.size W10 w')) (by kernel_rfl) (by (try dsimp only); exact ⟨p0, p1, p2, p3, p4, u0, u1, u2, u3, u4, r0, r1, r2, r3, r4, s0, s1, s2, s3, s4, y0, (Below.refl _ _).drew⟩) (fun hHeld => ?_)
                    first | (refine held_take 0 rfl (by kernel_rfl) (by kernel_rfl) (by kernel_rfl) (by rfl) (fun _ _ _ h => h) (by assumption) (by intro w hSw; (try dsimp only at hSw); go_simp; first | done | with_reducible rfl) ?_) | (refine held_skip 0 rfl (by kernel_rfl) (by kernel_rfl) (by kernel_rfl) (by rfl) (fun _ _ _ h => h) (by assumption) ?_)
                    simp only [Act.put, List.setIfInBounds_toArray, List.set_cons_zero, List.set_cons_succ]
                    first | (refine held_take 1 rfl (by kernel_rfl) (by kernel_rfl) (by kernel_rfl) (by rfl) (fun _ _ _ h => h) (by assumption) (by intro w hSw; (try dsimp only at hSw); go_simp; first | done | with_reducible rfl) ?_) | (refine held_skip 1 rfl (by kernel_rfl) (by kernel_rfl) (by kernel_rfl) (by rfl) (fun _ _ _ h => h) (by assumption) ?_)
                    simp only [Act.put, List.setIfInBounds_toArray, List.set_cons_zero, List.set_cons_succ]
                    first | (refine held_take 2 rfl (by kernel_rfl) (by kernel_rfl) (by kernel_rfl) (by rfl) (fun _ _ _ h => h) (by assumption) (by intro w hSw; (try dsimp only at hSw); go_simp; first | done | with_reducible rfl) ?_) | (refine held_skip 2 rfl (by kernel_rfl) (by kernel_rfl) (by kernel_rfl) (by rfl) (fun _ _ _ h => h) (by assumption) ?_)
                    simp only [Act.put, List.setIfInBounds_toArray, List.set_cons_zero, List.set_cons_succ]
                    refine held_one 3 (by kernel_rfl) rfl (fun K hK => ?_)
                    go_simp
                    go_at_call 32
                    refine (HSP.out _ (HS3.out.mono mAtr hHeld.2.2.2.2.2.2.2.2.2.2.2.2.2.2.2.2.2.2.2.2.2) (HS4.out.mono mAtr hHeld.2.2.2.2.2.2.2.2.2.2.2.2.2.2.2.2.2.2.2.2.2)).mono (fun e wq1 h => ?_)
                    obtain ⟨R1, d1, rfl, hr1, hbq1⟩ := NewRow.strs HQ.out h
                    clear h
                    have HR1 := Lib.hid hr1
                    clear hr1
                    go_wp2_with fail
                    refine hK.out _ _ (by (try dsimp only); exact ⟨keep_cell hbq1 hHeld.1, keep_cell hbq1 hHeld.2.1, keep_cell hbq1 hHeld.2.2.1, keep_cell hbq1 hHeld.2.2.2.1, keep_cell hbq1 hHeld.2.2.2.2.1, keep_cell hbq1 hHeld.2.2.2.2.2.1, keep_cell hbq1 hHeld.2.2.2.2.2.2.1, keep_cell hbq1 hHeld.2.2.2.2.2.2.2.1, keep_cell hbq1 hHeld.2.2.2.2.2.2.2.2.1, keep_cell hbq1 hHeld.2.2.2.2.2.2.2.2.2.1, keep_cell hbq1 hHeld.2.2.2.2.2.2.2.2.2.2.1, keep_cell hbq1 hHeld.2.2.2.2.2.2.2.2.2.2.2.1, keep_cell hbq1 hHeld.2.2.2.2.2.2.2.2.2.2.2.2.1, keep_cell hbq1 hHeld.2.2.2.2.2.2.2.2.2.2.2.2.2.1, keep_cell hbq1 hHeld.2.2.2.2.2.2.2.2.2.2.2.2.2.2.1, keep_cell hbq1 hHeld.2.2.2.2.2.2.2.2.2.2.2.2.2.2.2.1, keep_cell hbq1 hHeld.2.2.2.2.2.2.2.2.2.2.2.2.2.2.2.2.1, keep_cell hbq1 hHeld.2.2.2.2.2.2.2.2.2.2.2.2.2.2.2.2.2.1, keep_cell hbq1 hHeld.2.2.2.2.2.2.2.2.2.2.2.2.2.2.2.2.2.2.1, keep_cell hbq1 hHeld.2.2.2.2.2.2.2.2.2.2.2.2.2.2.2.2.2.2.2.1, keep_cell hbq1 hHeld.2.2.2.2.2.2.2.2.2.2.2.2.2.2.2.2.2.2.2.2.1, ex_trans hHeld.2.2.2.2.2.2.2.2.2.2.2.2.2.2.2.2.2.2.2.2.2 hbq1⟩) (fun hNew => ?_)
                    clear hK K hHeld
                    have hHeld := hNew
                    clear hNew
                    try simp only [Act.put, List.setIfInBounds_toArray, List.set_cons_zero, List.set_cons_succ]
                    refine held_one 4 (by kernel_rfl) rfl (fun K hK => ?_)
                    go_simp
                    go_at_call 31
                    refine (texts_self A5 q c5 R1 d1 L _ (by omega) (HS5.out.mono mStr hHeld.2.2.2.2.2.2.2.2.2.2.2.2.2.2.2.2.2.2.2.2.2) HR1.out).mono ?_; rintro e wq2 ⟨rfl, hbq2⟩
                    go_wp2_with fail
                    refine hK.out _ _ (by (try dsimp only); exact ⟨keep_cell hbq2 hHeld.1, keep_cell hbq2 hHeld.2.1, keep_cell hbq2 hHeld.2.2.1, keep_cell hbq2 hHeld.2.2.2.1, keep_cell hbq2 hHeld.2.2.2.2.1, keep_cell hbq2 hHeld.2.2.2.2.2.1, keep_cell hbq2 hHeld.2.2.2.2.2.2.1, keep_cell hbq2 hHeld.2.2.2.2.2.2.2.1, keep_cell hbq2 hHeld.2.2.2.2.2.2.2.2.1, keep_cell hbq2 hHeld.2.2.2.2.2.2.2.2.2.1, keep_cell hbq2 hHeld.2.2.2.2.2.2.2.2.2.2.1, keep_cell hbq2 hHeld.2.2.2.2.2.2.2.2.2.2.2.1, keep_cell hbq2 hHeld.2.2.2.2.2.2.2.2.2.2.2.2.1, keep_cell hbq2 hHeld.2.2.2.2.2.2.2.2.2.2.2.2.2.1, keep_cell hbq2 hHeld.2.2.2.2.2.2.2.2.2.2.2.2.2.2.1, keep_cell hbq2 hHeld.2.2.2.2.2.2.2.2.2.2.2.2.2.2.2.1, keep_cell hbq2 hHeld.2.2.2.2.2.2.2.2.2.2.2.2.2.2.2.2.1, keep_cell hbq2 hHeld.2.2.2.2.2.2.2.2.2.2.2.2.2.2.2.2.2.1, keep_cell hbq2 hHeld.2.2.2.2.2.2.2.2.2.2.2.2.2.2.2.2.2.2.1, keep_cell hbq2 hHeld.2.2.2.2.2.2.2.2.2.2.2.2.2.2.2.2.2.2.2.1, keep_cell hbq2 hHeld.2.2.2.2.2.2.2.2.2.2.2.2.2.2.2.2.2.2.2.2.1, ex_trans hHeld.2.2.2.2.2.2.2.2.2.2.2.2.2.2.2.2.2.2.2.2.2 hbq2⟩) (fun hNew => ?_)
                    clear hK K hHeld
                    have hHeld := hNew
                    clear hNew
                    try simp only [Act.put, List.setIfInBounds_toArray, List.set_cons_zero, List.set_cons_succ]
                    first | (refine held_take 5 rfl (by kernel_rfl) (by kernel_rfl) (by kernel_rfl) (by rfl) (fun _ _ _ h => h) (by assumption) (by intro w hSw; (try dsimp only at hSw); go_simp; first | done | with_reducible rfl) ?_) | (refine held_skip 5 rfl (by kernel_rfl) (by kernel_rfl) (by kernel_rfl) (by rfl) (fun _ _ _ h => h) (by assumption) ?_)
                    simp only [Act.put, List.setIfInBounds_toArray, List.set_cons_zero, List.set_cons_succ]
                    first | (refine held_take 6 rfl (by kernel_rfl) (by kernel_rfl) (by kernel_rfl) (by rfl) (fun _ _ _ h => h) (by assumption) (by intro w hSw; (try dsimp only at hSw); go_simp; first | done | with_reducible rfl) ?_) | (refine held_skip 6 rfl (by kernel_rfl) (by kernel_rfl) (by kernel_rfl) (by rfl) (fun _ _ _ h => h) (by assumption) ?_)
                    simp only [Act.put, List.setIfInBounds_toArray, List.set_cons_zero, List.set_cons_succ]
                    first | (refine held_take 7 rfl (by kernel_rfl) (by kernel_rfl) (by kernel_rfl) (by rfl) (fun _ _ _ h => h) (by assumption) (by intro w hSw; (try dsimp only at hSw); go_simp; first | done | with_reducible rfl) ?_) | (refine held_skip 7 rfl (by kernel_rfl) (by kernel_rfl) (by kernel_rfl) (by rfl) (fun _ _ _ h => h) (by assumption) ?_)
                    simp only [Act.put, List.setIfInBounds_toArray, List.set_cons_zero, List.set_cons_succ]
                    first | (refine held_take 8 rfl (by kernel_rfl) (by kernel_rfl) (by kernel_rfl) (by rfl) (fun _ _ _ h => h) (by assumption) (by intro w hSw; (try dsimp only at hSw); go_simp; first | done | with_reducible rfl) ?_) | (refine held_skip 8 rfl (by kernel_rfl) (by kernel_rfl) (by kernel_rfl) (by rfl) (fun _ _ _ h => h) (by assumption) ?_)
                    simp only [Act.put, List.setIfInBounds_toArray, List.set_cons_zero, List.set_cons_succ]
                    refine held_one 9 (by kernel_rfl) rfl (fun K hK => ?_)
                    go_simp
                    go_at_call 29
                    refine (HBA.out _ (HS3.out.mono mAtr hHeld.2.2.2.2.2.2.2.2.2.2.2.2.2.2.2.2.2.2.2.2.2) (HS4.out.mono mAtr hHeld.2.2.2.2.2.2.2.2.2.2.2.2.2.2.2.2.2.2.2.2.2)).mono (fun e wq3 h => ?_)
                    obtain ⟨R3, d3, rfl, hr3, hbq3⟩ := NewRow.strs HQ.out h
                    clear h
                    have HR3 := Lib.hid hr3
                    clear hr3
                    go_wp2_with fail
                    refine hK.out _ _ (by (try dsimp only); exact ⟨keep_cell hbq3 hHeld.1, keep_cell hbq3 hHeld.2.1, keep_cell hbq3 hHeld.2.2.1, keep_cell hbq3 hHeld.2.2.2.1, keep_cell hbq3 hHeld.2.2.2.2.1, keep_cell hbq3 hHeld.2.2.2.2.2.1, keep_cell hbq3 hHeld.2.2.2.2.2.2.1, keep_cell hbq3 hHeld.2.2.2.2.2.2.2.1, keep_cell hbq3 hHeld.2.2.2.2.2.2.2.2.1, keep_cell hbq3 hHeld.2.2.2.2.2.2.2.2.2.1, keep_cell hbq3 hHeld.2.2.2.2.2.2.2.2.2.2.1, keep_cell hbq3 hHeld.2.2.2.2.2.2.2.2.2.2.2.1, keep_cell hbq3 hHeld.2.2.2.2.2.2.2.2.2.2.2.2.1, keep_cell hbq3 hHeld.2.2.2.2.2.2.2.2.2.2.2.2.2.1, keep_cell hbq3 hHeld.2.2.2.2.2.2.2.2.2.2.2.2.2.2.1, keep_cell hbq3 hHeld.2.2.2.2.2.2.2.2.2.2.2.2.2.2.2.1, keep_cell hbq3 hHeld.2.2.2.2.2.2.2.2.2.2.2.2.2.2.2.2.1, keep_cell hbq3 hHeld.2.2.2.2.2.2.2.2.2.2.2.2.2.2.2.2.2.1, keep_cell hbq3 hHeld.2.2.2.2.2.2.2.2.2.2.2.2.2.2.2.2.2.2.1, keep_cell hbq3 hHeld.2.2.2.2.2.2.2.2.2.2.2.2.2.2.2.2.2.2.2.1, keep_cell hbq3 hHeld.2.2.2.2.2.2.2.2.2.2.2.2.2.2.2.2.2.2.2.2.1, ex_trans hHeld.2.2.2.2.2.2.2.2.2.2.2.2.2.2.2.2.2.2.2.2.2 hbq3⟩) (fun hNew => ?_)
                    clear hK K hHeld
                    have hHeld := hNew
                    clear hNew
                    try simp only [Act.put, List.setIfInBounds_toArray, List.set_cons_zero, List.set_cons_succ]
                    refine held_one 10 (by kernel_rfl) rfl (fun K hK => ?_)
                    go_simp
                    go_at_call 31
                    refine (texts_self A5 q c5 R3 d3 L _ (by omega) (HS5.out.mono mStr hHeld.2.2.2.2.2.2.2.2.2.2.2.2.2.2.2.2.2.2.2.2.2) HR3.out).mono ?_; rintro e wq4 ⟨rfl, hbq4⟩
                    go_wp2_with fail
                    refine hK.out _ _ (by (try dsimp only); exact ⟨keep_cell hbq4 hHeld.1, keep_cell hbq4 hHeld.2.1, keep_cell hbq4 hHeld.2.2.1, keep_cell hbq4 hHeld.2.2.2.1, keep_cell hbq4 hHeld.2.2.2.2.1, keep_cell hbq4 hHeld.2.2.2.2.2.1, keep_cell hbq4 hHeld.2.2.2.2.2.2.1, keep_cell hbq4 hHeld.2.2.2.2.2.2.2.1, keep_cell hbq4 hHeld.2.2.2.2.2.2.2.2.1, keep_cell hbq4 hHeld.2.2.2.2.2.2.2.2.2.1, keep_cell hbq4 hHeld.2.2.2.2.2.2.2.2.2.2.1, keep_cell hbq4 hHeld.2.2.2.2.2.2.2.2.2.2.2.1, keep_cell hbq4 hHeld.2.2.2.2.2.2.2.2.2.2.2.2.1, keep_cell hbq4 hHeld.2.2.2.2.2.2.2.2.2.2.2.2.2.1, keep_cell hbq4 hHeld.2.2.2.2.2.2.2.2.2.2.2.2.2.2.1, keep_cell hbq4 hHeld.2.2.2.2.2.2.2.2.2.2.2.2.2.2.2.1, keep_cell hbq4 hHeld.2.2.2.2.2.2.2.2.2.2.2.2.2.2.2.2.1, keep_cell hbq4 hHeld.2.2.2.2.2.2.2.2.2.2.2.2.2.2.2.2.2.1, keep_cell hbq4 hHeld.2.2.2.2.2.2.2.2.2.2.2.2.2.2.2.2.2.2.1, keep_cell hbq4 hHeld.2.2.2.2.2.2.2.2.2.2.2.2.2.2.2.2.2.2.2.1, keep_cell hbq4 hHeld.2.2.2.2.2.2.2.2.2.2.2.2.2.2.2.2.2.2.2.2.1, ex_trans hHeld.2.2.2.2.2.2.2.2.2.2.2.2.2.2.2.2.2.2.2.2.2 hbq4⟩) (fun hNew => ?_)
                    clear hK K hHeld
                    have hHeld := hNew
                    clear hNew
                    try simp only [Act.put, List.setIfInBounds_toArray, List.set_cons_zero, List.set_cons_succ]
                    first | (refine held_take 11 rfl (by kernel_rfl) (by kernel_rfl) (by kernel_rfl) (by rfl) (fun _ _ _ h => h) (by assumption) (by intro w hSw; (try dsimp only at hSw); go_simp; first | done | with_reducible rfl) ?_) | (refine held_skip 11 rfl (by kernel_rfl) (by kernel_rfl) (by kernel_rfl) (by rfl) (fun _ _ _ h => h) (by assumption) ?_)
                    simp only [Act.put, List.setIfInBounds_toArray, List.set_cons_zero, List.set_cons_succ]
                    first | (refine held_take 12 rfl (by kernel_rfl) (by kernel_rfl) (by kernel_rfl) (by rfl) (fun _ _ _ h => h) (by assumption) (by intro w hSw; (try dsimp only at hSw); go_simp; first | done | with_reducible rfl) ?_) | (refine held_skip 12 rfl (by kernel_rfl) (by kernel_rfl) (by kernel_rfl) (by rfl) (fun _ _ _ h => h) (by assumption) ?_)
                    simp only [Act.put, List.setIfInBounds_toArray, List.set_cons_zero, List.set_cons_succ]
                    first | (refine held_take 13 rfl (by kernel_rfl) (by kernel_rfl) (by kernel_rfl) (by rfl) (fun _ _ _ h => h) (by assumption) (by intro w hSw; (try dsimp only at hSw); go_simp; first | done | with_reducible rfl) ?_) | (refine held_skip 13 rfl (by kernel_rfl) (by kernel_rfl) (by kernel_rfl) (by rfl) (fun _ _ _ h => h) (by assumption) ?_)
                    simp only [Act.put, List.setIfInBounds_toArray, List.set_cons_zero, List.set_cons_succ]
                    first | (refine held_take 14 rfl (by kernel_rfl) (by kernel_rfl) (by kernel_rfl) (by rfl) (fun _ _ _ h => h) (by assumption) (by intro w hSw; (try dsimp only at hSw); go_simp; first | done | with_reducible rfl) ?_) | (refine held_skip 14 rfl (by kernel_rfl) (by kernel_rfl) (by kernel_rfl) (by rfl) (fun _ _ _ h => h) (by assumption) ?_)
                    simp only [Act.put, List.setIfInBounds_toArray, List.set_cons_zero, List.set_cons_succ]
                    first | (refine held_take 16 rfl (by kernel_rfl) (by kernel_rfl) (by kernel_rfl) (by rfl) (fun _ _ _ h => h) (by assumption) (by intro w hSw; (try dsimp only at hSw); go_simp; first | done | with_reducible rfl) ?_) | (refine held_skip 16 rfl (by kernel_rfl) (by kernel_rfl) (by kernel_rfl) (by rfl) (fun _ _ _ h => h) (by assumption) ?_)
                    simp only [Act.put, List.setIfInBounds_toArray, List.set_cons_zero, List.set_cons_succ]
                    first | (refine held_take 17 rfl (by kernel_rfl) (by kernel_rfl) (by kernel_rfl) (by rfl) (fun _ _ _ h => h) (by assumption) (by intro w hSw; (try dsimp only at hSw); go_simp; first | done | with_reducible rfl) ?_) | (refine held_skip 17 rfl (by kernel_rfl) (by kernel_rfl) (by kernel_rfl) (by rfl) (fun _ _ _ h => h) (by assumption) ?_)
                    simp only [Act.put, List.setIfInBounds_toArray, List.set_cons_zero, List.set_cons_succ]
                    refine held_one 15 (by kernel_rfl) rfl (fun K hK => ?_)
                    go_simp
                    go_at_call 33
                    refine (HEQ.out _ (HS6.out.mono mAtr hHeld.2.2.2.2.2.2.2.2.2.2.2.2.2.2.2.2.2.2.2.2.2) (HS7.out.mono mAtr hHeld.2.2.2.2.2.2.2.2.2.2.2.2.2.2.2.2.2.2.2.2.2)).mono ?_; rintro e wq5 ⟨rfl, hbq5⟩
                    go_wp2_with fail
                    refine hK.out _ _ (by (try dsimp only); exact ⟨keep_cell hbq5 hHeld.1, keep_cell hbq5 hHeld.2.1, keep_cell hbq5 hHeld.2.2.1, keep_cell hbq5 hHeld.2.2.2.1, keep_cell hbq5 hHeld.2.2.2.2.1, keep_cell hbq5 hHeld.2.2.2.2.2.1, keep_cell hbq5 hHeld.2.2.2.2.2.2.1, keep_cell hbq5 hHeld.2.2.2.2.2.2.2.1, keep_cell hbq5 hHeld.2.2.2.2.2.2.2.2.1, keep_cell hbq5 hHeld.2.2.2.2.2.2.2.2.2.1, keep_cell hbq5 hHeld.2.2.2.2.2.2.2.2.2.2.1, keep_cell hbq5 hHeld.2.2.2.2.2.2.2.2.2.2.2.1, keep_cell hbq5 hHeld.2.2.2.2.2.2.2.2.2.2.2.2.1, keep_cell hbq5 hHeld.2.2.2.2.2.2.2.2.2.2.2.2.2.1, keep_cell hbq5 hHeld.2.2.2.2.2.2.2.2.2.2.2.2.2.2.1, keep_cell hbq5 hHeld.2.2.2.2.2.2.2.2.2.2.2.2.2.2.2.1, keep_cell hbq5 hHeld.2.2.2.2.2.2.2.2.2.2.2.2.2.2.2.2.1, keep_cell hbq5 hHeld.2.2.2.2.2.2.2.2.2.2.2.2.2.2.2.2.2.1, keep_cell hbq5 hHeld.2.2.2.2.2.2.2.2.2.2.2.2.2.2.2.2.2.2.1, keep_cell hbq5 hHeld.2.2.2.2.2.2.2.2.2.2.2.2.2.2.2.2.2.2.2.1, keep_cell hbq5 hHeld.2.2.2.2.2.2.2.2.2.2.2.2.2.2.2.2.2.2.2.2.1, ex_trans hHeld.2.2.2.2.2.2.2.2.2.2.2.2.2.2.2.2.2.2.2.2.2 hbq5⟩) (fun hNew => ?_)
                    clear hK K hHeld
                    have hHeld := hNew
                    clear hNew
                    try simp only [Act.put, List.setIfInBounds_toArray, List.set_cons_zero, List.set_cons_succ]
                    refine held_one 18 (by kernel_rfl) rfl (fun K hK => ?_)
                    go_simp
                    go_at_call 15
                    refine (HSF.out _ (HS6.out.mono mAtr hHeld.2.2.2.2.2.2.2.2.2.2.2.2.2.2.2.2.2.2.2.2.2) (HS7.out.mono mAtr hHeld.2.2.2.2.2.2.2.2.2.2.2.2.2.2.2.2.2.2.2.2.2)).mono ?_; rintro e wq6 ⟨rfl, hbq6⟩
                    go_wp2_with fail
                    refine hK.out _ _ (by (try dsimp only); exact ⟨keep_cell hbq6 hHeld.1, keep_cell hbq6 hHeld.2.1, keep_cell hbq6 hHeld.2.2.1, keep_cell hbq6 hHeld.2.2.2.1, keep_cell hbq6 hHeld.2.2.2.2.1, keep_cell hbq6 hHeld.2.2.2.2.2.1, keep_cell hbq6 hHeld.2.2.2.2.2.2.1, keep_cell hbq6 hHeld.2.2.2.2.2.2.2.1, keep_cell hbq6 hHeld.2.2.2.2.2.2.2.2.1, keep_cell hbq6 hHeld.2.2.2.2.2.2.2.2.2.1, keep_cell hbq6 hHeld.2.2.2.2.2.2.2.2.2.2.1, keep_cell hbq6 hHeld.2.2.2.2.2.2.2.2.2.2.2.1, keep_cell hbq6 hHeld.2.2.2.2.2.2.2.2.2.2.2.2.1, keep_cell hbq6 hHeld.2.2.2.2.2.2.2.2.2.2.2.2.2.1, keep_cell hbq6 hHeld.2.2.2.2.2.2.2.2.2.2.2.2.2.2.1, keep_cell hbq6 hHeld.2.2.2.2.2.2.2.2.2.2.2.2.2.2.2.1, keep_cell hbq6 hHeld.2.2.2.2.2.2.2.2.2.2.2.2.2.2.2.2.1, keep_cell hbq6 hHeld.2.2.2.2.2.2.2.2.2.2.2.2.2.2.2.2.2.1, keep_cell hbq6 hHeld.2.2.2.2.2.2.2.2.2.2.2.2.2.2.2.2.2.2.1, keep_cell hbq6 hHeld.2.2.2.2.2.2.2.2.2.2.2.2.2.2.2.2.2.2.2.1, keep_cell hbq6 hHeld.2.2.2.2.2.2.2.2.2.2.2.2.2.2.2.2.2.2.2.2.1, ex_trans hHeld.2.2.2.2.2.2.2.2.2.2.2.2.2.2.2.2.2.2.2.2.2 hbq6⟩) (fun hNew => ?_)
                    clear hK K hHeld
                    have hHeld := hNew
                    clear hNew
                    try simp only [Act.put, List.setIfInBounds_toArray, List.set_cons_zero, List.set_cons_succ]
                    first | (refine held_take 19 rfl (by kernel_rfl) (by kernel_rfl) (by kernel_rfl) (by rfl) (fun _ _ _ h => h) (by assumption) (by intro w hSw; (try dsimp only at hSw); go_simp; first | done | with_reducible rfl) ?_) | (refine held_skip 19 rfl (by kernel_rfl) (by kernel_rfl) (by kernel_rfl) (by rfl) (fun _ _ _ h => h) (by assumption) ?_)
                    simp only [Act.put, List.setIfInBounds_toArray, List.set_cons_zero, List.set_cons_succ]
                    first | (refine held_take 20 rfl (by kernel_rfl) (by kernel_rfl) (by kernel_rfl) (by rfl) (fun _ _ _ h => h) (by assumption) (by intro w hSw; (try dsimp only at hSw); go_simp; first | done | with_reducible rfl) ?_) | (refine held_skip 20 rfl (by kernel_rfl) (by kernel_rfl) (by kernel_rfl) (by rfl) (fun _ _ _ h => h) (by assumption) ?_)
                    simp only [Act.put, List.setIfInBounds_toArray, List.set_cons_zero, List.set_cons_succ]
                    first | (refine held_take 21 rfl (by kernel_rfl) (by kernel_rfl) (by kernel_rfl) (by rfl) (fun _ _ _ h => h) (by assumption) (by intro w hSw; (try dsimp only at hSw); go_simp; first | done | with_reducible rfl) ?_) | (refine held_skip 21 rfl (by kernel_rfl) (by kernel_rfl) (by kernel_rfl) (by rfl) (fun _ _ _ h => h) (by assumption) ?_)
                    simp only [Act.put, List.setIfInBounds_toArray, List.set_cons_zero, List.set_cons_succ]
                    first | (refine held_take 22 rfl (by kernel_rfl) (by kernel_rfl) (by kernel_rfl) (by rfl) (fun _ _ _ h => h) (by assumption) (by intro w hSw; (try dsimp only at hSw); go_simp; first | done | with_reducible rfl) ?_) | (refine held_skip 22 rfl (by kernel_rfl) (by kernel_rfl) (by kernel_rfl) (by rfl) (fun _ _ _ h => h) (by assumption) ?_)
                    simp only [Act.put, List.setIfInBounds_toArray, List.set_cons_zero, List.set_cons_succ]
                    first | (refine held_take 23 rfl (by kernel_rfl) (by kernel_rfl) (by kernel_rfl) (by rfl) (fun _ _ _ h => h) (by assumption) (by intro w hSw; (try dsimp only at hSw); go_simp; first | done | with_reducible rfl) ?_) | (refine held_skip 23 rfl (by kernel_rfl) (by kernel_rfl) (by kernel_rfl) (by rfl) (fun _ _ _ h => h) (by assumption) ?_)
                    simp only [Act.put, List.setIfInBounds_toArray, List.set_cons_zero, List.set_cons_succ]
                    refine held_one 24 (by kernel_rfl) rfl (fun K hK => ?_)
                    go_simp
                    go_at_call 29
                    refine (HAA.out _ (HS3.out.mono mAtr hHeld.2.2.2.2.2.2.2.2.2.2.2.2.2.2.2.2.2.2.2.2.2)).mono (fun e wq7 h => ?_)
                    obtain ⟨R7, d7, rfl, hr7, hbq7⟩ := NewRow.strs (rfl : ([] : List ByteArray).length = 0) h
                    clear h
                    have HR7 := Lib.hid hr7
                    clear hr7
                    go_wp2_with fail
                    refine hK.out _ _ (by (try dsimp only); exact ⟨keep_cell hbq7 hHeld.1, keep_cell hbq7 hHeld.2.1, keep_cell hbq7 hHeld.2.2.1, keep_cell hbq7 hHeld.2.2.2.1, keep_cell hbq7 hHeld.2.2.2.2.1, keep_cell hbq7 hHeld.2.2.2.2.2.1, keep_cell hbq7 hHeld.2.2.2.2.2.2.1, keep_cell hbq7 hHeld.2.2.2.2.2.2.2.1, keep_cell hbq7 hHeld.2.2.2.2.2.2.2.2.1, keep_cell hbq7 hHeld.2.2.2.2.2.2.2.2.2.1, keep_cell hbq7 hHeld.2.2.2.2.2.2.2.2.2.2.1, keep_cell hbq7 hHeld.2.2.2.2.2.2.2.2.2.2.2.1, keep_cell hbq7 hHeld.2.2.2.2.2.2.2.2.2.2.2.2.1, keep_cell hbq7 hHeld.2.2.2.2.2.2.2.2.2.2.2.2.2.1, keep_cell hbq7 hHeld.2.2.2.2.2.2.2.2.2.2.2.2.2.2.1, keep_cell hbq7 hHeld.2.2.2.2.2.2.2.2.2.2.2.2.2.2.2.1, keep_cell hbq7 hHeld.2.2.2.2.2.2.2.2.2.2.2.2.2.2.2.2.1, keep_cell hbq7 hHeld.2.2.2.2.2.2.2.2.2.2.2.2.2.2.2.2.2.1, keep_cell hbq7 hHeld.2.2.2.2.2.2.2.2.2.2.2.2.2.2.2.2.2.2.1, keep_cell hbq7 hHeld.2.2.2.2.2.2.2.2.2.2.2.2.2.2.2.2.2.2.2.1, keep_cell hbq7 hHeld.2.2.2.2.2.2.2.2.2.2.2.2.2.2.2.2.2.2.2.2.1, ex_trans hHeld.2.2.2.2.2.2.2.2.2.2.2.2.2.2.2.2.2.2.2.2.2 hbq7⟩) (fun hNew => ?_)
                    clear hK K hHeld
                    have hHeld := hNew
                    clear hNew
                    try simp only [Act.put, List.setIfInBounds_toArray, List.set_cons_zero, List.set_cons_succ]
                    first | (refine held_take 25 rfl (by kernel_rfl) (by kernel_rfl) (by kernel_rfl) (by rfl) (fun _ _ _ h => h) (by assumption) (by intro w hSw; (try dsimp only at hSw); go_simp; first | done | with_reducible rfl) ?_) | (refine held_skip 25 rfl (by kernel_rfl) (by kernel_rfl) (by kernel_rfl) (by rfl) (fun _ _ _ h => h) (by assumption) ?_)
                    simp only [Act.put, List.setIfInBounds_toArray, List.set_cons_zero, List.set_cons_succ]
                    first | (refine held_take 26 rfl (by kernel_rfl) (by kernel_rfl) (by kernel_rfl) (by rfl) (fun _ _ _ h => h) (by assumption) (by intro w hSw; (try dsimp only at hSw); go_simp; first | done | with_reducible rfl) ?_) | (refine held_skip 26 rfl (by kernel_rfl) (by kernel_rfl) (by kernel_rfl) (by rfl) (fun _ _ _ h => h) (by assumption) ?_)
                    simp only [Act.put, List.setIfInBounds_toArray, List.set_cons_zero, List.set_cons_succ]
                    first | (refine held_take 27 rfl (by kernel_rfl) (by kernel_rfl) (by kernel_rfl) (by rfl) (fun _ _ _ h => h) (by assumption) (by intro w hSw; (try dsimp only at hSw); go_simp; first | done | with_reducible rfl) ?_) | (refine held_skip 27 rfl (by kernel_rfl) (by kernel_rfl) (by kernel_rfl) (by rfl) (fun _ _ _ h => h) (by assumption) ?_)
                    simp only [Act.put, List.setIfInBounds_toArray, List.set_cons_zero, List.set_cons_succ]
                    first | (refine held_take 28 rfl (by kernel_rfl) (by kernel_rfl) (by kernel_rfl) (by rfl) (fun _ _ _ h => h) (by assumption) (by intro w hSw; (try dsimp only at hSw); go_simp; first | done | with_reducible rfl) ?_) | (refine held_skip 28 rfl (by kernel_rfl) (by kernel_rfl) (by kernel_rfl) (by rfl) (fun _ _ _ h => h) (by assumption) ?_)
                    simp only [Act.put, List.setIfInBounds_toArray, List.set_cons_zero, List.set_cons_succ]
                    first | (refine held_take 29 rfl (by kernel_rfl) (by kernel_rfl) (by kernel_rfl) (by rfl) (fun _ _ _ h => h) (by assumption) (by intro w hSw; (try dsimp only at hSw); go_simp; first | done | with_reducible rfl) ?_) | (refine held_skip 29 rfl (by kernel_rfl) (by kernel_rfl) (by kernel_rfl) (by rfl) (fun _ _ _ h => h) (by assumption) ?_)
                    simp only [Act.put, List.setIfInBounds_toArray, List.set_cons_zero, List.set_cons_succ]
                    first | (refine held_take 30 rfl (by kernel_rfl) (by kernel_rfl) (by kernel_rfl) (by rfl) (fun _ _ _ h => h) (by assumption) (by intro w hSw; (try dsimp only at hSw); go_simp; first | done | with_reducible rfl) ?_) | (refine held_skip 30 rfl (by kernel_rfl) (by kernel_rfl) (by kernel_rfl) (by rfl) (fun _ _ _ h => h) (by assumption) ?_)
                    simp only [Act.put, List.setIfInBounds_toArray, List.set_cons_zero, List.set_cons_succ]
                    first | (refine held_take 31 rfl (by kernel_rfl) (by kernel_rfl) (by kernel_rfl) (by rfl) (fun _ _ _ h => h) (by assumption) (by intro w hSw; (try dsimp only at hSw); go_simp; first | done | with_reducible rfl) ?_) | (refine held_skip 31 rfl (by kernel_rfl) (by kernel_rfl) (by kernel_rfl) (by rfl) (fun _ _ _ h => h) (by assumption) ?_)
                    simp only [Act.put, List.setIfInBounds_toArray, List.set_cons_zero, List.set_cons_succ]
                    first | (refine held_take 32 rfl (by kernel_rfl) (by kernel_rfl) (by kernel_rfl) (by rfl) (fun _ _ _ h => h) (by assumption) (by intro w hSw; (try dsimp only at hSw); go_simp; first | done | with_reducible rfl) ?_) | (refine held_skip 32 rfl (by kernel_rfl) (by kernel_rfl) (by kernel_rfl) (by rfl) (fun _ _ _ h => h) (by assumption) ?_)
                    simp only [Act.put, List.setIfInBounds_toArray, List.set_cons_zero, List.set_cons_succ]
                    first | (refine held_take 33 rfl (by kernel_rfl) (by kernel_rfl) (by kernel_rfl) (by rfl) (fun _ _ _ h => h) (by assumption) (by intro w hSw; (try dsimp only at hSw); go_simp; first | done | with_reducible rfl) ?_) | (refine held_skip 33 rfl (by kernel_rfl) (by kernel_rfl) (by kernel_rfl) (by rfl) (fun _ _ _ h => h) (by assumption) ?_)
                    simp only [Act.put, List.setIfInBounds_toArray, List.set_cons_zero, List.set_cons_succ]
                    first | (refine held_take 34 rfl (by kernel_rfl) (by kernel_rfl) (by kernel_rfl) (by rfl) (fun _ _ _ h => h) (by assumption) (by intro w hSw; (try dsimp only at hSw); go_simp; first | done | with_reducible rfl) ?_) | (refine held_skip 34 rfl (by kernel_rfl) (by kernel_rfl) (by kernel_rfl) (by rfl) (fun _ _ _ h => h) (by assumption) ?_)
                    simp only [Act.put, List.setIfInBounds_toArray, List.set_cons_zero, List.set_cons_succ]
                    first | (refine held_take 35 rfl (by kernel_rfl) (by kernel_rfl) (by kernel_rfl) (by rfl) (fun _ _ _ h => h) (by assumption) (by intro w hSw; (try dsimp only at hSw); go_simp; first | done | with_reducible rfl) ?_) | (refine held_skip 35 rfl (by kernel_rfl) (by kernel_rfl) (by kernel_rfl) (by rfl) (fun _ _ _ h => h) (by assumption) ?_)
                    simp only [Act.put, List.setIfInBounds_toArray, List.set_cons_zero, List.set_cons_succ]
                    first | (refine held_take 36 rfl (by kernel_rfl) (by kernel_rfl) (by kernel_rfl) (by rfl) (fun _ _ _ h => h) (by assumption) (by intro w hSw; (try dsimp only at hSw); go_simp; first | done | with_reducible rfl) ?_) | (refine held_skip 36 rfl (by kernel_rfl) (by kernel_rfl) (by kernel_rfl) (by rfl) (fun _ _ _ h => h) (by assumption) ?_)
                    simp only [Act.put, List.setIfInBounds_toArray, List.set_cons_zero, List.set_cons_succ]
                    first | (refine held_take 37 rfl (by kernel_rfl) (by kernel_rfl) (by kernel_rfl) (by rfl) (fun _ _ _ h => h) (by assumption) (by intro w hSw; (try dsimp only at hSw); go_simp; first | done | with_reducible rfl) ?_) | (refine held_skip 37 rfl (by kernel_rfl) (by kernel_rfl) (by kernel_rfl) (by rfl) (fun _ _ _ h => h) (by assumption) ?_)
                    simp only [Act.put, List.setIfInBounds_toArray, List.set_cons_zero, List.set_cons_succ]
                    first | (refine held_take 38 rfl (by kernel_rfl) (by kernel_rfl) (by kernel_rfl) (by rfl) (fun _ _ _ h => h) (by assumption) (by intro w hSw; (try dsimp only at hSw); go_simp; first | done | with_reducible rfl) ?_) | (refine held_skip 38 rfl (by kernel_rfl) (by kernel_rfl) (by kernel_rfl) (by rfl) (fun _ _ _ h => h) (by assumption) ?_)
                    simp only [Act.put, List.setIfInBounds_toArray, List.set_cons_zero, List.set_cons_succ]
                    first | (refine held_take 39 rfl (by kernel_rfl) (by kernel_rfl) (by kernel_rfl) (by rfl) (fun _ _ _ h => h) (by assumption) (by intro w hSw; (try dsimp only at hSw); go_simp; first | done | with_reducible rfl) ?_) | (refine held_skip 39 rfl (by kernel_rfl) (by kernel_rfl) (by kernel_rfl) (by rfl) (fun _ _ _ h => h) (by assumption) ?_)
                    simp only [Act.put, List.setIfInBounds_toArray, List.set_cons_zero, List.set_cons_succ]
                    first | (refine held_take 40 rfl (by kernel_rfl) (by kernel_rfl) (by kernel_rfl) (by rfl) (fun _ _ _ h => h) (by assumption) (by intro w hSw; (try dsimp only at hSw); go_simp; first | done | with_reducible rfl) ?_) | (refine held_skip 40 rfl (by kernel_rfl) (by kernel_rfl) (by kernel_rfl) (by rfl) (fun _ _ _ h => h) (by assumption) ?_)
                    simp only [Act.put, List.setIfInBounds_toArray, List.set_cons_zero, List.set_cons_succ]
                    first | (refine held_take 41 rfl (by kernel_rfl) (by kernel_rfl) (by kernel_rfl) (by rfl) (fun _ _ _ h => h) (by assumption) (by intro w hSw; (try dsimp only at hSw); go_simp; first | done | with_reducible rfl) ?_) | (refine held_skip 41 rfl (by kernel_rfl) (by kernel_rfl) (by kernel_rfl) (by rfl) (fun _ _ _ h => h) (by assumption) ?_)
                    simp only [Act.put, List.setIfInBounds_toArray, List.set_cons_zero, List.set_cons_succ]
                    first | (refine held_take 42 rfl (by kernel_rfl) (by kernel_rfl) (by kernel_rfl) (by rfl) (fun _ _ _ h => h) (by assumption) (by intro w hSw; (try dsimp only at hSw); go_simp; first | done | with_reducible rfl) ?_) | (refine held_skip 42 rfl (by kernel_rfl) (by kernel_rfl) (by kernel_rfl) (by rfl) (fun _ _ _ h => h) (by assumption) ?_)
                    simp only [Act.put, List.setIfInBounds_toArray, List.set_cons_zero, List.set_cons_succ]
                    first | (refine held_take 43 rfl (by kernel_rfl) (by kernel_rfl) (by kernel_rfl) (by rfl) (fun _ _ _ h => h) (by assumption) (by intro w hSw; (try dsimp only at hSw); go_simp; first | done | with_reducible rfl) ?_) | (refine held_skip 43 rfl (by kernel_rfl) (by kernel_rfl) (by kernel_rfl) (by rfl) (fun _ _ _ h => h) (by assumption) ?_)
                    simp only [Act.put, List.setIfInBounds_toArray, List.set_cons_zero, List.set_cons_succ]
                    first | (refine held_take 44 rfl (by kernel_rfl) (by kernel_rfl) (by kernel_rfl) (by rfl) (fun _ _ _ h => h) (by assumption) (by intro w hSw; (try dsimp only at hSw); go_simp; first | done | with_reducible rfl) ?_) | (refine held_skip 44 rfl (by kernel_rfl) (by kernel_rfl) (by kernel_rfl) (by rfl) (fun _ _ _ h => h) (by assumption) ?_)
                    simp only [Act.put, List.setIfInBounds_toArray, List.set_cons_zero, List.set_cons_succ]
                    first | (refine held_take 45 rfl (by kernel_rfl) (by kernel_rfl) (by kernel_rfl) (by rfl) (fun _ _ _ h => h) (by assumption) (by intro w hSw; (try dsimp only at hSw); go_simp; first | done | with_reducible rfl) ?_) | (refine held_skip 45 rfl (by kernel_rfl) (by kernel_rfl) (by kernel_rfl) (by rfl) (fun _ _ _ h => h) (by assumption) ?_)
                    simp only [Act.put, List.setIfInBounds_toArray, List.set_cons_zero, List.set_cons_succ]
                    first | (refine held_take 46 rfl (by kernel_rfl) (by kernel_rfl) (by kernel_rfl) (by rfl) (fun _ _ _ h => h) (by assumption) (by intro w hSw; (try dsimp only at hSw); go_simp; first | done | with_reducible rfl) ?_) | (refine held_skip 46 rfl (by kernel_rfl) (by kernel_rfl) (by kernel_rfl) (by rfl) (fun _ _ _ h => h) (by assumption) ?_)
                    simp only [Act.put, List.setIfInBounds_toArray, List.set_cons_zero, List.set_cons_succ]
                    first | (refine held_take 47 rfl (by kernel_rfl) (by kernel_rfl) (by kernel_rfl) (by rfl) (fun _ _ _ h => h) (by assumption) (by intro w hSw; (try dsimp only at hSw); go_simp; first | done | with_reducible rfl) ?_) | (refine held_skip 47 rfl (by kernel_rfl) (by kernel_rfl) (by kernel_rfl) (by rfl) (fun _ _ _ h => h) (by assumption) ?_)
                    simp only [Act.put, List.setIfInBounds_toArray, List.set_cons_zero, List.set_cons_succ]
                    refine wpAnyH_done (by kernel_rfl) ?_ _
                    have hB := ex_trans HB.out hHeld.2.2.2.2.2.2.2.2.2.2.2.2.2.2.2.2.2.2.2.2.2
                    clear hHeld
                    go_wp2_with fail
                    go_returns
                    exact ⟨rfl, hB⟩
                  | false =>
                    have hq2 : q2 = 0 := by rw [← HQ2.out, HCH.out]; rfl
                    subst hq2
                    clear HCH
                    go_upto_region 11 with fail
                    refine wp_region_held_drew (S := (fun w' => w'.cell? ⟨g3, 0, none⟩ = some (.int .i64 a.id) ∧ w'.cell? ⟨g3, 1, none⟩ = some (.int .i64 a.owner) ∧ w'.cell? ⟨g3, 2, none⟩ = some (.bool a.shared) ∧ w'.cell? ⟨g3, 3, none⟩ = some (.int .i64 a.link) ∧ w'.cell? ⟨g3, 4, none⟩ = some (.slice A3 n3 c3) ∧ w'.cell? ⟨g4, 0, none⟩ = some (.int .i64 b.id) ∧ w'.cell? ⟨g4, 1, none⟩ = some (.int .i64 b.owner) ∧ w'.cell? ⟨g4, 2, none⟩ = some (.bool b.shared) ∧ w'.cell? ⟨g4, 3, none⟩ = some (.int .i64 b.link) ∧ w'.cell? ⟨g4, 4, none⟩ = some (.slice A4 n4 c4) ∧ w'.cell? ⟨g6, 0, none⟩ = some (.int .i64 c.id) ∧ w'.cell? ⟨g6, 1, none⟩ = some (.int .i64 c.owner) ∧ w'.cell? ⟨g6, 2, none⟩ = some (.bool c.shared) ∧ w'.cell? ⟨g6, 3, none⟩ = some (.int .i64 c.link) ∧ w'.cell? ⟨g6, 4, none⟩ = some (.slice A6 n6 c6) ∧ w'.cell? ⟨g7, 0, none⟩ = some (.int .i64 d.id) ∧ w'.cell? ⟨g7, 1, none⟩ = some (.int .i64 d.owner) ∧ w'.cell? ⟨g7, 2, none⟩ = some (.bool d.shared) ∧ w'.cell? ⟨g7, 3, none⟩ = some (.int .i64 d.link) ∧ w'.cell? ⟨g7, 4, none⟩ = some (.slice A7 n7 c7) ∧ Below W10.heap.size W10 w')) (by kernel_rfl) (by (try dsimp only); exact ⟨p0, p1, p2, p3, p4, u0, u1, u2, u3, u4, r0, r1, r2, r3, r4, s0, s1, s2, s3, s4, (Below.refl _ _).drew⟩) (fun hHeld => ?_)
                    first | (refine held_take 0 rfl (by kernel_rfl) (by kernel_rfl) (by kernel_rfl) (by rfl) (fun _ _ _ h => h) (by assumption) (by intro w hSw; (try dsimp only at hSw); go_simp; first | done | with_reducible rfl) ?_) | (refine held_skip 0 rfl (by kernel_rfl) (by kernel_rfl) (by kernel_rfl) (by rfl) (fun _ _ _ h => h) (by assumption) ?_)
                    simp only [Act.put, List.setIfInBounds_toArray, List.set_cons_zero, List.set_cons_succ]
                    first | (refine held_take 1 rfl (by kernel_rfl) (by kernel_rfl) (by kernel_rfl) (by rfl) (fun _ _ _ h => h) (by assumption) (by intro w hSw; (try dsimp only at hSw); go_simp; first | done | with_reducible rfl) ?_) | (refine held_skip 1 rfl (by kernel_rfl) (by kernel_rfl) (by kernel_rfl) (by rfl) (fun _ _ _ h => h) (by assumption) ?_)
                    simp only [Act.put, List.setIfInBounds_toArray, List.set_cons_zero, List.set_cons_succ]
                    first | (refine held_take 2 rfl (by kernel_rfl) (by kernel_rfl) (by kernel_rfl) (by rfl) (fun _ _ _ h => h) (by assumption) (by intro w hSw; (try dsimp only at hSw); go_simp; first | done | with_reducible rfl) ?_) | (refine held_skip 2 rfl (by kernel_rfl) (by kernel_rfl) (by kernel_rfl) (by rfl) (fun _ _ _ h => h) (by assumption) ?_)
                    simp only [Act.put, List.setIfInBounds_toArray, List.set_cons_zero, List.set_cons_succ]
                    refine held_one 3 (by kernel_rfl) rfl (fun K hK => ?_)
                    go_simp
                    go_at_call 32
                    refine (HSP.out _ (HS3.out.mono mAtr hHeld.2.2.2.2.2.2.2.2.2.2.2.2.2.2.2.2.2.2.2.2) (HS4.out.mono mAtr hHeld.2.2.2.2.2.2.2.2.2.2.2.2.2.2.2.2.2.2.2.2)).mono (fun e wq1 h => ?_)
                    obtain ⟨R1, d1, rfl, hr1, hbq1⟩ := NewRow.strs HQ.out h
                    clear h
                    have HR1 := Lib.hid hr1
                    clear hr1
                    go_wp2_with fail
                    refine hK.out _ _ (by (try dsimp only); exact ⟨keep_cell hbq1 hHeld.1, keep_cell hbq1 hHeld.2.1, keep_cell hbq1 hHeld.2.2.1, keep_cell hbq1 hHeld.2.2.2.1, keep_cell hbq1 hHeld.2.2.2.2.1, keep_cell hbq1 hHeld.2.2.2.2.2.1, keep_cell hbq1 hHeld.2.2.2.2.2.2.1, keep_cell hbq1 hHeld.2.2.2.2.2.2.2.1, keep_cell hbq1 hHeld.2.2.2.2.2.2.2.2.1, keep_cell hbq1 hHeld.2.2.2.2.2.2.2.2.2.1, keep_cell hbq1 hHeld.2.2.2.2.2.2.2.2.2.2.1, keep_cell hbq1 hHeld.2.2.2.2.2.2.2.2.2.2.2.1, keep_cell hbq1 hHeld.2.2.2.2.2.2.2.2.2.2.2.2.1, keep_cell hbq1 hHeld.2.2.2.2.2.2.2.2.2.2.2.2.2.1, keep_cell hbq1 hHeld.2.2.2.2.2.2.2.2.2.2.2.2.2.2.1, keep_cell hbq1 hHeld.2.2.2.2.2.2.2.2.2.2.2.2.2.2.2.1, keep_cell hbq1 hHeld.2.2.2.2.2.2.2.2.2.2.2.2.2.2.2.2.1, keep_cell hbq1 hHeld.2.2.2.2.2.2.2.2.2.2.2.2.2.2.2.2.2.1, keep_cell hbq1 hHeld.2.2.2.2.2.2.2.2.2.2.2.2.2.2.2.2.2.2.1, keep_cell hbq1 hHeld.2.2.2.2.2.2.2.2.2.2.2.2.2.2.2.2.2.2.2.1, ex_trans hHeld.2.2.2.2.2.2.2.2.2.2.2.2.2.2.2.2.2.2.2.2 hbq1⟩) (fun hNew => ?_)
                    clear hK K hHeld
                    have hHeld := hNew
                    clear hNew
                    try simp only [Act.put, List.setIfInBounds_toArray, List.set_cons_zero, List.set_cons_succ]
                    refine held_one 4 (by kernel_rfl) rfl (fun K hK => ?_)
                    go_simp
                    go_at_call 31
                    refine (texts_self A5 q c5 R1 d1 L _ (by omega) (HS5.out.mono mStr hHeld.2.2.2.2.2.2.2.2.2.2.2.2.2.2.2.2.2.2.2.2) HR1.out).mono ?_; rintro e wq2 ⟨rfl, hbq2⟩
                    go_wp2_with fail
                    refine hK.out _ _ (by (try dsimp only); exact ⟨keep_cell hbq2 hHeld.1, keep_cell hbq2 hHeld.2.1, keep_cell hbq2 hHeld.2.2.1, keep_cell hbq2 hHeld.2.2.2.1, keep_cell hbq2 hHeld.2.2.2.2.1, keep_cell hbq2 hHeld.2.2.2.2.2.1, keep_cell hbq2 hHeld.2.2.2.2.2.2.1, keep_cell hbq2 hHeld.2.2.2.2.2.2.2.1, keep_cell hbq2 hHeld.2.2.2.2.2.2.2.2.1, keep_cell hbq2 hHeld.2.2.2.2.2.2.2.2.2.1, keep_cell hbq2 hHeld.2.2.2.2.2.2.2.2.2.2.1, keep_cell hbq2 hHeld.2.2.2.2.2.2.2.2.2.2.2.1, keep_cell hbq2 hHeld.2.2.2.2.2.2.2.2.2.2.2.2.1, keep_cell hbq2 hHeld.2.2.2.2.2.2.2.2.2.2.2.2.2.1, keep_cell hbq2 hHeld.2.2.2.2.2.2.2.2.2.2.2.2.2.2.1, keep_cell hbq2 hHeld.2.2.2.2.2.2.2.2.2.2.2.2.2.2.2.1, keep_cell hbq2 hHeld.2.2.2.2.2.2.2.2.2.2.2.2.2.2.2.2.1, keep_cell hbq2 hHeld.2.2.2.2.2.2.2.2.2.2.2.2.2.2.2.2.2.1, keep_cell hbq2 hHeld.2.2.2.2.2.2.2.2.2.2.2.2.2.2.2.2.2.2.1, keep_cell hbq2 hHeld.2.2.2.2.2.2.2.2.2.2.2.2.2.2.2.2.2.2.2.1, ex_trans hHeld.2.2.2.2.2.2.2.2.2.2.2.2.2.2.2.2.2.2.2.2 hbq2⟩) (fun hNew => ?_)
                    clear hK K hHeld
                    have hHeld := hNew
                    clear hNew
                    try simp only [Act.put, List.setIfInBounds_toArray, List.set_cons_zero, List.set_cons_succ]
                    first | (refine held_take 5 rfl (by kernel_rfl) (by kernel_rfl) (by kernel_rfl) (by rfl) (fun _ _ _ h => h) (by assumption) (by intro w hSw; (try dsimp only at hSw); go_simp; first | done | with_reducible rfl) ?_) | (refine held_skip 5 rfl (by kernel_rfl) (by kernel_rfl) (by kernel_rfl) (by rfl) (fun _ _ _ h => h) (by assumption) ?_)
                    simp only [Act.put, List.setIfInBounds_toArray, List.set_cons_zero, List.set_cons_succ]
                    first | (refine held_take 6 rfl (by kernel_rfl) (by kernel_rfl) (by kernel_rfl) (by rfl) (fun _ _ _ h => h) (by assumption) (by intro w hSw; (try dsimp only at hSw); go_simp; first | done | with_reducible rfl) ?_) | (refine held_skip 6 rfl (by kernel_rfl) (by kernel_rfl) (by kernel_rfl) (by rfl) (fun _ _ _ h => h) (by assumption) ?_)
                    simp only [Act.put, List.setIfInBounds_toArray, List.set_cons_zero, List.set_cons_succ]
                    first | (refine held_take 7 rfl (by kernel_rfl) (by kernel_rfl) (by kernel_rfl) (by rfl) (fun _ _ _ h => h) (by assumption) (by intro w hSw; (try dsimp only at hSw); go_simp; first | done | with_reducible rfl) ?_) | (refine held_skip 7 rfl (by kernel_rfl) (by kernel_rfl) (by kernel_rfl) (by rfl) (fun _ _ _ h => h) (by assumption) ?_)
                    simp only [Act.put, List.setIfInBounds_toArray, List.set_cons_zero, List.set_cons_succ]
                    first | (refine held_take 8 rfl (by kernel_rfl) (by kernel_rfl) (by kernel_rfl) (by rfl) (fun _ _ _ h => h) (by assumption) (by intro w hSw; (try dsimp only at hSw); go_simp; first | done | with_reducible rfl) ?_) | (refine held_skip 8 rfl (by kernel_rfl) (by kernel_rfl) (by kernel_rfl) (by rfl) (fun _ _ _ h => h) (by assumption) ?_)
                    simp only [Act.put, List.setIfInBounds_toArray, List.set_cons_zero, List.set_cons_succ]
                    refine held_one 9 (by kernel_rfl) rfl (fun K hK => ?_)
                    go_simp
                    go_at_call 29
                    refine (HBA.out _ (HS3.out.mono mAtr hHeld.2.2.2.2.2.2.2.2.2.2.2.2.2.2.2.2.2.2.2.2) (HS4.out.mono mAtr hHeld.2.2.2.2.2.2.2.2.2.2.2.2.2.2.2.2.2.2.2.2)).mono (fun e wq3 h => ?_)
                    obtain ⟨R3, d3, rfl, hr3, hbq3⟩ := NewRow.strs HQ.out h
                    clear h
                    have HR3 := Lib.hid hr3
                    clear hr3
                    go_wp2_with fail
                    refine hK.out _ _ (by (try dsimp only); exact ⟨keep_cell hbq3 hHeld.1, keep_cell hbq3 hHeld.2.1, keep_cell hbq3 hHeld.2.2.1, keep_cell hbq3 hHeld.2.2.2.1, keep_cell hbq3 hHeld.2.2.2.2.1, keep_cell hbq3 hHeld.2.2.2.2.2.1, keep_cell hbq3 hHeld.2.2.2.2.2.2.1, keep_cell hbq3 hHeld.2.2.2.2.2.2.2.1, keep_cell hbq3 hHeld.2.2.2.2.2.2.2.2.1, keep_cell hbq3 hHeld.2.2.2.2.2.2.2.2.2.1, keep_cell hbq3 hHeld.2.2.2.2.2.2.2.2.2.2.1, keep_cell hbq3 hHeld.2.2.2.2.2.2.2.2.2.2.2.1, keep_cell hbq3 hHeld.2.2.2.2.2.2.2.2.2.2.2.2.1, keep_cell hbq3 hHeld.2.2.2.2.2.2.2.2.2.2.2.2.2.1, keep_cell hbq3 hHeld.2.2.2.2.2.2.2.2.2.2.2.2.2.2.1, keep_cell hbq3 hHeld.2.2.2.2.2.2.2.2.2.2.2.2.2.2.2.1, keep_cell hbq3 hHeld.2.2.2.2.2.2.2.2.2.2.2.2.2.2.2.2.1, keep_cell hbq3 hHeld.2.2.2.2.2.2.2.2.2.2.2.2.2.2.2.2.2.1, keep_cell hbq3 hHeld.2.2.2.2.2.2.2.2.2.2.2.2.2.2.2.2.2.2.1, keep_cell hbq3 hHeld.2.2.2.2.2.2.2.2.2.2.2.2.2.2.2.2.2.2.2.1, ex_trans hHeld.2.2.2.2.2.2.2.2.2.2.2.2.2.2.2.2.2.2.2.2 hbq3⟩) (fun hNew => ?_)
                    clear hK K hHeld
                    have hHeld := hNew
                    clear hNew
                    try simp only [Act.put, List.setIfInBounds_toArray, List.set_cons_zero, List.set_cons_succ]
                    refine held_one 10 (by kernel_rfl) rfl (fun K hK => ?_)
                    go_simp
                    go_at_call 31
                    refine (texts_self A5 q c5 R3 d3 L _ (by omega) (HS5.out.mono mStr hHeld.2.2.2.2.2.2.2.2.2.2.2.2.2.2.2.2.2.2.2.2) HR3.out).mono ?_; rintro e wq4 ⟨rfl, hbq4⟩
                    go_wp2_with fail
                    refine hK.out _ _ (by (try dsimp only); exact ⟨keep_cell hbq4 hHeld.1, keep_cell hbq4 hHeld.2.1, keep_cell hbq4 hHeld.2.2.1, keep_cell hbq4 hHeld.2.2.2.1, keep_cell hbq4 hHeld.2.2.2.2.1, keep_cell hbq4 hHeld.2.2.2.2.2.1, keep_cell hbq4 hHeld.2.2.2.2.2.2.1, keep_cell hbq4 hHeld.2.2.2.2.2.2.2.1, keep_cell hbq4 hHeld.2.2.2.2.2.2.2.2.1, keep_cell hbq4 hHeld.2.2.2.2.2.2.2.2.2.1, keep_cell hbq4 hHeld.2.2.2.2.2.2.2.2.2.2.1, keep_cell hbq4 hHeld.2.2.2.2.2.2.2.2.2.2.2.1, keep_cell hbq4 hHeld.2.2.2.2.2.2.2.2.2.2.2.2.1, keep_cell hbq4 hHeld.2.2.2.2.2.2.2.2.2.2.2.2.2.1, keep_cell hbq4 hHeld.2.2.2.2.2.2.2.2.2.2.2.2.2.2.1, keep_cell hbq4 hHeld.2.2.2.2.2.2.2.2.2.2.2.2.2.2.2.1, keep_cell hbq4 hHeld.2.2.2.2.2.2.2.2.2.2.2.2.2.2.2.2.1, keep_cell hbq4 hHeld.2.2.2.2.2.2.2.2.2.2.2.2.2.2.2.2.2.1, keep_cell hbq4 hHeld.2.2.2.2.2.2.2.2.2.2.2.2.2.2.2.2.2.2.1, keep_cell hbq4 hHeld.2.2.2.2.2.2.2.2.2.2.2.2.2.2.2.2.2.2.2.1, ex_trans hHeld.2.2.2.2.2.2.2.2.2.2.2.2.2.2.2.2.2.2.2.2 hbq4⟩) (fun hNew => ?_)
                    clear hK K hHeld
                    have hHeld := hNew
                    clear hNew
                    try simp only [Act.put, List.setIfInBounds_toArray, List.set_cons_zero, List.set_cons_succ]
                    first | (refine held_take 11 rfl (by kernel_rfl) (by kernel_rfl) (by kernel_rfl) (by rfl) (fun _ _ _ h => h) (by assumption) (by intro w hSw; (try dsimp only at hSw); go_simp; first | done | with_reducible rfl) ?_) | (refine held_skip 11 rfl (by kernel_rfl) (by kernel_rfl) (by kernel_rfl) (by rfl) (fun _ _ _ h => h) (by assumption) ?_)
                    simp only [Act.put, List.setIfInBounds_toArray, List.set_cons_zero, List.set_cons_succ]
                    first | (refine held_take 12 rfl (by kernel_rfl) (by kernel_rfl) (by kernel_rfl) (by rfl) (fun _ _ _ h => h) (by assumption) (by intro w hSw; (try dsimp only at hSw); go_simp; first | done | with_reducible rfl) ?_) | (refine held_skip 12 rfl (by kernel_rfl) (by kernel_rfl) (by kernel_rfl) (by rfl) (fun _ _ _ h => h) (by assumption) ?_)
                    simp only [Act.put, List.setIfInBounds_toArray, List.set_cons_zero, List.set_cons_succ]
                    first | (refine held_take 13 rfl (by kernel_rfl) (by kernel_rfl) (by kernel_rfl) (by rfl) (fun _ _ _ h => h) (by assumption) (by intro w hSw; (try dsimp only at hSw); go_simp; first | done | with_reducible rfl) ?_) | (refine held_skip 13 rfl (by kernel_rfl) (by kernel_rfl) (by kernel_rfl) (by rfl) (fun _ _ _ h => h) (by assumption) ?_)
                    simp only [Act.put, List.setIfInBounds_toArray, List.set_cons_zero, List.set_cons_succ]
                    first | (refine held_take 14 rfl (by kernel_rfl) (by kernel_rfl) (by kernel_rfl) (by rfl) (fun _ _ _ h => h) (by assumption) (by intro w hSw; (try dsimp only at hSw); go_simp; first | done | with_reducible rfl) ?_) | (refine held_skip 14 rfl (by kernel_rfl) (by kernel_rfl) (by kernel_rfl) (by rfl) (fun _ _ _ h => h) (by assumption) ?_)
                    simp only [Act.put, List.setIfInBounds_toArray, List.set_cons_zero, List.set_cons_succ]
                    first | (refine held_take 16 rfl (by kernel_rfl) (by kernel_rfl) (by kernel_rfl) (by rfl) (fun _ _ _ h => h) (by assumption) (by intro w hSw; (try dsimp only at hSw); go_simp; first | done | with_reducible rfl) ?_) | (refine held_skip 16 rfl (by kernel_rfl) (by kernel_rfl) (by kernel_rfl) (by rfl) (fun _ _ _ h => h) (by assumption) ?_)
                    simp only [Act.put, List.setIfInBounds_toArray, List.set_cons_zero, List.set_cons_succ]
                    first | (refine held_take 17 rfl (by kernel_rfl) (by kernel_rfl) (by kernel_rfl) (by rfl) (fun _ _ _ h => h) (by assumption) (by intro w hSw; (try dsimp only at hSw); go_simp; first | done | with_reducible rfl) ?_) | (refine held_skip 17 rfl (by kernel_rfl) (by kernel_rfl) (by kernel_rfl) (by rfl) (fun _ _ _ h => h) (by assumption) ?_)
                    simp only [Act.put, List.setIfInBounds_toArray, List.set_cons_zero, List.set_cons_succ]
                    refine held_one 15 (by kernel_rfl) rfl (fun K hK => ?_)
                    go_simp
                    go_at_call 33
                    refine (HEQ.out _ (HS6.out.mono mAtr hHeld.2.2.2.2.2.2.2.2.2.2.2.2.2.2.2.2.2.2.2.2) (HS7.out.mono mAtr hHeld.2.2.2.2.2.2.2.2.2.2.2.2.2.2.2.2.2.2.2.2)).mono ?_; rintro e wq5 ⟨rfl, hbq5⟩
                    go_wp2_with fail
                    refine hK.out _ _ (by (try dsimp only); exact ⟨keep_cell hbq5 hHeld.1, keep_cell hbq5 hHeld.2.1, keep_cell hbq5 hHeld.2.2.1, keep_cell hbq5 hHeld.2.2.2.1, keep_cell hbq5 hHeld.2.2.2.2.1, keep_cell hbq5 hHeld.2.2.2.2.2.1, keep_cell hbq5 hHeld.2.2.2.2.2.2.1, keep_cell hbq5 hHeld.2.2.2.2.2.2.2.1, keep_cell hbq5 hHeld.2.2.2.2.2.2.2.2.1, keep_cell hbq5 hHeld.2.2.2.2.2.2.2.2.2.1, keep_cell hbq5 hHeld.2.2.2.2.2.2.2.2.2.2.1, keep_cell hbq5 hHeld.2.2.2.2.2.2.2.2.2.2.2.1, keep_cell hbq5 hHeld.2.2.2.2.2.2.2.2.2.2.2.2.1, keep_cell hbq5 hHeld.2.2.2.2.2.2.2.2.2.2.2.2.2.1, keep_cell hbq5 hHeld.2.2.2.2.2.2.2.2.2.2.2.2.2.2.1, keep_cell hbq5 hHeld.2.2.2.2.2.2.2.2.2.2.2.2.2.2.2.1, keep_cell hbq5 hHeld.2.2.2.2.2.2.2.2.2.2.2.2.2.2.2.2.1, keep_cell hbq5 hHeld.2.2.2.2.2.2.2.2.2.2.2.2.2.2.2.2.2.1, keep_cell hbq5 hHeld.2.2.2.2.2.2.2.2.2.2.2.2.2.2.2.2.2.2.1, keep_cell hbq5 hHeld.2.2.2.2.2.2.2.2.2.2.2.2.2.2.2.2.2.2.2.1, ex_trans hHeld.2.2.2.2.2.2.2.2.2.2.2.2.2.2.2.2.2.2.2.2 hbq5⟩) (fun hNew => ?_)
                    clear hK K hHeld
                    have hHeld := hNew
                    clear hNew
                    try simp only [Act.put, List.setIfInBounds_toArray, List.set_cons_zero, List.set_cons_succ]
                    refine held_one 18 (by kernel_rfl) rfl (fun K hK => ?_)
                    go_simp
                    go_at_call 15
                    refine (HSF.out _ (HS6.out.mono mAtr hHeld.2.2.2.2.2.2.2.2.2.2.2.2.2.2.2.2.2.2.2.2) (HS7.out.mono mAtr hHeld.2.2.2.2.2.2.2.2.2.2.2.2.2.2.2.2.2.2.2.2)).mono ?_; rintro e wq6 ⟨rfl, hbq6⟩
                    go_wp2_with fail
                    refine hK.out _ _ (by (try dsimp only); exact ⟨keep_cell hbq6 hHeld.1, keep_cell hbq6 hHeld.2.1, keep_cell hbq6 hHeld.2.2.1, keep_cell hbq6 hHeld.2.2.2.1, keep_cell hbq6 hHeld.2.2.2.2.1, keep_cell hbq6 hHeld.2.2.2.2.2.1, keep_cell hbq6 hHeld.2.2.2.2.2.2.1, keep_cell hbq6 hHeld.2.2.2.2.2.2.2.1, keep_cell hbq6 hHeld.2.2.2.2.2.2.2.2.1, keep_cell hbq6 hHeld.2.2.2.2.2.2.2.2.2.1, keep_cell hbq6 hHeld.2.2.2.2.2.2.2.2.2.2.1, keep_cell hbq6 hHeld.2.2.2.2.2.2.2.2.2.2.2.1, keep_cell hbq6 hHeld.2.2.2.2.2.2.2.2.2.2.2.2.1, keep_cell hbq6 hHeld.2.2.2.2.2.2.2.2.2.2.2.2.2.1, keep_cell hbq6 hHeld.2.2.2.2.2.2.2.2.2.2.2.2.2.2.1, keep_cell hbq6 hHeld.2.2.2.2.2.2.2.2.2.2.2.2.2.2.2.1, keep_cell hbq6 hHeld.2.2.2.2.2.2.2.2.2.2.2.2.2.2.2.2.1, keep_cell hbq6 hHeld.2.2.2.2.2.2.2.2.2.2.2.2.2.2.2.2.2.1, keep_cell hbq6 hHeld.2.2.2.2.2.2.2.2.2.2.2.2.2.2.2.2.2.2.1, keep_cell hbq6 hHeld.2.2.2.2.2.2.2.2.2.2.2.2.2.2.2.2.2.2.2.1, ex_trans hHeld.2.2.2.2.2.2.2.2.2.2.2.2.2.2.2.2.2.2.2.2 hbq6⟩) (fun hNew => ?_)
                    clear hK K hHeld
                    have hHeld := hNew
                    clear hNew
                    try simp only [Act.put, List.setIfInBounds_toArray, List.set_cons_zero, List.set_cons_succ]
                    first | (refine held_take 19 rfl (by kernel_rfl) (by kernel_rfl) (by kernel_rfl) (by rfl) (fun _ _ _ h => h) (by assumption) (by intro w hSw; (try dsimp only at hSw); go_simp; first | done | with_reducible rfl) ?_) | (refine held_skip 19 rfl (by kernel_rfl) (by kernel_rfl) (by kernel_rfl) (by rfl) (fun _ _ _ h => h) (by assumption) ?_)
                    simp only [Act.put, List.setIfInBounds_toArray, List.set_cons_zero, List.set_cons_succ]
                    first | (refine held_take 20 rfl (by kernel_rfl) (by kernel_rfl) (by kernel_rfl) (by rfl) (fun _ _ _ h => h) (by assumption) (by intro w hSw; (try dsimp only at hSw); go_simp; first | done | with_reducible rfl) ?_) | (refine held_skip 20 rfl (by kernel_rfl) (by kernel_rfl) (by kernel_rfl) (by rfl) (fun _ _ _ h => h) (by assumption) ?_)
                    simp only [Act.put, List.setIfInBounds_toArray, List.set_cons_zero, List.set_cons_succ]
                    first | (refine held_take 21 rfl (by kernel_rfl) (by kernel_rfl) (by kernel_rfl) (by rfl) (fun _ _ _ h => h) (by assumption) (by intro w hSw; (try dsimp only at hSw); go_simp; first | done | with_reducible rfl) ?_) | (refine held_skip 21 rfl (by kernel_rfl) (by kernel_rfl) (by kernel_rfl) (by rfl) (fun _ _ _ h => h) (by assumption) ?_)
                    simp only [Act.put, List.setIfInBounds_toArray, List.set_cons_zero, List.set_cons_succ]
                    first | (refine held_take 22 rfl (by kernel_rfl) (by kernel_rfl) (by kernel_rfl) (by rfl) (fun _ _ _ h => h) (by assumption) (by intro w hSw; (try dsimp only at hSw); go_simp; first | done | with_reducible rfl) ?_) | (refine held_skip 22 rfl (by kernel_rfl) (by kernel_rfl) (by kernel_rfl) (by rfl) (fun _ _ _ h => h) (by assumption) ?_)
                    simp only [Act.put, List.setIfInBounds_toArray, List.set_cons_zero, List.set_cons_succ]
                    first | (refine held_take 23 rfl (by kernel_rfl) (by kernel_rfl) (by kernel_rfl) (by rfl) (fun _ _ _ h => h) (by assumption) (by intro w hSw; (try dsimp only at hSw); go_simp; first | done | with_reducible rfl) ?_) | (refine held_skip 23 rfl (by kernel_rfl) (by kernel_rfl) (by kernel_rfl) (by rfl) (fun _ _ _ h => h) (by assumption) ?_)
                    simp only [Act.put, List.setIfInBounds_toArray, List.set_cons_zero, List.set_cons_succ]
                    refine held_one 24 (by kernel_rfl) rfl (fun K hK => ?_)
                    go_simp
                    go_at_call 29
                    refine (HAA.out _ (HS3.out.mono mAtr hHeld.2.2.2.2.2.2.2.2.2.2.2.2.2.2.2.2.2.2.2.2)).mono (fun e wq7 h => ?_)
                    obtain ⟨R7, d7, rfl, hr7, hbq7⟩ := NewRow.strs (rfl : ([] : List ByteArray).length = 0) h
                    clear h
                    have HR7 := Lib.hid hr7
                    clear hr7
                    go_wp2_with fail
                    refine hK.out _ _ (by (try dsimp only); exact ⟨keep_cell hbq7 hHeld.1, keep_cell hbq7 hHeld.2.1, keep_cell hbq7 hHeld.2.2.1, keep_cell hbq7 hHeld.2.2.2.1, keep_cell hbq7 hHeld.2.2.2.2.1, keep_cell hbq7 hHeld.2.2.2.2.2.1, keep_cell hbq7 hHeld.2.2.2.2.2.2.1, keep_cell hbq7 hHeld.2.2.2.2.2.2.2.1, keep_cell hbq7 hHeld.2.2.2.2.2.2.2.2.1, keep_cell hbq7 hHeld.2.2.2.2.2.2.2.2.2.1, keep_cell hbq7 hHeld.2.2.2.2.2.2.2.2.2.2.1, keep_cell hbq7 hHeld.2.2.2.2.2.2.2.2.2.2.2.1, keep_cell hbq7 hHeld.2.2.2.2.2.2.2.2.2.2.2.2.1, keep_cell hbq7 hHeld.2.2.2.2.2.2.2.2.2.2.2.2.2.1, keep_cell hbq7 hHeld.2.2.2.2.2.2.2.2.2.2.2.2.2.2.1, keep_cell hbq7 hHeld.2.2.2.2.2.2.2.2.2.2.2.2.2.2.2.1, keep_cell hbq7 hHeld.2.2.2.2.2.2.2.2.2.2.2.2.2.2.2.2.1, keep_cell hbq7 hHeld.2.2.2.2.2.2.2.2.2.2.2.2.2.2.2.2.2.1, keep_cell hbq7 hHeld.2.2.2.2.2.2.2.2.2.2.2.2.2.2.2.2.2.2.1, keep_cell hbq7 hHeld.2.2.2.2.2.2.2.2.2.2.2.2.2.2.2.2.2.2.2.1, ex_trans hHeld.2.2.2.2.2.2.2.2.2.2.2.2.2.2.2.2.2.2.2.2 hbq7⟩) (fun hNew => ?_)
                    clear hK K hHeld
                    have hHeld := hNew
                    clear hNew
                    try simp only [Act.put, List.setIfInBounds_toArray, List.set_cons_zero, List.set_cons_succ]
                    first | (refine held_take 25 rfl (by kernel_rfl) (by kernel_rfl) (by kernel_rfl) (by rfl) (fun _ _ _ h => h) (by assumption) (by intro w hSw; (try dsimp only at hSw); go_simp; first | done | with_reducible rfl) ?_) | (refine held_skip 25 rfl (by kernel_rfl) (by kernel_rfl) (by kernel_rfl) (by rfl) (fun _ _ _ h => h) (by assumption) ?_)
                    simp only [Act.put, List.setIfInBounds_toArray, List.set_cons_zero, List.set_cons_succ]
                    first | (refine held_take 26 rfl (by kernel_rfl) (by kernel_rfl) (by kernel_rfl) (by rfl) (fun _ _ _ h => h) (by assumption) (by intro w hSw; (try dsimp only at hSw); go_simp; first | done | with_reducible rfl) ?_) | (refine held_skip 26 rfl (by kernel_rfl) (by kernel_rfl) (by kernel_rfl) (by rfl) (fun _ _ _ h => h) (by assumption) ?_)
                    simp only [Act.put, List.setIfInBounds_toArray, List.set_cons_zero, List.set_cons_succ]
                    first | (refine held_take 27 rfl (by kernel_rfl) (by kernel_rfl) (by kernel_rfl) (by rfl) (fun _ _ _ h => h) (by assumption) (by intro w hSw; (try dsimp only at hSw); go_simp; first | done | with_reducible rfl) ?_) | (refine held_skip 27 rfl (by kernel_rfl) (by kernel_rfl) (by kernel_rfl) (by rfl) (fun _ _ _ h => h) (by assumption) ?_)
                    simp only [Act.put, List.setIfInBounds_toArray, List.set_cons_zero, List.set_cons_succ]
                    first | (refine held_take 28 rfl (by kernel_rfl) (by kernel_rfl) (by kernel_rfl) (by rfl) (fun _ _ _ h => h) (by assumption) (by intro w hSw; (try dsimp only at hSw); go_simp; first | done | with_reducible rfl) ?_) | (refine held_skip 28 rfl (by kernel_rfl) (by kernel_rfl) (by kernel_rfl) (by rfl) (fun _ _ _ h => h) (by assumption) ?_)
                    simp only [Act.put, List.setIfInBounds_toArray, List.set_cons_zero, List.set_cons_succ]
                    first | (refine held_take 29 rfl (by kernel_rfl) (by kernel_rfl) (by kernel_rfl) (by rfl) (fun _ _ _ h => h) (by assumption) (by intro w hSw; (try dsimp only at hSw); go_simp; first | done | with_reducible rfl) ?_) | (refine held_skip 29 rfl (by kernel_rfl) (by kernel_rfl) (by kernel_rfl) (by rfl) (fun _ _ _ h => h) (by assumption) ?_)
                    simp only [Act.put, List.setIfInBounds_toArray, List.set_cons_zero, List.set_cons_succ]
                    first | (refine held_take 30 rfl (by kernel_rfl) (by kernel_rfl) (by kernel_rfl) (by rfl) (fun _ _ _ h => h) (by assumption) (by intro w hSw; (try dsimp only at hSw); go_simp; first | done | with_reducible rfl) ?_) | (refine held_skip 30 rfl (by kernel_rfl) (by kernel_rfl) (by kernel_rfl) (by rfl) (fun _ _ _ h => h) (by assumption) ?_)
                    simp only [Act.put, List.setIfInBounds_toArray, List.set_cons_zero, List.set_cons_succ]
                    first | (refine held_take 31 rfl (by kernel_rfl) (by kernel_rfl) (by kernel_rfl) (by rfl) (fun _ _ _ h => h) (by assumption) (by intro w hSw; (try dsimp only at hSw); go_simp; first | done | with_reducible rfl) ?_) | (refine held_skip 31 rfl (by kernel_rfl) (by kernel_rfl) (by kernel_rfl) (by rfl) (fun _ _ _ h => h) (by assumption) ?_)
                    simp only [Act.put, List.setIfInBounds_toArray, List.set_cons_zero, List.set_cons_succ]
                    first | (refine held_take 32 rfl (by kernel_rfl) (by kernel_rfl) (by kernel_rfl) (by rfl) (fun _ _ _ h => h) (by assumption) (by intro w hSw; (try dsimp only at hSw); go_simp; first | done | with_reducible rfl) ?_) | (refine held_skip 32 rfl (by kernel_rfl) (by kernel_rfl) (by kernel_rfl) (by rfl) (fun _ _ _ h => h) (by assumption) ?_)
                    simp only [Act.put, List.setIfInBounds_toArray, List.set_cons_zero, List.set_cons_succ]
                    first | (refine held_take 33 rfl (by kernel_rfl) (by kernel_rfl) (by kernel_rfl) (by rfl) (fun _ _ _ h => h) (by assumption) (by intro w hSw; (try dsimp only at hSw); go_simp; first | done | with_reducible rfl) ?_) | (refine held_skip 33 rfl (by kernel_rfl) (by kernel_rfl) (by kernel_rfl) (by rfl) (fun _ _ _ h => h) (by assumption) ?_)
                    simp only [Act.put, List.setIfInBounds_toArray, List.set_cons_zero, List.set_cons_succ]
                    first | (refine held_take 34 rfl (by kernel_rfl) (by kernel_rfl) (by kernel_rfl) (by rfl) (fun _ _ _ h => h) (by assumption) (by intro w hSw; (try dsimp only at hSw); go_simp; first | done | with_reducible rfl) ?_) | (refine held_skip 34 rfl (by kernel_rfl) (by kernel_rfl) (by kernel_rfl) (by rfl) (fun _ _ _ h => h) (by assumption) ?_)
                    simp only [Act.put, List.setIfInBounds_toArray, List.set_cons_zero, List.set_cons_succ]
                    first | (refine held_take 35 rfl (by kernel_rfl) (by kernel_rfl) (by kernel_rfl) (by rfl) (fun _ _ _ h => h) (by assumption) (by intro w hSw; (try dsimp only at hSw); go_simp; first | done | with_reducible rfl) ?_) | (refine held_skip 35 rfl (by kernel_rfl) (by kernel_rfl) (by kernel_rfl) (by rfl) (fun _ _ _ h => h) (by assumption) ?_)
                    simp only [Act.put, List.setIfInBounds_toArray, List.set_cons_zero, List.set_cons_succ]
                    first | (refine held_take 36 rfl (by kernel_rfl) (by kernel_rfl) (by kernel_rfl) (by rfl) (fun _ _ _ h => h) (by assumption) (by intro w hSw; (try dsimp only at hSw); go_simp; first | done | with_reducible rfl) ?_) | (refine held_skip 36 rfl (by kernel_rfl) (by kernel_rfl) (by kernel_rfl) (by rfl) (fun _ _ _ h => h) (by assumption) ?_)
                    simp only [Act.put, List.setIfInBounds_toArray, List.set_cons_zero, List.set_cons_succ]
                    first | (refine held_take 37 rfl (by kernel_rfl) (by kernel_rfl) (by kernel_rfl) (by rfl) (fun _ _ _ h => h) (by assumption) (by intro w hSw; (try dsimp only at hSw); go_simp; first | done | with_reducible rfl) ?_) | (refine held_skip 37 rfl (by kernel_rfl) (by kernel_rfl) (by kernel_rfl) (by rfl) (fun _ _ _ h => h) (by assumption) ?_)
                    simp only [Act.put, List.setIfInBounds_toArray, List.set_cons_zero, List.set_cons_succ]
                    first | (refine held_take 38 rfl (by kernel_rfl) (by kernel_rfl) (by kernel_rfl) (by rfl) (fun _ _ _ h => h) (by assumption) (by intro w hSw; (try dsimp only at hSw); go_simp; first | done | with_reducible rfl) ?_) | (refine held_skip 38 rfl (by kernel_rfl) (by kernel_rfl) (by kernel_rfl) (by rfl) (fun _ _ _ h => h) (by assumption) ?_)
                    simp only [Act.put, List.setIfInBounds_toArray, List.set_cons_zero, List.set_cons_succ]
                    first | (refine held_take 39 rfl (by kernel_rfl) (by kernel_rfl) (by kernel_rfl) (by rfl) (fun _ _ _ h => h) (by assumption) (by intro w hSw; (try dsimp only at hSw); go_simp; first | done | with_reducible rfl) ?_) | (refine held_skip 39 rfl (by kernel_rfl) (by kernel_rfl) (by kernel_rfl) (by rfl) (fun _ _ _ h => h) (by assumption) ?_)
                    simp only [Act.put, List.setIfInBounds_toArray, List.set_cons_zero, List.set_cons_succ]
                    first | (refine held_take 40 rfl (by kernel_rfl) (by kernel_rfl) (by kernel_rfl) (by rfl) (fun _ _ _ h => h) (by assumption) (by intro w hSw; (try dsimp only at hSw); go_simp; first | done | with_reducible rfl) ?_) | (refine held_skip 40 rfl (by kernel_rfl) (by kernel_rfl) (by kernel_rfl) (by rfl) (fun _ _ _ h => h) (by assumption) ?_)
                    simp only [Act.put, List.setIfInBounds_toArray, List.set_cons_zero, List.set_cons_succ]
                    first | (refine held_take 41 rfl (by kernel_rfl) (by kernel_rfl) (by kernel_rfl) (by rfl) (fun _ _ _ h => h) (by assumption) (by intro w hSw; (try dsimp only at hSw); go_simp; first | done | with_reducible rfl) ?_) | (refine held_skip 41 rfl (by kernel_rfl) (by kernel_rfl) (by kernel_rfl) (by rfl) (fun _ _ _ h => h) (by assumption) ?_)
                    simp only [Act.put, List.setIfInBounds_toArray, List.set_cons_zero, List.set_cons_succ]
                    first | (refine held_take 42 rfl (by kernel_rfl) (by kernel_rfl) (by kernel_rfl) (by rfl) (fun _ _ _ h => h) (by assumption) (by intro w hSw; (try dsimp only at hSw); go_simp; first | done | with_reducible rfl) ?_) | (refine held_skip 42 rfl (by kernel_rfl) (by kernel_rfl) (by kernel_rfl) (by rfl) (fun _ _ _ h => h) (by assumption) ?_)
                    simp only [Act.put, List.setIfInBounds_toArray, List.set_cons_zero, List.set_cons_succ]
                    first | (refine held_take 43 rfl (by kernel_rfl) (by kernel_rfl) (by kernel_rfl) (by rfl) (fun _ _ _ h => h) (by assumption) (by intro w hSw; (try dsimp only at hSw); go_simp; first | done | with_reducible rfl) ?_) | (refine held_skip 43 rfl (by kernel_rfl) (by kernel_rfl) (by kernel_rfl) (by rfl) (fun _ _ _ h => h) (by assumption) ?_)
                    simp only [Act.put, List.setIfInBounds_toArray, List.set_cons_zero, List.set_cons_succ]
                    first | (refine held_take 44 rfl (by kernel_rfl) (by kernel_rfl) (by kernel_rfl) (by rfl) (fun _ _ _ h => h) (by assumption) (by intro w hSw; (try dsimp only at hSw); go_simp; first | done | with_reducible rfl) ?_) | (refine held_skip 44 rfl (by kernel_rfl) (by kernel_rfl) (by kernel_rfl) (by rfl) (fun _ _ _ h => h) (by assumption) ?_)
                    simp only [Act.put, List.setIfInBounds_toArray, List.set_cons_zero, List.set_cons_succ]
                    first | (refine held_take 45 rfl (by kernel_rfl) (by kernel_rfl) (by kernel_rfl) (by rfl) (fun _ _ _ h => h) (by assumption) (by intro w hSw; (try dsimp only at hSw); go_simp; first | done | with_reducible rfl) ?_) | (refine held_skip 45 rfl (by kernel_rfl) (by kernel_rfl) (by kernel_rfl) (by rfl) (fun _ _ _ h => h) (by assumption) ?_)
                    simp only [Act.put, List.setIfInBounds_toArray, List.set_cons_zero, List.set_cons_succ]
                    first | (refine held_take 46 rfl (by kernel_rfl) (by kernel_rfl) (by kernel_rfl) (by rfl) (fun _ _ _ h => h) (by assumption) (by intro w hSw; (try dsimp only at hSw); go_simp; first | done | with_reducible rfl) ?_) | (refine held_skip 46 rfl (by kernel_rfl) (by kernel_rfl) (by kernel_rfl) (by rfl) (fun _ _ _ h => h) (by assumption) ?_)
                    simp only [Act.put, List.setIfInBounds_toArray, List.set_cons_zero, List.set_cons_succ]
                    first | (refine held_take 47 rfl (by kernel_rfl) (by kernel_rfl) (by kernel_rfl) (by rfl) (fun _ _ _ h => h) (by assumption) (by intro w hSw; (try dsimp only at hSw); go_simp; first | done | with_reducible rfl) ?_) | (refine held_skip 47 rfl (by kernel_rfl) (by kernel_rfl) (by kernel_rfl) (by rfl) (fun _ _ _ h => h) (by assumption) ?_)
                    simp only [Act.put, List.setIfInBounds_toArray, List.set_cons_zero, List.set_cons_succ]
                    refine wpAnyH_done (by kernel_rfl) ?_ _
                    have hB := ex_trans HB.out hHeld.2.2.2.2.2.2.2.2.2.2.2.2.2.2.2.2.2.2.2.2
                    clear hHeld
                    go_wp2_with fail
                    go_returns
                    exact ⟨rfl, hB⟩
  · go_enter Try.func6, Try.ntmps6
    go_wp2_with fail
    refine (laws_big_t A0 n0 c0 _ (by omega)).mono ?_; rintro e w0 ⟨rfl, rfl⟩
    go_wp2_with fail
    go_returns
    exact ⟨rfl, Below.refl _ _⟩
theorem core_FnAttrChanges {H : Type} (enc : TypeId × Value → H) (W : World) (base : Nat) (args : Array Value) (ds : List (DataW H)) (p : List MemPlace)
    (hA : DataW.TrodAll enc Try.prog W 0 (fun _ => true) true Try.f6.params.toList args.toList ds p)
    (hval : ∀ (j : Nat) t v, Try.f6.params[j]? = some t → args[j]? = some v → Value.okWide Try.prog W .any base t v) :
    Calls Try.prog 6 args W fun e W' => e = .returned (.bool true) ∧ Below W.heap.size W W' := by
  rw [Try.params6] at hA hval
  obtain ⟨u0, vs0, d0, ds0, p0, q0, hargs, rfl, rfl, h0, r0⟩ := trodAll_cons hA
  obtain ⟨rfl, rfl, rfl⟩ := trodAll_nil r0
  obtain rfl : args = #[u0] := by cases args; simp_all
  obtain ⟨ad0, ln0, cp0, rfl⟩ := okWide_slice Try.underlying22 (hval 0 22 u0 rfl rfl)
  obtain ⟨fu0, g0⟩ := h0
  obtain ⟨A0, n0, c0, l0, e0, hn0, _, hS0, hl0⟩ := opens_slice Try.underlying22 (by omega) Op_byt g0
  simp only [Value.cells, List.cons.injEq, Value.slice.injEq, and_true] at e0
  obtain ⟨rfl, rfl, rfl⟩ := e0
  exact walk_FnAttrChanges W ad0 ln0 cp0 l0 hS0 hn0 hl0
set_option maxRecDepth 100000 in
theorem lifted_FnAttrChanges (os : Os) (started : os.Started) (H : Type) (enc : TypeId × Value → H) :
    ReturnsInHanded {} Try.checked os 6 .any (Rows.fnAttrChangesSpec.pre6 enc Try.prog Try.f6 Rows.fnAttrChangesRow.domain false) (Rows.fnAttrChangesSpec.post enc Try.prog Try.f6 false true false false) :=
  law_lifted (C := Try.checked) (tb := 4) (n := 1) own started (by kernel_rfl) Try.func6 rfl (by kernel_rfl) Try.underlying4 (by kernel_rfl)
    (fun ds h => by match ds, h with | [_], _ => rfl) laidOut' (by kernel_rfl)
    (ChangeSpec.witness6 (enc := enc) (C := Try.checked) false ⟨#[], #[.slice none 0 0], []⟩ 8 (by kernel_rfl) (by kernel_rfl) (by kernel_rfl) (by kernel_rfl))
    (fun W base args ds p hA hval => core_FnAttrChanges enc W base args ds p hA hval)
theorem holds_FnAttrChanges : Rows.FnAttrChangesSaid :=
  OpenClaim.holds_of_wide 6 Try.f6 rfl rfl rfl rfl rfl rfl rfl ⟨rfl, rfl, rfl, rfl, rfl⟩ rfl rfl rfl rfl rfl (by kernel_rfl) Try.func6 (by kernel_rfl)
    (of_decide_eq_true (by kernel_rfl)) (by unfold Func.isWrapper; first | (rw [if_pos (by decide +kernel)]; kernel_rfl) | (rw [if_neg (by decide +kernel)]; exact ⟨rfl, rfl⟩))
    (fun os started H enc _ => lifted_FnAttrChanges os started H enc)
end Go.Proofs.Ytjobgnioehkomaa
