/-
  FnAttrSet RETURNS true AND LEAVES ITS ARGUMENTS AS THEY WERE, FOR EVERY INPUT THAT THE STATEMENT SPEAKS OF. No condition.
-/
import Derived.WalkKit
import Derived.ProofKit
import Derived.OpenShut
import Derived.Handy
import Derived.Lib.Hide
import Derived.Deep.QuietTactic
import Derived.BigQuiet
import Derived.Deep.RegionHeld3
import Derived.Deep.DeepCutAuto
import Derived.Test.YtjobgnioehkomaaLib
import Derived.Test.YtjobgnioehkomaaOp
import Derived.Test.YtjobgnioehkomaaC1
import Derived.Test.YtjobgnioehkomaaC2
import Derived.Test.YtjobgnioehkomaaC4
import Derived.Test.YtjobgnioehkomaaOwn
import Derived.Test.YtjobgnioehkomaaRow
import Derived.Test.YtjobgnioehkomaaN0
import Derived.Test.YtjobgnioehkomaaHld
import Derived.Test.YtjobgnioehkomaaD1
import Derived.Test.YtjobgnioehkomaaD3
import Derived.Test.YtjobgnioehkomaaD4
import Derived.Test.YtjobgnioehkomaaD5
import Derived.Test.YtjobgnioehkomaaD7
import Derived.Test.YtjobgnioehkomaaE4
import Derived.Test.YtjobgnioehkomaaH1
import Derived.Test.YtjobgnioehkomaaI1
import Derived.Test.YtjobgnioehkomaaI2
import Derived.Test.YtjobgnioehkomaaD8
import Derived.Test.YtjobgnioehkomaaSz
import Derived.Test.YtjobgnioehkomaaT1
import Derived.Test.YtjobgnioehkomaaT2
import Derived.Test.YtjobgnioehkomaaT3
import Derived.Test.YtjobgnioehkomaaC3
import Derived.Test.YtjobgnioehkomaaC5
import Derived.Test.YtjobgnioehkomaaC8
import Derived.Test.YtjobgnioehkomaaHl2
import Derived.Test.YtjobgnioehkomaaY1
import Derived.Test.YtjobgnioehkomaaY2
import Derived.Test.YtjobgnioehkomaaY3
import Derived.Test.YtjobgnioehkomaaY9
import Derived.Test.YtjobgnioehkomaaZ1
import Derived.Test.YtjobgnioehkomaaZ3
import Derived.Test.YtjobgnioehkomaaZ4
import Derived.Test.YtjobgnioehkomaaZ5
import Derived.Test.YtjobgnioehkomaaZ6
import Derived.Test.YtjobgnioehkomaaS3
import Derived.Test.YtjobgnioehkomaaRows
namespace Go.Proofs.Ytjobgnioehkomaa
open Go.RowKit Go.ChangeShapes Go.WideShapes Go.ChangeAt Go.ChangeMaps
set_option linter.unusedVariables false
set_option maxRecDepth 100000
theorem same_self (a : Fil) (A : Option Addr) (n c : Nat) (B : Option Addr) (d : Nat) (w : World) (hn : n ≤ 1073741824) (hS : Sl 4 RAtr w A n a.attrs) (hT : Sl 4 RAtr w B n a.attrs) :
    Calls Try.prog 15 #[.agg #[.int .i64 a.id, .int .i64 a.owner, .bool a.shared, .int .i64 a.link, .slice A n c], .agg #[.int .i64 a.id, .int .i64 a.owner, .bool a.shared, .int .i64 a.link, .slice B n d]] w fun e w' => e = .returned (.bool true) ∧ Below w.heap.size w w' := by
  have h := laws_sameFile a a A n c B n d w hS hT hn hn
  rw [Fil.eqb_iff.2 rfl] at h
  exact h
set_option maxHeartbeats 8000000 in
theorem walk_FnAttrSet (W : World) (A0 : Option Addr) (n0 c0 : Nat) (l0 : List Int) (hS0 : Sl 1 RByt W A0 n0 l0) (hn0 : n0 ≤ maxLen) (hl0 : ∀ y ∈ l0, 0 ≤ y ∧ y ≤ 255) : Calls Try.prog 5 #[.slice A0 n0 c0] W fun e w' => e = .returned (.bool true) ∧ Below W.heap.size W w' := by
  by_cases hc : n0 ≤ 1048576
  · have HD := Lib.hid (spec_DrawSetAttr A0 n0 c0 l0 W hS0 hc hl0)
    have HD2 := Lib.hid fun w' (hb : Below W.heap.size W w') => spec_DrawIsValidFile A0 n0 c0 l0 w' (hS0.mono mByt hb) hc hl0
    clear hS0 hl0
    go_enter Try.func5, Try.ntmps5
    go_wp2_with fail
    refine (laws_big_f A0 n0 c0 _ hc).mono ?_; rintro e w0 ⟨rfl, rfl⟩
    go_upto_region 3 with fail
    go_cut [3, 4, 5] from 14 to 19 (fun s3 s4 s5 w' => ∃ (f : Fil) (A1 : Option Addr) (n1 c1 : Nat) (nm : ByteArray) (vk vi : Int) (vs : ByteArray) (g3 g5 : Nat), s3 = .pointer (some ⟨g3, 0, none⟩) ∧ s4 = .string nm ∧ s5 = .pointer (some ⟨g5, 0, none⟩) ∧ w'.cell? ⟨g3, 0, none⟩ = some (.int .i64 f.id) ∧ w'.cell? ⟨g3, 1, none⟩ = some (.int .i64 f.owner) ∧ w'.cell? ⟨g3, 2, none⟩ = some (.bool f.shared) ∧ w'.cell? ⟨g3, 3, none⟩ = some (.int .i64 f.link) ∧ w'.cell? ⟨g3, 4, none⟩ = some (.slice A1 n1 c1) ∧ w'.cell? ⟨g5, 0, none⟩ = some (.int .i64 vk) ∧ w'.cell? ⟨g5, 1, none⟩ = some (.int .i64 vi) ∧ w'.cell? ⟨g5, 2, none⟩ = some (.string vs) ∧ Sl 4 RAtr w' A1 n1 f.attrs ∧ n1 ≤ 5 ∧ smallA f.attrs ∧ vs.size ≤ 16 ∧ nm.size ≤ 1 ∧ Below W.heap.size W w')
    case first =>
      go_wp2_with fail
      refine HD.out.mono ?_; rintro e w1 ⟨f, A1, n1, c1, nm, ⟨vk, vi, vs⟩, rfl, hS1, hn1, hsm, hnm, hv, hb1⟩
      have HX := Lib.hid (And.intro hS1 hb1)
      clear hS1 hb1 HD HD2
      go_wp2_with fail
      go_meet
      exact ⟨f, A1, n1, c1, nm, vk, vi, vs, w1.heap.size, w1.heap.size + 1, rfl, rfl, rfl, by go_simp, by go_simp, by go_simp, by go_simp, by go_simp, by go_simp, by go_simp, by go_simp, HX.out.1.mono mAtr (by go_grown), hn1, hsm, hv, hnm, ex_trans HX.out.2 (by go_grown)⟩
    case rest =>
      generalize wc = W3 at *
      obtain ⟨f, A1, n1, c1, nm, vk, vi, vs, g3, g5, rfl, rfl, rfl, p0, p1, p2, p3, p4, q0, q1, q2, hS1, hn1, hsm, hv, hnm, hB3⟩ := hcut
      have HB := Lib.hid hB3
      have HS1 := Lib.hid hS1
      have hlen : f.attrs.length = n1 := hS1.len
      have HSI := Lib.hid fun w (h : Sl 4 RAtr w A1 n1 f.attrs) => impl_SetAttr f A1 n1 c1 nm ⟨vk, vi, vs⟩ w h (by omega)
      have HSS := Lib.hid fun w (h : Sl 4 RAtr w A1 n1 f.attrs) => spec_SetAttr f A1 n1 c1 nm ⟨vk, vi, vs⟩ w h (by omega)
      obtain ⟨g, hg⟩ : ∃ g, g = setA f nm ⟨vk, vi, vs⟩ := ⟨_, rfl⟩
      rw [← hg] at HSI HSS
      have HID := Lib.hid (show g.id = f.id by rw [hg]; rfl)
      have hgn : g.attrs.length ≤ 6 := by rw [hg]; exact Nat.le_trans (setL_len f.attrs nm ⟨vk, vi, vs⟩) (by omega)
      have HGS := Lib.hid (show getA g.attrs nm = (if vk == 0 then Vl.zero else ⟨vk, vi, vs⟩) by rw [hg]; exact setL_self f.attrs nm ⟨vk, vi, vs⟩)
      have HGO := Lib.hid (show ∀ k, eqS k nm = false → getA g.attrs k = getA f.attrs k from fun k hk => by rw [hg]; exact setL_other f.attrs ⟨vk, vi, vs⟩ hk)
      obtain ⟨n6, hn6⟩ : ∃ n6, n6 = g.attrs.length := ⟨_, rfl⟩
      have HN6 := Lib.hid hn6
      rw [← hn6] at hgn
      clear hg hB3 hS1 hlen hn6
      go_upto_region 4 with fail
      go_cut [6] from 20 to 23 (fun s6 w' => ∃ (A6 : Option Addr) (c6 g6 : Nat), s6 = .pointer (some ⟨g6, 0, none⟩) ∧ w'.cell? ⟨g6, 0, none⟩ = some (.int .i64 g.id) ∧ w'.cell? ⟨g6, 1, none⟩ = some (.int .i64 g.owner) ∧ w'.cell? ⟨g6, 2, none⟩ = some (.bool g.shared) ∧ w'.cell? ⟨g6, 3, none⟩ = some (.int .i64 g.link) ∧ w'.cell? ⟨g6, 4, none⟩ = some (.slice A6 n6 c6) ∧ Sl 4 RAtr w' A6 n6 g.attrs ∧ Below W3.heap.size W3 w')
      case first =>
        go_wp2_with fail
        refine (HSI.out _ HS1.out).mono ?_; rintro e w1 ⟨A6, c6, rfl, hr, hb1⟩
        rw [← HN6.out] at hr ⊢
        have HX := Lib.hid (And.intro (hr.sl (R := RAtr) encAtr (fun _ => rfl)) hb1)
        clear hr hb1 HD2 p0 p1 p2 p3 p4 q0 q1 q2
        go_wp2_with fail
        go_meet
        exact ⟨A6, c6, w1.heap.size, rfl, by go_simp, by go_simp, by go_simp, by go_simp, by go_simp, HX.out.1.mono mAtr (by go_grown), ex_trans HX.out.2 (by go_grown)⟩
      case rest =>
        generalize wc = W4 at *
        obtain ⟨A6, c6, g6, rfl, t0, t1, t2, t3, t4, hS6, hK⟩ := hcut
        replace HB := Lib.hid (ex_trans HB.out hK)
        have HS6 := Lib.hid hS6
        replace p0 := keep_cell hK p0
        replace p1 := keep_cell hK p1
        replace p2 := keep_cell hK p2
        replace p3 := keep_cell hK p3
        replace p4 := keep_cell hK p4
        replace q0 := keep_cell hK q0
        replace q1 := keep_cell hK q1
        replace q2 := keep_cell hK q2
        replace HS1 := Lib.hid (HS1.out.mono mAtr hK)
        clear hK hS6
        go_upto_region 5 with fail
        go_cut [30] from 24 to 30 (fun s30 w' => s30 = .bool false ∧ Below W4.heap.size W4 w')
        case first =>
          refine wp_region_held_drew (S := (fun w' => w'.cell? ⟨g3, 0, none⟩ = some (.int .i64 f.id) ∧ w'.cell? ⟨g3, 1, none⟩ = some (.int .i64 f.owner) ∧ w'.cell? ⟨g3, 2, none⟩ = some (.bool f.shared) ∧ w'.cell? ⟨g3, 3, none⟩ = some (.int .i64 f.link) ∧ w'.cell? ⟨g3, 4, none⟩ = some (.slice A1 n1 c1) ∧ w'.cell? ⟨g5, 0, none⟩ = some (.int .i64 vk) ∧ w'.cell? ⟨g5, 1, none⟩ = some (.int .i64 vi) ∧ w'.cell? ⟨g5, 2, none⟩ = some (.string vs) ∧ w'.cell? ⟨g6, 0, none⟩ = some (.int .i64 g.id) ∧ w'.cell? ⟨g6, 1, none⟩ = some (.int .i64 g.owner) ∧ w'.cell? ⟨g6, 2, none⟩ = some (.bool g.shared) ∧ w'.cell? ⟨g6, 3, none⟩ = some (.int .i64 g.link) ∧ w'.cell? ⟨g6, 4, none⟩ = some (.slice A6 n6 c6) ∧ Below W4.heap.size W4 w')) (by kernel_rfl) (by (try dsimp only); exact ⟨p0, p1, p2, p3, p4, q0, q1, q2, t0, t1, t2, t3, t4, (Below.refl _ _).drew⟩) (fun hHeld => ?_)
          first | (refine held_take 0 rfl (by kernel_rfl) (by kernel_rfl) (by kernel_rfl) (by rfl) (fun _ _ _ h => h) (by assumption) (by intro w hSw; (try dsimp only at hSw); go_simp; first | done | with_reducible rfl) ?_) | (refine held_skip 0 rfl (by kernel_rfl) (by kernel_rfl) (by kernel_rfl) (by rfl) (fun _ _ _ h => h) (by assumption) ?_)
          simp only [Act.put, List.setIfInBounds_toArray, List.set_cons_zero, List.set_cons_succ]
          first | (refine held_take 1 rfl (by kernel_rfl) (by kernel_rfl) (by kernel_rfl) (by rfl) (fun _ _ _ h => h) (by assumption) (by intro w hSw; (try dsimp only at hSw); go_simp; first | done | with_reducible rfl) ?_) | (refine held_skip 1 rfl (by kernel_rfl) (by kernel_rfl) (by kernel_rfl) (by rfl) (fun _ _ _ h => h) (by assumption) ?_)
          simp only [Act.put, List.setIfInBounds_toArray, List.set_cons_zero, List.set_cons_succ]
          first | (refine held_take 2 rfl (by kernel_rfl) (by kernel_rfl) (by kernel_rfl) (by rfl) (fun _ _ _ h => h) (by assumption) (by intro w hSw; (try dsimp only at hSw); go_simp; first | done | with_reducible rfl) ?_) | (refine held_skip 2 rfl (by kernel_rfl) (by kernel_rfl) (by kernel_rfl) (by rfl) (fun _ _ _ h => h) (by assumption) ?_)
          simp only [Act.put, List.setIfInBounds_toArray, List.set_cons_zero, List.set_cons_succ]
          first | (refine held_take 3 rfl (by kernel_rfl) (by kernel_rfl) (by kernel_rfl) (by rfl) (fun _ _ _ h => h) (by assumption) (by intro w hSw; (try dsimp only at hSw); go_simp; first | done | with_reducible rfl) ?_) | (refine held_skip 3 rfl (by kernel_rfl) (by kernel_rfl) (by kernel_rfl) (by rfl) (fun _ _ _ h => h) (by assumption) ?_)
          simp only [Act.put, List.setIfInBounds_toArray, List.set_cons_zero, List.set_cons_succ]
          refine held_one 4 (by kernel_rfl) rfl (fun K hK => ?_)
          go_simp
          go_at_call 23
          refine (HSS.out _ (HS1.out.mono mAtr hHeld.2.2.2.2.2.2.2.2.2.2.2.2.2)).mono ?_; rintro e wq1 ⟨B6, d6, rfl, hr6, hbq1⟩; rw [← HN6.out] at hr6 ⊢
          go_wp2_with fail
          refine hK.out _ _ (by (try dsimp only); exact ⟨keep_cell hbq1 hHeld.1, keep_cell hbq1 hHeld.2.1, keep_cell hbq1 hHeld.2.2.1, keep_cell hbq1 hHeld.2.2.2.1, keep_cell hbq1 hHeld.2.2.2.2.1, keep_cell hbq1 hHeld.2.2.2.2.2.1, keep_cell hbq1 hHeld.2.2.2.2.2.2.1, keep_cell hbq1 hHeld.2.2.2.2.2.2.2.1, keep_cell hbq1 hHeld.2.2.2.2.2.2.2.2.1, keep_cell hbq1 hHeld.2.2.2.2.2.2.2.2.2.1, keep_cell hbq1 hHeld.2.2.2.2.2.2.2.2.2.2.1, keep_cell hbq1 hHeld.2.2.2.2.2.2.2.2.2.2.2.1, keep_cell hbq1 hHeld.2.2.2.2.2.2.2.2.2.2.2.2.1, ex_trans hHeld.2.2.2.2.2.2.2.2.2.2.2.2.2 hbq1⟩) (fun hNew => ?_)
          clear hK K hHeld
          have hHeld := hNew
          clear hNew
          try simp only [Act.put, List.setIfInBounds_toArray, List.set_cons_zero, List.set_cons_succ]
          have HR6 := Lib.hid hr6
          clear hr6
          refine held_one 5 (by kernel_rfl) rfl (fun K hK => ?_)
          go_simp
          go_at_call 15
          refine (same_self g A6 n6 c6 B6 d6 _ (by omega) (HS6.out.mono mAtr hHeld.2.2.2.2.2.2.2.2.2.2.2.2.2) (HR6.out.sl (R := RAtr) encAtr (fun _ => rfl))).mono ?_; rintro e wq2 ⟨rfl, hbq2⟩
          go_wp2_with fail
          refine hK.out _ _ (by (try dsimp only); exact ⟨keep_cell hbq2 hHeld.1, keep_cell hbq2 hHeld.2.1, keep_cell hbq2 hHeld.2.2.1, keep_cell hbq2 hHeld.2.2.2.1, keep_cell hbq2 hHeld.2.2.2.2.1, keep_cell hbq2 hHeld.2.2.2.2.2.1, keep_cell hbq2 hHeld.2.2.2.2.2.2.1, keep_cell hbq2 hHeld.2.2.2.2.2.2.2.1, keep_cell hbq2 hHeld.2.2.2.2.2.2.2.2.1, keep_cell hbq2 hHeld.2.2.2.2.2.2.2.2.2.1, keep_cell hbq2 hHeld.2.2.2.2.2.2.2.2.2.2.1, keep_cell hbq2 hHeld.2.2.2.2.2.2.2.2.2.2.2.1, keep_cell hbq2 hHeld.2.2.2.2.2.2.2.2.2.2.2.2.1, ex_trans hHeld.2.2.2.2.2.2.2.2.2.2.2.2.2 hbq2⟩) (fun hNew => ?_)
          clear hK K hHeld
          have hHeld := hNew
          clear hNew
          try simp only [Act.put, List.setIfInBounds_toArray, List.set_cons_zero, List.set_cons_succ]
          first | (refine held_take 6 rfl (by kernel_rfl) (by kernel_rfl) (by kernel_rfl) (by rfl) (fun _ _ _ h => h) (by assumption) (by intro w hSw; (try dsimp only at hSw); go_simp; first | done | with_reducible rfl) ?_) | (refine held_skip 6 rfl (by kernel_rfl) (by kernel_rfl) (by kernel_rfl) (by rfl) (fun _ _ _ h => h) (by assumption) ?_)
          simp only [Act.put, List.setIfInBounds_toArray, List.set_cons_zero, List.set_cons_succ]
          refine wpAnyH_done (by kernel_rfl) ?_ _
          have hB := hHeld.2.2.2.2.2.2.2.2.2.2.2.2.2
          clear hHeld
          go_wp2_with fail
          go_meet
          exact ⟨rfl, hB⟩
        case rest =>
          generalize wc = W5 at *
          obtain ⟨rfl, hK⟩ := hcut
          replace HB := Lib.hid (ex_trans HB.out hK)
          replace p0 := keep_cell hK p0
          replace p1 := keep_cell hK p1
          replace p2 := keep_cell hK p2
          replace p3 := keep_cell hK p3
          replace p4 := keep_cell hK p4
          replace q0 := keep_cell hK q0
          replace q1 := keep_cell hK q1
          replace q2 := keep_cell hK q2
          replace t0 := keep_cell hK t0
          replace t1 := keep_cell hK t1
          replace t2 := keep_cell hK t2
          replace t3 := keep_cell hK t3
          replace t4 := keep_cell hK t4
          replace HS1 := Lib.hid (HS1.out.mono mAtr hK)
          replace HS6 := Lib.hid (HS6.out.mono mAtr hK)
          clear hK HSI HSS
          have HGA := Lib.hid fun w (h : Sl 4 RAtr w A6 n6 g.attrs) => impl_GetAttr g A6 n6 c6 nm w h (by omega)
          obtain ⟨⟨xk, xi, xs⟩, hx⟩ : ∃ x, x = getA g.attrs nm := ⟨_, rfl⟩
          rw [← hx] at HGA
          have HXV := Lib.hid (hx.trans HGS.out)
          clear hx HGS
          go_upto_region 7 with fail
          go_cut [7] from 31 to 33 (fun s7 w' => ∃ (g7 : Nat), s7 = .pointer (some ⟨g7, 0, none⟩) ∧ w'.cell? ⟨g7, 0, none⟩ = some (.int .i64 xk) ∧ w'.cell? ⟨g7, 1, none⟩ = some (.int .i64 xi) ∧ w'.cell? ⟨g7, 2, none⟩ = some (.string xs) ∧ Below W5.heap.size W5 w')
          case first =>
            go_wp2_with fail
            refine (HGA.out _ HS6.out).mono (fun e w1 h => ?_)
            obtain ⟨rfl, hb1⟩ : e = .returned (.agg #[.int .i64 xk, .int .i64 xi, .string xs]) ∧ Below W5.heap.size W5 w1 := h
            have HX := Lib.hid hb1
            clear hb1 HD2 p0 p1 p2 p3 p4 q0 q1 q2 t0 t1 t2 t3 t4
            go_wp2_with fail
            go_meet
            exact ⟨w1.heap.size, rfl, by go_simp, by go_simp, by go_simp, ex_trans HX.out (by go_grown)⟩
          case rest =>
            generalize wc = W7 at *
            obtain ⟨g7, rfl, x0, x1, x2, hK⟩ := hcut
            replace HB := Lib.hid (ex_trans HB.out hK)
            replace p0 := keep_cell hK p0
            replace p1 := keep_cell hK p1
            replace p2 := keep_cell hK p2
            replace p3 := keep_cell hK p3
            replace p4 := keep_cell hK p4
            replace q0 := keep_cell hK q0
            replace q1 := keep_cell hK q1
            replace q2 := keep_cell hK q2
            replace t0 := keep_cell hK t0
            replace t1 := keep_cell hK t1
            replace t2 := keep_cell hK t2
            replace t3 := keep_cell hK t3
            replace t4 := keep_cell hK t4
            replace HS1 := Lib.hid (HS1.out.mono mAtr hK)
            replace HS6 := Lib.hid (HS6.out.mono mAtr hK)
            clear hK HGA
            go_upto_region 8 with fail
            go_cut [8] from 34 to 35 (fun s8 w' => ∃ (A8 : Option Addr) (c8 : Nat), s8 = .slice A8 n1 c8 ∧ Sl 1 RStr w' A8 n1 (f.attrs.map (·.name)) ∧ Below W7.heap.size W7 w')
            case first =>
              go_wp2_with fail
              refine (impl_AttrNames f A1 n1 c1 _ HS1.out (by omega)).mono ?_; rintro e w1 ⟨A8, c8, rfl, hr, hb1⟩
              have hl1 : (f.attrs.map (·.name)).length = n1 := by rw [List.length_map]; exact HS1.out.len
              rw [hl1] at hr ⊢
              have HX := Lib.hid (And.intro (hr.sl (R := RStr) encStr (fun _ => rfl)) hb1)
              clear hr hb1 hl1
              go_wp2_with fail
              go_meet
              exact ⟨A8, c8, rfl, HX.out.1, HX.out.2⟩
            case rest =>
              generalize wc = W8 at *
              obtain ⟨A8, c8, rfl, hS8, hK⟩ := hcut
              replace HB := Lib.hid (ex_trans HB.out hK)
              have HS8 := Lib.hid hS8
              replace p0 := keep_cell hK p0
              replace p1 := keep_cell hK p1
              replace p2 := keep_cell hK p2
              replace p3 := keep_cell hK p3
              replace p4 := keep_cell hK p4
              replace q0 := keep_cell hK q0
              replace q1 := keep_cell hK q1
              replace q2 := keep_cell hK q2
              replace t0 := keep_cell hK t0
              replace t1 := keep_cell hK t1
              replace t2 := keep_cell hK t2
              replace t3 := keep_cell hK t3
              replace t4 := keep_cell hK t4
              replace x0 := keep_cell hK x0
              replace x1 := keep_cell hK x1
              replace x2 := keep_cell hK x2
              replace HS1 := Lib.hid (HS1.out.mono mAtr hK)
              replace HS6 := Lib.hid (HS6.out.mono mAtr hK)
              clear hK hS8
              go_wp2_with fail
              go_loopw [9] (fun i wr => ∃ k : Nat, k ≤ n1 ∧ i = .int .i64 k ∧ Below W8.heap.size W8 wr) (fun i _ => n1 - (intOf i).toNat)
              case atStart => exact ⟨0, Nat.zero_le _, rfl, Below.refl _ _⟩
              case round =>
                obtain ⟨k, hk, rfl, hb⟩ := hrel
                replace p0 := keep_cell hb p0
                replace p1 := keep_cell hb p1
                replace p2 := keep_cell hb p2
                replace p3 := keep_cell hb p3
                replace p4 := keep_cell hb p4
                replace q0 := keep_cell hb q0
                replace q1 := keep_cell hb q1
                replace q2 := keep_cell hb q2
                replace t0 := keep_cell hb t0
                replace t1 := keep_cell hb t1
                replace t2 := keep_cell hb t2
                replace t3 := keep_cell hb t3
                replace t4 := keep_cell hb t4
                replace x0 := keep_cell hb x0
                replace x1 := keep_cell hb x1
                replace x2 := keep_cell hb x2
                replace HS1 := Lib.hid (HS1.out.mono mAtr hb)
                replace HS6 := Lib.hid (HS6.out.mono mAtr hb)
                replace HB := Lib.hid (ex_trans HB.out hb)
                by_cases hlt : k < n1
                · obtain ⟨nb, no, rfl, nbw, nc⟩ := HS8.out.str (by omega)
                  have y0 := nc k (by rw [List.length_map]; have := HS1.out.len; omega)
                  replace y0 := keep_cell hb y0
                  obtain ⟨nk, hnk⟩ : ∃ x, x = (f.attrs.map (·.name))[k]'(by rw [List.length_map]; have := HS1.out.len; omega) := ⟨_, rfl⟩
                  rw [← hnk] at y0
                  have i1 : (k : Int) < (n1 : Int) := by omega
                  have HBW := Lib.hid hb
                  clear nc hnk hb
                  go_upto_region 12 with fail
                  go_cut [62] from 42 to 62 (fun s62 w' => s62 = .bool false ∧ Below wr.heap.size wr w')
                  case first =>
                    cases hne : eqS nk nm with
                    | true =>
                      have hne2 : (nk.toList == nm.toList) = true := hne
                      clear hne
                      refine wp_region_held_drew (S := (fun w' => w'.cell? ⟨g3, 0, none⟩ = some (.int .i64 f.id) ∧ w'.cell? ⟨g3, 1, none⟩ = some (.int .i64 f.owner) ∧ w'.cell? ⟨g3, 2, none⟩ = some (.bool f.shared) ∧ w'.cell? ⟨g3, 3, none⟩ = some (.int .i64 f.link) ∧ w'.cell? ⟨g3, 4, none⟩ = some (.slice A1 n1 c1) ∧ w'.cell? ⟨g5, 0, none⟩ = some (.int .i64 vk) ∧ w'.cell? ⟨g5, 1, none⟩ = some (.int .i64 vi) ∧ w'.cell? ⟨g5, 2, none⟩ = some (.string vs) ∧ w'.cell? ⟨g6, 0, none⟩ = some (.int .i64 g.id) ∧ w'.cell? ⟨g6, 1, none⟩ = some (.int .i64 g.owner) ∧ w'.cell? ⟨g6, 2, none⟩ = some (.bool g.shared) ∧ w'.cell? ⟨g6, 3, none⟩ = some (.int .i64 g.link) ∧ w'.cell? ⟨g6, 4, none⟩ = some (.slice A6 n6 c6) ∧ w'.cell? ⟨g7, 0, none⟩ = some (.int .i64 xk) ∧ w'.cell? ⟨g7, 1, none⟩ = some (.int .i64 xi) ∧ w'.cell? ⟨g7, 2, none⟩ = some (.string xs) ∧ w'.cell? ⟨nb, no + k, none⟩ = some (.string nk) ∧ Below wr.heap.size wr w')) (by kernel_rfl) (by (try dsimp only); exact ⟨p0, p1, p2, p3, p4, q0, q1, q2, t0, t1, t2, t3, t4, x0, x1, x2, y0, (Below.refl _ _).drew⟩) (fun hHeld => ?_)
                      first | (refine held_take 0 rfl (by kernel_rfl) (by kernel_rfl) (by kernel_rfl) (by rfl) (fun _ _ _ h => h) (by assumption) (by intro w hSw; (try dsimp only at hSw); go_simp; first | done | with_reducible rfl) ?_) | (refine held_skip 0 rfl (by kernel_rfl) (by kernel_rfl) (by kernel_rfl) (by rfl) (fun _ _ _ h => h) (by assumption) ?_)
                      simp only [Act.put, List.setIfInBounds_toArray, List.set_cons_zero, List.set_cons_succ]
                      first | (refine held_take 1 rfl (by kernel_rfl) (by kernel_rfl) (by kernel_rfl) (by rfl) (fun _ _ _ h => h) (by assumption) (by intro w hSw; (try dsimp only at hSw); go_simp; first | done | with_reducible rfl) ?_) | (refine held_skip 1 rfl (by kernel_rfl) (by kernel_rfl) (by kernel_rfl) (by rfl) (fun _ _ _ h => h) (by assumption) ?_)
                      simp only [Act.put, List.setIfInBounds_toArray, List.set_cons_zero, List.set_cons_succ]
                      first | (refine held_take 2 rfl (by kernel_rfl) (by kernel_rfl) (by kernel_rfl) (by rfl) (fun _ _ _ h => h) (by assumption) (by intro w hSw; (try dsimp only at hSw); go_simp; first | done | with_reducible rfl) ?_) | (refine held_skip 2 rfl (by kernel_rfl) (by kernel_rfl) (by kernel_rfl) (by rfl) (fun _ _ _ h => h) (by assumption) ?_)
                      simp only [Act.put, List.setIfInBounds_toArray, List.set_cons_zero, List.set_cons_succ]
                      first | (refine held_take 3 rfl (by kernel_rfl) (by kernel_rfl) (by kernel_rfl) (by rfl) (fun _ _ _ h => h) (by assumption) (by intro w hSw; (try dsimp only at hSw); go_simp; first | done | with_reducible rfl) ?_) | (refine held_skip 3 rfl (by kernel_rfl) (by kernel_rfl) (by kernel_rfl) (by rfl) (fun _ _ _ h => h) (by assumption) ?_)
                      simp only [Act.put, List.setIfInBounds_toArray, List.set_cons_zero, List.set_cons_succ]
                      first | (refine held_take 4 rfl (by kernel_rfl) (by kernel_rfl) (by kernel_rfl) (by rfl) (fun _ _ _ h => h) (by assumption) (by intro w hSw; (try dsimp only at hSw); go_simp; first | done | with_reducible rfl) ?_) | (refine held_skip 4 rfl (by kernel_rfl) (by kernel_rfl) (by kernel_rfl) (by rfl) (fun _ _ _ h => h) (by assumption) ?_)
                      simp only [Act.put, List.setIfInBounds_toArray, List.set_cons_zero, List.set_cons_succ]
                      first | (refine held_take 5 rfl (by kernel_rfl) (by kernel_rfl) (by kernel_rfl) (by rfl) (fun _ _ _ h => h) (by assumption) (by intro w hSw; (try dsimp only at hSw); go_simp; first | done | with_reducible rfl) ?_) | (refine held_skip 5 rfl (by kernel_rfl) (by kernel_rfl) (by kernel_rfl) (by rfl) (fun _ _ _ h => h) (by assumption) ?_)
                      simp only [Act.put, List.setIfInBounds_toArray, List.set_cons_zero, List.set_cons_succ]
                      first | (refine held_take 6 rfl (by kernel_rfl) (by kernel_rfl) (by kernel_rfl) (by rfl) (fun _ _ _ h => h) (by assumption) (by intro w hSw; (try dsimp only at hSw); go_simp; first | done | with_reducible rfl) ?_) | (refine held_skip 6 rfl (by kernel_rfl) (by kernel_rfl) (by kernel_rfl) (by rfl) (fun _ _ _ h => h) (by assumption) ?_)
                      simp only [Act.put, List.setIfInBounds_toArray, List.set_cons_zero, List.set_cons_succ]
                      first | (refine held_take 7 rfl (by kernel_rfl) (by kernel_rfl) (by kernel_rfl) (by rfl) (fun _ _ _ h => h) (by assumption) (by intro w hSw; (try dsimp only at hSw); go_simp; first | done | with_reducible rfl) ?_) | (refine held_skip 7 rfl (by kernel_rfl) (by kernel_rfl) (by kernel_rfl) (by rfl) (fun _ _ _ h => h) (by assumption) ?_)
                      simp only [Act.put, List.setIfInBounds_toArray, List.set_cons_zero, List.set_cons_succ]
                      first | (refine held_take 8 rfl (by kernel_rfl) (by kernel_rfl) (by kernel_rfl) (by rfl) (fun _ _ _ h => h) (by assumption) (by intro w hSw; (try dsimp only at hSw); go_simp; first | done | with_reducible rfl) ?_) | (refine held_skip 8 rfl (by kernel_rfl) (by kernel_rfl) (by kernel_rfl) (by rfl) (fun _ _ _ h => h) (by assumption) ?_)
                      simp only [Act.put, List.setIfInBounds_toArray, List.set_cons_zero, List.set_cons_succ]
                      first | (refine held_take 9 rfl (by kernel_rfl) (by kernel_rfl) (by kernel_rfl) (by rfl) (fun _ _ _ h => h) (by assumption) (by intro w hSw; (try dsimp only at hSw); go_simp; first | done | with_reducible rfl) ?_) | (refine held_skip 9 rfl (by kernel_rfl) (by kernel_rfl) (by kernel_rfl) (by rfl) (fun _ _ _ h => h) (by assumption) ?_)
                      simp only [Act.put, List.setIfInBounds_toArray, List.set_cons_zero, List.set_cons_succ]
                      first | (refine held_take 10 rfl (by kernel_rfl) (by kernel_rfl) (by kernel_rfl) (by rfl) (fun _ _ _ h => h) (by assumption) (by intro w hSw; (try dsimp only at hSw); go_simp; first | done | with_reducible rfl) ?_) | (refine held_skip 10 rfl (by kernel_rfl) (by kernel_rfl) (by kernel_rfl) (by rfl) (fun _ _ _ h => h) (by assumption) ?_)
                      simp only [Act.put, List.setIfInBounds_toArray, List.set_cons_zero, List.set_cons_succ]
                      first | (refine held_take 11 rfl (by kernel_rfl) (by kernel_rfl) (by kernel_rfl) (by rfl) (fun _ _ _ h => h) (by assumption) (by intro w hSw; (try dsimp only at hSw); go_simp; first | done | with_reducible rfl) ?_) | (refine held_skip 11 rfl (by kernel_rfl) (by kernel_rfl) (by kernel_rfl) (by rfl) (fun _ _ _ h => h) (by assumption) ?_)
                      simp only [Act.put, List.setIfInBounds_toArray, List.set_cons_zero, List.set_cons_succ]
                      first | (refine held_take 12 rfl (by kernel_rfl) (by kernel_rfl) (by kernel_rfl) (by rfl) (fun _ _ _ h => h) (by assumption) (by intro w hSw; (try dsimp only at hSw); go_simp; first | done | with_reducible rfl) ?_) | (refine held_skip 12 rfl (by kernel_rfl) (by kernel_rfl) (by kernel_rfl) (by rfl) (fun _ _ _ h => h) (by assumption) ?_)
                      simp only [Act.put, List.setIfInBounds_toArray, List.set_cons_zero, List.set_cons_succ]
                      first | (refine held_take 13 rfl (by kernel_rfl) (by kernel_rfl) (by kernel_rfl) (by rfl) (fun _ _ _ h => h) (by assumption) (by intro w hSw; (try dsimp only at hSw); go_simp; first | done | with_reducible rfl) ?_) | (refine held_skip 13 rfl (by kernel_rfl) (by kernel_rfl) (by kernel_rfl) (by rfl) (fun _ _ _ h => h) (by assumption) ?_)
                      simp only [Act.put, List.setIfInBounds_toArray, List.set_cons_zero, List.set_cons_succ]
                      first | (refine held_take 14 rfl (by kernel_rfl) (by kernel_rfl) (by kernel_rfl) (by rfl) (fun _ _ _ h => h) (by assumption) (by intro w hSw; (try dsimp only at hSw); go_simp; first | done | with_reducible rfl) ?_) | (refine held_skip 14 rfl (by kernel_rfl) (by kernel_rfl) (by kernel_rfl) (by rfl) (fun _ _ _ h => h) (by assumption) ?_)
                      simp only [Act.put, List.setIfInBounds_toArray, List.set_cons_zero, List.set_cons_succ]
                      first | (refine held_take 15 rfl (by kernel_rfl) (by kernel_rfl) (by kernel_rfl) (by rfl) (fun _ _ _ h => h) (by assumption) (by intro w hSw; (try dsimp only at hSw); go_simp; first | done | with_reducible rfl) ?_) | (refine held_skip 15 rfl (by kernel_rfl) (by kernel_rfl) (by kernel_rfl) (by rfl) (fun _ _ _ h => h) (by assumption) ?_)
                      simp only [Act.put, List.setIfInBounds_toArray, List.set_cons_zero, List.set_cons_succ]
                      first | (refine held_take 16 rfl (by kernel_rfl) (by kernel_rfl) (by kernel_rfl) (by rfl) (fun _ _ _ h => h) (by assumption) (by intro w hSw; (try dsimp only at hSw); go_simp; first | done | with_reducible rfl) ?_) | (refine held_skip 16 rfl (by kernel_rfl) (by kernel_rfl) (by kernel_rfl) (by rfl) (fun _ _ _ h => h) (by assumption) ?_)
                      simp only [Act.put, List.setIfInBounds_toArray, List.set_cons_zero, List.set_cons_succ]
                      first | (refine held_take 17 rfl (by kernel_rfl) (by kernel_rfl) (by kernel_rfl) (by rfl) (fun _ _ _ h => h) (by assumption) (by intro w hSw; (try dsimp only at hSw); go_simp; first | done | with_reducible rfl) ?_) | (refine held_skip 17 rfl (by kernel_rfl) (by kernel_rfl) (by kernel_rfl) (by rfl) (fun _ _ _ h => h) (by assumption) ?_)
                      simp only [Act.put, List.setIfInBounds_toArray, List.set_cons_zero, List.set_cons_succ]
                      first | (refine held_take 18 rfl (by kernel_rfl) (by kernel_rfl) (by kernel_rfl) (by rfl) (fun _ _ _ h => h) (by assumption) (by intro w hSw; (try dsimp only at hSw); go_simp; first | done | with_reducible rfl) ?_) | (refine held_skip 18 rfl (by kernel_rfl) (by kernel_rfl) (by kernel_rfl) (by rfl) (fun _ _ _ h => h) (by assumption) ?_)
                      simp only [Act.put, List.setIfInBounds_toArray, List.set_cons_zero, List.set_cons_succ]
                      first | (refine held_take 19 rfl (by kernel_rfl) (by kernel_rfl) (by kernel_rfl) (by rfl) (fun _ _ _ h => h) (by assumption) (by intro w hSw; (try dsimp only at hSw); go_simp; first | done | with_reducible rfl) ?_) | (refine held_skip 19 rfl (by kernel_rfl) (by kernel_rfl) (by kernel_rfl) (by rfl) (fun _ _ _ h => h) (by assumption) ?_)
                      simp only [Act.put, List.setIfInBounds_toArray, List.set_cons_zero, List.set_cons_succ]
                      first | (refine held_take 20 rfl (by kernel_rfl) (by kernel_rfl) (by kernel_rfl) (by rfl) (fun _ _ _ h => h) (by assumption) (by intro w hSw; (try dsimp only at hSw); go_simp; first | done | with_reducible rfl) ?_) | (refine held_skip 20 rfl (by kernel_rfl) (by kernel_rfl) (by kernel_rfl) (by rfl) (fun _ _ _ h => h) (by assumption) ?_)
                      simp only [Act.put, List.setIfInBounds_toArray, List.set_cons_zero, List.set_cons_succ]
                      refine wpAnyH_done (by kernel_rfl) ?_ _
                      have hB := hHeld.2.2.2.2.2.2.2.2.2.2.2.2.2.2.2.2.2
                      clear hHeld
                      go_wp2_with fail
                      go_meet
                      exact ⟨rfl, hB⟩
                    | false =>
                      have HG1 := Lib.hid fun w (h : Sl 4 RAtr w A6 n6 g.attrs) => impl_GetAttr g A6 n6 c6 nk w h (by omega)
                      have HG2 := Lib.hid fun w (h : Sl 4 RAtr w A1 n1 f.attrs) => spec_GetAttr f A1 n1 c1 nk w h (by omega)
                      rw [HGO.out nk hne] at HG1
                      obtain ⟨⟨yk, yi, ys⟩, hy⟩ : ∃ y, y = getA f.attrs nk := ⟨_, rfl⟩
                      rw [← hy] at HG1 HG2
                      have hne2 : (nk.toList == nm.toList) = false := hne
                      clear hne hy
                      refine wp_region_held_drew (S := (fun w' => w'.cell? ⟨g3, 0, none⟩ = some (.int .i64 f.id) ∧ w'.cell? ⟨g3, 1, none⟩ = some (.int .i64 f.owner) ∧ w'.cell? ⟨g3, 2, none⟩ = some (.bool f.shared) ∧ w'.cell? ⟨g3, 3, none⟩ = some (.int .i64 f.link) ∧ w'.cell? ⟨g3, 4, none⟩ = some (.slice A1 n1 c1) ∧ w'.cell? ⟨g5, 0, none⟩ = some (.int .i64 vk) ∧ w'.cell? ⟨g5, 1, none⟩ = some (.int .i64 vi) ∧ w'.cell? ⟨g5, 2, none⟩ = some (.string vs) ∧ w'.cell? ⟨g6, 0, none⟩ = some (.int .i64 g.id) ∧ w'.cell? ⟨g6, 1, none⟩ = some (.int .i64 g.owner) ∧ w'.cell? ⟨g6, 2, none⟩ = some (.bool g.shared) ∧ w'.cell? ⟨g6, 3, none⟩ = some (.int .i64 g.link) ∧ w'.cell? ⟨g6, 4, none⟩ = some (.slice A6 n6 c6) ∧ w'.cell? ⟨g7, 0, none⟩ = some (.int .i64 xk) ∧ w'.cell? ⟨g7, 1, none⟩ = some (.int .i64 xi) ∧ w'.cell? ⟨g7, 2, none⟩ = some (.string xs) ∧ w'.cell? ⟨nb, no + k, none⟩ = some (.string nk) ∧ Below wr.heap.size wr w')) (by kernel_rfl) (by (try dsimp only); exact ⟨p0, p1, p2, p3, p4, q0, q1, q2, t0, t1, t2, t3, t4, x0, x1, x2, y0, (Below.refl _ _).drew⟩) (fun hHeld => ?_)
                      first | (refine held_take 0 rfl (by kernel_rfl) (by kernel_rfl) (by kernel_rfl) (by rfl) (fun _ _ _ h => h) (by assumption) (by intro w hSw; (try dsimp only at hSw); go_simp; first | done | with_reducible rfl) ?_) | (refine held_skip 0 rfl (by kernel_rfl) (by kernel_rfl) (by kernel_rfl) (by rfl) (fun _ _ _ h => h) (by assumption) ?_)
                      simp only [Act.put, List.setIfInBounds_toArray, List.set_cons_zero, List.set_cons_succ]
                      first | (refine held_take 1 rfl (by kernel_rfl) (by kernel_rfl) (by kernel_rfl) (by rfl) (fun _ _ _ h => h) (by assumption) (by intro w hSw; (try dsimp only at hSw); go_simp; first | done | with_reducible rfl) ?_) | (refine held_skip 1 rfl (by kernel_rfl) (by kernel_rfl) (by kernel_rfl) (by rfl) (fun _ _ _ h => h) (by assumption) ?_)
                      simp only [Act.put, List.setIfInBounds_toArray, List.set_cons_zero, List.set_cons_succ]
                      first | (refine held_take 2 rfl (by kernel_rfl) (by kernel_rfl) (by kernel_rfl) (by rfl) (fun _ _ _ h => h) (by assumption) (by intro w hSw; (try dsimp only at hSw); go_simp; first | done | with_reducible rfl) ?_) | (refine held_skip 2 rfl (by kernel_rfl) (by kernel_rfl) (by kernel_rfl) (by rfl) (fun _ _ _ h => h) (by assumption) ?_)
                      simp only [Act.put, List.setIfInBounds_toArray, List.set_cons_zero, List.set_cons_succ]
                      first | (refine held_take 3 rfl (by kernel_rfl) (by kernel_rfl) (by kernel_rfl) (by rfl) (fun _ _ _ h => h) (by assumption) (by intro w hSw; (try dsimp only at hSw); go_simp; first | done | with_reducible rfl) ?_) | (refine held_skip 3 rfl (by kernel_rfl) (by kernel_rfl) (by kernel_rfl) (by rfl) (fun _ _ _ h => h) (by assumption) ?_)
                      simp only [Act.put, List.setIfInBounds_toArray, List.set_cons_zero, List.set_cons_succ]
                      first | (refine held_take 4 rfl (by kernel_rfl) (by kernel_rfl) (by kernel_rfl) (by rfl) (fun _ _ _ h => h) (by assumption) (by intro w hSw; (try dsimp only at hSw); go_simp; first | done | with_reducible rfl) ?_) | (refine held_skip 4 rfl (by kernel_rfl) (by kernel_rfl) (by kernel_rfl) (by rfl) (fun _ _ _ h => h) (by assumption) ?_)
                      simp only [Act.put, List.setIfInBounds_toArray, List.set_cons_zero, List.set_cons_succ]
                      first | (refine held_take 5 rfl (by kernel_rfl) (by kernel_rfl) (by kernel_rfl) (by rfl) (fun _ _ _ h => h) (by assumption) (by intro w hSw; (try dsimp only at hSw); go_simp; first | done | with_reducible rfl) ?_) | (refine held_skip 5 rfl (by kernel_rfl) (by kernel_rfl) (by kernel_rfl) (by rfl) (fun _ _ _ h => h) (by assumption) ?_)
                      simp only [Act.put, List.setIfInBounds_toArray, List.set_cons_zero, List.set_cons_succ]
                      first | (refine held_take 6 rfl (by kernel_rfl) (by kernel_rfl) (by kernel_rfl) (by rfl) (fun _ _ _ h => h) (by assumption) (by intro w hSw; (try dsimp only at hSw); go_simp; first | done | with_reducible rfl) ?_) | (refine held_skip 6 rfl (by kernel_rfl) (by kernel_rfl) (by kernel_rfl) (by rfl) (fun _ _ _ h => h) (by assumption) ?_)
                      simp only [Act.put, List.setIfInBounds_toArray, List.set_cons_zero, List.set_cons_succ]
                      first | (refine held_take 7 rfl (by kernel_rfl) (by kernel_rfl) (by kernel_rfl) (by rfl) (fun _ _ _ h => h) (by assumption) (by intro w hSw; (try dsimp only at hSw); go_simp; first | done | with_reducible rfl) ?_) | (refine held_skip 7 rfl (by kernel_rfl) (by kernel_rfl) (by kernel_rfl) (by rfl) (fun _ _ _ h => h) (by assumption) ?_)
                      simp only [Act.put, List.setIfInBounds_toArray, List.set_cons_zero, List.set_cons_succ]
                      first | (refine held_take 8 rfl (by kernel_rfl) (by kernel_rfl) (by kernel_rfl) (by rfl) (fun _ _ _ h => h) (by assumption) (by intro w hSw; (try dsimp only at hSw); go_simp; first | done | with_reducible rfl) ?_) | (refine held_skip 8 rfl (by kernel_rfl) (by kernel_rfl) (by kernel_rfl) (by rfl) (fun _ _ _ h => h) (by assumption) ?_)
                      simp only [Act.put, List.setIfInBounds_toArray, List.set_cons_zero, List.set_cons_succ]
                      first | (refine held_take 9 rfl (by kernel_rfl) (by kernel_rfl) (by kernel_rfl) (by rfl) (fun _ _ _ h => h) (by assumption) (by intro w hSw; (try dsimp only at hSw); go_simp; first | done | with_reducible rfl) ?_) | (refine held_skip 9 rfl (by kernel_rfl) (by kernel_rfl) (by kernel_rfl) (by rfl) (fun _ _ _ h => h) (by assumption) ?_)
                      simp only [Act.put, List.setIfInBounds_toArray, List.set_cons_zero, List.set_cons_succ]
                      first | (refine held_take 10 rfl (by kernel_rfl) (by kernel_rfl) (by kernel_rfl) (by rfl) (fun _ _ _ h => h) (by assumption) (by intro w hSw; (try dsimp only at hSw); go_simp; first | done | with_reducible rfl) ?_) | (refine held_skip 10 rfl (by kernel_rfl) (by kernel_rfl) (by kernel_rfl) (by rfl) (fun _ _ _ h => h) (by assumption) ?_)
                      simp only [Act.put, List.setIfInBounds_toArray, List.set_cons_zero, List.set_cons_succ]
                      first | (refine held_take 11 rfl (by kernel_rfl) (by kernel_rfl) (by kernel_rfl) (by rfl) (fun _ _ _ h => h) (by assumption) (by intro w hSw; (try dsimp only at hSw); go_simp; first | done | with_reducible rfl) ?_) | (refine held_skip 11 rfl (by kernel_rfl) (by kernel_rfl) (by kernel_rfl) (by rfl) (fun _ _ _ h => h) (by assumption) ?_)
                      simp only [Act.put, List.setIfInBounds_toArray, List.set_cons_zero, List.set_cons_succ]
                      first | (refine held_take 13 rfl (by kernel_rfl) (by kernel_rfl) (by kernel_rfl) (by rfl) (fun _ _ _ h => h) (by assumption) (by intro w hSw; (try dsimp only at hSw); go_simp; first | done | with_reducible rfl) ?_) | (refine held_skip 13 rfl (by kernel_rfl) (by kernel_rfl) (by kernel_rfl) (by rfl) (fun _ _ _ h => h) (by assumption) ?_)
                      simp only [Act.put, List.setIfInBounds_toArray, List.set_cons_zero, List.set_cons_succ]
                      first | (refine held_take 14 rfl (by kernel_rfl) (by kernel_rfl) (by kernel_rfl) (by rfl) (fun _ _ _ h => h) (by assumption) (by intro w hSw; (try dsimp only at hSw); go_simp; first | done | with_reducible rfl) ?_) | (refine held_skip 14 rfl (by kernel_rfl) (by kernel_rfl) (by kernel_rfl) (by rfl) (fun _ _ _ h => h) (by assumption) ?_)
                      simp only [Act.put, List.setIfInBounds_toArray, List.set_cons_zero, List.set_cons_succ]
                      first | (refine held_take 15 rfl (by kernel_rfl) (by kernel_rfl) (by kernel_rfl) (by rfl) (fun _ _ _ h => h) (by assumption) (by intro w hSw; (try dsimp only at hSw); go_simp; first | done | with_reducible rfl) ?_) | (refine held_skip 15 rfl (by kernel_rfl) (by kernel_rfl) (by kernel_rfl) (by rfl) (fun _ _ _ h => h) (by assumption) ?_)
                      simp only [Act.put, List.setIfInBounds_toArray, List.set_cons_zero, List.set_cons_succ]
                      first | (refine held_take 16 rfl (by kernel_rfl) (by kernel_rfl) (by kernel_rfl) (by rfl) (fun _ _ _ h => h) (by assumption) (by intro w hSw; (try dsimp only at hSw); go_simp; first | done | with_reducible rfl) ?_) | (refine held_skip 16 rfl (by kernel_rfl) (by kernel_rfl) (by kernel_rfl) (by rfl) (fun _ _ _ h => h) (by assumption) ?_)
                      simp only [Act.put, List.setIfInBounds_toArray, List.set_cons_zero, List.set_cons_succ]
                      first | (refine held_take 17 rfl (by kernel_rfl) (by kernel_rfl) (by kernel_rfl) (by rfl) (fun _ _ _ h => h) (by assumption) (by intro w hSw; (try dsimp only at hSw); go_simp; first | done | with_reducible rfl) ?_) | (refine held_skip 17 rfl (by kernel_rfl) (by kernel_rfl) (by kernel_rfl) (by rfl) (fun _ _ _ h => h) (by assumption) ?_)
                      simp only [Act.put, List.setIfInBounds_toArray, List.set_cons_zero, List.set_cons_succ]
                      refine held_one 12 (by kernel_rfl) rfl (fun K hK => ?_)
                      go_simp
                      go_at_call 13
                      refine (HG1.out _ (HS6.out.mono mAtr hHeld.2.2.2.2.2.2.2.2.2.2.2.2.2.2.2.2.2)).mono (fun e wq1 h => ?_)
                      obtain ⟨rfl, hbq1⟩ : e = .returned (.agg #[.int .i64 yk, .int .i64 yi, .string ys]) ∧ _ := h
                      go_wp2_with fail
                      refine hK.out _ _ (by (try dsimp only); exact ⟨keep_cell hbq1 hHeld.1, keep_cell hbq1 hHeld.2.1, keep_cell hbq1 hHeld.2.2.1, keep_cell hbq1 hHeld.2.2.2.1, keep_cell hbq1 hHeld.2.2.2.2.1, keep_cell hbq1 hHeld.2.2.2.2.2.1, keep_cell hbq1 hHeld.2.2.2.2.2.2.1, keep_cell hbq1 hHeld.2.2.2.2.2.2.2.1, keep_cell hbq1 hHeld.2.2.2.2.2.2.2.2.1, keep_cell hbq1 hHeld.2.2.2.2.2.2.2.2.2.1, keep_cell hbq1 hHeld.2.2.2.2.2.2.2.2.2.2.1, keep_cell hbq1 hHeld.2.2.2.2.2.2.2.2.2.2.2.1, keep_cell hbq1 hHeld.2.2.2.2.2.2.2.2.2.2.2.2.1, keep_cell hbq1 hHeld.2.2.2.2.2.2.2.2.2.2.2.2.2.1, keep_cell hbq1 hHeld.2.2.2.2.2.2.2.2.2.2.2.2.2.2.1, keep_cell hbq1 hHeld.2.2.2.2.2.2.2.2.2.2.2.2.2.2.2.1, keep_cell hbq1 hHeld.2.2.2.2.2.2.2.2.2.2.2.2.2.2.2.2.1, ex_trans hHeld.2.2.2.2.2.2.2.2.2.2.2.2.2.2.2.2.2 hbq1⟩) (fun hNew => ?_)
                      clear hK K hHeld
                      have hHeld := hNew
                      clear hNew
                      try simp only [Act.put, List.setIfInBounds_toArray, List.set_cons_zero, List.set_cons_succ]
                      refine held_one 18 (by kernel_rfl) rfl (fun K hK => ?_)
                      go_simp
                      go_at_call 24
                      refine (HG2.out _ (HS1.out.mono mAtr hHeld.2.2.2.2.2.2.2.2.2.2.2.2.2.2.2.2.2)).mono (fun e wq2 h => ?_)
                      obtain ⟨rfl, hbq2⟩ : e = .returned (.agg #[.int .i64 yk, .int .i64 yi, .string ys]) ∧ _ := h
                      go_wp2_with fail
                      refine hK.out _ _ (by (try dsimp only); exact ⟨keep_cell hbq2 hHeld.1, keep_cell hbq2 hHeld.2.1, keep_cell hbq2 hHeld.2.2.1, keep_cell hbq2 hHeld.2.2.2.1, keep_cell hbq2 hHeld.2.2.2.2.1, keep_cell hbq2 hHeld.2.2.2.2.2.1, keep_cell hbq2 hHeld.2.2.2.2.2.2.1, keep_cell hbq2 hHeld.2.2.2.2.2.2.2.1, keep_cell hbq2 hHeld.2.2.2.2.2.2.2.2.1, keep_cell hbq2 hHeld.2.2.2.2.2.2.2.2.2.1, keep_cell hbq2 hHeld.2.2.2.2.2.2.2.2.2.2.1, keep_cell hbq2 hHeld.2.2.2.2.2.2.2.2.2.2.2.1, keep_cell hbq2 hHeld.2.2.2.2.2.2.2.2.2.2.2.2.1, keep_cell hbq2 hHeld.2.2.2.2.2.2.2.2.2.2.2.2.2.1, keep_cell hbq2 hHeld.2.2.2.2.2.2.2.2.2.2.2.2.2.2.1, keep_cell hbq2 hHeld.2.2.2.2.2.2.2.2.2.2.2.2.2.2.2.1, keep_cell hbq2 hHeld.2.2.2.2.2.2.2.2.2.2.2.2.2.2.2.2.1, ex_trans hHeld.2.2.2.2.2.2.2.2.2.2.2.2.2.2.2.2.2 hbq2⟩) (fun hNew => ?_)
                      clear hK K hHeld
                      have hHeld := hNew
                      clear hNew
                      try simp only [Act.put, List.setIfInBounds_toArray, List.set_cons_zero, List.set_cons_succ]
                      first | (refine held_take 19 rfl (by kernel_rfl) (by kernel_rfl) (by kernel_rfl) (by rfl) (fun _ _ _ h => h) (by assumption) (by intro w hSw; (try dsimp only at hSw); go_simp; first | done | with_reducible rfl) ?_) | (refine held_skip 19 rfl (by kernel_rfl) (by kernel_rfl) (by kernel_rfl) (by rfl) (fun _ _ _ h => h) (by assumption) ?_)
                      simp only [Act.put, List.setIfInBounds_toArray, List.set_cons_zero, List.set_cons_succ]
                      first | (refine held_take 20 rfl (by kernel_rfl) (by kernel_rfl) (by kernel_rfl) (by rfl) (fun _ _ _ h => h) (by assumption) (by intro w hSw; (try dsimp only at hSw); go_simp; first | done | with_reducible rfl) ?_) | (refine held_skip 20 rfl (by kernel_rfl) (by kernel_rfl) (by kernel_rfl) (by rfl) (fun _ _ _ h => h) (by assumption) ?_)
                      simp only [Act.put, List.setIfInBounds_toArray, List.set_cons_zero, List.set_cons_succ]
                      refine wpAnyH_done (by kernel_rfl) ?_ _
                      have hB := hHeld.2.2.2.2.2.2.2.2.2.2.2.2.2.2.2.2.2
                      clear hHeld
                      go_wp2_with fail
                      go_meet
                      exact ⟨rfl, hB⟩
                  case rest =>
                    generalize wc = W12 at *
                    obtain ⟨rfl, hK⟩ := hcut
                    have HZ := Lib.hid (ex_trans HBW.out hK)
                    clear HBW hK
                    go_wp2_with fail
                    go_roundw
                    case rel => exact ⟨k + 1, by omega, by go_num, HZ.out⟩
                    case measure => simp [intOf]; omega
                · obtain rfl : n1 = k := by omega
                  have i1 : ¬ ((n1 : Int) < (n1 : Int)) := by omega
                  clear hlt HS8 hb HGO
                  go_upto_region 14 with fail
                  go_cut [10, 11] from 63 to 67 (fun s10 s11 w' => ∃ (A2 : Option Addr) (n2 c2 : Nat) (l2 : List Fld) (z : Fil) (A3 : Option Addr) (n3 c3 : Nat) (g11 : Nat), s10 = .slice A2 n2 c2 ∧ s11 = .pointer (some ⟨g11, 0, none⟩) ∧ w'.cell? ⟨g11, 0, none⟩ = some (.int .i64 z.id) ∧ w'.cell? ⟨g11, 1, none⟩ = some (.int .i64 z.owner) ∧ w'.cell? ⟨g11, 2, none⟩ = some (.bool z.shared) ∧ w'.cell? ⟨g11, 3, none⟩ = some (.int .i64 z.link) ∧ w'.cell? ⟨g11, 4, none⟩ = some (.slice A3 n3 c3) ∧ Sl 2 RFld w' A2 n2 l2 ∧ (n2 ≤ 6 ∧ ∀ f ∈ l2, f.name.size ≤ 1) ∧ Sl 4 RAtr w' A3 n3 z.attrs ∧ n3 ≤ 5 ∧ smallA z.attrs ∧ Below wr.heap.size wr w')
                  case first =>
                    go_wp2_with fail
                    refine (HD2.out _ HB.out).mono ?_; rintro e w1 ⟨A2, n2, c2, l2, z, A3, n3, c3, rfl, hS2, hn2, hS3, hn3, hsm3, hb1⟩
                    have HX := Lib.hid (And.intro hS2 (And.intro hS3 hb1))
                    clear hS2 hS3 hb1 HD2 p0 p1 p2 p3 p4 q0 q1 q2 t0 t1 t2 t3 t4 x0 x1 x2
                    go_wp2_with fail
                    go_meet
                    exact ⟨A2, n2, c2, l2, z, A3, n3, c3, w1.heap.size, rfl, rfl, by go_simp, by go_simp, by go_simp, by go_simp, by go_simp, HX.out.1.mono mFld (by go_grown), hn2, HX.out.2.1.mono mAtr (by go_grown), hn3, hsm3, ex_trans HX.out.2.2 (by go_grown)⟩
                  case rest =>
                    generalize wc = W14 at *
                    obtain ⟨A2, n2, c2, l2, z, A3, n3, c3, g11, rfl, rfl, z0, z1, z2, z3, z4, hS2, hn2, hS3, hn3, hsm3, hK⟩ := hcut
                    replace HB := Lib.hid (ex_trans HB.out hK)
                    have HS2 := Lib.hid hS2
                    have HS3 := Lib.hid hS3
                    replace p0 := keep_cell hK p0
                    replace p1 := keep_cell hK p1
                    replace p2 := keep_cell hK p2
                    replace p3 := keep_cell hK p3
                    replace p4 := keep_cell hK p4
                    replace q0 := keep_cell hK q0
                    replace q1 := keep_cell hK q1
                    replace q2 := keep_cell hK q2
                    replace t0 := keep_cell hK t0
                    replace t1 := keep_cell hK t1
                    replace t2 := keep_cell hK t2
                    replace t3 := keep_cell hK t3
                    replace t4 := keep_cell hK t4
                    replace x0 := keep_cell hK x0
                    replace x1 := keep_cell hK x1
                    replace x2 := keep_cell hK x2
                    replace HS1 := Lib.hid (HS1.out.mono mAtr hK)
                    replace HS6 := Lib.hid (HS6.out.mono mAtr hK)
                    have hl2 : ∀ y ∈ l2, y.ok 1073741824 := fun y hy => Nat.le_trans (hn2.2 y hy) (by omega)
                    have hz : z.ok 1073741824 := ⟨by have := hS3.len; omega, fun y hy => ⟨Nat.le_trans (hsm3 y hy).1 (by omega), Nat.le_trans (hsm3 y hy).2 (by omega)⟩⟩
                    have HV1 := Lib.hid fun w (h1 : Sl 2 RFld w A2 n2 l2) (h2 : Sl 4 RAtr w A3 n3 z.attrs) => impl_IsValidFile A2 n2 c2 l2 z A3 n3 c3 w h1 (by omega) h2 hl2 hz
                    have HV2 := Lib.hid fun w (h1 : Sl 2 RFld w A2 n2 l2) (h2 : Sl 4 RAtr w A3 n3 z.attrs) => spec_IsValidFile A2 n2 c2 l2 z A3 n3 c3 w h1 (by omega) h2 hl2 hz
                    generalize validF l2 z = bz at *
                    have hbz : (bz == bz) = true := by cases bz <;> rfl
                    rw [HID.out] at t0
                    have hxv := HXV.out
                    clear hl2 hz hK hS2 hS3 hn2 hsm3 HXV HID hsm
                    go_upto_region 15 with fail
                    by_cases hv0 : vk = 0
                    · subst hv0
                      obtain ⟨rfl, rfl, rfl⟩ : xk = 0 ∧ xi = 0 ∧ xs = ByteArray.empty := by simpa [Vl.zero] using hxv
                      clear hxv
                      refine wp_region_held_drew (S := (fun w' => w'.cell? ⟨g3, 0, none⟩ = some (.int .i64 f.id) ∧ w'.cell? ⟨g3, 1, none⟩ = some (.int .i64 f.owner) ∧ w'.cell? ⟨g3, 2, none⟩ = some (.bool f.shared) ∧ w'.cell? ⟨g3, 3, none⟩ = some (.int .i64 f.link) ∧ w'.cell? ⟨g3, 4, none⟩ = some (.slice A1 n1 c1) ∧ w'.cell? ⟨g5, 0, none⟩ = some (.int .i64 0) ∧ w'.cell? ⟨g5, 1, none⟩ = some (.int .i64 vi) ∧ w'.cell? ⟨g5, 2, none⟩ = some (.string vs) ∧ w'.cell? ⟨g6, 0, none⟩ = some (.int .i64 f.id) ∧ w'.cell? ⟨g6, 1, none⟩ = some (.int .i64 g.owner) ∧ w'.cell? ⟨g6, 2, none⟩ = some (.bool g.shared) ∧ w'.cell? ⟨g6, 3, none⟩ = some (.int .i64 g.link) ∧ w'.cell? ⟨g6, 4, none⟩ = some (.slice A6 n6 c6) ∧ w'.cell? ⟨g7, 0, none⟩ = some (.int .i64 0) ∧ w'.cell? ⟨g7, 1, none⟩ = some (.int .i64 0) ∧ w'.cell? ⟨g7, 2, none⟩ = some (.string ByteArray.empty) ∧ w'.cell? ⟨g11, 0, none⟩ = some (.int .i64 z.id) ∧ w'.cell? ⟨g11, 1, none⟩ = some (.int .i64 z.owner) ∧ w'.cell? ⟨g11, 2, none⟩ = some (.bool z.shared) ∧ w'.cell? ⟨g11, 3, none⟩ = some (.int .i64 z.link) ∧ w'.cell? ⟨g11, 4, none⟩ = some (.slice A3 n3 c3) ∧ Below W14.heap.size W14 w')) (by kernel_rfl) (by (try dsimp only); exact ⟨p0, p1, p2, p3, p4, q0, q1, q2, t0, t1, t2, t3, t4, x0, x1, x2, z0, z1, z2, z3, z4, (Below.refl _ _).drew⟩) (fun hHeld => ?_)
                      first | (refine held_take 0 rfl (by kernel_rfl) (by kernel_rfl) (by kernel_rfl) (by rfl) (fun _ _ _ h => h) (by assumption) (by intro w hSw; (try dsimp only at hSw); go_simp; first | done | with_reducible rfl) ?_) | (refine held_skip 0 rfl (by kernel_rfl) (by kernel_rfl) (by kernel_rfl) (by rfl) (fun _ _ _ h => h) (by assumption) ?_)
                      simp only [Act.put, List.setIfInBounds_toArray, List.set_cons_zero, List.set_cons_succ]
                      first | (refine held_take 1 rfl (by kernel_rfl) (by kernel_rfl) (by kernel_rfl) (by rfl) (fun _ _ _ h => h) (by assumption) (by intro w hSw; (try dsimp only at hSw); go_simp; first | done | with_reducible rfl) ?_) | (refine held_skip 1 rfl (by kernel_rfl) (by kernel_rfl) (by kernel_rfl) (by rfl) (fun _ _ _ h => h) (by assumption) ?_)
                      simp only [Act.put, List.setIfInBounds_toArray, List.set_cons_zero, List.set_cons_succ]
                      first | (refine held_take 2 rfl (by kernel_rfl) (by kernel_rfl) (by kernel_rfl) (by rfl) (fun _ _ _ h => h) (by assumption) (by intro w hSw; (try dsimp only at hSw); go_simp; first | done | with_reducible rfl) ?_) | (refine held_skip 2 rfl (by kernel_rfl) (by kernel_rfl) (by kernel_rfl) (by rfl) (fun _ _ _ h => h) (by assumption) ?_)
                      simp only [Act.put, List.setIfInBounds_toArray, List.set_cons_zero, List.set_cons_succ]
                      first | (refine held_take 3 rfl (by kernel_rfl) (by kernel_rfl) (by kernel_rfl) (by rfl) (fun _ _ _ h => h) (by assumption) (by intro w hSw; (try dsimp only at hSw); go_simp; first | done | with_reducible rfl) ?_) | (refine held_skip 3 rfl (by kernel_rfl) (by kernel_rfl) (by kernel_rfl) (by rfl) (fun _ _ _ h => h) (by assumption) ?_)
                      simp only [Act.put, List.setIfInBounds_toArray, List.set_cons_zero, List.set_cons_succ]
                      first | (refine held_take 4 rfl (by kernel_rfl) (by kernel_rfl) (by kernel_rfl) (by rfl) (fun _ _ _ h => h) (by assumption) (by intro w hSw; (try dsimp only at hSw); go_simp; first | done | with_reducible rfl) ?_) | (refine held_skip 4 rfl (by kernel_rfl) (by kernel_rfl) (by kernel_rfl) (by rfl) (fun _ _ _ h => h) (by assumption) ?_)
                      simp only [Act.put, List.setIfInBounds_toArray, List.set_cons_zero, List.set_cons_succ]
                      first | (refine held_take 5 rfl (by kernel_rfl) (by kernel_rfl) (by kernel_rfl) (by rfl) (fun _ _ _ h => h) (by assumption) (by intro w hSw; (try dsimp only at hSw); go_simp; first | done | with_reducible rfl) ?_) | (refine held_skip 5 rfl (by kernel_rfl) (by kernel_rfl) (by kernel_rfl) (by rfl) (fun _ _ _ h => h) (by assumption) ?_)
                      simp only [Act.put, List.setIfInBounds_toArray, List.set_cons_zero, List.set_cons_succ]
                      first | (refine held_take 6 rfl (by kernel_rfl) (by kernel_rfl) (by kernel_rfl) (by rfl) (fun _ _ _ h => h) (by assumption) (by intro w hSw; (try dsimp only at hSw); go_simp; first | done | with_reducible rfl) ?_) | (refine held_skip 6 rfl (by kernel_rfl) (by kernel_rfl) (by kernel_rfl) (by rfl) (fun _ _ _ h => h) (by assumption) ?_)
                      simp only [Act.put, List.setIfInBounds_toArray, List.set_cons_zero, List.set_cons_succ]
                      first | (refine held_take 7 rfl (by kernel_rfl) (by kernel_rfl) (by kernel_rfl) (by rfl) (fun _ _ _ h => h) (by assumption) (by intro w hSw; (try dsimp only at hSw); go_simp; first | done | with_reducible rfl) ?_) | (refine held_skip 7 rfl (by kernel_rfl) (by kernel_rfl) (by kernel_rfl) (by rfl) (fun _ _ _ h => h) (by assumption) ?_)
                      simp only [Act.put, List.setIfInBounds_toArray, List.set_cons_zero, List.set_cons_succ]
                      first | (refine held_take 8 rfl (by kernel_rfl) (by kernel_rfl) (by kernel_rfl) (by rfl) (fun _ _ _ h => h) (by assumption) (by intro w hSw; (try dsimp only at hSw); go_simp; first | done | with_reducible rfl) ?_) | (refine held_skip 8 rfl (by kernel_rfl) (by kernel_rfl) (by kernel_rfl) (by rfl) (fun _ _ _ h => h) (by assumption) ?_)
                      simp only [Act.put, List.setIfInBounds_toArray, List.set_cons_zero, List.set_cons_succ]
                      first | (refine held_take 9 rfl (by kernel_rfl) (by kernel_rfl) (by kernel_rfl) (by rfl) (fun _ _ _ h => h) (by assumption) (by intro w hSw; (try dsimp only at hSw); go_simp; first | done | with_reducible rfl) ?_) | (refine held_skip 9 rfl (by kernel_rfl) (by kernel_rfl) (by kernel_rfl) (by rfl) (fun _ _ _ h => h) (by assumption) ?_)
                      simp only [Act.put, List.setIfInBounds_toArray, List.set_cons_zero, List.set_cons_succ]
                      first | (refine held_take 10 rfl (by kernel_rfl) (by kernel_rfl) (by kernel_rfl) (by rfl) (fun _ _ _ h => h) (by assumption) (by intro w hSw; (try dsimp only at hSw); go_simp; first | done | with_reducible rfl) ?_) | (refine held_skip 10 rfl (by kernel_rfl) (by kernel_rfl) (by kernel_rfl) (by rfl) (fun _ _ _ h => h) (by assumption) ?_)
                      simp only [Act.put, List.setIfInBounds_toArray, List.set_cons_zero, List.set_cons_succ]
                      first | (refine held_take 11 rfl (by kernel_rfl) (by kernel_rfl) (by kernel_rfl) (by rfl) (fun _ _ _ h => h) (by assumption) (by intro w hSw; (try dsimp only at hSw); go_simp; first | done | with_reducible rfl) ?_) | (refine held_skip 11 rfl (by kernel_rfl) (by kernel_rfl) (by kernel_rfl) (by rfl) (fun _ _ _ h => h) (by assumption) ?_)
                      simp only [Act.put, List.setIfInBounds_toArray, List.set_cons_zero, List.set_cons_succ]
                      first | (refine held_take 12 rfl (by kernel_rfl) (by kernel_rfl) (by kernel_rfl) (by rfl) (fun _ _ _ h => h) (by assumption) (by intro w hSw; (try dsimp only at hSw); go_simp; first | done | with_reducible rfl) ?_) | (refine held_skip 12 rfl (by kernel_rfl) (by kernel_rfl) (by kernel_rfl) (by rfl) (fun _ _ _ h => h) (by assumption) ?_)
                      simp only [Act.put, List.setIfInBounds_toArray, List.set_cons_zero, List.set_cons_succ]
                      first | (refine held_take 13 rfl (by kernel_rfl) (by kernel_rfl) (by kernel_rfl) (by rfl) (fun _ _ _ h => h) (by assumption) (by intro w hSw; (try dsimp only at hSw); go_simp; first | done | with_reducible rfl) ?_) | (refine held_skip 13 rfl (by kernel_rfl) (by kernel_rfl) (by kernel_rfl) (by rfl) (fun _ _ _ h => h) (by assumption) ?_)
                      simp only [Act.put, List.setIfInBounds_toArray, List.set_cons_zero, List.set_cons_succ]
                      first | (refine held_take 14 rfl (by kernel_rfl) (by kernel_rfl) (by kernel_rfl) (by rfl) (fun _ _ _ h => h) (by assumption) (by intro w hSw; (try dsimp only at hSw); go_simp; first | done | with_reducible rfl) ?_) | (refine held_skip 14 rfl (by kernel_rfl) (by kernel_rfl) (by kernel_rfl) (by rfl) (fun _ _ _ h => h) (by assumption) ?_)
                      simp only [Act.put, List.setIfInBounds_toArray, List.set_cons_zero, List.set_cons_succ]
                      first | (refine held_take 15 rfl (by kernel_rfl) (by kernel_rfl) (by kernel_rfl) (by rfl) (fun _ _ _ h => h) (by assumption) (by intro w hSw; (try dsimp only at hSw); go_simp; first | done | with_reducible rfl) ?_) | (refine held_skip 15 rfl (by kernel_rfl) (by kernel_rfl) (by kernel_rfl) (by rfl) (fun _ _ _ h => h) (by assumption) ?_)
                      simp only [Act.put, List.setIfInBounds_toArray, List.set_cons_zero, List.set_cons_succ]
                      first | (refine held_take 16 rfl (by kernel_rfl) (by kernel_rfl) (by kernel_rfl) (by rfl) (fun _ _ _ h => h) (by assumption) (by intro w hSw; (try dsimp only at hSw); go_simp; first | done | with_reducible rfl) ?_) | (refine held_skip 16 rfl (by kernel_rfl) (by kernel_rfl) (by kernel_rfl) (by rfl) (fun _ _ _ h => h) (by assumption) ?_)
                      simp only [Act.put, List.setIfInBounds_toArray, List.set_cons_zero, List.set_cons_succ]
                      first | (refine held_take 17 rfl (by kernel_rfl) (by kernel_rfl) (by kernel_rfl) (by rfl) (fun _ _ _ h => h) (by assumption) (by intro w hSw; (try dsimp only at hSw); go_simp; first | done | with_reducible rfl) ?_) | (refine held_skip 17 rfl (by kernel_rfl) (by kernel_rfl) (by kernel_rfl) (by rfl) (fun _ _ _ h => h) (by assumption) ?_)
                      simp only [Act.put, List.setIfInBounds_toArray, List.set_cons_zero, List.set_cons_succ]
                      first | (refine held_take 18 rfl (by kernel_rfl) (by kernel_rfl) (by kernel_rfl) (by rfl) (fun _ _ _ h => h) (by assumption) (by intro w hSw; (try dsimp only at hSw); go_simp; first | done | with_reducible rfl) ?_) | (refine held_skip 18 rfl (by kernel_rfl) (by kernel_rfl) (by kernel_rfl) (by rfl) (fun _ _ _ h => h) (by assumption) ?_)
                      simp only [Act.put, List.setIfInBounds_toArray, List.set_cons_zero, List.set_cons_succ]
                      first | (refine held_take 19 rfl (by kernel_rfl) (by kernel_rfl) (by kernel_rfl) (by rfl) (fun _ _ _ h => h) (by assumption) (by intro w hSw; (try dsimp only at hSw); go_simp; first | done | with_reducible rfl) ?_) | (refine held_skip 19 rfl (by kernel_rfl) (by kernel_rfl) (by kernel_rfl) (by rfl) (fun _ _ _ h => h) (by assumption) ?_)
                      simp only [Act.put, List.setIfInBounds_toArray, List.set_cons_zero, List.set_cons_succ]
                      first | (refine held_take 20 rfl (by kernel_rfl) (by kernel_rfl) (by kernel_rfl) (by rfl) (fun _ _ _ h => h) (by assumption) (by intro w hSw; (try dsimp only at hSw); go_simp; first | done | with_reducible rfl) ?_) | (refine held_skip 20 rfl (by kernel_rfl) (by kernel_rfl) (by kernel_rfl) (by rfl) (fun _ _ _ h => h) (by assumption) ?_)
                      simp only [Act.put, List.setIfInBounds_toArray, List.set_cons_zero, List.set_cons_succ]
                      first | (refine held_take 21 rfl (by kernel_rfl) (by kernel_rfl) (by kernel_rfl) (by rfl) (fun _ _ _ h => h) (by assumption) (by intro w hSw; (try dsimp only at hSw); go_simp; first | done | with_reducible rfl) ?_) | (refine held_skip 21 rfl (by kernel_rfl) (by kernel_rfl) (by kernel_rfl) (by rfl) (fun _ _ _ h => h) (by assumption) ?_)
                      simp only [Act.put, List.setIfInBounds_toArray, List.set_cons_zero, List.set_cons_succ]
                      first | (refine held_take 22 rfl (by kernel_rfl) (by kernel_rfl) (by kernel_rfl) (by rfl) (fun _ _ _ h => h) (by assumption) (by intro w hSw; (try dsimp only at hSw); go_simp; first | done | with_reducible rfl) ?_) | (refine held_skip 22 rfl (by kernel_rfl) (by kernel_rfl) (by kernel_rfl) (by rfl) (fun _ _ _ h => h) (by assumption) ?_)
                      simp only [Act.put, List.setIfInBounds_toArray, List.set_cons_zero, List.set_cons_succ]
                      first | (refine held_take 23 rfl (by kernel_rfl) (by kernel_rfl) (by kernel_rfl) (by rfl) (fun _ _ _ h => h) (by assumption) (by intro w hSw; (try dsimp only at hSw); go_simp; first | done | with_reducible rfl) ?_) | (refine held_skip 23 rfl (by kernel_rfl) (by kernel_rfl) (by kernel_rfl) (by rfl) (fun _ _ _ h => h) (by assumption) ?_)
                      simp only [Act.put, List.setIfInBounds_toArray, List.set_cons_zero, List.set_cons_succ]
                      first | (refine held_take 24 rfl (by kernel_rfl) (by kernel_rfl) (by kernel_rfl) (by rfl) (fun _ _ _ h => h) (by assumption) (by intro w hSw; (try dsimp only at hSw); go_simp; first | done | with_reducible rfl) ?_) | (refine held_skip 24 rfl (by kernel_rfl) (by kernel_rfl) (by kernel_rfl) (by rfl) (fun _ _ _ h => h) (by assumption) ?_)
                      simp only [Act.put, List.setIfInBounds_toArray, List.set_cons_zero, List.set_cons_succ]
                      first | (refine held_take 25 rfl (by kernel_rfl) (by kernel_rfl) (by kernel_rfl) (by rfl) (fun _ _ _ h => h) (by assumption) (by intro w hSw; (try dsimp only at hSw); go_simp; first | done | with_reducible rfl) ?_) | (refine held_skip 25 rfl (by kernel_rfl) (by kernel_rfl) (by kernel_rfl) (by rfl) (fun _ _ _ h => h) (by assumption) ?_)
                      simp only [Act.put, List.setIfInBounds_toArray, List.set_cons_zero, List.set_cons_succ]
                      first | (refine held_take 26 rfl (by kernel_rfl) (by kernel_rfl) (by kernel_rfl) (by rfl) (fun _ _ _ h => h) (by assumption) (by intro w hSw; (try dsimp only at hSw); go_simp; first | done | with_reducible rfl) ?_) | (refine held_skip 26 rfl (by kernel_rfl) (by kernel_rfl) (by kernel_rfl) (by rfl) (fun _ _ _ h => h) (by assumption) ?_)
                      simp only [Act.put, List.setIfInBounds_toArray, List.set_cons_zero, List.set_cons_succ]
                      first | (refine held_take 27 rfl (by kernel_rfl) (by kernel_rfl) (by kernel_rfl) (by rfl) (fun _ _ _ h => h) (by assumption) (by intro w hSw; (try dsimp only at hSw); go_simp; first | done | with_reducible rfl) ?_) | (refine held_skip 27 rfl (by kernel_rfl) (by kernel_rfl) (by kernel_rfl) (by rfl) (fun _ _ _ h => h) (by assumption) ?_)
                      simp only [Act.put, List.setIfInBounds_toArray, List.set_cons_zero, List.set_cons_succ]
                      first | (refine held_take 29 rfl (by kernel_rfl) (by kernel_rfl) (by kernel_rfl) (by rfl) (fun _ _ _ h => h) (by assumption) (by intro w hSw; (try dsimp only at hSw); go_simp; first | done | with_reducible rfl) ?_) | (refine held_skip 29 rfl (by kernel_rfl) (by kernel_rfl) (by kernel_rfl) (by rfl) (fun _ _ _ h => h) (by assumption) ?_)
                      simp only [Act.put, List.setIfInBounds_toArray, List.set_cons_zero, List.set_cons_succ]
                      first | (refine held_take 30 rfl (by kernel_rfl) (by kernel_rfl) (by kernel_rfl) (by rfl) (fun _ _ _ h => h) (by assumption) (by intro w hSw; (try dsimp only at hSw); go_simp; first | done | with_reducible rfl) ?_) | (refine held_skip 30 rfl (by kernel_rfl) (by kernel_rfl) (by kernel_rfl) (by rfl) (fun _ _ _ h => h) (by assumption) ?_)
                      simp only [Act.put, List.setIfInBounds_toArray, List.set_cons_zero, List.set_cons_succ]
                      refine held_one 28 (by kernel_rfl) rfl (fun K hK => ?_)
                      go_simp
                      go_at_call 26
                      refine (HV1.out _ (HS2.out.mono mFld hHeld.2.2.2.2.2.2.2.2.2.2.2.2.2.2.2.2.2.2.2.2.2) (HS3.out.mono mAtr hHeld.2.2.2.2.2.2.2.2.2.2.2.2.2.2.2.2.2.2.2.2.2)).mono ?_; rintro e wq1 ⟨rfl, hbq1⟩
                      go_wp2_with fail
                      refine hK.out _ _ (by (try dsimp only); exact ⟨keep_cell hbq1 hHeld.1, keep_cell hbq1 hHeld.2.1, keep_cell hbq1 hHeld.2.2.1, keep_cell hbq1 hHeld.2.2.2.1, keep_cell hbq1 hHeld.2.2.2.2.1, keep_cell hbq1 hHeld.2.2.2.2.2.1, keep_cell hbq1 hHeld.2.2.2.2.2.2.1, keep_cell hbq1 hHeld.2.2.2.2.2.2.2.1, keep_cell hbq1 hHeld.2.2.2.2.2.2.2.2.1, keep_cell hbq1 hHeld.2.2.2.2.2.2.2.2.2.1, keep_cell hbq1 hHeld.2.2.2.2.2.2.2.2.2.2.1, keep_cell hbq1 hHeld.2.2.2.2.2.2.2.2.2.2.2.1, keep_cell hbq1 hHeld.2.2.2.2.2.2.2.2.2.2.2.2.1, keep_cell hbq1 hHeld.2.2.2.2.2.2.2.2.2.2.2.2.2.1, keep_cell hbq1 hHeld.2.2.2.2.2.2.2.2.2.2.2.2.2.2.1, keep_cell hbq1 hHeld.2.2.2.2.2.2.2.2.2.2.2.2.2.2.2.1, keep_cell hbq1 hHeld.2.2.2.2.2.2.2.2.2.2.2.2.2.2.2.2.1, keep_cell hbq1 hHeld.2.2.2.2.2.2.2.2.2.2.2.2.2.2.2.2.2.1, keep_cell hbq1 hHeld.2.2.2.2.2.2.2.2.2.2.2.2.2.2.2.2.2.2.1, keep_cell hbq1 hHeld.2.2.2.2.2.2.2.2.2.2.2.2.2.2.2.2.2.2.2.1, keep_cell hbq1 hHeld.2.2.2.2.2.2.2.2.2.2.2.2.2.2.2.2.2.2.2.2.1, ex_trans hHeld.2.2.2.2.2.2.2.2.2.2.2.2.2.2.2.2.2.2.2.2.2 hbq1⟩) (fun hNew => ?_)
                      clear hK K hHeld
                      have hHeld := hNew
                      clear hNew
                      try simp only [Act.put, List.setIfInBounds_toArray, List.set_cons_zero, List.set_cons_succ]
                      refine held_one 31 (by kernel_rfl) rfl (fun K hK => ?_)
                      go_simp
                      go_at_call 27
                      refine (HV2.out _ (HS2.out.mono mFld hHeld.2.2.2.2.2.2.2.2.2.2.2.2.2.2.2.2.2.2.2.2.2) (HS3.out.mono mAtr hHeld.2.2.2.2.2.2.2.2.2.2.2.2.2.2.2.2.2.2.2.2.2)).mono ?_; rintro e wq2 ⟨rfl, hbq2⟩
                      go_wp2_with fail
                      refine hK.out _ _ (by (try dsimp only); exact ⟨keep_cell hbq2 hHeld.1, keep_cell hbq2 hHeld.2.1, keep_cell hbq2 hHeld.2.2.1, keep_cell hbq2 hHeld.2.2.2.1, keep_cell hbq2 hHeld.2.2.2.2.1, keep_cell hbq2 hHeld.2.2.2.2.2.1, keep_cell hbq2 hHeld.2.2.2.2.2.2.1, keep_cell hbq2 hHeld.2.2.2.2.2.2.2.1, keep_cell hbq2 hHeld.2.2.2.2.2.2.2.2.1, keep_cell hbq2 hHeld.2.2.2.2.2.2.2.2.2.1, keep_cell hbq2 hHeld.2.2.2.2.2.2.2.2.2.2.1, keep_cell hbq2 hHeld.2.2.2.2.2.2.2.2.2.2.2.1, keep_cell hbq2 hHeld.2.2.2.2.2.2.2.2.2.2.2.2.1, keep_cell hbq2 hHeld.2.2.2.2.2.2.2.2.2.2.2.2.2.1, keep_cell hbq2 hHeld.2.2.2.2.2.2.2.2.2.2.2.2.2.2.1, keep_cell hbq2 hHeld.2.2.2.2.2.2.2.2.2.2.2.2.2.2.2.1, keep_cell hbq2 hHeld.2.2.2.2.2.2.2.2.2.2.2.2.2.2.2.2.1, keep_cell hbq2 hHeld.2.2.2.2.2.2.2.2.2.2.2.2.2.2.2.2.2.1, keep_cell hbq2 hHeld.2.2.2.2.2.2.2.2.2.2.2.2.2.2.2.2.2.2.1, keep_cell hbq2 hHeld.2.2.2.2.2.2.2.2.2.2.2.2.2.2.2.2.2.2.2.1, keep_cell hbq2 hHeld.2.2.2.2.2.2.2.2.2.2.2.2.2.2.2.2.2.2.2.2.1, ex_trans hHeld.2.2.2.2.2.2.2.2.2.2.2.2.2.2.2.2.2.2.2.2.2 hbq2⟩) (fun hNew => ?_)
                      clear hK K hHeld
                      have hHeld := hNew
                      clear hNew
                      try simp only [Act.put, List.setIfInBounds_toArray, List.set_cons_zero, List.set_cons_succ]
                      first | (refine held_take 32 rfl (by kernel_rfl) (by kernel_rfl) (by kernel_rfl) (by rfl) (fun _ _ _ h => h) (by assumption) (by intro w hSw; (try dsimp only at hSw); go_simp; first | done | with_reducible rfl) ?_) | (refine held_skip 32 rfl (by kernel_rfl) (by kernel_rfl) (by kernel_rfl) (by rfl) (fun _ _ _ h => h) (by assumption) ?_)
                      simp only [Act.put, List.setIfInBounds_toArray, List.set_cons_zero, List.set_cons_succ]
                      first | (refine held_take 33 rfl (by kernel_rfl) (by kernel_rfl) (by kernel_rfl) (by rfl) (fun _ _ _ h => h) (by assumption) (by intro w hSw; (try dsimp only at hSw); go_simp; first | done | with_reducible rfl) ?_) | (refine held_skip 33 rfl (by kernel_rfl) (by kernel_rfl) (by kernel_rfl) (by rfl) (fun _ _ _ h => h) (by assumption) ?_)
                      simp only [Act.put, List.setIfInBounds_toArray, List.set_cons_zero, List.set_cons_succ]
                      first | (refine held_take 34 rfl (by kernel_rfl) (by kernel_rfl) (by kernel_rfl) (by rfl) (fun _ _ _ h => h) (by assumption) (by intro w hSw; (try dsimp only at hSw); go_simp; first | done | with_reducible rfl) ?_) | (refine held_skip 34 rfl (by kernel_rfl) (by kernel_rfl) (by kernel_rfl) (by rfl) (fun _ _ _ h => h) (by assumption) ?_)
                      simp only [Act.put, List.setIfInBounds_toArray, List.set_cons_zero, List.set_cons_succ]
                      refine wpAnyH_done (by kernel_rfl) ?_ _
                      have hB := ex_trans HB.out hHeld.2.2.2.2.2.2.2.2.2.2.2.2.2.2.2.2.2.2.2.2.2
                      clear hHeld
                      go_wp2_with fail
                      go_returns
                      exact ⟨rfl, hB⟩
                    · obtain ⟨rfl, rfl, rfl⟩ : xk = vk ∧ xi = vi ∧ xs = vs := by
                        rw [if_neg (by simpa using hv0)] at hxv
                        simpa using hxv
                      have hv1 : (xk == 0) = false := by simpa using hv0
                      have hv2 : (xk != 0) = true := by simpa using hv0
                      clear hxv
                      refine wp_region_held_drew (S := (fun w' => w'.cell? ⟨g3, 0, none⟩ = some (.int .i64 f.id) ∧ w'.cell? ⟨g3, 1, none⟩ = some (.int .i64 f.owner) ∧ w'.cell? ⟨g3, 2, none⟩ = some (.bool f.shared) ∧ w'.cell? ⟨g3, 3, none⟩ = some (.int .i64 f.link) ∧ w'.cell? ⟨g3, 4, none⟩ = some (.slice A1 n1 c1) ∧ w'.cell? ⟨g5, 0, none⟩ = some (.int .i64 xk) ∧ w'.cell? ⟨g5, 1, none⟩ = some (.int .i64 xi) ∧ w'.cell? ⟨g5, 2, none⟩ = some (.string xs) ∧ w'.cell? ⟨g6, 0, none⟩ = some (.int .i64 f.id) ∧ w'.cell? ⟨g6, 1, none⟩ = some (.int .i64 g.owner) ∧ w'.cell? ⟨g6, 2, none⟩ = some (.bool g.shared) ∧ w'.cell? ⟨g6, 3, none⟩ = some (.int .i64 g.link) ∧ w'.cell? ⟨g6, 4, none⟩ = some (.slice A6 n6 c6) ∧ w'.cell? ⟨g7, 0, none⟩ = some (.int .i64 xk) ∧ w'.cell? ⟨g7, 1, none⟩ = some (.int .i64 xi) ∧ w'.cell? ⟨g7, 2, none⟩ = some (.string xs) ∧ w'.cell? ⟨g11, 0, none⟩ = some (.int .i64 z.id) ∧ w'.cell? ⟨g11, 1, none⟩ = some (.int .i64 z.owner) ∧ w'.cell? ⟨g11, 2, none⟩ = some (.bool z.shared) ∧ w'.cell? ⟨g11, 3, none⟩ = some (.int .i64 z.link) ∧ w'.cell? ⟨g11, 4, none⟩ = some (.slice A3 n3 c3) ∧ Below W14.heap.size W14 w')) (by kernel_rfl) (by (try dsimp only); exact ⟨p0, p1, p2, p3, p4, q0, q1, q2, t0, t1, t2, t3, t4, x0, x1, x2, z0, z1, z2, z3, z4, (Below.refl _ _).drew⟩) (fun hHeld => ?_)
                      first | (refine held_take 0 rfl (by kernel_rfl) (by kernel_rfl) (by kernel_rfl) (by rfl) (fun _ _ _ h => h) (by assumption) (by intro w hSw; (try dsimp only at hSw); go_simp; first | done | with_reducible rfl) ?_) | (refine held_skip 0 rfl (by kernel_rfl) (by kernel_rfl) (by kernel_rfl) (by rfl) (fun _ _ _ h => h) (by assumption) ?_)
                      simp only [Act.put, List.setIfInBounds_toArray, List.set_cons_zero, List.set_cons_succ]
                      first | (refine held_take 1 rfl (by kernel_rfl) (by kernel_rfl) (by kernel_rfl) (by rfl) (fun _ _ _ h => h) (by assumption) (by intro w hSw; (try dsimp only at hSw); go_simp; first | done | with_reducible rfl) ?_) | (refine held_skip 1 rfl (by kernel_rfl) (by kernel_rfl) (by kernel_rfl) (by rfl) (fun _ _ _ h => h) (by assumption) ?_)
                      simp only [Act.put, List.setIfInBounds_toArray, List.set_cons_zero, List.set_cons_succ]
                      first | (refine held_take 2 rfl (by kernel_rfl) (by kernel_rfl) (by kernel_rfl) (by rfl) (fun _ _ _ h => h) (by assumption) (by intro w hSw; (try dsimp only at hSw); go_simp; first | done | with_reducible rfl) ?_) | (refine held_skip 2 rfl (by kernel_rfl) (by kernel_rfl) (by kernel_rfl) (by rfl) (fun _ _ _ h => h) (by assumption) ?_)
                      simp only [Act.put, List.setIfInBounds_toArray, List.set_cons_zero, List.set_cons_succ]
                      first | (refine held_take 3 rfl (by kernel_rfl) (by kernel_rfl) (by kernel_rfl) (by rfl) (fun _ _ _ h => h) (by assumption) (by intro w hSw; (try dsimp only at hSw); go_simp; first | done | with_reducible rfl) ?_) | (refine held_skip 3 rfl (by kernel_rfl) (by kernel_rfl) (by kernel_rfl) (by rfl) (fun _ _ _ h => h) (by assumption) ?_)
                      simp only [Act.put, List.setIfInBounds_toArray, List.set_cons_zero, List.set_cons_succ]
                      first | (refine held_take 4 rfl (by kernel_rfl) (by kernel_rfl) (by kernel_rfl) (by rfl) (fun _ _ _ h => h) (by assumption) (by intro w hSw; (try dsimp only at hSw); go_simp; first | done | with_reducible rfl) ?_) | (refine held_skip 4 rfl (by kernel_rfl) (by kernel_rfl) (by kernel_rfl) (by rfl) (fun _ _ _ h => h) (by assumption) ?_)
                      simp only [Act.put, List.setIfInBounds_toArray, List.set_cons_zero, List.set_cons_succ]
                      first | (refine held_take 5 rfl (by kernel_rfl) (by kernel_rfl) (by kernel_rfl) (by rfl) (fun _ _ _ h => h) (by assumption) (by intro w hSw; (try dsimp only at hSw); go_simp; first | done | with_reducible rfl) ?_) | (refine held_skip 5 rfl (by kernel_rfl) (by kernel_rfl) (by kernel_rfl) (by rfl) (fun _ _ _ h => h) (by assumption) ?_)
                      simp only [Act.put, List.setIfInBounds_toArray, List.set_cons_zero, List.set_cons_succ]
                      first | (refine held_take 6 rfl (by kernel_rfl) (by kernel_rfl) (by kernel_rfl) (by rfl) (fun _ _ _ h => h) (by assumption) (by intro w hSw; (try dsimp only at hSw); go_simp; first | done | with_reducible rfl) ?_) | (refine held_skip 6 rfl (by kernel_rfl) (by kernel_rfl) (by kernel_rfl) (by rfl) (fun _ _ _ h => h) (by assumption) ?_)
                      simp only [Act.put, List.setIfInBounds_toArray, List.set_cons_zero, List.set_cons_succ]
                      first | (refine held_take 7 rfl (by kernel_rfl) (by kernel_rfl) (by kernel_rfl) (by rfl) (fun _ _ _ h => h) (by assumption) (by intro w hSw; (try dsimp only at hSw); go_simp; first | done | with_reducible rfl) ?_) | (refine held_skip 7 rfl (by kernel_rfl) (by kernel_rfl) (by kernel_rfl) (by rfl) (fun _ _ _ h => h) (by assumption) ?_)
                      simp only [Act.put, List.setIfInBounds_toArray, List.set_cons_zero, List.set_cons_succ]
                      first | (refine held_take 8 rfl (by kernel_rfl) (by kernel_rfl) (by kernel_rfl) (by rfl) (fun _ _ _ h => h) (by assumption) (by intro w hSw; (try dsimp only at hSw); go_simp; first | done | with_reducible rfl) ?_) | (refine held_skip 8 rfl (by kernel_rfl) (by kernel_rfl) (by kernel_rfl) (by rfl) (fun _ _ _ h => h) (by assumption) ?_)
                      simp only [Act.put, List.setIfInBounds_toArray, List.set_cons_zero, List.set_cons_succ]
                      first | (refine held_take 9 rfl (by kernel_rfl) (by kernel_rfl) (by kernel_rfl) (by rfl) (fun _ _ _ h => h) (by assumption) (by intro w hSw; (try dsimp only at hSw); go_simp; first | done | with_reducible rfl) ?_) | (refine held_skip 9 rfl (by kernel_rfl) (by kernel_rfl) (by kernel_rfl) (by rfl) (fun _ _ _ h => h) (by assumption) ?_)
                      simp only [Act.put, List.setIfInBounds_toArray, List.set_cons_zero, List.set_cons_succ]
                      first | (refine held_take 10 rfl (by kernel_rfl) (by kernel_rfl) (by kernel_rfl) (by rfl) (fun _ _ _ h => h) (by assumption) (by intro w hSw; (try dsimp only at hSw); go_simp; first | done | with_reducible rfl) ?_) | (refine held_skip 10 rfl (by kernel_rfl) (by kernel_rfl) (by kernel_rfl) (by rfl) (fun _ _ _ h => h) (by assumption) ?_)
                      simp only [Act.put, List.setIfInBounds_toArray, List.set_cons_zero, List.set_cons_succ]
                      first | (refine held_take 11 rfl (by kernel_rfl) (by kernel_rfl) (by kernel_rfl) (by rfl) (fun _ _ _ h => h) (by assumption) (by intro w hSw; (try dsimp only at hSw); go_simp; first | done | with_reducible rfl) ?_) | (refine held_skip 11 rfl (by kernel_rfl) (by kernel_rfl) (by kernel_rfl) (by rfl) (fun _ _ _ h => h) (by assumption) ?_)
                      simp only [Act.put, List.setIfInBounds_toArray, List.set_cons_zero, List.set_cons_succ]
                      first | (refine held_take 12 rfl (by kernel_rfl) (by kernel_rfl) (by kernel_rfl) (by rfl) (fun _ _ _ h => h) (by assumption) (by intro w hSw; (try dsimp only at hSw); go_simp; first | done | with_reducible rfl) ?_) | (refine held_skip 12 rfl (by kernel_rfl) (by kernel_rfl) (by kernel_rfl) (by rfl) (fun _ _ _ h => h) (by assumption) ?_)
                      simp only [Act.put, List.setIfInBounds_toArray, List.set_cons_zero, List.set_cons_succ]
                      first | (refine held_take 13 rfl (by kernel_rfl) (by kernel_rfl) (by kernel_rfl) (by rfl) (fun _ _ _ h => h) (by assumption) (by intro w hSw; (try dsimp only at hSw); go_simp; first | done | with_reducible rfl) ?_) | (refine held_skip 13 rfl (by kernel_rfl) (by kernel_rfl) (by kernel_rfl) (by rfl) (fun _ _ _ h => h) (by assumption) ?_)
                      simp only [Act.put, List.setIfInBounds_toArray, List.set_cons_zero, List.set_cons_succ]
                      first | (refine held_take 14 rfl (by kernel_rfl) (by kernel_rfl) (by kernel_rfl) (by rfl) (fun _ _ _ h => h) (by assumption) (by intro w hSw; (try dsimp only at hSw); go_simp; first | done | with_reducible rfl) ?_) | (refine held_skip 14 rfl (by kernel_rfl) (by kernel_rfl) (by kernel_rfl) (by rfl) (fun _ _ _ h => h) (by assumption) ?_)
                      simp only [Act.put, List.setIfInBounds_toArray, List.set_cons_zero, List.set_cons_succ]
                      first | (refine held_take 15 rfl (by kernel_rfl) (by kernel_rfl) (by kernel_rfl) (by rfl) (fun _ _ _ h => h) (by assumption) (by intro w hSw; (try dsimp only at hSw); go_simp; first | done | with_reducible rfl) ?_) | (refine held_skip 15 rfl (by kernel_rfl) (by kernel_rfl) (by kernel_rfl) (by rfl) (fun _ _ _ h => h) (by assumption) ?_)
                      simp only [Act.put, List.setIfInBounds_toArray, List.set_cons_zero, List.set_cons_succ]
                      first | (refine held_take 16 rfl (by kernel_rfl) (by kernel_rfl) (by kernel_rfl) (by rfl) (fun _ _ _ h => h) (by assumption) (by intro w hSw; (try dsimp only at hSw); go_simp; first | done | with_reducible rfl) ?_) | (refine held_skip 16 rfl (by kernel_rfl) (by kernel_rfl) (by kernel_rfl) (by rfl) (fun _ _ _ h => h) (by assumption) ?_)
                      simp only [Act.put, List.setIfInBounds_toArray, List.set_cons_zero, List.set_cons_succ]
                      first | (refine held_take 17 rfl (by kernel_rfl) (by kernel_rfl) (by kernel_rfl) (by rfl) (fun _ _ _ h => h) (by assumption) (by intro w hSw; (try dsimp only at hSw); go_simp; first | done | with_reducible rfl) ?_) | (refine held_skip 17 rfl (by kernel_rfl) (by kernel_rfl) (by kernel_rfl) (by rfl) (fun _ _ _ h => h) (by assumption) ?_)
                      simp only [Act.put, List.setIfInBounds_toArray, List.set_cons_zero, List.set_cons_succ]
                      first | (refine held_take 18 rfl (by kernel_rfl) (by kernel_rfl) (by kernel_rfl) (by rfl) (fun _ _ _ h => h) (by assumption) (by intro w hSw; (try dsimp only at hSw); go_simp; first | done | with_reducible rfl) ?_) | (refine held_skip 18 rfl (by kernel_rfl) (by kernel_rfl) (by kernel_rfl) (by rfl) (fun _ _ _ h => h) (by assumption) ?_)
                      simp only [Act.put, List.setIfInBounds_toArray, List.set_cons_zero, List.set_cons_succ]
                      first | (refine held_take 19 rfl (by kernel_rfl) (by kernel_rfl) (by kernel_rfl) (by rfl) (fun _ _ _ h => h) (by assumption) (by intro w hSw; (try dsimp only at hSw); go_simp; first | done | with_reducible rfl) ?_) | (refine held_skip 19 rfl (by kernel_rfl) (by kernel_rfl) (by kernel_rfl) (by rfl) (fun _ _ _ h => h) (by assumption) ?_)
                      simp only [Act.put, List.setIfInBounds_toArray, List.set_cons_zero, List.set_cons_succ]
                      first | (refine held_take 20 rfl (by kernel_rfl) (by kernel_rfl) (by kernel_rfl) (by rfl) (fun _ _ _ h => h) (by assumption) (by intro w hSw; (try dsimp only at hSw); go_simp; first | done | with_reducible rfl) ?_) | (refine held_skip 20 rfl (by kernel_rfl) (by kernel_rfl) (by kernel_rfl) (by rfl) (fun _ _ _ h => h) (by assumption) ?_)
                      simp only [Act.put, List.setIfInBounds_toArray, List.set_cons_zero, List.set_cons_succ]
                      first | (refine held_take 21 rfl (by kernel_rfl) (by kernel_rfl) (by kernel_rfl) (by rfl) (fun _ _ _ h => h) (by assumption) (by intro w hSw; (try dsimp only at hSw); go_simp; first | done | with_reducible rfl) ?_) | (refine held_skip 21 rfl (by kernel_rfl) (by kernel_rfl) (by kernel_rfl) (by rfl) (fun _ _ _ h => h) (by assumption) ?_)
                      simp only [Act.put, List.setIfInBounds_toArray, List.set_cons_zero, List.set_cons_succ]
                      first | (refine held_take 22 rfl (by kernel_rfl) (by kernel_rfl) (by kernel_rfl) (by rfl) (fun _ _ _ h => h) (by assumption) (by intro w hSw; (try dsimp only at hSw); go_simp; first | done | with_reducible rfl) ?_) | (refine held_skip 22 rfl (by kernel_rfl) (by kernel_rfl) (by kernel_rfl) (by rfl) (fun _ _ _ h => h) (by assumption) ?_)
                      simp only [Act.put, List.setIfInBounds_toArray, List.set_cons_zero, List.set_cons_succ]
                      first | (refine held_take 23 rfl (by kernel_rfl) (by kernel_rfl) (by kernel_rfl) (by rfl) (fun _ _ _ h => h) (by assumption) (by intro w hSw; (try dsimp only at hSw); go_simp; first | done | with_reducible rfl) ?_) | (refine held_skip 23 rfl (by kernel_rfl) (by kernel_rfl) (by kernel_rfl) (by rfl) (fun _ _ _ h => h) (by assumption) ?_)
                      simp only [Act.put, List.setIfInBounds_toArray, List.set_cons_zero, List.set_cons_succ]
                      first | (refine held_take 24 rfl (by kernel_rfl) (by kernel_rfl) (by kernel_rfl) (by rfl) (fun _ _ _ h => h) (by assumption) (by intro w hSw; (try dsimp only at hSw); go_simp; first | done | with_reducible rfl) ?_) | (refine held_skip 24 rfl (by kernel_rfl) (by kernel_rfl) (by kernel_rfl) (by rfl) (fun _ _ _ h => h) (by assumption) ?_)
                      simp only [Act.put, List.setIfInBounds_toArray, List.set_cons_zero, List.set_cons_succ]
                      first | (refine held_take 25 rfl (by kernel_rfl) (by kernel_rfl) (by kernel_rfl) (by rfl) (fun _ _ _ h => h) (by assumption) (by intro w hSw; (try dsimp only at hSw); go_simp; first | done | with_reducible rfl) ?_) | (refine held_skip 25 rfl (by kernel_rfl) (by kernel_rfl) (by kernel_rfl) (by rfl) (fun _ _ _ h => h) (by assumption) ?_)
                      simp only [Act.put, List.setIfInBounds_toArray, List.set_cons_zero, List.set_cons_succ]
                      first | (refine held_take 26 rfl (by kernel_rfl) (by kernel_rfl) (by kernel_rfl) (by rfl) (fun _ _ _ h => h) (by assumption) (by intro w hSw; (try dsimp only at hSw); go_simp; first | done | with_reducible rfl) ?_) | (refine held_skip 26 rfl (by kernel_rfl) (by kernel_rfl) (by kernel_rfl) (by rfl) (fun _ _ _ h => h) (by assumption) ?_)
                      simp only [Act.put, List.setIfInBounds_toArray, List.set_cons_zero, List.set_cons_succ]
                      first | (refine held_take 27 rfl (by kernel_rfl) (by kernel_rfl) (by kernel_rfl) (by rfl) (fun _ _ _ h => h) (by assumption) (by intro w hSw; (try dsimp only at hSw); go_simp; first | done | with_reducible rfl) ?_) | (refine held_skip 27 rfl (by kernel_rfl) (by kernel_rfl) (by kernel_rfl) (by rfl) (fun _ _ _ h => h) (by assumption) ?_)
                      simp only [Act.put, List.setIfInBounds_toArray, List.set_cons_zero, List.set_cons_succ]
                      first | (refine held_take 29 rfl (by kernel_rfl) (by kernel_rfl) (by kernel_rfl) (by rfl) (fun _ _ _ h => h) (by assumption) (by intro w hSw; (try dsimp only at hSw); go_simp; first | done | with_reducible rfl) ?_) | (refine held_skip 29 rfl (by kernel_rfl) (by kernel_rfl) (by kernel_rfl) (by rfl) (fun _ _ _ h => h) (by assumption) ?_)
                      simp only [Act.put, List.setIfInBounds_toArray, List.set_cons_zero, List.set_cons_succ]
                      first | (refine held_take 30 rfl (by kernel_rfl) (by kernel_rfl) (by kernel_rfl) (by rfl) (fun _ _ _ h => h) (by assumption) (by intro w hSw; (try dsimp only at hSw); go_simp; first | done | with_reducible rfl) ?_) | (refine held_skip 30 rfl (by kernel_rfl) (by kernel_rfl) (by kernel_rfl) (by rfl) (fun _ _ _ h => h) (by assumption) ?_)
                      simp only [Act.put, List.setIfInBounds_toArray, List.set_cons_zero, List.set_cons_succ]
                      refine held_one 28 (by kernel_rfl) rfl (fun K hK => ?_)
                      go_simp
                      go_at_call 26
                      refine (HV1.out _ (HS2.out.mono mFld hHeld.2.2.2.2.2.2.2.2.2.2.2.2.2.2.2.2.2.2.2.2.2) (HS3.out.mono mAtr hHeld.2.2.2.2.2.2.2.2.2.2.2.2.2.2.2.2.2.2.2.2.2)).mono ?_; rintro e wq1 ⟨rfl, hbq1⟩
                      go_wp2_with fail
                      refine hK.out _ _ (by (try dsimp only); exact ⟨keep_cell hbq1 hHeld.1, keep_cell hbq1 hHeld.2.1, keep_cell hbq1 hHeld.2.2.1, keep_cell hbq1 hHeld.2.2.2.1, keep_cell hbq1 hHeld.2.2.2.2.1, keep_cell hbq1 hHeld.2.2.2.2.2.1, keep_cell hbq1 hHeld.2.2.2.2.2.2.1, keep_cell hbq1 hHeld.2.2.2.2.2.2.2.1, keep_cell hbq1 hHeld.2.2.2.2.2.2.2.2.1, keep_cell hbq1 hHeld.2.2.2.2.2.2.2.2.2.1, keep_cell hbq1 hHeld.2.2.2.2.2.2.2.2.2.2.1, keep_cell hbq1 hHeld.2.2.2.2.2.2.2.2.2.2.2.1, keep_cell hbq1 hHeld.2.2.2.2.2.2.2.2.2.2.2.2.1, keep_cell hbq1 hHeld.2.2.2.2.2.2.2.2.2.2.2.2.2.1, keep_cell hbq1 hHeld.2.2.2.2.2.2.2.2.2.2.2.2.2.2.1, keep_cell hbq1 hHeld.2.2.2.2.2.2.2.2.2.2.2.2.2.2.2.1, keep_cell hbq1 hHeld.2.2.2.2.2.2.2.2.2.2.2.2.2.2.2.2.1, keep_cell hbq1 hHeld.2.2.2.2.2.2.2.2.2.2.2.2.2.2.2.2.2.1, keep_cell hbq1 hHeld.2.2.2.2.2.2.2.2.2.2.2.2.2.2.2.2.2.2.1, keep_cell hbq1 hHeld.2.2.2.2.2.2.2.2.2.2.2.2.2.2.2.2.2.2.2.1, keep_cell hbq1 hHeld.2.2.2.2.2.2.2.2.2.2.2.2.2.2.2.2.2.2.2.2.1, ex_trans hHeld.2.2.2.2.2.2.2.2.2.2.2.2.2.2.2.2.2.2.2.2.2 hbq1⟩) (fun hNew => ?_)
                      clear hK K hHeld
                      have hHeld := hNew
                      clear hNew
                      try simp only [Act.put, List.setIfInBounds_toArray, List.set_cons_zero, List.set_cons_succ]
                      refine held_one 31 (by kernel_rfl) rfl (fun K hK => ?_)
                      go_simp
                      go_at_call 27
                      refine (HV2.out _ (HS2.out.mono mFld hHeld.2.2.2.2.2.2.2.2.2.2.2.2.2.2.2.2.2.2.2.2.2) (HS3.out.mono mAtr hHeld.2.2.2.2.2.2.2.2.2.2.2.2.2.2.2.2.2.2.2.2.2)).mono ?_; rintro e wq2 ⟨rfl, hbq2⟩
                      go_wp2_with fail
                      refine hK.out _ _ (by (try dsimp only); exact ⟨keep_cell hbq2 hHeld.1, keep_cell hbq2 hHeld.2.1, keep_cell hbq2 hHeld.2.2.1, keep_cell hbq2 hHeld.2.2.2.1, keep_cell hbq2 hHeld.2.2.2.2.1, keep_cell hbq2 hHeld.2.2.2.2.2.1, keep_cell hbq2 hHeld.2.2.2.2.2.2.1, keep_cell hbq2 hHeld.2.2.2.2.2.2.2.1, keep_cell hbq2 hHeld.2.2.2.2.2.2.2.2.1, keep_cell hbq2 hHeld.2.2.2.2.2.2.2.2.2.1, keep_cell hbq2 hHeld.2.2.2.2.2.2.2.2.2.2.1, keep_cell hbq2 hHeld.2.2.2.2.2.2.2.2.2.2.2.1, keep_cell hbq2 hHeld.2.2.2.2.2.2.2.2.2.2.2.2.1, keep_cell hbq2 hHeld.2.2.2.2.2.2.2.2.2.2.2.2.2.1, keep_cell hbq2 hHeld.2.2.2.2.2.2.2.2.2.2.2.2.2.2.1, keep_cell hbq2 hHeld.2.2.2.2.2.2.2.2.2.2.2.2.2.2.2.1, keep_cell hbq2 hHeld.2.2.2.2.2.2.2.2.2.2.2.2.2.2.2.2.1, keep_cell hbq2 hHeld.2.2.2.2.2.2.2.2.2.2.2.2.2.2.2.2.2.1, keep_cell hbq2 hHeld.2.2.2.2.2.2.2.2.2.2.2.2.2.2.2.2.2.2.1, keep_cell hbq2 hHeld.2.2.2.2.2.2.2.2.2.2.2.2.2.2.2.2.2.2.2.1, keep_cell hbq2 hHeld.2.2.2.2.2.2.2.2.2.2.2.2.2.2.2.2.2.2.2.2.1, ex_trans hHeld.2.2.2.2.2.2.2.2.2.2.2.2.2.2.2.2.2.2.2.2.2 hbq2⟩) (fun hNew => ?_)
                      clear hK K hHeld
                      have hHeld := hNew
                      clear hNew
                      try simp only [Act.put, List.setIfInBounds_toArray, List.set_cons_zero, List.set_cons_succ]
                      first | (refine held_take 32 rfl (by kernel_rfl) (by kernel_rfl) (by kernel_rfl) (by rfl) (fun _ _ _ h => h) (by assumption) (by intro w hSw; (try dsimp only at hSw); go_simp; first | done | with_reducible rfl) ?_) | (refine held_skip 32 rfl (by kernel_rfl) (by kernel_rfl) (by kernel_rfl) (by rfl) (fun _ _ _ h => h) (by assumption) ?_)
                      simp only [Act.put, List.setIfInBounds_toArray, List.set_cons_zero, List.set_cons_succ]
                      first | (refine held_take 33 rfl (by kernel_rfl) (by kernel_rfl) (by kernel_rfl) (by rfl) (fun _ _ _ h => h) (by assumption) (by intro w hSw; (try dsimp only at hSw); go_simp; first | done | with_reducible rfl) ?_) | (refine held_skip 33 rfl (by kernel_rfl) (by kernel_rfl) (by kernel_rfl) (by rfl) (fun _ _ _ h => h) (by assumption) ?_)
                      simp only [Act.put, List.setIfInBounds_toArray, List.set_cons_zero, List.set_cons_succ]
                      first | (refine held_take 34 rfl (by kernel_rfl) (by kernel_rfl) (by kernel_rfl) (by rfl) (fun _ _ _ h => h) (by assumption) (by intro w hSw; (try dsimp only at hSw); go_simp; first | done | with_reducible rfl) ?_) | (refine held_skip 34 rfl (by kernel_rfl) (by kernel_rfl) (by kernel_rfl) (by rfl) (fun _ _ _ h => h) (by assumption) ?_)
                      simp only [Act.put, List.setIfInBounds_toArray, List.set_cons_zero, List.set_cons_succ]
                      refine wpAnyH_done (by kernel_rfl) ?_ _
                      have hB := ex_trans HB.out hHeld.2.2.2.2.2.2.2.2.2.2.2.2.2.2.2.2.2.2.2.2.2
                      clear hHeld
                      go_wp2_with fail
                      go_returns
                      exact ⟨rfl, hB⟩
  · go_enter Try.func5, Try.ntmps5
    go_wp2_with fail
    refine (laws_big_t A0 n0 c0 _ (by omega)).mono ?_; rintro e w0 ⟨rfl, rfl⟩
    go_wp2_with fail
    go_returns
    exact ⟨rfl, Below.refl _ _⟩
theorem core_FnAttrSet {H : Type} (enc : TypeId × Value → H) (W : World) (base : Nat) (args : Array Value) (ds : List (DataW H)) (p : List MemPlace)
    (hA : DataW.TrodAll enc Try.prog W 0 (fun _ => true) true Try.f5.params.toList args.toList ds p)
    (hval : ∀ (j : Nat) t v, Try.f5.params[j]? = some t → args[j]? = some v → Value.okWide Try.prog W .any base t v) :
    Calls Try.prog 5 args W fun e W' => e = .returned (.bool true) ∧ Below W.heap.size W W' := by
  rw [Try.params5] at hA hval
  obtain ⟨u0, vs0, d0, ds0, p0, q0, hargs, rfl, rfl, h0, r0⟩ := trodAll_cons hA
  obtain ⟨rfl, rfl, rfl⟩ := trodAll_nil r0
  obtain rfl : args = #[u0] := by cases args; simp_all
  obtain ⟨ad0, ln0, cp0, rfl⟩ := okWide_slice Try.underlying22 (hval 0 22 u0 rfl rfl)
  obtain ⟨fu0, g0⟩ := h0
  obtain ⟨A0, n0, c0, l0, e0, hn0, _, hS0, hl0⟩ := opens_slice Try.underlying22 (by omega) Op_byt g0
  simp only [Value.cells, List.cons.injEq, Value.slice.injEq, and_true] at e0
  obtain ⟨rfl, rfl, rfl⟩ := e0
  exact walk_FnAttrSet W ad0 ln0 cp0 l0 hS0 hn0 hl0
set_option maxRecDepth 100000 in
theorem lifted_FnAttrSet (os : Os) (started : os.Started) (H : Type) (enc : TypeId × Value → H) :
    ReturnsInHanded {} Try.checked os 5 .any (Rows.fnAttrSetSpec.pre6 enc Try.prog Try.f5 Rows.fnAttrSetRow.domain false) (Rows.fnAttrSetSpec.post enc Try.prog Try.f5 false true false false) :=
  law_lifted (C := Try.checked) (tb := 4) (n := 1) own started (by kernel_rfl) Try.func5 rfl (by kernel_rfl) Try.underlying4 (by kernel_rfl)
    (fun ds h => by match ds, h with | [_], _ => rfl) laidOut' (by kernel_rfl)
    (ChangeSpec.witness6 (enc := enc) (C := Try.checked) false ⟨#[], #[.slice none 0 0], []⟩ 8 (by kernel_rfl) (by kernel_rfl) (by kernel_rfl) (by kernel_rfl))
    (fun W base args ds p hA hval => core_FnAttrSet enc W base args ds p hA hval)
theorem holds_FnAttrSet : Rows.FnAttrSetSaid :=
  OpenClaim.holds_of_wide 5 Try.f5 rfl rfl rfl rfl rfl rfl rfl ⟨rfl, rfl, rfl, rfl, rfl⟩ rfl rfl rfl rfl rfl (by kernel_rfl) Try.func5 (by kernel_rfl)
    (of_decide_eq_true (by kernel_rfl)) (by unfold Func.isWrapper; first | (rw [if_pos (by decide +kernel)]; kernel_rfl) | (rw [if_neg (by decide +kernel)]; exact ⟨rfl, rfl⟩))
    (fun os started H enc _ => lifted_FnAttrSet os started H enc)
end Go.Proofs.Ytjobgnioehkomaa
