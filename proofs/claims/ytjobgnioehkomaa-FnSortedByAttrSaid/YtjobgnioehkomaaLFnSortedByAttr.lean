/-
  FnSortedByAttr RETURNS true AND LEAVES ITS ARGUMENTS AS THEY WERE, FOR EVERY INPUT THAT THE STATEMENT SPEAKS OF. No condition.
-/
import Derived.WalkKit
import Derived.ProofKit
import Derived.OpenShut
import Derived.Handy
import Derived.Lib.Hide
import Derived.Deep.QuietTactic
import Derived.BigQuiet
import Derived.Deep.RegionHeld3
import Derived.Deep.DeepCutAuto
import Derived.Test.YtjobgnioehkomaaLib
import Derived.Test.YtjobgnioehkomaaOp
import Derived.Test.YtjobgnioehkomaaC1
import Derived.Test.YtjobgnioehkomaaC2
import Derived.Test.YtjobgnioehkomaaC4
import Derived.Test.YtjobgnioehkomaaOwn
import Derived.Test.YtjobgnioehkomaaRow
import Derived.Test.YtjobgnioehkomaaN0
import Derived.Test.YtjobgnioehkomaaHld
import Derived.Test.YtjobgnioehkomaaD1
import Derived.Test.YtjobgnioehkomaaD3
import Derived.Test.YtjobgnioehkomaaD4
import Derived.Test.YtjobgnioehkomaaD5
import Derived.Test.YtjobgnioehkomaaD7
import Derived.Test.YtjobgnioehkomaaD6
import Derived.Test.YtjobgnioehkomaaE4
import Derived.Test.YtjobgnioehkomaaH1
import Derived.Test.YtjobgnioehkomaaI1
import Derived.Test.YtjobgnioehkomaaI2
import Derived.Test.YtjobgnioehkomaaD8
import Derived.Test.YtjobgnioehkomaaSz
import Derived.Test.YtjobgnioehkomaaT1
import Derived.Test.YtjobgnioehkomaaT2
import Derived.Test.YtjobgnioehkomaaT3
import Derived.Test.YtjobgnioehkomaaT4
import Derived.Test.YtjobgnioehkomaaC3
import Derived.Test.YtjobgnioehkomaaC5
import Derived.Test.YtjobgnioehkomaaC8
import Derived.Test.YtjobgnioehkomaaHl2
import Derived.Test.YtjobgnioehkomaaY1
import Derived.Test.YtjobgnioehkomaaY2
import Derived.Test.YtjobgnioehkomaaY3
import Derived.Test.YtjobgnioehkomaaY9
import Derived.Test.YtjobgnioehkomaaZ1
import Derived.Test.YtjobgnioehkomaaZ3
import Derived.Test.YtjobgnioehkomaaZ4
import Derived.Test.YtjobgnioehkomaaE3
import Derived.Test.YtjobgnioehkomaaE5
import Derived.Test.YtjobgnioehkomaaE6
import Derived.Test.YtjobgnioehkomaaE7
import Derived.Test.YtjobgnioehkomaaE9
import Derived.Test.YtjobgnioehkomaaU0
import Derived.Test.YtjobgnioehkomaaU4
import Derived.Test.YtjobgnioehkomaaU5
import Derived.Test.YtjobgnioehkomaaPZ
import Derived.Test.YtjobgnioehkomaaPU
import Derived.Test.YtjobgnioehkomaaRows
namespace Go.Proofs.Ytjobgnioehkomaa
open Go.RowKit Go.ChangeShapes Go.WideShapes Go.ChangeAt Go.ChangeMaps
set_option linter.unusedVariables false
set_option maxRecDepth 100000
theorem NewRow.ints {w w' : World} {l : List Int} {q : Nat} {en : Ending} (hq : l.length = q) (h : NewRow id 3 1 eInt w l en w') : ∃ A c, en = .returned (.slice A q c) ∧ Sl 1 RInt w' A q l ∧ Below w.heap.size w w' := by
  subst hq
  obtain ⟨A, c, h1, h2, h3⟩ := h
  exact ⟨A, c, h1, h2.sl encInt (fun _ => rfl), h3⟩
theorem ints_self (A : Option Addr) (n c : Nat) (B : Option Addr) (d : Nat) (l : List Int) (w : World) (hn : n ≤ 1073741824) (hS : Sl 1 RInt w A n l) (hT : Sl 1 RInt w B n l) :
    Calls Try.prog 55 #[.slice A n c, .slice B n d] w fun e w' => e = .returned (.bool true) ∧ Below w.heap.size w w' := by
  have h := laws_sameInts A n c l B n d l w hS hT hn hn
  rw [(eqL_iff (f := eqI) (fun a b => by unfold eqI; exact beq_iff_eq)).2 rfl] at h
  exact h
theorem range_len (nm : ByteArray) (lo hi : Int) (fs : List Fil) (h : fs.length ≤ 12) : (rangeI nm lo hi fs).length ≤ 12 := by
  unfold rangeI
  rw [List.length_map]
  exact Nat.le_trans (List.length_filter_le _ _) (Nat.le_trans (sortF_len nm fs) h)
theorem laws_fileOf_mem (s : Sto) (A : Option Addr) (n c : Nat) (B : Option Addr) (m d : Nat) (f : Fil) (w : World) (hS : Sl 2 RFld w A n s.schema) (hT : Sl 5 RFil w B m s.files) (hok : s.ok 1073741824) (hv : validS s = true) (hf : f ∈ s.files) :
    Calls Try.prog 21 #[s.v A n c B m d, .int .i64 f.id] w fun e w' => ∃ A' c', e = .returned (.agg #[.int .i64 f.id, .int .i64 f.owner, .bool f.shared, .int .i64 f.link, .slice A' f.attrs.length c']) ∧ Sl 4 RAtr w' A' f.attrs.length f.attrs ∧ Below w.heap.size w w' := by
  have h := laws_fileOf s A n c B m d f.id w hS hT hok
  rw [findF_mem hv hf] at h
  exact h
set_option maxHeartbeats 8000000 in
theorem walk_FnSortedByAttr (W : World) (A0 : Option Addr) (n0 c0 : Nat) (l0 : List Int) (hS0 : Sl 1 RByt W A0 n0 l0) (hn0 : n0 ≤ maxLen) (hl0 : ∀ y ∈ l0, 0 ≤ y ∧ y ≤ 255) : Calls Try.prog 8 #[.slice A0 n0 c0] W fun e w' => e = .returned (.bool true) ∧ Below W.heap.size W w' := by
  by_cases hc : n0 ≤ 1048576
  · have HD := Lib.hid (spec_DrawSortedByAttr A0 n0 c0 l0 W hS0 hc hl0)
    have HD2 := Lib.hid fun w' (hb : Below W.heap.size W w') => spec_DrawRangeByAttr A0 n0 c0 l0 w' (hS0.mono mByt hb) hc hl0
    have HD3 := Lib.hid fun w' (hb : Below W.heap.size W w') => spec_DrawIntAttr A0 n0 c0 l0 w' (hS0.mono mByt hb) hc hl0
    clear hS0 hl0
    go_enter Try.func8, Try.ntmps8
    go_wp2_with fail
    refine (laws_big_f A0 n0 c0 _ hc).mono ?_; rintro e w0 ⟨rfl, rfl⟩
    have HB := Lib.hid (Below.refl W.heap.size W)
    go_upto_region 3 with fail
    go_cut [3, 4] from 27 to 31 (fun s3 s4 w' => ∃ (fs : List Fil) (nx : Int) (A : Option Addr) (c : Nat) (B : Option Addr) (m d : Nat) (nm : ByteArray) (g3 : Nat), s3 = .pointer (some ⟨g3, 0, none⟩) ∧ s4 = .string nm ∧ w'.cell? ⟨g3, 0, none⟩ = some (.slice A 4 c) ∧ w'.cell? ⟨g3, 1, none⟩ = some (.slice B m d) ∧ w'.cell? ⟨g3, 2, none⟩ = some (.int .i64 nx) ∧ Sl 2 RFld w' A 4 usualL ∧ Sl 5 RFil w' B m fs ∧ StoG fs m nx ∧ m ≤ 7 ∧ Below W.heap.size W w')
    case first =>
      go_wp2_with fail
      refine HD.out.mono ?_; rintro e w1 ⟨fs, nx, A, c, B, m, d, nm, rfl, hS1, hS2, hG, hm1, hm7, hx8, hnm, hb1⟩
      have HX := Lib.hid (And.intro hS1 (And.intro hS2 hb1))
      clear hS1 hS2 hb1 HD HD2 HD3
      go_wp2_with fail
      go_meet
      exact ⟨fs, nx, A, c, B, m, d, nm, w1.heap.size, rfl, rfl, by go_simp, by go_simp, by go_simp, HX.out.1.mono mFld (by go_grown), HX.out.2.1.mono mFil (by go_grown), hG, hm7, ex_trans HX.out.2.2 (by go_grown)⟩
    case rest =>
      generalize wc = W3 at *
      obtain ⟨fs, nx, A, c, B, m, d, nm, g3, rfl, rfl, p0, p1, p2, hS1, hS2, hG, hm7, hK⟩ := hcut
      replace HB := Lib.hid (ex_trans HB.out hK)
      clear hK
      have HS1 := Lib.hid hS1
      have HS2 := Lib.hid hS2
      have HG := Lib.hid hG
      have HV := Lib.hid (fun f (hf : f ∈ fs) => validF_int ((validS_iff.1 hG.2.1).1.1 f hf).1 nm)
      have hm12 : fs.length ≤ 12 := by have := hG.1; omega
      have HRA := Lib.hid (range_all nm fs HV.out)
      have HSU := Lib.hid (sum_sorted nm fs HV.out hm12)
      have HMB := Lib.hid (min_len nm fs)
      have HLEN := Lib.hid (Nat.le_trans (sortF_len nm fs) hm12)
      have HASC := Lib.hid (sortF_asc nm fs)
      have HMEM := Lib.hid (fun f (hf : f ∈ sortF nm fs) => (sortF_mem (nm := nm) (fs := fs)).1 hf)
      have HSI := Lib.hid fun w (h : Sl 5 RFil w B m fs) => impl_SortedByAttr ⟨usualL, fs, nx⟩ A 4 c B m d nm w h (by omega) HG.out.ok
      have HSS := Lib.hid fun w (h : Sl 5 RFil w B m fs) => spec_SortedByAttr ⟨usualL, fs, nx⟩ A 4 c B m d nm w h (by omega) HG.out.ok
      have HRI := Lib.hid fun w (h : Sl 5 RFil w B m fs) => impl_RangeByAttr ⟨usualL, fs, nx⟩ A 4 c B m d nm 0 999 w h (by omega) HG.out.ok
      have HMI := Lib.hid fun w (h : Sl 5 RFil w B m fs) => impl_MinByAttr ⟨usualL, fs, nx⟩ A 4 c B m d nm w h (by omega) HG.out.ok
      have HMS := Lib.hid fun w (h : Sl 5 RFil w B m fs) => spec_MinByAttr ⟨usualL, fs, nx⟩ A 4 c B m d nm w h (by omega) HG.out.ok
      have HUI := Lib.hid fun w (h1 : Sl 2 RFld w A 4 usualL) (h : Sl 5 RFil w B m fs) => impl_SumAttr ⟨usualL, fs, nx⟩ A 4 c B m d nm w h1 h (by omega) HG.out.ok
      have HUS := Lib.hid fun w (h1 : Sl 2 RFld w A 4 usualL) (h : Sl 5 RFil w B m fs) => spec_SumAttr ⟨usualL, fs, nx⟩ A 4 c B m d nm w h1 h (by omega) HG.out.ok
      have HFO := Lib.hid fun (f : Fil) (hf : f ∈ fs) w (h1 : Sl 2 RFld w A 4 usualL) (h : Sl 5 RFil w B m fs) => laws_fileOf_mem ⟨usualL, fs, nx⟩ A 4 c B m d f w h1 h HG.out.ok HG.out.2.1 hf
      simp only [HRA.out] at HRI
      generalize sumI nm fs = S at *
      generalize minV nm fs = mv at *
      generalize minB nm fs = mb at *
      have HLF := Lib.hid (show sortedI nm fs = (sortF nm fs).map (·.id) from rfl)
      generalize sortedI nm fs = L at *
      generalize sortF nm fs = F at *
      obtain ⟨q, hq⟩ : ∃ q, q = L.length := ⟨_, rfl⟩
      have HQ := Lib.hid hq.symm
      have HQF := Lib.hid (show F.length = q by rw [hq, HLF.out, List.length_map])
      have hq0 : 0 ≤ q := Nat.zero_le _
      have HMQ := Lib.hid (show q ≤ 12 by have h9 := HQF.out; exact Nat.le_trans (Nat.le_of_eq h9.symm) HLEN.out)
      clear hS1 hS2 hG hq HRA hm12
      go_upto_region 4 with fail
      go_cut [5] from 32 to 34 (fun s5 w' => ∃ (A5 : Option Addr) (c5 : Nat), s5 = .slice A5 q c5 ∧ Sl 1 RInt w' A5 q L ∧ Below W3.heap.size W3 w')
      case first =>
        go_wp2_with fail
        refine (HSI.out _ HS2.out).mono (fun e w1 h => ?_)
        obtain ⟨A5, c5, rfl, hr, hb1⟩ := NewRow.ints HQ.out h
        have HX := Lib.hid (And.intro hr hb1)
        clear hr hb1 h
        go_wp2_with fail
        go_meet
        exact ⟨A5, c5, rfl, HX.out.1, HX.out.2⟩
      case rest =>
        generalize wc = W4 at *
        obtain ⟨A5, c5, rfl, hS5, hK⟩ := hcut
        replace HB := Lib.hid (ex_trans HB.out hK)
        replace p0 := keep_cell hK p0
        replace p1 := keep_cell hK p1
        replace p2 := keep_cell hK p2
        replace HS1 := Lib.hid (HS1.out.mono mFld hK)
        replace HS2 := Lib.hid (HS2.out.mono mFil hK)
        clear hK
        have HS5 := Lib.hid hS5
        clear hS5 HSI
        go_upto_region 5 with fail
        go_cut [6, 7, 8, 9] from 35 to 41 (fun s6 s7 s8 s9 w' => ∃ (fs2 : List Fil) (nx2 : Int) (A2 : Option Addr) (c2 : Nat) (B2 : Option Addr) (m2 d2 : Nat) (nm2 : ByteArray) (lo hi : Int) (g6 : Nat), s6 = .pointer (some ⟨g6, 0, none⟩) ∧ s7 = .string nm2 ∧ s8 = .int .i64 lo ∧ s9 = .int .i64 hi ∧ w'.cell? ⟨g6, 0, none⟩ = some (.slice A2 4 c2) ∧ w'.cell? ⟨g6, 1, none⟩ = some (.slice B2 m2 d2) ∧ w'.cell? ⟨g6, 2, none⟩ = some (.int .i64 nx2) ∧ Sl 5 RFil w' B2 m2 fs2 ∧ StoG fs2 m2 nx2 ∧ m2 ≤ 7 ∧ Below W4.heap.size W4 w')
        case first =>
          go_wp2_with fail
          refine (HD2.out _ HB.out).mono ?_; rintro e w1 ⟨fs2, nx2, A2, c2, B2, m2, d2, nm2, lo, hi, rfl, hT1, hT2, hG2, hm1, hm72, hx8, hnm, hb1⟩
          have HX := Lib.hid (And.intro hT2 hb1)
          clear hT1 hT2 hb1 HD2 HD3 p0 p1 p2 hm1 hx8 hnm
          go_wp2_with fail
          go_meet
          exact ⟨fs2, nx2, A2, c2, B2, m2, d2, nm2, lo, hi, w1.heap.size, rfl, rfl, rfl, rfl, by go_simp, by go_simp, by go_simp, HX.out.1.mono mFil (by go_grown), hG2, hm72, ex_trans HX.out.2 (by go_grown)⟩
        case rest =>
          generalize wc = W5 at *
          obtain ⟨fs2, nx2, A2, c2, B2, m2, d2, nm2, lo, hi, g6, rfl, rfl, rfl, rfl, t0, t1, t2, hT2, hG2, hm72, hK⟩ := hcut
          replace HB := Lib.hid (ex_trans HB.out hK)
          replace p0 := keep_cell hK p0
          replace p1 := keep_cell hK p1
          replace p2 := keep_cell hK p2
          replace HS1 := Lib.hid (HS1.out.mono mFld hK)
          replace HS2 := Lib.hid (HS2.out.mono mFil hK)
          replace HS5 := Lib.hid (HS5.out.mono mInt hK)
          clear hK
          have HT2 := Lib.hid hT2
          have HG2 := Lib.hid hG2
          have HRI2 := Lib.hid fun w (h : Sl 5 RFil w B2 m2 fs2) => impl_RangeByAttr ⟨usualL, fs2, nx2⟩ A2 4 c2 B2 m2 d2 nm2 lo hi w h (by omega) HG2.out.ok
          have HRS2 := Lib.hid fun w (h : Sl 5 RFil w B2 m2 fs2) => spec_RangeByAttr ⟨usualL, fs2, nx2⟩ A2 4 c2 B2 m2 d2 nm2 lo hi w h (by omega) HG2.out.ok
          have HLR := Lib.hid (range_len nm2 lo hi fs2 (by have := hG2.1; omega))
          simp only at HRI2 HRS2
          generalize rangeI nm2 lo hi fs2 = R at *
          obtain ⟨q2, hq2⟩ : ∃ q2, q2 = R.length := ⟨_, rfl⟩
          have HQ2 := Lib.hid hq2.symm
          have hq27 : q2 ≤ 12 := by have := HLR.out; omega
          clear hT2 hG2 hq2 HLR
          go_upto_region 6 with fail
          go_cut [10, 11] from 42 to 47 (fun sa sb w' => sa = .int .i64 mv ∧ sb = .bool mb ∧ Below W5.heap.size W5 w')
          case first =>
            go_wp2_with fail
            refine (HMI.out _ HS2.out).mono ?_; rintro e w1 ⟨rfl, hb1⟩
            have HX := Lib.hid hb1
            clear hb1
            go_wp2_with fail
            go_meet
            exact ⟨rfl, rfl, HX.out⟩
          case rest =>
            generalize wc = W6 at *
            obtain ⟨rfl, rfl, hK⟩ := hcut
            replace HB := Lib.hid (ex_trans HB.out hK)
            replace p0 := keep_cell hK p0
            replace p1 := keep_cell hK p1
            replace p2 := keep_cell hK p2
            replace t0 := keep_cell hK t0
            replace t1 := keep_cell hK t1
            replace t2 := keep_cell hK t2
            replace HS1 := Lib.hid (HS1.out.mono mFld hK)
            replace HS2 := Lib.hid (HS2.out.mono mFil hK)
            replace HS5 := Lib.hid (HS5.out.mono mInt hK)
            replace HT2 := Lib.hid (HT2.out.mono mFil hK)
            clear hK
            go_upto_region 7 with fail
            go_cut [12, 13] from 48 to 53 (fun sa sb w' => sa = .int .i64 mv ∧ sb = .bool mb ∧ Below W6.heap.size W6 w')
            case first =>
              go_wp2_with fail
              refine (HMS.out _ HS2.out).mono ?_; rintro e w1 ⟨rfl, hb1⟩
              have HX := Lib.hid hb1
              clear hb1
              go_wp2_with fail
              go_meet
              exact ⟨rfl, rfl, HX.out⟩
            case rest =>
              generalize wc = W7 at *
              obtain ⟨rfl, rfl, hK⟩ := hcut
              replace HB := Lib.hid (ex_trans HB.out hK)
              replace p0 := keep_cell hK p0
              replace p1 := keep_cell hK p1
              replace p2 := keep_cell hK p2
              replace t0 := keep_cell hK t0
              replace t1 := keep_cell hK t1
              replace t2 := keep_cell hK t2
              replace HS1 := Lib.hid (HS1.out.mono mFld hK)
              replace HS2 := Lib.hid (HS2.out.mono mFil hK)
              replace HS5 := Lib.hid (HS5.out.mono mInt hK)
              replace HT2 := Lib.hid (HT2.out.mono mFil hK)
              clear hK
              go_upto_region 8 with fail
              go_cut [14, 15] from 54 to 58 (fun s14 s15 w' => ∃ (f : Fil) (A8 : Option Addr) (n8 c8 : Nat) (nm3 : ByteArray) (g14 : Nat), s14 = .pointer (some ⟨g14, 0, none⟩) ∧ s15 = .string nm3 ∧ w'.cell? ⟨g14, 0, none⟩ = some (.int .i64 f.id) ∧ w'.cell? ⟨g14, 1, none⟩ = some (.int .i64 f.owner) ∧ w'.cell? ⟨g14, 2, none⟩ = some (.bool f.shared) ∧ w'.cell? ⟨g14, 3, none⟩ = some (.int .i64 f.link) ∧ w'.cell? ⟨g14, 4, none⟩ = some (.slice A8 n8 c8) ∧ Sl 4 RAtr w' A8 n8 f.attrs ∧ n8 ≤ 5 ∧ Below W7.heap.size W7 w')
              case first =>
                go_wp2_with fail
                refine (HD3.out _ HB.out).mono ?_; rintro e w1 ⟨f, A8, n8, c8, nm3, rfl, hU, hn8, hsm, hnm, hb1⟩
                have HX := Lib.hid (And.intro hU hb1)
                clear hU hb1 HD3 p0 p1 p2 t0 t1 t2 hsm hnm
                go_wp2_with fail
                go_meet
                exact ⟨f, A8, n8, c8, nm3, w1.heap.size, rfl, rfl, by go_simp, by go_simp, by go_simp, by go_simp, by go_simp, HX.out.1.mono mAtr (by go_grown), hn8, ex_trans HX.out.2 (by go_grown)⟩
              case rest =>
                generalize wc = W8 at *
                obtain ⟨f, A8, n8, c8, nm3, g14, rfl, rfl, f0, f1, f2, f3, f4, hU, hn8, hK⟩ := hcut
                replace HB := Lib.hid (ex_trans HB.out hK)
                replace p0 := keep_cell hK p0
                replace p1 := keep_cell hK p1
                replace p2 := keep_cell hK p2
                replace t0 := keep_cell hK t0
                replace t1 := keep_cell hK t1
                replace t2 := keep_cell hK t2
                replace HS1 := Lib.hid (HS1.out.mono mFld hK)
                replace HS2 := Lib.hid (HS2.out.mono mFil hK)
                replace HS5 := Lib.hid (HS5.out.mono mInt hK)
                replace HT2 := Lib.hid (HT2.out.mono mFil hK)
                clear hK
                have HU := Lib.hid hU
                have HII := Lib.hid fun w (h : Sl 4 RAtr w A8 n8 f.attrs) => impl_IntAttr f A8 n8 c8 nm3 w h (by omega)
                have HIS := Lib.hid fun w (h : Sl 4 RAtr w A8 n8 f.attrs) => spec_IntAttr f A8 n8 c8 nm3 w h (by omega)
                generalize intA f.attrs nm3 = kv at *
                generalize hasI f.attrs nm3 = kb at *
                clear hU
                go_upto_region 9 with fail
                go_cut [16, 17] from 59 to 64 (fun sa sb w' => sa = .int .i64 kv ∧ sb = .bool kb ∧ Below W8.heap.size W8 w')
                case first =>
                  go_wp2_with fail
                  refine (HII.out _ HU.out).mono ?_; rintro e w1 ⟨rfl, hb1⟩
                  have HX := Lib.hid hb1
                  clear hb1
                  go_wp2_with fail
                  go_meet
                  exact ⟨rfl, rfl, HX.out⟩
                case rest =>
                  generalize wc = W9 at *
                  obtain ⟨rfl, rfl, hK⟩ := hcut
                  replace HB := Lib.hid (ex_trans HB.out hK)
                  replace p0 := keep_cell hK p0
                  replace p1 := keep_cell hK p1
                  replace p2 := keep_cell hK p2
                  replace t0 := keep_cell hK t0
                  replace t1 := keep_cell hK t1
                  replace t2 := keep_cell hK t2
                  replace f0 := keep_cell hK f0
                  replace f1 := keep_cell hK f1
                  replace f2 := keep_cell hK f2
                  replace f3 := keep_cell hK f3
                  replace f4 := keep_cell hK f4
                  replace HS1 := Lib.hid (HS1.out.mono mFld hK)
                  replace HS2 := Lib.hid (HS2.out.mono mFil hK)
                  replace HS5 := Lib.hid (HS5.out.mono mInt hK)
                  replace HT2 := Lib.hid (HT2.out.mono mFil hK)
                  replace HU := Lib.hid (HU.out.mono mAtr hK)
                  clear hK
                  go_upto_region 10 with fail
                  go_cut [18, 19] from 65 to 70 (fun sa sb w' => sa = .int .i64 kv ∧ sb = .bool kb ∧ Below W9.heap.size W9 w')
                  case first =>
                    go_wp2_with fail
                    refine (HIS.out _ HU.out).mono ?_; rintro e w1 ⟨rfl, hb1⟩
                    have HX := Lib.hid hb1
                    clear hb1
                    go_wp2_with fail
                    go_meet
                    exact ⟨rfl, rfl, HX.out⟩
                  case rest =>
                    generalize wc = W10 at *
                    obtain ⟨rfl, rfl, hK⟩ := hcut
                    replace HB := Lib.hid (ex_trans HB.out hK)
                    replace p0 := keep_cell hK p0
                    replace p1 := keep_cell hK p1
                    replace p2 := keep_cell hK p2
                    replace t0 := keep_cell hK t0
                    replace t1 := keep_cell hK t1
                    replace t2 := keep_cell hK t2
                    replace f0 := keep_cell hK f0
                    replace f1 := keep_cell hK f1
                    replace f2 := keep_cell hK f2
                    replace f3 := keep_cell hK f3
                    replace f4 := keep_cell hK f4
                    replace HS1 := Lib.hid (HS1.out.mono mFld hK)
                    replace HS2 := Lib.hid (HS2.out.mono mFil hK)
                    replace HS5 := Lib.hid (HS5.out.mono mInt hK)
                    replace HT2 := Lib.hid (HT2.out.mono mFil hK)
                    replace HU := Lib.hid (HU.out.mono mAtr hK)
                    clear hK
                    clear f0 f1 f2 f3 f4 HU HII HIS
                    go_upto_region 11 with fail
                    go_cut [119] from 71 to 119 (fun s119 w' => s119 = .bool false ∧ Below W10.heap.size W10 w')
                    case first =>
                      have e1 : (mv != mv) = false := bne_self_eq_false _
                      have e2 : (mb != mb) = false := bne_self_eq_false _
                      have e3 : (kv != kv) = false := bne_self_eq_false _
                      have e4 : (kb != kb) = false := bne_self_eq_false _
                      have e5 : (S != S) = false := bne_self_eq_false _
                      refine wp_region_held_drew (S := (fun w' => w'.cell? ⟨g3, 0, none⟩ = some (.slice A 4 c) ∧ w'.cell? ⟨g3, 1, none⟩ = some (.slice B m d) ∧ w'.cell? ⟨g3, 2, none⟩ = some (.int .i64 nx) ∧ w'.cell? ⟨g6, 0, none⟩ = some (.slice A2 4 c2) ∧ w'.cell? ⟨g6, 1, none⟩ = some (.slice B2 m2 d2) ∧ w'.cell? ⟨g6, 2, none⟩ = some (.int .i64 nx2) ∧ Below W10.heap.size W10 w')) (by kernel_rfl) (by (try dsimp only); exact ⟨p0, p1, p2, t0, t1, t2, (Below.refl _ _).drew⟩) (fun hHeld => ?_)
                      first | (refine held_take 0 rfl (by kernel_rfl) (by kernel_rfl) (by kernel_rfl) (by rfl) (fun _ _ _ h => h) (by assumption) (by intro w hSw; (try dsimp only at hSw); go_simp; first | done | with_reducible rfl) ?_) | (refine held_skip 0 rfl (by kernel_rfl) (by kernel_rfl) (by kernel_rfl) (by rfl) (fun _ _ _ h => h) (by assumption) ?_)
                      simp only [Act.put, List.setIfInBounds_toArray, List.set_cons_zero, List.set_cons_succ]
                      first | (refine held_take 1 rfl (by kernel_rfl) (by kernel_rfl) (by kernel_rfl) (by rfl) (fun _ _ _ h => h) (by assumption) (by intro w hSw; (try dsimp only at hSw); go_simp; first | done | with_reducible rfl) ?_) | (refine held_skip 1 rfl (by kernel_rfl) (by kernel_rfl) (by kernel_rfl) (by rfl) (fun _ _ _ h => h) (by assumption) ?_)
                      simp only [Act.put, List.setIfInBounds_toArray, List.set_cons_zero, List.set_cons_succ]
                      first | (refine held_take 2 rfl (by kernel_rfl) (by kernel_rfl) (by kernel_rfl) (by rfl) (fun _ _ _ h => h) (by assumption) (by intro w hSw; (try dsimp only at hSw); go_simp; first | done | with_reducible rfl) ?_) | (refine held_skip 2 rfl (by kernel_rfl) (by kernel_rfl) (by kernel_rfl) (by rfl) (fun _ _ _ h => h) (by assumption) ?_)
                      simp only [Act.put, List.setIfInBounds_toArray, List.set_cons_zero, List.set_cons_succ]
                      refine held_one 3 (by kernel_rfl) rfl (fun K hK => ?_)
                      go_simp
                      go_at_call 56
                      refine (HSS.out _ (HS2.out.mono mFil hHeld.2.2.2.2.2.2)).mono (fun e wq1 h => ?_)
                      obtain ⟨R1, d1, rfl, hr1, hbq1⟩ := NewRow.ints HQ.out h
                      clear h
                      have HR1 := Lib.hid hr1
                      clear hr1
                      go_wp2_with fail
                      refine hK.out _ _ (by (try dsimp only); exact ⟨keep_cell hbq1 hHeld.1, keep_cell hbq1 hHeld.2.1, keep_cell hbq1 hHeld.2.2.1, keep_cell hbq1 hHeld.2.2.2.1, keep_cell hbq1 hHeld.2.2.2.2.1, keep_cell hbq1 hHeld.2.2.2.2.2.1, ex_trans hHeld.2.2.2.2.2.2 hbq1⟩) (fun hNew => ?_)
                      clear hK K hHeld
                      have hHeld := hNew
                      clear hNew
                      try simp only [Act.put, List.setIfInBounds_toArray, List.set_cons_zero, List.set_cons_succ]
                      refine held_one 4 (by kernel_rfl) rfl (fun K hK => ?_)
                      go_simp
                      go_at_call 55
                      refine (ints_self A5 q c5 R1 d1 L _ (by have := HMQ.out; omega) (HS5.out.mono mInt hHeld.2.2.2.2.2.2) HR1.out).mono ?_; rintro e wq2 ⟨rfl, hbq2⟩
                      go_wp2_with fail
                      refine hK.out _ _ (by (try dsimp only); exact ⟨keep_cell hbq2 hHeld.1, keep_cell hbq2 hHeld.2.1, keep_cell hbq2 hHeld.2.2.1, keep_cell hbq2 hHeld.2.2.2.1, keep_cell hbq2 hHeld.2.2.2.2.1, keep_cell hbq2 hHeld.2.2.2.2.2.1, ex_trans hHeld.2.2.2.2.2.2 hbq2⟩) (fun hNew => ?_)
                      clear hK K hHeld
                      have hHeld := hNew
                      clear hNew
                      try simp only [Act.put, List.setIfInBounds_toArray, List.set_cons_zero, List.set_cons_succ]
                      first | (refine held_take 5 rfl (by kernel_rfl) (by kernel_rfl) (by kernel_rfl) (by rfl) (fun _ _ _ h => h) (by assumption) (by intro w hSw; (try dsimp only at hSw); go_simp; first | done | with_reducible rfl) ?_) | (refine held_skip 5 rfl (by kernel_rfl) (by kernel_rfl) (by kernel_rfl) (by rfl) (fun _ _ _ h => h) (by assumption) ?_)
                      simp only [Act.put, List.setIfInBounds_toArray, List.set_cons_zero, List.set_cons_succ]
                      first | (refine held_take 6 rfl (by kernel_rfl) (by kernel_rfl) (by kernel_rfl) (by rfl) (fun _ _ _ h => h) (by assumption) (by intro w hSw; (try dsimp only at hSw); go_simp; first | done | with_reducible rfl) ?_) | (refine held_skip 6 rfl (by kernel_rfl) (by kernel_rfl) (by kernel_rfl) (by rfl) (fun _ _ _ h => h) (by assumption) ?_)
                      simp only [Act.put, List.setIfInBounds_toArray, List.set_cons_zero, List.set_cons_succ]
                      first | (refine held_take 7 rfl (by kernel_rfl) (by kernel_rfl) (by kernel_rfl) (by rfl) (fun _ _ _ h => h) (by assumption) (by intro w hSw; (try dsimp only at hSw); go_simp; first | done | with_reducible rfl) ?_) | (refine held_skip 7 rfl (by kernel_rfl) (by kernel_rfl) (by kernel_rfl) (by rfl) (fun _ _ _ h => h) (by assumption) ?_)
                      simp only [Act.put, List.setIfInBounds_toArray, List.set_cons_zero, List.set_cons_succ]
                      first | (refine held_take 8 rfl (by kernel_rfl) (by kernel_rfl) (by kernel_rfl) (by rfl) (fun _ _ _ h => h) (by assumption) (by intro w hSw; (try dsimp only at hSw); go_simp; first | done | with_reducible rfl) ?_) | (refine held_skip 8 rfl (by kernel_rfl) (by kernel_rfl) (by kernel_rfl) (by rfl) (fun _ _ _ h => h) (by assumption) ?_)
                      simp only [Act.put, List.setIfInBounds_toArray, List.set_cons_zero, List.set_cons_succ]
                      first | (refine held_take 9 rfl (by kernel_rfl) (by kernel_rfl) (by kernel_rfl) (by rfl) (fun _ _ _ h => h) (by assumption) (by intro w hSw; (try dsimp only at hSw); go_simp; first | done | with_reducible rfl) ?_) | (refine held_skip 9 rfl (by kernel_rfl) (by kernel_rfl) (by kernel_rfl) (by rfl) (fun _ _ _ h => h) (by assumption) ?_)
                      simp only [Act.put, List.setIfInBounds_toArray, List.set_cons_zero, List.set_cons_succ]
                      first | (refine held_take 10 rfl (by kernel_rfl) (by kernel_rfl) (by kernel_rfl) (by rfl) (fun _ _ _ h => h) (by assumption) (by intro w hSw; (try dsimp only at hSw); go_simp; first | done | with_reducible rfl) ?_) | (refine held_skip 10 rfl (by kernel_rfl) (by kernel_rfl) (by kernel_rfl) (by rfl) (fun _ _ _ h => h) (by assumption) ?_)
                      simp only [Act.put, List.setIfInBounds_toArray, List.set_cons_zero, List.set_cons_succ]
                      first | (refine held_take 12 rfl (by kernel_rfl) (by kernel_rfl) (by kernel_rfl) (by rfl) (fun _ _ _ h => h) (by assumption) (by intro w hSw; (try dsimp only at hSw); go_simp; first | done | with_reducible rfl) ?_) | (refine held_skip 12 rfl (by kernel_rfl) (by kernel_rfl) (by kernel_rfl) (by rfl) (fun _ _ _ h => h) (by assumption) ?_)
                      simp only [Act.put, List.setIfInBounds_toArray, List.set_cons_zero, List.set_cons_succ]
                      first | (refine held_take 13 rfl (by kernel_rfl) (by kernel_rfl) (by kernel_rfl) (by rfl) (fun _ _ _ h => h) (by assumption) (by intro w hSw; (try dsimp only at hSw); go_simp; first | done | with_reducible rfl) ?_) | (refine held_skip 13 rfl (by kernel_rfl) (by kernel_rfl) (by kernel_rfl) (by rfl) (fun _ _ _ h => h) (by assumption) ?_)
                      simp only [Act.put, List.setIfInBounds_toArray, List.set_cons_zero, List.set_cons_succ]
                      first | (refine held_take 14 rfl (by kernel_rfl) (by kernel_rfl) (by kernel_rfl) (by rfl) (fun _ _ _ h => h) (by assumption) (by intro w hSw; (try dsimp only at hSw); go_simp; first | done | with_reducible rfl) ?_) | (refine held_skip 14 rfl (by kernel_rfl) (by kernel_rfl) (by kernel_rfl) (by rfl) (fun _ _ _ h => h) (by assumption) ?_)
                      simp only [Act.put, List.setIfInBounds_toArray, List.set_cons_zero, List.set_cons_succ]
                      first | (refine held_take 15 rfl (by kernel_rfl) (by kernel_rfl) (by kernel_rfl) (by rfl) (fun _ _ _ h => h) (by assumption) (by intro w hSw; (try dsimp only at hSw); go_simp; first | done | with_reducible rfl) ?_) | (refine held_skip 15 rfl (by kernel_rfl) (by kernel_rfl) (by kernel_rfl) (by rfl) (fun _ _ _ h => h) (by assumption) ?_)
                      simp only [Act.put, List.setIfInBounds_toArray, List.set_cons_zero, List.set_cons_succ]
                      refine held_one 11 (by kernel_rfl) rfl (fun K hK => ?_)
                      go_simp
                      go_at_call 57
                      refine (HRI2.out _ (HT2.out.mono mFil hHeld.2.2.2.2.2.2)).mono (fun e wq3 h => ?_)
                      obtain ⟨R3, d3, rfl, hr3, hbq3⟩ := NewRow.ints HQ2.out h
                      clear h
                      have HR3 := Lib.hid hr3
                      clear hr3
                      go_wp2_with fail
                      refine hK.out _ _ (by (try dsimp only); exact ⟨keep_cell hbq3 hHeld.1, keep_cell hbq3 hHeld.2.1, keep_cell hbq3 hHeld.2.2.1, keep_cell hbq3 hHeld.2.2.2.1, keep_cell hbq3 hHeld.2.2.2.2.1, keep_cell hbq3 hHeld.2.2.2.2.2.1, ex_trans hHeld.2.2.2.2.2.2 hbq3⟩) (fun hNew => ?_)
                      clear hK K hHeld
                      have hHeld := hNew
                      clear hNew
                      try simp only [Act.put, List.setIfInBounds_toArray, List.set_cons_zero, List.set_cons_succ]
                      refine held_one 16 (by kernel_rfl) rfl (fun K hK => ?_)
                      go_simp
                      go_at_call 58
                      refine (HRS2.out _ (HT2.out.mono mFil hHeld.2.2.2.2.2.2)).mono (fun e wq4 h => ?_)
                      obtain ⟨R4, d4, rfl, hr4, hbq4⟩ := NewRow.ints HQ2.out h
                      clear h
                      have HR4 := Lib.hid hr4
                      clear hr4
                      go_wp2_with fail
                      refine hK.out _ _ (by (try dsimp only); exact ⟨keep_cell hbq4 hHeld.1, keep_cell hbq4 hHeld.2.1, keep_cell hbq4 hHeld.2.2.1, keep_cell hbq4 hHeld.2.2.2.1, keep_cell hbq4 hHeld.2.2.2.2.1, keep_cell hbq4 hHeld.2.2.2.2.2.1, ex_trans hHeld.2.2.2.2.2.2 hbq4⟩) (fun hNew => ?_)
                      clear hK K hHeld
                      have hHeld := hNew
                      clear hNew
                      try simp only [Act.put, List.setIfInBounds_toArray, List.set_cons_zero, List.set_cons_succ]
                      refine held_one 17 (by kernel_rfl) rfl (fun K hK => ?_)
                      go_simp
                      go_at_call 55
                      refine (ints_self R3 q2 d3 R4 d4 R _ (by omega) (HR3.out.mono mInt hbq4) HR4.out).mono ?_; rintro e wq5 ⟨rfl, hbq5⟩
                      go_wp2_with fail
                      refine hK.out _ _ (by (try dsimp only); exact ⟨keep_cell hbq5 hHeld.1, keep_cell hbq5 hHeld.2.1, keep_cell hbq5 hHeld.2.2.1, keep_cell hbq5 hHeld.2.2.2.1, keep_cell hbq5 hHeld.2.2.2.2.1, keep_cell hbq5 hHeld.2.2.2.2.2.1, ex_trans hHeld.2.2.2.2.2.2 hbq5⟩) (fun hNew => ?_)
                      clear hK K hHeld
                      have hHeld := hNew
                      clear hNew
                      try simp only [Act.put, List.setIfInBounds_toArray, List.set_cons_zero, List.set_cons_succ]
                      first | (refine held_take 18 rfl (by kernel_rfl) (by kernel_rfl) (by kernel_rfl) (by rfl) (fun _ _ _ h => h) (by assumption) (by intro w hSw; (try dsimp only at hSw); go_simp; first | done | with_reducible rfl) ?_) | (refine held_skip 18 rfl (by kernel_rfl) (by kernel_rfl) (by kernel_rfl) (by rfl) (fun _ _ _ h => h) (by assumption) ?_)
                      simp only [Act.put, List.setIfInBounds_toArray, List.set_cons_zero, List.set_cons_succ]
                      first | (refine held_take 19 rfl (by kernel_rfl) (by kernel_rfl) (by kernel_rfl) (by rfl) (fun _ _ _ h => h) (by assumption) (by intro w hSw; (try dsimp only at hSw); go_simp; first | done | with_reducible rfl) ?_) | (refine held_skip 19 rfl (by kernel_rfl) (by kernel_rfl) (by kernel_rfl) (by rfl) (fun _ _ _ h => h) (by assumption) ?_)
                      simp only [Act.put, List.setIfInBounds_toArray, List.set_cons_zero, List.set_cons_succ]
                      first | (refine held_take 20 rfl (by kernel_rfl) (by kernel_rfl) (by kernel_rfl) (by rfl) (fun _ _ _ h => h) (by assumption) (by intro w hSw; (try dsimp only at hSw); go_simp; first | done | with_reducible rfl) ?_) | (refine held_skip 20 rfl (by kernel_rfl) (by kernel_rfl) (by kernel_rfl) (by rfl) (fun _ _ _ h => h) (by assumption) ?_)
                      simp only [Act.put, List.setIfInBounds_toArray, List.set_cons_zero, List.set_cons_succ]
                      first | (refine held_take 21 rfl (by kernel_rfl) (by kernel_rfl) (by kernel_rfl) (by rfl) (fun _ _ _ h => h) (by assumption) (by intro w hSw; (try dsimp only at hSw); go_simp; first | done | with_reducible rfl) ?_) | (refine held_skip 21 rfl (by kernel_rfl) (by kernel_rfl) (by kernel_rfl) (by rfl) (fun _ _ _ h => h) (by assumption) ?_)
                      simp only [Act.put, List.setIfInBounds_toArray, List.set_cons_zero, List.set_cons_succ]
                      first | (refine held_take 22 rfl (by kernel_rfl) (by kernel_rfl) (by kernel_rfl) (by rfl) (fun _ _ _ h => h) (by assumption) (by intro w hSw; (try dsimp only at hSw); go_simp; first | done | with_reducible rfl) ?_) | (refine held_skip 22 rfl (by kernel_rfl) (by kernel_rfl) (by kernel_rfl) (by rfl) (fun _ _ _ h => h) (by assumption) ?_)
                      simp only [Act.put, List.setIfInBounds_toArray, List.set_cons_zero, List.set_cons_succ]
                      first | (refine held_take 23 rfl (by kernel_rfl) (by kernel_rfl) (by kernel_rfl) (by rfl) (fun _ _ _ h => h) (by assumption) (by intro w hSw; (try dsimp only at hSw); go_simp; first | done | with_reducible rfl) ?_) | (refine held_skip 23 rfl (by kernel_rfl) (by kernel_rfl) (by kernel_rfl) (by rfl) (fun _ _ _ h => h) (by assumption) ?_)
                      simp only [Act.put, List.setIfInBounds_toArray, List.set_cons_zero, List.set_cons_succ]
                      first | (refine held_take 24 rfl (by kernel_rfl) (by kernel_rfl) (by kernel_rfl) (by rfl) (fun _ _ _ h => h) (by assumption) (by intro w hSw; (try dsimp only at hSw); go_simp; first | done | with_reducible rfl) ?_) | (refine held_skip 24 rfl (by kernel_rfl) (by kernel_rfl) (by kernel_rfl) (by rfl) (fun _ _ _ h => h) (by assumption) ?_)
                      simp only [Act.put, List.setIfInBounds_toArray, List.set_cons_zero, List.set_cons_succ]
                      first | (refine held_take 25 rfl (by kernel_rfl) (by kernel_rfl) (by kernel_rfl) (by rfl) (fun _ _ _ h => h) (by assumption) (by intro w hSw; (try dsimp only at hSw); go_simp; first | done | with_reducible rfl) ?_) | (refine held_skip 25 rfl (by kernel_rfl) (by kernel_rfl) (by kernel_rfl) (by rfl) (fun _ _ _ h => h) (by assumption) ?_)
                      simp only [Act.put, List.setIfInBounds_toArray, List.set_cons_zero, List.set_cons_succ]
                      first | (refine held_take 26 rfl (by kernel_rfl) (by kernel_rfl) (by kernel_rfl) (by rfl) (fun _ _ _ h => h) (by assumption) (by intro w hSw; (try dsimp only at hSw); go_simp; first | done | with_reducible rfl) ?_) | (refine held_skip 26 rfl (by kernel_rfl) (by kernel_rfl) (by kernel_rfl) (by rfl) (fun _ _ _ h => h) (by assumption) ?_)
                      simp only [Act.put, List.setIfInBounds_toArray, List.set_cons_zero, List.set_cons_succ]
                      first | (refine held_take 27 rfl (by kernel_rfl) (by kernel_rfl) (by kernel_rfl) (by rfl) (fun _ _ _ h => h) (by assumption) (by intro w hSw; (try dsimp only at hSw); go_simp; first | done | with_reducible rfl) ?_) | (refine held_skip 27 rfl (by kernel_rfl) (by kernel_rfl) (by kernel_rfl) (by rfl) (fun _ _ _ h => h) (by assumption) ?_)
                      simp only [Act.put, List.setIfInBounds_toArray, List.set_cons_zero, List.set_cons_succ]
                      first | (refine held_take 28 rfl (by kernel_rfl) (by kernel_rfl) (by kernel_rfl) (by rfl) (fun _ _ _ h => h) (by assumption) (by intro w hSw; (try dsimp only at hSw); go_simp; first | done | with_reducible rfl) ?_) | (refine held_skip 28 rfl (by kernel_rfl) (by kernel_rfl) (by kernel_rfl) (by rfl) (fun _ _ _ h => h) (by assumption) ?_)
                      simp only [Act.put, List.setIfInBounds_toArray, List.set_cons_zero, List.set_cons_succ]
                      first | (refine held_take 29 rfl (by kernel_rfl) (by kernel_rfl) (by kernel_rfl) (by rfl) (fun _ _ _ h => h) (by assumption) (by intro w hSw; (try dsimp only at hSw); go_simp; first | done | with_reducible rfl) ?_) | (refine held_skip 29 rfl (by kernel_rfl) (by kernel_rfl) (by kernel_rfl) (by rfl) (fun _ _ _ h => h) (by assumption) ?_)
                      simp only [Act.put, List.setIfInBounds_toArray, List.set_cons_zero, List.set_cons_succ]
                      first | (refine held_take 30 rfl (by kernel_rfl) (by kernel_rfl) (by kernel_rfl) (by rfl) (fun _ _ _ h => h) (by assumption) (by intro w hSw; (try dsimp only at hSw); go_simp; first | done | with_reducible rfl) ?_) | (refine held_skip 30 rfl (by kernel_rfl) (by kernel_rfl) (by kernel_rfl) (by rfl) (fun _ _ _ h => h) (by assumption) ?_)
                      simp only [Act.put, List.setIfInBounds_toArray, List.set_cons_zero, List.set_cons_succ]
                      first | (refine held_take 31 rfl (by kernel_rfl) (by kernel_rfl) (by kernel_rfl) (by rfl) (fun _ _ _ h => h) (by assumption) (by intro w hSw; (try dsimp only at hSw); go_simp; first | done | with_reducible rfl) ?_) | (refine held_skip 31 rfl (by kernel_rfl) (by kernel_rfl) (by kernel_rfl) (by rfl) (fun _ _ _ h => h) (by assumption) ?_)
                      simp only [Act.put, List.setIfInBounds_toArray, List.set_cons_zero, List.set_cons_succ]
                      first | (refine held_take 32 rfl (by kernel_rfl) (by kernel_rfl) (by kernel_rfl) (by rfl) (fun _ _ _ h => h) (by assumption) (by intro w hSw; (try dsimp only at hSw); go_simp; first | done | with_reducible rfl) ?_) | (refine held_skip 32 rfl (by kernel_rfl) (by kernel_rfl) (by kernel_rfl) (by rfl) (fun _ _ _ h => h) (by assumption) ?_)
                      simp only [Act.put, List.setIfInBounds_toArray, List.set_cons_zero, List.set_cons_succ]
                      first | (refine held_take 33 rfl (by kernel_rfl) (by kernel_rfl) (by kernel_rfl) (by rfl) (fun _ _ _ h => h) (by assumption) (by intro w hSw; (try dsimp only at hSw); go_simp; first | done | with_reducible rfl) ?_) | (refine held_skip 33 rfl (by kernel_rfl) (by kernel_rfl) (by kernel_rfl) (by rfl) (fun _ _ _ h => h) (by assumption) ?_)
                      simp only [Act.put, List.setIfInBounds_toArray, List.set_cons_zero, List.set_cons_succ]
                      first | (refine held_take 34 rfl (by kernel_rfl) (by kernel_rfl) (by kernel_rfl) (by rfl) (fun _ _ _ h => h) (by assumption) (by intro w hSw; (try dsimp only at hSw); go_simp; first | done | with_reducible rfl) ?_) | (refine held_skip 34 rfl (by kernel_rfl) (by kernel_rfl) (by kernel_rfl) (by rfl) (fun _ _ _ h => h) (by assumption) ?_)
                      simp only [Act.put, List.setIfInBounds_toArray, List.set_cons_zero, List.set_cons_succ]
                      first | (refine held_take 35 rfl (by kernel_rfl) (by kernel_rfl) (by kernel_rfl) (by rfl) (fun _ _ _ h => h) (by assumption) (by intro w hSw; (try dsimp only at hSw); go_simp; first | done | with_reducible rfl) ?_) | (refine held_skip 35 rfl (by kernel_rfl) (by kernel_rfl) (by kernel_rfl) (by rfl) (fun _ _ _ h => h) (by assumption) ?_)
                      simp only [Act.put, List.setIfInBounds_toArray, List.set_cons_zero, List.set_cons_succ]
                      first | (refine held_take 36 rfl (by kernel_rfl) (by kernel_rfl) (by kernel_rfl) (by rfl) (fun _ _ _ h => h) (by assumption) (by intro w hSw; (try dsimp only at hSw); go_simp; first | done | with_reducible rfl) ?_) | (refine held_skip 36 rfl (by kernel_rfl) (by kernel_rfl) (by kernel_rfl) (by rfl) (fun _ _ _ h => h) (by assumption) ?_)
                      simp only [Act.put, List.setIfInBounds_toArray, List.set_cons_zero, List.set_cons_succ]
                      first | (refine held_take 37 rfl (by kernel_rfl) (by kernel_rfl) (by kernel_rfl) (by rfl) (fun _ _ _ h => h) (by assumption) (by intro w hSw; (try dsimp only at hSw); go_simp; first | done | with_reducible rfl) ?_) | (refine held_skip 37 rfl (by kernel_rfl) (by kernel_rfl) (by kernel_rfl) (by rfl) (fun _ _ _ h => h) (by assumption) ?_)
                      simp only [Act.put, List.setIfInBounds_toArray, List.set_cons_zero, List.set_cons_succ]
                      first | (refine held_take 38 rfl (by kernel_rfl) (by kernel_rfl) (by kernel_rfl) (by rfl) (fun _ _ _ h => h) (by assumption) (by intro w hSw; (try dsimp only at hSw); go_simp; first | done | with_reducible rfl) ?_) | (refine held_skip 38 rfl (by kernel_rfl) (by kernel_rfl) (by kernel_rfl) (by rfl) (fun _ _ _ h => h) (by assumption) ?_)
                      simp only [Act.put, List.setIfInBounds_toArray, List.set_cons_zero, List.set_cons_succ]
                      first | (refine held_take 39 rfl (by kernel_rfl) (by kernel_rfl) (by kernel_rfl) (by rfl) (fun _ _ _ h => h) (by assumption) (by intro w hSw; (try dsimp only at hSw); go_simp; first | done | with_reducible rfl) ?_) | (refine held_skip 39 rfl (by kernel_rfl) (by kernel_rfl) (by kernel_rfl) (by rfl) (fun _ _ _ h => h) (by assumption) ?_)
                      simp only [Act.put, List.setIfInBounds_toArray, List.set_cons_zero, List.set_cons_succ]
                      first | (refine held_take 40 rfl (by kernel_rfl) (by kernel_rfl) (by kernel_rfl) (by rfl) (fun _ _ _ h => h) (by assumption) (by intro w hSw; (try dsimp only at hSw); go_simp; first | done | with_reducible rfl) ?_) | (refine held_skip 40 rfl (by kernel_rfl) (by kernel_rfl) (by kernel_rfl) (by rfl) (fun _ _ _ h => h) (by assumption) ?_)
                      simp only [Act.put, List.setIfInBounds_toArray, List.set_cons_zero, List.set_cons_succ]
                      first | (refine held_take 41 rfl (by kernel_rfl) (by kernel_rfl) (by kernel_rfl) (by rfl) (fun _ _ _ h => h) (by assumption) (by intro w hSw; (try dsimp only at hSw); go_simp; first | done | with_reducible rfl) ?_) | (refine held_skip 41 rfl (by kernel_rfl) (by kernel_rfl) (by kernel_rfl) (by rfl) (fun _ _ _ h => h) (by assumption) ?_)
                      simp only [Act.put, List.setIfInBounds_toArray, List.set_cons_zero, List.set_cons_succ]
                      first | (refine held_take 42 rfl (by kernel_rfl) (by kernel_rfl) (by kernel_rfl) (by rfl) (fun _ _ _ h => h) (by assumption) (by intro w hSw; (try dsimp only at hSw); go_simp; first | done | with_reducible rfl) ?_) | (refine held_skip 42 rfl (by kernel_rfl) (by kernel_rfl) (by kernel_rfl) (by rfl) (fun _ _ _ h => h) (by assumption) ?_)
                      simp only [Act.put, List.setIfInBounds_toArray, List.set_cons_zero, List.set_cons_succ]
                      first | (refine held_take 44 rfl (by kernel_rfl) (by kernel_rfl) (by kernel_rfl) (by rfl) (fun _ _ _ h => h) (by assumption) (by intro w hSw; (try dsimp only at hSw); go_simp; first | done | with_reducible rfl) ?_) | (refine held_skip 44 rfl (by kernel_rfl) (by kernel_rfl) (by kernel_rfl) (by rfl) (fun _ _ _ h => h) (by assumption) ?_)
                      simp only [Act.put, List.setIfInBounds_toArray, List.set_cons_zero, List.set_cons_succ]
                      first | (refine held_take 45 rfl (by kernel_rfl) (by kernel_rfl) (by kernel_rfl) (by rfl) (fun _ _ _ h => h) (by assumption) (by intro w hSw; (try dsimp only at hSw); go_simp; first | done | with_reducible rfl) ?_) | (refine held_skip 45 rfl (by kernel_rfl) (by kernel_rfl) (by kernel_rfl) (by rfl) (fun _ _ _ h => h) (by assumption) ?_)
                      simp only [Act.put, List.setIfInBounds_toArray, List.set_cons_zero, List.set_cons_succ]
                      refine held_one 43 (by kernel_rfl) rfl (fun K hK => ?_)
                      go_simp
                      go_at_call 59
                      refine (HUI.out _ (HS1.out.mono mFld hHeld.2.2.2.2.2.2) (HS2.out.mono mFil hHeld.2.2.2.2.2.2)).mono ?_; rintro e wq6 ⟨rfl, hbq6⟩
                      go_wp2_with fail
                      refine hK.out _ _ (by (try dsimp only); exact ⟨keep_cell hbq6 hHeld.1, keep_cell hbq6 hHeld.2.1, keep_cell hbq6 hHeld.2.2.1, keep_cell hbq6 hHeld.2.2.2.1, keep_cell hbq6 hHeld.2.2.2.2.1, keep_cell hbq6 hHeld.2.2.2.2.2.1, ex_trans hHeld.2.2.2.2.2.2 hbq6⟩) (fun hNew => ?_)
                      clear hK K hHeld
                      have hHeld := hNew
                      clear hNew
                      try simp only [Act.put, List.setIfInBounds_toArray, List.set_cons_zero, List.set_cons_succ]
                      refine held_one 46 (by kernel_rfl) rfl (fun K hK => ?_)
                      go_simp
                      go_at_call 60
                      refine (HUS.out _ (HS1.out.mono mFld hHeld.2.2.2.2.2.2) (HS2.out.mono mFil hHeld.2.2.2.2.2.2)).mono ?_; rintro e wq7 ⟨rfl, hbq7⟩
                      go_wp2_with fail
                      refine hK.out _ _ (by (try dsimp only); exact ⟨keep_cell hbq7 hHeld.1, keep_cell hbq7 hHeld.2.1, keep_cell hbq7 hHeld.2.2.1, keep_cell hbq7 hHeld.2.2.2.1, keep_cell hbq7 hHeld.2.2.2.2.1, keep_cell hbq7 hHeld.2.2.2.2.2.1, ex_trans hHeld.2.2.2.2.2.2 hbq7⟩) (fun hNew => ?_)
                      clear hK K hHeld
                      have hHeld := hNew
                      clear hNew
                      try simp only [Act.put, List.setIfInBounds_toArray, List.set_cons_zero, List.set_cons_succ]
                      first | (refine held_take 47 rfl (by kernel_rfl) (by kernel_rfl) (by kernel_rfl) (by rfl) (fun _ _ _ h => h) (by assumption) (by intro w hSw; (try dsimp only at hSw); go_simp; first | done | with_reducible rfl) ?_) | (refine held_skip 47 rfl (by kernel_rfl) (by kernel_rfl) (by kernel_rfl) (by rfl) (fun _ _ _ h => h) (by assumption) ?_)
                      simp only [Act.put, List.setIfInBounds_toArray, List.set_cons_zero, List.set_cons_succ]
                      first | (refine held_take 48 rfl (by kernel_rfl) (by kernel_rfl) (by kernel_rfl) (by rfl) (fun _ _ _ h => h) (by assumption) (by intro w hSw; (try dsimp only at hSw); go_simp; first | done | with_reducible rfl) ?_) | (refine held_skip 48 rfl (by kernel_rfl) (by kernel_rfl) (by kernel_rfl) (by rfl) (fun _ _ _ h => h) (by assumption) ?_)
                      simp only [Act.put, List.setIfInBounds_toArray, List.set_cons_zero, List.set_cons_succ]
                      refine wpAnyH_done (by kernel_rfl) ?_ _
                      have hB := hHeld.2.2.2.2.2.2
                      clear hHeld
                      go_wp2_with fail
                      go_meet
                      exact ⟨rfl, hB⟩
                    case rest =>
                      generalize wc = W11 at *
                      obtain ⟨rfl, hK⟩ := hcut
                      replace HB := Lib.hid (ex_trans HB.out hK)
                      replace p0 := keep_cell hK p0
                      replace p1 := keep_cell hK p1
                      replace p2 := keep_cell hK p2
                      replace t0 := keep_cell hK t0
                      replace t1 := keep_cell hK t1
                      replace t2 := keep_cell hK t2
                      replace HS1 := Lib.hid (HS1.out.mono mFld hK)
                      replace HS2 := Lib.hid (HS2.out.mono mFil hK)
                      replace HS5 := Lib.hid (HS5.out.mono mInt hK)
                      replace HT2 := Lib.hid (HT2.out.mono mFil hK)
                      clear hK
                      clear t0 t1 t2 HT2 HSS HRI2 HRS2 HG2 HQ2 HUS HMI HMS
                      go_wp2_with fail
                      go_loopw [20, 21, 22] (fun sm la i wr => ∃ k : Nat, k ≤ q ∧ i = .int .i64 k ∧ ∃ S0 la0 : Int, sm = .int .i64 S0 ∧ la = .int .i64 la0 ∧ Hid (S0 = sumW nm 0 (F.take k)) ∧ Hid (∀ j (hj : j < F.length), k ≤ j → la0 ≤ intA F[j].attrs nm) ∧ Below W11.heap.size W11 wr) (fun _ _ i _ => q - (intOf i).toNat)
                      case atStart => exact ⟨0, Nat.zero_le _, rfl, 0, -1, rfl, rfl, Lib.hid rfl, Lib.hid (fun j hj _ => by have := (HV.out F[j] (HMEM.out _ (List.getElem_mem hj)).1).1; omega), Below.refl _ _⟩
                      case round =>
                        obtain ⟨k, hk, rfl, S0, la0, rfl, rfl, HSW, HLA, hb⟩ := hrel
                        replace p0 := keep_cell hb p0
                        replace p1 := keep_cell hb p1
                        replace p2 := keep_cell hb p2
                        replace HS1 := Lib.hid (HS1.out.mono mFld hb)
                        replace HS2 := Lib.hid (HS2.out.mono mFil hb)
                        replace HS5 := Lib.hid (HS5.out.mono mInt hb)
                        replace HB := Lib.hid (ex_trans HB.out hb)
                        by_cases hlt : k < q
                        · obtain ⟨lb, lo5, rfl, lbw, lc⟩ := HS5.out.int (by omega)
                          have hkl : k < L.length := by have := HQ.out; omega
                          have hkf : k < F.length := by have := HQF.out; omega
                          have y0 := lc k hkl
                          have hid : L[k] = F[k].id := by
                            have h9 := HLF.out
                            subst h9
                            rw [List.getElem_map]
                          rw [hid] at y0
                          clear hid lc hkl
                          have HX1 := Lib.hid (HMEM.out F[k] (List.getElem_mem hkf))
                          have HSN := Lib.hid (sumW_snoc nm 0 F hkf)
                          have HLN := Lib.hid (show ∀ j (hj : j < F.length), k + 1 ≤ j → intA F[k].attrs nm ≤ intA F[j].attrs nm from fun j hj h => asc_at HASC.out (by omega) hj)
                          have hla := HLA.out k hkf (Nat.le_refl _)
                          obtain ⟨x, hx⟩ : ∃ x, x = F[k] := ⟨_, rfl⟩
                          rw [← hx] at y0 HX1 HSN HLN hla
                          have HFX := Lib.hid fun w h1 h => HFO.out x HX1.out.1 w h1 h
                          have hxn := (HG.out.2.2.1 x HX1.out.1).1
                          have HIX := Lib.hid fun w (P : Option Addr) (r : Nat) (h : Sl 4 RAtr w P x.attrs.length x.attrs) => spec_IntAttr x P x.attrs.length r nm w h (by omega)
                          rw [HX1.out.2] at HIX
                          obtain ⟨kx, hkx⟩ : ∃ kx, kx = intA x.attrs nm := ⟨_, rfl⟩
                          rw [← hkx] at HIX HSN HLN hla
                          have i1 : (k : Int) < (q : Int) := by omega
                          have i2 : ¬ (kx < la0) := by omega
                          have HBW := Lib.hid hb
                          clear hx hkx hb hkf hla
                          go_upto_region 18 with fail
                          go_cut [23, 24] from 126 to 136 (fun s23 s24 w' => s23 = .int .i64 kx ∧ s24 = .bool true ∧ Below wr.heap.size wr w')
                          case first =>
                            refine wp_region_held_drew (S := (fun w' => w'.cell? ⟨g3, 0, none⟩ = some (.slice A 4 c) ∧ w'.cell? ⟨g3, 1, none⟩ = some (.slice B m d) ∧ w'.cell? ⟨g3, 2, none⟩ = some (.int .i64 nx) ∧ w'.cell? ⟨lb, lo5 + k, none⟩ = some (.int .i64 x.id) ∧ Below wr.heap.size wr w')) (by kernel_rfl) (by (try dsimp only); exact ⟨p0, p1, p2, y0, (Below.refl _ _).drew⟩) (fun hHeld => ?_)
                            first | (refine held_take 0 rfl (by kernel_rfl) (by kernel_rfl) (by kernel_rfl) (by rfl) (fun _ _ _ h => h) (by assumption) (by intro w hSw; (try dsimp only at hSw); go_simp; first | done | with_reducible rfl) ?_) | (refine held_skip 0 rfl (by kernel_rfl) (by kernel_rfl) (by kernel_rfl) (by rfl) (fun _ _ _ h => h) (by assumption) ?_)
                            simp only [Act.put, List.setIfInBounds_toArray, List.set_cons_zero, List.set_cons_succ]
                            first | (refine held_take 1 rfl (by kernel_rfl) (by kernel_rfl) (by kernel_rfl) (by rfl) (fun _ _ _ h => h) (by assumption) (by intro w hSw; (try dsimp only at hSw); go_simp; first | done | with_reducible rfl) ?_) | (refine held_skip 1 rfl (by kernel_rfl) (by kernel_rfl) (by kernel_rfl) (by rfl) (fun _ _ _ h => h) (by assumption) ?_)
                            simp only [Act.put, List.setIfInBounds_toArray, List.set_cons_zero, List.set_cons_succ]
                            first | (refine held_take 2 rfl (by kernel_rfl) (by kernel_rfl) (by kernel_rfl) (by rfl) (fun _ _ _ h => h) (by assumption) (by intro w hSw; (try dsimp only at hSw); go_simp; first | done | with_reducible rfl) ?_) | (refine held_skip 2 rfl (by kernel_rfl) (by kernel_rfl) (by kernel_rfl) (by rfl) (fun _ _ _ h => h) (by assumption) ?_)
                            simp only [Act.put, List.setIfInBounds_toArray, List.set_cons_zero, List.set_cons_succ]
                            first | (refine held_take 3 rfl (by kernel_rfl) (by kernel_rfl) (by kernel_rfl) (by rfl) (fun _ _ _ h => h) (by assumption) (by intro w hSw; (try dsimp only at hSw); go_simp; first | done | with_reducible rfl) ?_) | (refine held_skip 3 rfl (by kernel_rfl) (by kernel_rfl) (by kernel_rfl) (by rfl) (fun _ _ _ h => h) (by assumption) ?_)
                            simp only [Act.put, List.setIfInBounds_toArray, List.set_cons_zero, List.set_cons_succ]
                            first | (refine held_take 4 rfl (by kernel_rfl) (by kernel_rfl) (by kernel_rfl) (by rfl) (fun _ _ _ h => h) (by assumption) (by intro w hSw; (try dsimp only at hSw); go_simp; first | done | with_reducible rfl) ?_) | (refine held_skip 4 rfl (by kernel_rfl) (by kernel_rfl) (by kernel_rfl) (by rfl) (fun _ _ _ h => h) (by assumption) ?_)
                            simp only [Act.put, List.setIfInBounds_toArray, List.set_cons_zero, List.set_cons_succ]
                            first | (refine held_take 6 rfl (by kernel_rfl) (by kernel_rfl) (by kernel_rfl) (by rfl) (fun _ _ _ h => h) (by assumption) (by intro w hSw; (try dsimp only at hSw); go_simp; first | done | with_reducible rfl) ?_) | (refine held_skip 6 rfl (by kernel_rfl) (by kernel_rfl) (by kernel_rfl) (by rfl) (fun _ _ _ h => h) (by assumption) ?_)
                            simp only [Act.put, List.setIfInBounds_toArray, List.set_cons_zero, List.set_cons_succ]
                            refine held_one 5 (by kernel_rfl) rfl (fun K hK => ?_)
                            go_simp
                            go_at_call 21
                            refine (HFX.out _ (HS1.out.mono mFld hHeld.2.2.2.2) (HS2.out.mono mFil hHeld.2.2.2.2)).mono ?_; rintro e wq1 ⟨P, r, rfl, hr1, hbq1⟩
                            have HR1 := Lib.hid hr1
                            clear hr1
                            go_wp2_with fail
                            refine hK.out _ _ (by (try dsimp only); exact ⟨keep_cell hbq1 hHeld.1, keep_cell hbq1 hHeld.2.1, keep_cell hbq1 hHeld.2.2.1, keep_cell hbq1 hHeld.2.2.2.1, ex_trans hHeld.2.2.2.2 hbq1⟩) (fun hNew => ?_)
                            clear hK K hHeld
                            have hHeld := hNew
                            clear hNew
                            try simp only [Act.put, List.setIfInBounds_toArray, List.set_cons_zero, List.set_cons_succ]
                            refine held_one 7 (by kernel_rfl) rfl (fun K hK => ?_)
                            go_simp
                            go_at_call 54
                            refine (HIX.out _ P r HR1.out).mono ?_; rintro e wq2 ⟨rfl, hbq2⟩
                            go_wp2_with fail
                            refine hK.out _ _ (by (try dsimp only); exact ⟨keep_cell hbq2 hHeld.1, keep_cell hbq2 hHeld.2.1, keep_cell hbq2 hHeld.2.2.1, keep_cell hbq2 hHeld.2.2.2.1, ex_trans hHeld.2.2.2.2 hbq2⟩) (fun hNew => ?_)
                            clear hK K hHeld
                            have hHeld := hNew
                            clear hNew
                            try simp only [Act.put, List.setIfInBounds_toArray, List.set_cons_zero, List.set_cons_succ]
                            first | (refine held_take 8 rfl (by kernel_rfl) (by kernel_rfl) (by kernel_rfl) (by rfl) (fun _ _ _ h => h) (by assumption) (by intro w hSw; (try dsimp only at hSw); go_simp; first | done | with_reducible rfl) ?_) | (refine held_skip 8 rfl (by kernel_rfl) (by kernel_rfl) (by kernel_rfl) (by rfl) (fun _ _ _ h => h) (by assumption) ?_)
                            simp only [Act.put, List.setIfInBounds_toArray, List.set_cons_zero, List.set_cons_succ]
                            first | (refine held_take 9 rfl (by kernel_rfl) (by kernel_rfl) (by kernel_rfl) (by rfl) (fun _ _ _ h => h) (by assumption) (by intro w hSw; (try dsimp only at hSw); go_simp; first | done | with_reducible rfl) ?_) | (refine held_skip 9 rfl (by kernel_rfl) (by kernel_rfl) (by kernel_rfl) (by rfl) (fun _ _ _ h => h) (by assumption) ?_)
                            simp only [Act.put, List.setIfInBounds_toArray, List.set_cons_zero, List.set_cons_succ]
                            first | (refine held_take 10 rfl (by kernel_rfl) (by kernel_rfl) (by kernel_rfl) (by rfl) (fun _ _ _ h => h) (by assumption) (by intro w hSw; (try dsimp only at hSw); go_simp; first | done | with_reducible rfl) ?_) | (refine held_skip 10 rfl (by kernel_rfl) (by kernel_rfl) (by kernel_rfl) (by rfl) (fun _ _ _ h => h) (by assumption) ?_)
                            simp only [Act.put, List.setIfInBounds_toArray, List.set_cons_zero, List.set_cons_succ]
                            first | (refine held_take 11 rfl (by kernel_rfl) (by kernel_rfl) (by kernel_rfl) (by rfl) (fun _ _ _ h => h) (by assumption) (by intro w hSw; (try dsimp only at hSw); go_simp; first | done | with_reducible rfl) ?_) | (refine held_skip 11 rfl (by kernel_rfl) (by kernel_rfl) (by kernel_rfl) (by rfl) (fun _ _ _ h => h) (by assumption) ?_)
                            simp only [Act.put, List.setIfInBounds_toArray, List.set_cons_zero, List.set_cons_succ]
                            first | (refine held_take 12 rfl (by kernel_rfl) (by kernel_rfl) (by kernel_rfl) (by rfl) (fun _ _ _ h => h) (by assumption) (by intro w hSw; (try dsimp only at hSw); go_simp; first | done | with_reducible rfl) ?_) | (refine held_skip 12 rfl (by kernel_rfl) (by kernel_rfl) (by kernel_rfl) (by rfl) (fun _ _ _ h => h) (by assumption) ?_)
                            simp only [Act.put, List.setIfInBounds_toArray, List.set_cons_zero, List.set_cons_succ]
                            refine wpAnyH_done (by kernel_rfl) ?_ _
                            have hB := hHeld.2.2.2.2
                            clear hHeld
                            go_wp2_with fail
                            go_meet
                            exact ⟨rfl, rfl, hB⟩
                          case rest =>
                            generalize wc = W18 at *
                            obtain ⟨rfl, rfl, hK⟩ := hcut
                            have HZ := Lib.hid (ex_trans HBW.out hK)
                            have HSN2 := Lib.hid (show wrap64 (S0 + kx) = sumW nm 0 (F.take (k + 1)) by rw [HSN.out, HSW.out])
                            have hq12 : q ≤ 12 := HMQ.out
                            clear HBW hK
                            go_wp2_with fail
                            go_roundw
                            case rel => exact ⟨k + 1, by omega, by go_num, wrap64 (S0 + kx), kx, rfl, rfl, HSN2, HLN, HZ.out⟩
                            case measure => simp [intOf]; omega
                        · obtain rfl : q = k := by omega
                          have i1 : ¬ ((q : Int) < (q : Int)) := by omega
                          have hS0 : S0 = S := by rw [HSW.out, List.take_of_length_le (Nat.le_of_eq HQF.out)]; exact HSU.out
                          subst hS0
                          have hmb : mb = decide (0 < q) := by rw [HMB.out, HQ.out]
                          clear hlt hb HSW HLA HLF HFO HMEM HASC HSU HV HMB
                          go_wp2_with fail
                          refine (HUI.out _ HS1.out HS2.out).mono ?_; rintro e w4 ⟨rfl, hb4⟩
                          have z0 := keep_cell hb4 p0
                          have z1 := keep_cell hb4 p1
                          have z2 := keep_cell hb4 p2
                          have HB4 := Lib.hid (ex_trans HB.out hb4)
                          have HS24 := Lib.hid (HS2.out.mono mFil hb4)
                          have HS54 := Lib.hid (HS5.out.mono mInt hb4)
                          clear hb4 p0 p1 p2
                          go_wp2_with fail
                          refine (HRI.out _ HS24.out).mono (fun e w5 h => ?_)
                          obtain ⟨R5, d5, rfl, hr5, hb5⟩ := NewRow.ints HQ.out h
                          have HB5 := Lib.hid (ex_trans HB4.out hb5)
                          have HS55 := Lib.hid (HS54.out.mono mInt hb5)
                          have HR5 := Lib.hid hr5
                          clear h hr5 hb5
                          go_wp2_with fail
                          refine (ints_self R5 q d5 A5 c5 L _ (by have := HMQ.out; omega) HR5.out HS55.out).mono ?_; rintro e w6 ⟨rfl, hb6⟩
                          have HB6 := Lib.hid (ex_trans HB5.out hb6)
                          clear hb6
                          rcases Nat.eq_zero_or_pos q with h0 | h0
                          · have hmb2 : mb = false := by rw [hmb, h0]; rfl
                            subst hmb2
                            have i3 : ¬ ((0 : Int) < (q : Int)) := by omega
                            clear h0 hmb
                            go_wp2_with fail
                            go_returns
                            exact ⟨rfl, HB6.out⟩
                          · have hmb2 : mb = true := by rw [hmb]; simpa using h0
                            subst hmb2
                            have i3 : (0 : Int) < (q : Int) := by omega
                            clear h0 hmb
                            go_wp2_with fail
                            go_returns
                            exact ⟨rfl, HB6.out⟩
  · go_enter Try.func8, Try.ntmps8
    go_wp2_with fail
    refine (laws_big_t A0 n0 c0 _ (by omega)).mono ?_; rintro e w0 ⟨rfl, rfl⟩
    go_wp2_with fail
    go_returns
    exact ⟨rfl, Below.refl _ _⟩
theorem core_FnSortedByAttr {H : Type} (enc : TypeId × Value → H) (W : World) (base : Nat) (args : Array Value) (ds : List (DataW H)) (p : List MemPlace)
    (hA : DataW.TrodAll enc Try.prog W 0 (fun _ => true) true Try.f8.params.toList args.toList ds p)
    (hval : ∀ (j : Nat) t v, Try.f8.params[j]? = some t → args[j]? = some v → Value.okWide Try.prog W .any base t v) :
    Calls Try.prog 8 args W fun e W' => e = .returned (.bool true) ∧ Below W.heap.size W W' := by
  rw [Try.params8] at hA hval
  obtain ⟨u0, vs0, d0, ds0, p0, q0, hargs, rfl, rfl, h0, r0⟩ := trodAll_cons hA
  obtain ⟨rfl, rfl, rfl⟩ := trodAll_nil r0
  obtain rfl : args = #[u0] := by cases args; simp_all
  obtain ⟨ad0, ln0, cp0, rfl⟩ := okWide_slice Try.underlying22 (hval 0 22 u0 rfl rfl)
  obtain ⟨fu0, g0⟩ := h0
  obtain ⟨A0, n0, c0, l0, e0, hn0, _, hS0, hl0⟩ := opens_slice Try.underlying22 (by omega) Op_byt g0
  simp only [Value.cells, List.cons.injEq, Value.slice.injEq, and_true] at e0
  obtain ⟨rfl, rfl, rfl⟩ := e0
  exact walk_FnSortedByAttr W ad0 ln0 cp0 l0 hS0 hn0 hl0
set_option maxRecDepth 100000 in
theorem lifted_FnSortedByAttr (os : Os) (started : os.Started) (H : Type) (enc : TypeId × Value → H) :
    ReturnsInHanded {} Try.checked os 8 .any (Rows.fnSortedByAttrSpec.pre6 enc Try.prog Try.f8 Rows.fnSortedByAttrRow.domain false) (Rows.fnSortedByAttrSpec.post enc Try.prog Try.f8 false true false false) :=
  law_lifted (C := Try.checked) (tb := 4) (n := 1) own started (by kernel_rfl) Try.func8 rfl (by kernel_rfl) Try.underlying4 (by kernel_rfl)
    (fun ds h => by match ds, h with | [_], _ => rfl) laidOut' (by kernel_rfl)
    (ChangeSpec.witness6 (enc := enc) (C := Try.checked) false ⟨#[], #[.slice none 0 0], []⟩ 8 (by kernel_rfl) (by kernel_rfl) (by kernel_rfl) (by kernel_rfl))
    (fun W base args ds p hA hval => core_FnSortedByAttr enc W base args ds p hA hval)
theorem holds_FnSortedByAttr : Rows.FnSortedByAttrSaid :=
  OpenClaim.holds_of_wide 8 Try.f8 rfl rfl rfl rfl rfl rfl rfl ⟨rfl, rfl, rfl, rfl, rfl⟩ rfl rfl rfl rfl rfl (by kernel_rfl) Try.func8 (by kernel_rfl)
    (of_decide_eq_true (by kernel_rfl)) (by unfold Func.isWrapper; first | (rw [if_pos (by decide +kernel)]; kernel_rfl) | (rw [if_neg (by decide +kernel)]; exact ⟨rfl, rfl⟩))
    (fun os started H enc _ => lifted_FnSortedByAttr os started H enc)
end Go.Proofs.Ytjobgnioehkomaa
