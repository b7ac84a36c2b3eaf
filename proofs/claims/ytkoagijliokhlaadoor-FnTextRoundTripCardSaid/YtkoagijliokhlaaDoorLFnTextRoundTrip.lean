/-
  FnTextRoundTrip RETURNS true AND LEAVES ITS ARGUMENTS AS THEY WERE, FOR EVERY INPUT THAT THE STATEMENT SPEAKS OF. No condition.
-/
import Derived.WalkKit
import Derived.ProofKit
import Derived.OpenShut
import Derived.Handy
import Derived.Lib.Hide
import Derived.Deep.QuietTactic
import Derived.BigQuiet
import Derived.Deep.RegionHeld3
import Derived.Deep.DeepCutAuto
import Derived.Test.YtkoagijliokhlaaDoorLib
import Derived.Test.YtkoagijliokhlaaDoorOp
import Derived.Test.YtkoagijliokhlaaDoorC1
import Derived.Test.YtkoagijliokhlaaDoorC2
import Derived.Test.YtkoagijliokhlaaDoorC4
import Derived.Test.YtkoagijliokhlaaDoorOwn
import Derived.Test.YtkoagijliokhlaaDoorRow
import Derived.Test.YtkoagijliokhlaaDoorN0
import Derived.Test.YtkoagijliokhlaaDoorHld
import Derived.Test.YtkoagijliokhlaaDoorD1
import Derived.Test.YtkoagijliokhlaaDoorSz
import Derived.Test.YtkoagijliokhlaaDoorX0
import Derived.Test.YtkoagijliokhlaaDoorX1
import Derived.Test.YtkoagijliokhlaaDoorX2
import Derived.Test.YtkoagijliokhlaaDoorX3
import Derived.Test.YtkoagijliokhlaaDoorX4
import Derived.Test.YtkoagijliokhlaaDoorX6
import Derived.Test.YtkoagijliokhlaaDoorY1
import Derived.Test.YtkoagijliokhlaaDoorY2
import Derived.Test.YtkoagijliokhlaaDoorY3
import Derived.Test.YtkoagijliokhlaaDoorRows
import Derived.Test.YtkoagijliokhlaaDoorLibD
import Derived.Test.YtkoagijliokhlaaDoorCards
import Derived.Test.YtkoagijliokhlaaDoorTie
namespace Go.Proofs.YtkoagijliokhlaaDoor
open Go.RowKit Go.ChangeShapes Go.WideShapes Go.ChangeAt Go.ChangeMaps
set_option linter.unusedVariables false
set_option maxRecDepth 100000
set_option maxHeartbeats 4000000 in
theorem walk_FnTextRoundTrip (W : World) (A0 : Option Addr) (n0 c0 : Nat) (l0 : List Int) (hS0 : Sl 1 RByt W A0 n0 l0) (hn0 : n0 ≤ maxLen) (hl0 : ∀ y ∈ l0, 0 ≤ y ∧ y ≤ 255) (hT : PowT W) (hE : ErrV W) (hX : HexE W) : Calls Tryd.prog 11 #[.slice A0 n0 c0] W fun e w' => e = .returned (.bool true) ∧ Below W.heap.size W w' := by
  by_cases hc : n0 ≤ 1048576
  · have HD := Lib.hid (spec_DrawPlaces A0 n0 c0 l0 W hS0 hc hl0)
    have HT := Lib.hid hT
    have HE := Lib.hid hE
    have HX := Lib.hid hX
    clear hS0 hl0 hT hE hX
    go_enter Tryd.func11, Tryd.ntmps11
    go_wp2_with fail
    refine (laws_big_f A0 n0 c0 _ hc).mono ?_; rintro e w0 ⟨rfl, rfl⟩
    go_wp2_with fail
    refine HD.out.mono ?_; rintro e w1 ⟨A', c', ps, rfl, hR, hp, hb1⟩
    have hpl := hR.len
    obtain ⟨g, rfl, hgB, hgl, _, _, hcl⟩ := hR.cell encInt (by omega)
    have hcl2 : ∀ i (h : i < ps.length), w1.cell? ⟨g, i, none⟩ = some (.int .i64 ps[i]) := fun i h => by
      have := hcl i h 0 _ rfl
      simpa using this
    have hp0 : ∀ i (h : i < ps.length), 0 ≤ ps[i] ∧ ps[i] < 10000 := fun i h => hp _ (List.getElem_mem h)
    obtain ⟨p0, c0', b0⟩ : ∃ p, w1.cell? ⟨g, 0, none⟩ = some (.int .i64 p) ∧ 0 ≤ p ∧ p < 10000 := ⟨_, hcl2 0 (by omega), hp0 0 _⟩
    obtain ⟨p1, c1', b1⟩ : ∃ p, w1.cell? ⟨g, 1, none⟩ = some (.int .i64 p) ∧ 0 ≤ p ∧ p < 10000 := ⟨_, hcl2 1 (by omega), hp0 1 _⟩
    obtain ⟨p2, c2', b2⟩ : ∃ p, w1.cell? ⟨g, 2, none⟩ = some (.int .i64 p) ∧ 0 ≤ p ∧ p < 10000 := ⟨_, hcl2 2 (by omega), hp0 2 _⟩
    obtain ⟨p3, c3', b3⟩ : ∃ p, w1.cell? ⟨g, 3, none⟩ = some (.int .i64 p) ∧ 0 ≤ p ∧ p < 10000 := ⟨_, hcl2 3 (by omega), hp0 3 _⟩
    obtain ⟨p4, c4', b4⟩ : ∃ p, w1.cell? ⟨g, 4, none⟩ = some (.int .i64 p) ∧ 0 ≤ p ∧ p < 10000 := ⟨_, hcl2 4 (by omega), hp0 4 _⟩
    obtain ⟨p5, c5', b5⟩ : ∃ p, w1.cell? ⟨g, 5, none⟩ = some (.int .i64 p) ∧ 0 ≤ p ∧ p < 10000 := ⟨_, hcl2 5 (by omega), hp0 5 _⟩
    obtain ⟨p6, c6', b6⟩ : ∃ p, w1.cell? ⟨g, 6, none⟩ = some (.int .i64 p) ∧ 0 ≤ p ∧ p < 10000 := ⟨_, hcl2 6 (by omega), hp0 6 _⟩
    obtain ⟨p7, c7', b7⟩ : ∃ p, w1.cell? ⟨g, 7, none⟩ = some (.int .i64 p) ∧ 0 ≤ p ∧ p < 10000 := ⟨_, hcl2 7 (by omega), hp0 7 _⟩
    have HB1 := Lib.hid hb1
    have HCL := Lib.hid (And.intro c0' (And.intro c1' (And.intro c2' (And.intro c3' c4'))))
    obtain ⟨f, hf⟩ : ∃ f : ByteArray, ⟨(Lib.itoa p5).toArray⟩ = f := ⟨_, rfl⟩
    have HFI := Lib.hid fun w' (h : PowT w') => impl_FormatInt p5 (by omega) (by omega) w' h
    rw [hf] at HFI
    have hfz : f.size ≤ 21 := by
      rw [← hf]; exact itoa_short _ (by omega) (by omega)
    clear hf hR hp hpl hcl hcl2 hp0 hb1 c0' c1' c2' c3' c4'
    have hw6 : 0 ≤ IntKind.u8.wrap p6 ∧ IntKind.u8.wrap p6 < 256 := by simp [IntKind.wrap, IntKind.bits, IntKind.signed]; omega
    have hw7 : 0 ≤ IntKind.u8.wrap p7 ∧ IntKind.u8.wrap p7 < 256 := by simp [IntKind.wrap, IntKind.bits, IntKind.signed]; omega
    obtain ⟨k, hk, hkz⟩ : ∃ k : ByteArray, (⟨#[UInt8.ofNat (IntKind.u8.wrap p6).toNat, UInt8.ofNat (IntKind.u8.wrap p7).toNat]⟩ : ByteArray) = k ∧ k.size = 2 := ⟨_, rfl, rfl⟩
    have HCG := Lib.hid fun (Wq : World) (b : Nat) (h5 : Wq.cell? ⟨b, 0, none⟩ = some (.int .u8 (IntKind.u8.wrap p6))) (h6 : Wq.cell? ⟨b, 1, none⟩ = some (.int .u8 (IntKind.u8.wrap p7))) => run_bytes2 (P := Tryd.prog) Wq _ _ 5 ⟨b, 0, none⟩ 2 _ _ Tryd.underlying30 Tryd.underlying5 Tryd.underlying9 hw6.1 hw6.2 hw7.1 hw7.2 h5 h6
    rw [hk] at HCG
    have hcA : ∀ Wq : World, (convert 30 9 (.slice (some ⟨Wq.heap.size, 0, none⟩) 2 2)).run Tryd.prog (Wq.alloc (.cells #[.int .u8 (IntKind.u8.wrap p6), .int .u8 (IntKind.u8.wrap p7)] 5)) = .ok (.string k) (Wq.alloc (.cells #[.int .u8 (IntKind.u8.wrap p6), .int .u8 (IntKind.u8.wrap p7)] 5)) :=
      fun Wq => HCG.out _ _ (by simp) (by simp)
    have hcD : ∀ Wq : World, (convert 30 9 (.slice (some ⟨Wq.heap.size, 0, none⟩) 2 2)).run Tryd.prog (Wq.alloc (.cells #[.int .u8 (IntKind.u8.wrap p6), .int .u8 (IntKind.u8.wrap p7)] 5)).drew = .ok (.string k) (Wq.alloc (.cells #[.int .u8 (IntKind.u8.wrap p6), .int .u8 (IntKind.u8.wrap p7)] 5)).drew :=
      fun Wq => HCG.out _ _ (by simp) (by simp)
    clear hw6 hw7 hk
    go_upto_region 4 with fail
    go_cut [4] (fun s4 w' => ∃ t : ByteArray, s4 = .string t ∧ t.size ≤ 23 ∧ Below W.heap.size W w' ∧ Below w1.heap.size w1 w')
    case first =>
      go_region_with (first
        | (go_at_call 24; (refine (HFI.out _ ?hh).mono ?_); (case hh => refine tab_on HT.out (ex_trans HB1.out ?_); go_grown); (rintro e w2 ⟨rfl, hb2⟩); (have y5 := keep_cell hb2 (a := ⟨g, 5, none⟩) (v := .int .i64 p5) ?y5); (case y5 => go_simp); (have y6 := keep_cell hb2 (a := ⟨g, 6, none⟩) (v := .int .i64 p6) ?y6); (case y6 => go_simp); (have y7 := keep_cell hb2 (a := ⟨g, 7, none⟩) (v := .int .i64 p7) ?y7); (case y7 => go_simp); have HB2 := Lib.hid (ex_trans (w := w1) ?zb hb2); (case zb => go_grown); have s2 := hb2.size; (try simp at s2); (have g2 : g < w2.heap.size := (by omega)); (obtain ⟨hcc2, hff2⟩ := bcell hb2); (first | (have z0 := keep_cell hb2 (a := ⟨w1.heap.size, 0, none⟩) (v := .int .u8 (IntKind.u8.wrap p6)) ?z0; (case z0 => (go_simp; done)); have z1 := keep_cell hb2 (a := ⟨w1.heap.size, 1, none⟩) (v := .int .u8 (IntKind.u8.wrap p7)) ?z1; (case z1 => (go_simp; done)); have hcB := HCG.out w2 w1.heap.size z0 z1; have hcB2 := HCG.out w2.drew w1.heap.size z0 z1) | skip); clear hb2))
      all_goals
        go_wp2_with fail
        go_meet
        have hB2 := HB2.out
        refine ⟨f ++ k, rfl, by rw [ByteArray.size_append]; omega, ex_trans HB1.out ?_, ?_⟩
        · go_grown
        · go_grown
    case rest =>
      generalize wc = w8 at *
      obtain ⟨t, rfl, htz, hbW, hb8⟩ := hcut
      have c0' := keep_cell hb8 HCL.out.1
      have c1' := keep_cell hb8 HCL.out.2.1
      have c2' := keep_cell hb8 HCL.out.2.2.1
      have c3' := keep_cell hb8 HCL.out.2.2.2.1
      have c4' := keep_cell hb8 HCL.out.2.2.2.2
      have HB8 := Lib.hid hbW
      have HC8 := Lib.hid (And.intro c0' (And.intro c1' (And.intro c2' (And.intro c3' c4'))))
      clear hbW hb8 HCL HB1 HFI HCG hcA hcD c0' c1' c2' c3' c4' c5' c6' c7'
      obtain ⟨h, hh, hsz, hd1, hd2⟩ : ∃ h : ByteArray, (⟨(Lib.Hx.encode t.data.toList).toArray⟩ : ByteArray) = h ∧ h.size = 2 * t.size ∧ dhS h = t ∧ dhB h = true := by
        refine ⟨_, rfl, ?_, ?_⟩
        · show (Lib.Hx.encode t.data.toList).toArray.size = _
          rw [List.size_toArray, Lib.Hx.encode_length, ← Lib.size_eq]
        · have := dhY (s := ⟨(Lib.Hx.encode t.data.toList).toArray⟩) (dh_some.2 ⟨by rw [← Lib.size_eq]; omega, rfl⟩ : dh _ = some t.data.toList)
          exact ⟨this.1.trans (ByteArray.ext (by simp)), this.2⟩
      have HEN := Lib.hid fun w => impl_EncodeHexY t (by omega) w
      have HDE := Lib.hid fun w he => impl_DecodeHex h (by omega) w he
      rw [hh] at HEN
      rw [hd1, hd2] at HDE
      clear hh hd1 hd2
      obtain ⟨N, hN⟩ : ∃ N, p0 * 10000 + p1 = N := ⟨_, rfl⟩
      have hN0 : 0 ≤ N ∧ N < 100000000 := by omega
      have hq1 : IntKind.i64.wrap (p0 * 10000) = p0 * 10000 := IntWalk.i64_in _ (by omega)
      have hq2 : IntKind.i64.wrap (p0 * 10000 + p1) = N := (IntWalk.i64_in _ (by omega)).trans hN
      obtain ⟨f2, hf2, hf2z, hv1, hv2⟩ : ∃ f : ByteArray, (⟨(Lib.itoa N).toArray⟩ : ByteArray) = f ∧ f.size ≤ 21 ∧ puV f.data.toList = N ∧ puB f.data.toList = true := by
        refine ⟨_, rfl, itoa_short _ (by omega) (by omega), ?_⟩
        have := puS (pu_ok (l := Lib.itoa N) (v := N) (itoa_le10 N hN0.1 hN0.2) hN0.1 (by omega) rfl)
        refine ⟨this.1.trans (by omega), this.2⟩
      have HFN := Lib.hid fun w (ht : PowT w) => impl_FormatInt N (by omega) (by omega) w ht
      have HPU := Lib.hid fun w (ht : PowT w) (he : ErrV w) => impl_ParseUint f2 (by omega) w ht he
      rw [hf2] at HFN
      rw [hv1, hv2] at HPU
      clear hf2 hv1 hv2 hN
      obtain ⟨M, hM⟩ : ∃ M, p2 - 5000 = M := ⟨_, rfl⟩
      obtain ⟨Q, hQ⟩ : ∃ Q, -p3 = Q := ⟨_, rfl⟩
      have hq3 : IntKind.i64.wrap (p2 - 5000) = M := (IntWalk.i64_in _ (by omega)).trans hM
      have hq4 : IntKind.i64.wrap (-p3) = Q := (IntWalk.i64_in _ (by omega)).trans hQ
      have hq5 : IntKind.i64.wrap (2 * (t.size : Int)) = (h.size : Int) := (IntWalk.i64_in _ (by omega)).trans (by omega)
      obtain ⟨B, hB, hB1, hB2, hB3⟩ : ∃ B, clampI M Q p4 = B ∧ Q ≤ B ∧ B ≤ p4 ∧ clampI B Q p4 = B := by
        refine ⟨_, rfl, ?_⟩
        unfold clampI
        split
        · rw [if_neg (by omega), if_neg (by omega)]; omega
        · split
          · rw [if_neg (by omega), if_neg (by omega)]; omega
          · omega
      have HC1 := Lib.hid fun w => impl_Clamp M Q p4 w
      have HC2 := Lib.hid fun w => impl_Clamp B Q p4 w
      rw [hB] at HC1
      rw [hB3] at HC2
      clear hB hB3 hM hQ hsz
      go_wp2_with fail
      refine (HEN.out _).mono ?_; rintro e w3 ⟨rfl, hb3⟩
      go_wp2_with fail
      refine (HDE.out _ (HX.out.on (ex_trans HB8.out hb3))).mono ?_; rintro e w4 ⟨rfl, hb4⟩
      have hbW4 := ex_trans HB8.out (ex_trans hb3 hb4)
      have d0 := keep_cell (ex_trans hb3 hb4) HC8.out.1
      have d1 := keep_cell (ex_trans hb3 hb4) HC8.out.2.1
      have d2 := keep_cell (ex_trans hb3 hb4) HC8.out.2.2.1
      have d3 := keep_cell (ex_trans hb3 hb4) HC8.out.2.2.2.1
      have d4 := keep_cell (ex_trans hb3 hb4) HC8.out.2.2.2.2
      have HB4 := Lib.hid hbW4
      have HC4 := Lib.hid (And.intro d2 (And.intro d3 d4))
      clear hb3 hb4 hbW4 d2 d3 d4
      go_upto_region 7 with fail
      go_quiet (fail)
      have hbq := ex_drewN (Below.refl w4.heap.size w4) nq
      generalize w4.drewN nq = w5 at *
      have d2 := keep_cell hbq HC4.out.1
      have d3 := keep_cell hbq HC4.out.2.1
      have d4 := keep_cell hbq HC4.out.2.2
      have HB5 := Lib.hid (ex_trans HB4.out hbq)
      have HC5 := Lib.hid (And.intro d2 (And.intro d3 d4))
      clear hbq d0 d1 d2 d3 d4
      go_wp2_with fail
      refine (HFN.out _ (tab_on HT.out HB5.out)).mono ?_; rintro e w6 ⟨rfl, hb6⟩
      go_wp2_with fail
      refine (HPU.out _ (tab_on HT.out (ex_trans HB5.out hb6)) (HE.out.on (ex_trans HB5.out hb6))).mono ?_; rintro e w7 ⟨rfl, hb7⟩
      have d2 := keep_cell (ex_trans hb6 hb7) HC5.out.1
      have d3 := keep_cell (ex_trans hb6 hb7) HC5.out.2.1
      have d4 := keep_cell (ex_trans hb6 hb7) HC5.out.2.2
      have HB7 := Lib.hid (ex_trans HB5.out (ex_trans hb6 hb7))
      clear hb6 hb7
      go_upto_region 9 with fail
      go_quiet ((go_at_call 38; exact Calls.quiet_of_same (HC1.out _)))
      have hbq := ex_drewN (Below.refl w7.heap.size w7) nq
      generalize w7.drewN nq = w9 at *
      have e3 := keep_cell hbq d3
      have e4 := keep_cell hbq d4
      have HB9 := Lib.hid (ex_trans HB7.out hbq)
      clear hbq d2 d3 d4
      go_upto_region 10 with fail
      go_quiet ((go_at_call 38; exact Calls.quiet_of_same (HC2.out _)))
      go_wp2_with fail
      go_returns
      exact ⟨rfl, ex_drewN HB9.out _⟩
  · go_enter Tryd.func11, Tryd.ntmps11
    go_wp2_with fail
    refine (laws_big_t A0 n0 c0 _ (by omega)).mono ?_; rintro e w0 ⟨rfl, rfl⟩
    go_wp2_with fail
    go_returns
    exact ⟨rfl, Below.refl _ _⟩
theorem core_FnTextRoundTrip {H : Type} (enc : TypeId × Value → H) (W : World) (base : Nat) (args : Array Value) (ds : List (DataW H)) (p : List MemPlace)
    (hL : laidMetH Tryd.prog Rows.fnTextRoundTripRow.laid W) (hA : DataW.TrodAll enc Tryd.prog W 0 (fun _ => true) true Tryd.f11.params.toList args.toList ds p)
    (hval : ∀ (j : Nat) t v, Tryd.f11.params[j]? = some t → args[j]? = some v → Value.okWide Tryd.prog W .any base t v) :
    Calls Tryd.prog 11 args W fun e W' => e = .returned (.bool true) ∧ Below W.heap.size W W' := by
  rw [Tryd.params11] at hA hval
  obtain ⟨u0, vs0, d0, ds0, p0, q0, hargs, rfl, rfl, h0, r0⟩ := trodAll_cons hA
  obtain ⟨rfl, rfl, rfl⟩ := trodAll_nil r0
  obtain rfl : args = #[u0] := by cases args; simp_all
  obtain ⟨ad0, ln0, cp0, rfl⟩ := okWide_slice Tryd.underlying30 (hval 0 30 u0 rfl rfl)
  obtain ⟨fu0, g0⟩ := h0
  obtain ⟨A0, n0, c0, l0, e0, hn0, _, hS0, hl0⟩ := opens_slice Tryd.underlying30 (by omega) Op_byt g0
  simp only [Value.cells, List.cons.injEq, Value.slice.injEq, and_true] at e0
  obtain ⟨rfl, rfl, rfl⟩ := e0
  have hL' : laidMet Tryd.prog Rows.fnTextRoundTripRow.laid W := by rw [MakeChecks.laidMetH_plain _ _ _ (by kernel_rfl)] at hL; exact hL
  have hT : PowT W := Lib.tabBelow_of_tabIs (laid_tab (rest := Rows.fnTextRoundTripRow.laid.drop 3) (name := "internal/strconv.uint64pow10") (k := .u64) (zs := Lib.pow10Tab) (g := 5) 2 hL' (by kernel_rfl) (by kernel_rfl) (by kernel_rfl) Tryd.underlying122 Tryd.underlying99 (by kernel_rfl) (by kernel_rfl))
  obtain ⟨a91, k91⟩ := laid_err (g := 3) 4 hL' rfl (by kernel_rfl) (by kernel_rfl)
  obtain ⟨a92, k92⟩ := laid_err (g := 4) 3 hL' rfl (by kernel_rfl) (by kernel_rfl)
  have hE : ErrV W := ⟨⟨_, k91, .inr ⟨_, _, rfl⟩⟩, _, k92, .inr ⟨_, _, rfl⟩⟩
  obtain ⟨a93, k93⟩ := laid_err (g := 1) 5 hL' rfl (by kernel_rfl) (by kernel_rfl)
  have hX : HexE W := ⟨_, _, k93⟩
  exact walk_FnTextRoundTrip W ad0 ln0 cp0 l0 hS0 hn0 hl0 hT hE hX
theorem door_FnTextRoundTrip (os : Os) : laidMetH Tryd.prog Rows.fnTextRoundTripRow.laid ((World.doorLaid Tryd.prog 105 os).forCall (fun _ _ => 0) ⟨#[], #[.slice none 0 0], []⟩).memory :=
  laidMetH_of_parts3 (fuel := 8) (laidMet_of_run' 8 (by kernel_rfl) (by kernel_rfl)) (by kernel_rfl) (by kernel_rfl)
theorem some_FnTextRoundTrip (os : Os) {H : Type} (enc : TypeId × Value → H) : (DataW.whole enc Tryd.prog ((World.doorLaid Tryd.prog 105 os).forCall (fun _ _ => 0) ⟨#[], #[.slice none 0 0], []⟩).memory Tryd.f11.params.toList Rows.fnTextRoundTripSpec.vars false #[.slice none 0 0].toList 8).isSome = true := by kernel_rfl
set_option maxRecDepth 100000 in
theorem lifted_FnTextRoundTrip (os : Os) (started : os.Started) (H : Type) (enc : TypeId × Value → H) (F : Stop.Interp) :
    ReturnsInHanded {} Tryd.checked os 11 .any ((OpenSpec.ofChange Rows.fnTextRoundTripSpec).preRow enc Tryd.prog Tryd.f11 Rows.fnTextRoundTripRow.domain false Rows.fnTextRoundTripRow.laid) (((OpenSpec.ofChange Rows.fnTextRoundTripSpec).at F).post enc Tryd.prog Tryd.f11 false true false false) :=
  law_laid (C := Tryd.checked) (tb := 4) (n := 1) F own started (by kernel_rfl) Tryd.func11 rfl (by kernel_rfl) Tryd.underlying4 (by kernel_rfl)
    (fun ds h => by match ds, h with | [_], _ => rfl) laidOut' (by kernel_rfl)
    (witness_row_atRef (enc := enc) (C := Tryd.checked) false (World.doorLaid Tryd.prog 105 os) #[.slice none 0 0] rfl (by kernel_rfl) (by kernel_rfl) (by kernel_rfl)
      (OpenSpec.preRow_of_cond 8 (Option.some_get (some_FnTextRoundTrip os enc)).symm (by kernel_rfl) (fun k hk => by cases hk) (by kernel_rfl) (door_FnTextRoundTrip os)))
    (fun W base args ds p hL hA hval => core_FnTextRoundTrip enc W base args ds p hL hA hval)
theorem said_FnTextRoundTrip : Rows.FnTextRoundTripSaid :=
  OpenClaim.holds_of_cond 11 Tryd.f11 rfl rfl rfl rfl rfl rfl rfl ⟨rfl, rfl, rfl, rfl, rfl⟩ rfl rfl rfl rfl rfl (by kernel_rfl) Tryd.func11 (by kernel_rfl)
    (of_decide_eq_true (by kernel_rfl)) (by unfold Func.isWrapper; first | (rw [if_pos (by decide +kernel)]; kernel_rfl) | (rw [if_neg (by decide +kernel)]; exact ⟨rfl, rfl⟩))
    (fun os started H enc _ F => by rw [OpenClaim.pre_eq_preRow]; exact lifted_FnTextRoundTrip os started H enc F)
theorem plain_FnTextRoundTrip (f : FuncId) (fn : Func) (hf : Tryd.pinned.checked.prog.funcNamed "loop.example/g00976/laws.FnTextRoundTrip" = some f) (hfn : Tryd.pinned.checked.prog.funcs[f]? = some fn) :
    true = Tryd.pinned.checked.prog.looks [] ∧ ∀ (j : Nat) t, fn.params[j]? = some t → Tryd.pinned.checked.prog.wantsStandIn t = false := by
  obtain rfl : f = 11 := Option.some.inj ((show Tryd.prog.funcNamed "loop.example/g00976/laws.FnTextRoundTrip" = some 11 by kernel_rfl).symm.trans hf) |>.symm
  obtain rfl : fn = Tryd.f11 := (Option.some.inj (Tryd.func11.symm.trans hfn)).symm
  refine ⟨by kernel_rfl, fun j t ht => ?_⟩
  have hall : (Tryd.f11.params.toList.all fun u => !Tryd.prog.wantsStandIn u) = true := by kernel_rfl
  have hm : t ∈ Tryd.f11.params.toList := by simpa using Array.mem_of_getElem? ht
  exact (show Tryd.prog.wantsStandIn t = false by simpa using List.all_eq_true.1 hall t hm)
theorem holds_FnTextRoundTrip : Rows.FnTextRoundTripCardSaid :=
  Claim7.holds_tied_plain_at .later [] _ _ _ _ said_FnTextRoundTrip (fun _ h => by cases h) (by kernel_rfl) (fun _ h => by cases h) fnTextRoundTrip_row_tie rfl ⟨rfl, rfl⟩ (by kernel_rfl) rfl plain_FnTextRoundTrip (by kernel_rfl)
end Go.Proofs.YtkoagijliokhlaaDoor
