/-
  CONTRACTS: values as text, and back; hexadecimal text read.
-/
import Derived.WalkKit
import Derived.WalkSpells
import Derived.WalkLawsBesides
import Derived.Lib.Hide
import Derived.Handy
import Derived.Laws.IdiomStrings
import Derived.Laws.BytesArg
import Derived.StillTailTactics
import Derived.Deep.Light
import Derived.Deep.QuietTactic
import Derived.BigQuiet
import Derived.Deep.RegionHeld3
import Derived.Lib.SplitLaws
import Derived.Lib.ConvBytes
import Derived.Lib.AppendIntMem
import Derived.Lib.AtoiAllCases
import Derived.Test.YtkoagijliokhlaaDoorLib
import Derived.Test.YtkoagijliokhlaaDoorOwn
import Derived.Test.YtkoagijliokhlaaDoorRow
import Derived.Test.YtkoagijliokhlaaDoorN0
import Derived.Test.YtkoagijliokhlaaDoorHld
import Derived.Test.YtkoagijliokhlaaDoorSz
import Derived.Test.YtkoagijliokhlaaDoorC1
import Derived.Test.YtkoagijliokhlaaDoorC2
import Derived.Test.YtkoagijliokhlaaDoorC4
import Derived.Test.YtkoagijliokhlaaDoorD1
import Derived.Test.YtkoagijliokhlaaDoorX0
import Derived.Test.YtkoagijliokhlaaDoorX1
import Derived.Test.YtkoagijliokhlaaDoorX2
import Derived.Test.YtkoagijliokhlaaDoorX3
import Derived.Test.YtkoagijliokhlaaDoorShelf
import Derived.Test.YtkoagijliokhlaaDoorRows
namespace Go.Proofs.YtkoagijliokhlaaDoor
open Go.RowKit
set_option linter.unusedVariables false
set_option maxRecDepth 100000
noncomputable def fmtV (v : Vl) : ByteArray := if okVl v then (if v.kind = 1 then ⟨(Lib.itoa v.int).toArray⟩ else if v.kind = 2 then v.str else ⟨#[45]⟩) else ⟨#[63]⟩
theorem okVl_int {v : Vl} (h : okVl v = true) (hk : v.kind = 1) : 0 ≤ v.int ∧ v.int ≤ 999 := by
  unfold okVl at h
  rw [hk] at h
  simp [inB] at h
  omega
theorem fmtV_cases (v : Vl) : (okVl v = false ∧ fmtV v = ⟨#[63]⟩) ∨ (okVl v = true ∧ v.kind = 1 ∧ 0 ≤ v.int ∧ v.int ≤ 999 ∧ fmtV v = ⟨(Lib.itoa v.int).toArray⟩) ∨ (okVl v = true ∧ v.kind = 2 ∧ fmtV v = v.str) ∨ (okVl v = true ∧ ¬ v.kind = 1 ∧ ¬ v.kind = 2 ∧ fmtV v = ⟨#[45]⟩) := by
  cases ho : okVl v with
  | false => exact .inl ⟨rfl, by unfold fmtV; rw [ho]; rfl⟩
  | true =>
    by_cases h1 : v.kind = 1
    · exact .inr (.inl ⟨rfl, h1, (okVl_int ho h1).1, (okVl_int ho h1).2, by unfold fmtV; rw [ho, if_pos rfl, if_pos h1]⟩)
    · by_cases h2 : v.kind = 2
      · exact .inr (.inr (.inl ⟨rfl, h2, by unfold fmtV; rw [ho, if_pos rfl, if_neg h1, if_pos h2]⟩))
      · exact .inr (.inr (.inr ⟨rfl, h1, h2, by unfold fmtV; rw [ho, if_pos rfl, if_neg h1, if_neg h2]⟩))
set_option maxHeartbeats 1600000 in
theorem impl_FormatValue (v : Vl) (w : World) (hv : v.str.size ≤ 1073741824) (hT : PowT w) : Calls Tryd.prog 19 #[v.v] w fun e w' => e = .returned (.string (fmtV v)) ∧ Below w.heap.size w w' := by
  have HF := Lib.hid (fmtV_cases v)
  have HT := Lib.hid hT
  clear hT
  have HV := Lib.hid fun w' => impl_IsValidValue v w' hv
  go_enter Tryd.func19, Tryd.ntmps19
  go_wp2_with fail
  refine (HV.out _).mono ?_; rintro e w1 ⟨rfl, hb1⟩
  have hbx := below_keep hb1 (hp_new rfl)
  have u0 := blk_cell? hbx 0
  have u1 := blk_cell? hbx 1
  have u2 := blk_cell? hbx 2
  simp only [List.getElem?_toArray, List.getElem?_cons_zero, List.getElem?_cons_succ] at u0 u1 u2
  replace hb1 : Below w.heap.size w w1 := ex_trans (by go_grown) hb1
  clear hbx
  rcases HF.out with ⟨ho, hf⟩ | ⟨ho, hk, h0, h9, hf⟩ | ⟨ho, hk, hf⟩ | ⟨ho, hk1, hk2, hf⟩
  · rw [ho]
    have HFF := Lib.hid hf
    clear hf ho HF HV
    go_wp2_with fail
    go_returns
    exact ⟨ret_str HFF.out.symm, hb1⟩
  · rw [ho]
    have HFF := Lib.hid hf
    clear hf ho HF HV
    have hk1 : (v.kind == 1) = true := by simpa using hk
    go_wp2_with fail
    refine (impl_FormatInt v.int (by omega) (by omega) _ (tab_on HT.out hb1)).mono ?_; rintro e w2 ⟨rfl, hb2⟩
    go_wp2_with fail
    go_returns
    exact ⟨ret_str HFF.out.symm, ex_trans hb1 hb2⟩
  · rw [ho]
    have HFF := Lib.hid hf
    clear hf ho HF HV
    have hk1 : (v.kind == 1) = false := by rw [hk]; rfl
    have hk2 : (v.kind == 2) = true := by simpa using hk
    go_wp2_with fail
    go_returns
    exact ⟨ret_str HFF.out.symm, hb1⟩
  · rw [ho]
    have HFF := Lib.hid hf
    clear hf ho HF HV
    have hk3 : (v.kind == 1) = false := by simpa using hk1
    have hk4 : (v.kind == 2) = false := by simpa using hk2
    go_wp2_with fail
    go_returns
    exact ⟨ret_str HFF.out.symm, hb1⟩
set_option maxHeartbeats 1600000 in
theorem spec_FormatValue (v : Vl) (w : World) (hv : v.str.size ≤ 1073741824) : Calls Tryd.prog 21 #[v.v] w fun e w' => e = .returned (.string (fmtV v)) ∧ Below w.heap.size w w' := by
  have HF := Lib.hid (fmtV_cases v)
  have HV := Lib.hid fun w' => spec_IsValidValue v w' hv
  go_enter Tryd.func21, Tryd.ntmps21
  go_wp2_with fail
  refine (HV.out _).mono ?_; rintro e w1 ⟨rfl, hb1⟩
  have hbx := below_keep hb1 (hp_new rfl)
  have u0 := blk_cell? hbx 0
  have u1 := blk_cell? hbx 1
  have u2 := blk_cell? hbx 2
  simp only [List.getElem?_toArray, List.getElem?_cons_zero, List.getElem?_cons_succ] at u0 u1 u2
  replace hb1 : Below w.heap.size w w1 := ex_trans (by go_grown) hb1
  clear hbx
  rcases HF.out with ⟨ho, hf⟩ | ⟨ho, hk, h0, h9, hf⟩ | ⟨ho, hk, hf⟩ | ⟨ho, hk1, hk2, hf⟩
  · rw [ho]
    have HFF := Lib.hid hf
    clear hf ho HF HV
    go_wp2_with fail
    go_returns
    exact ⟨ret_str HFF.out.symm, hb1⟩
  · rw [ho]
    have HFF := Lib.hid hf
    clear hf ho HF HV
    have hk1 : (v.kind == 1) = true := by simpa using hk
    go_wp2_with fail
    refine (spec_FormatInt v.int (by omega) (by omega) _).mono ?_; rintro e w2 ⟨rfl, hb2⟩
    go_wp2_with fail
    go_returns
    exact ⟨ret_str HFF.out.symm, ex_trans hb1 hb2⟩
  · rw [ho]
    have HFF := Lib.hid hf
    clear hf ho HF HV
    have hk1 : (v.kind == 1) = false := by rw [hk]; rfl
    have hk2 : (v.kind == 2) = true := by simpa using hk
    go_wp2_with fail
    go_returns
    exact ⟨ret_str HFF.out.symm, hb1⟩
  · rw [ho]
    have HFF := Lib.hid hf
    clear hf ho HF HV
    have hk3 : (v.kind == 1) = false := by simpa using hk1
    have hk4 : (v.kind == 2) = false := by simpa using hk2
    go_wp2_with fail
    go_returns
    exact ⟨ret_str HFF.out.symm, hb1⟩
def dash : ByteArray := ⟨#[45]⟩
/-- what is parsed ahead of the last test -/
def pv0 (s : ByteArray) : Vl := match pu s.data.toList with | some n => intV n | none => if s = dash then Vl.zero else strV s
noncomputable def pvB (s : ByteArray) : Bool := okVl (pv0 s)
noncomputable def pvV (s : ByteArray) : Vl := if pvB s then pv0 s else Vl.zero
theorem okVl_zero : okVl Vl.zero = true := by unfold okVl Vl.zero; simp [ByteArray.toList_eq]
theorem pu_dash : pu dash.data.toList = none := pu_sign (by decide)
theorem pv_dash : pvV dash = Vl.zero ∧ pvB dash = true := by
  have h : pv0 dash = Vl.zero := by unfold pv0; rw [pu_dash]; simp
  have h2 : pvB dash = true := by unfold pvB; rw [h]; exact okVl_zero
  exact ⟨by unfold pvV; rw [h2, h]; rfl, h2⟩
theorem pv_bad {s : ByteArray} (h : okVl (pv0 s) = false) : pvV s = Vl.zero ∧ pvB s = false := ⟨by unfold pvV pvB; rw [h]; rfl, h⟩
theorem pv_ok {s : ByteArray} (h : okVl (pv0 s) = true) : pvV s = pv0 s ∧ pvB s = true := ⟨by unfold pvV pvB; rw [h]; rfl, h⟩
/-- a valid value that was parsed is written as it was read -/
theorem fmt_pv0 {s : ByteArray} (hs : ¬ s = dash) (h : okVl (pv0 s) = true) : fmtV (pv0 s) = s := by
  unfold pv0 at h ⊢
  cases hp : pu s.data.toList with
  | some n =>
    rw [hp] at h
    simp only at h ⊢
    obtain ⟨_, _, he⟩ := pu_some.1 hp
    unfold fmtV
    rw [h, if_pos rfl, if_pos (show (intV (n : Int)).kind = 1 from rfl)]
    show (⟨(Lib.itoa (n : Int)).toArray⟩ : ByteArray) = s
    rw [itoa_nat, he]
  | none =>
    rw [hp] at h
    simp only at h ⊢
    rw [if_neg hs] at h ⊢
    unfold fmtV
    rw [h, if_pos rfl, if_neg (show ¬ (strV s).kind = 1 from (by decide : ¬ ((2 : Int) = 1))), if_pos (show (strV s).kind = 2 from rfl)]
    rfl
theorem ret_pv {s : ByteArray} {v : Vl} {b : Bool} (h : pvV s = v ∧ pvB s = b) : Ending.returned (.tuple #[v.v, .bool b]) = .returned (.tuple #[(pvV s).v, .bool (pvB s)]) := by rw [h.1, h.2]
theorem dash_list : dash.toList = [45] := by simp [ByteArray.toList_eq, dash]
theorem dash_ne {s : ByteArray} (h : ¬ s = dash) : (s.toList == [45]) = false := by
  rw [beq_eq_false_iff_ne]
  intro e
  exact h (toList_inj (e.trans dash_list.symm))
theorem pv_some {s : ByteArray} {n : Nat} (h : pu s.data.toList = some n) : pv0 s = intV n := by unfold pv0; rw [h]
theorem pv_none {s : ByteArray} (h : pu s.data.toList = none) (hd : ¬ s = dash) : pv0 s = strV s := by unfold pv0; rw [h]; simp only; rw [if_neg hd]
set_option maxHeartbeats 3200000 in
theorem spec_ParseValue (s : ByteArray) (hs : s.size ≤ 1048576) (w : World) :
    Calls Tryd.prog 12 #[.string s] w fun e w' => e = .returned (.tuple #[(pvV s).v, .bool (pvB s)]) ∧ Below w.heap.size w w' := by
  by_cases hd : s = dash
  · subst hd
    have HP := Lib.hid pv_dash
    have hq : (dash.toList == [45]) = true := by rw [dash_list]; rfl
    go_enter Tryd.func12, Tryd.ntmps12
    go_wp2_with fail
    go_returns
    exact ⟨ret_pv HP.out, by go_grown⟩
  · have hq := dash_ne hd
    have HD := Lib.hid hd
    have HPU := Lib.hid fun w' => spec_ParseUint s hs w'
    have HV := Lib.hid fun (v : Vl) (hv : v.str.size ≤ 1073741824) w' => spec_IsValidValue v w' hv
    have HF := Lib.hid fun (v : Vl) (hv : v.str.size ≤ 1073741824) w' => spec_FormatValue v w' hv
    clear hd
    cases hpu : pu s.data.toList with
    | none =>
      have HN := Lib.hid (puN hpu)
      have H0 := Lib.hid (pv_none hpu HD.out)
      clear hpu
      rw [HN.out.1, HN.out.2] at HPU
      go_enter Tryd.func12, Tryd.ntmps12
      go_wp2_with fail
      refine (HPU.out _).mono ?_; rintro e w1 ⟨rfl, hb1⟩
      have hr1 := below_keep hb1 (hp_new rfl)
      have hbw1 : Below w.heap.size w w1 := ex_trans (by go_grown) hb1
      have hz1 : w.heap.size < w1.heap.size := blk_lt hr1
      have HR1 := Lib.hid hr1
      clear hr1 hb1
      go_wp2_with fail
      refine (spec_StringValue s _).mono ?_; rintro e w2 ⟨rfl, hb2⟩
      have HR2 := Lib.hid (below_keep hb2 HR1.out)
      have hbw2 := ex_trans hbw1 hb2
      have hz2 : w.heap.size < w2.heap.size := blk_lt HR2.out
      clear hb2
      go_wp2_with fail
      refine (HV.out (strV s) (by show s.size ≤ _; omega) _).mono ?_; rintro e w3 ⟨rfl, hb3⟩
      have hvb3 := below_keep hb3 (hp_new rfl)
      have HR3 := Lib.hid (below_keep hb3 ((hp_old hz2).trans HR2.out))
      have hbw3 : Below w.heap.size w w3 := ex_trans (ex_alloc hbw2 _) hb3
      have hz3 : w.heap.size < w3.heap.size := blk_lt HR3.out
      have hvz3 : w2.heap.size < w3.heap.size := blk_lt hvb3
      have HVB3 := Lib.hid hvb3
      clear hb3 hvb3
      cases ho : okVl (strV s) with
      | false =>
        have HP := Lib.hid (pv_bad (s := s) (by rw [H0.out]; exact ho))
        clear ho
        have ur := blk_cell? HR3.out
        have r0 := blk_cell? HR3.out 0
        have r1 := blk_cell? HR3.out 1
        have r2 := blk_cell? HR3.out 2
        have rf := blk_free HR3.out
        simp only [List.getElem?_toArray, List.getElem?_cons_zero, List.getElem?_cons_succ] at r0 r1 r2
        go_wp2_with fail
        refine bodyPost_ret (v := .tuple #[Vl.zero.v, .bool false]) (by simp [results, Tryd.results12, go_sem, Vl.zero, ur]; rfl) rfl ?_
        exact ⟨ret_pv HP.out, sets_below (Nat.le_refl _) [.int .i64 0, .int .i64 0, .string ByteArray.empty] w w3 0 hbw3⟩
      | true =>
        have HP := Lib.hid (pv_ok (s := s) (by rw [H0.out]; exact ho))
        have HFV := Lib.hid (show fmtV (strV s) = s from by have h := fmt_pv0 HD.out (by rw [H0.out]; exact ho); rw [H0.out] at h; exact h)
        clear ho
        have y0 := blk_cell? HVB3.out 0
        have y1 := blk_cell? HVB3.out 1
        have y2 := blk_cell? HVB3.out 2
        simp only [List.getElem?_toArray, List.getElem?_cons_zero, List.getElem?_cons_succ] at y0 y1 y2
        go_wp2_with fail
        refine (HF.out (strV s) (by show s.size ≤ _; omega) _).mono ?_; rintro e w5 ⟨rfl, hb5⟩
        rw [HFV.out]
        have HR5 := Lib.hid (below_keep hb5 HR3.out)
        have HVB5 := Lib.hid (below_keep hb5 HVB3.out)
        have hbw5 := ex_trans hbw3 hb5
        have hne : (s.toList != s.toList) = false := by simp
        clear y0 y1 y2 hb5
        have ur := blk_cell? HR5.out
        have r0 := blk_cell? HR5.out 0
        have r1 := blk_cell? HR5.out 1
        have r2 := blk_cell? HR5.out 2
        have rf := blk_free HR5.out
        have y0 := blk_cell? HVB5.out 0
        have y1 := blk_cell? HVB5.out 1
        have y2 := blk_cell? HVB5.out 2
        simp only [List.getElem?_toArray, List.getElem?_cons_zero, List.getElem?_cons_succ] at r0 r1 r2 y0 y1 y2
        go_wp2_with fail
        refine bodyPost_ret (v := .tuple #[(strV s).v, .bool true]) (by simp [results, Tryd.results12, go_sem, ur]) rfl ?_
        exact ⟨ret_pv ⟨HP.out.1.trans H0.out, HP.out.2⟩, sets_below (Nat.le_refl _) [.int .i64 (strV s).kind, .int .i64 (strV s).int, .string (strV s).str] w w5 0 hbw5⟩
    | some n =>
      have HN := Lib.hid (puS hpu)
      have H0 := Lib.hid (pv_some hpu)
      clear hpu
      rw [HN.out.1, HN.out.2] at HPU
      go_enter Tryd.func12, Tryd.ntmps12
      go_wp2_with fail
      refine (HPU.out _).mono ?_; rintro e w1 ⟨rfl, hb1⟩
      have hr1 := below_keep hb1 (hp_new rfl)
      have hbw1 : Below w.heap.size w w1 := ex_trans (by go_grown) hb1
      have hz1 : w.heap.size < w1.heap.size := blk_lt hr1
      have HR1 := Lib.hid hr1
      clear hr1 hb1
      go_wp2_with fail
      refine (spec_StringValue s _).mono ?_; rintro e w2 ⟨rfl, hb2⟩
      have HR2 := Lib.hid (below_keep hb2 HR1.out)
      have hbw2 := ex_trans hbw1 hb2
      have hz2 : w.heap.size < w2.heap.size := blk_lt HR2.out
      clear hb2
      go_wp2_with fail
      refine (spec_IntValue _ _).mono ?_; rintro e w4 ⟨rfl, hb4⟩
      have hvb4 := below_keep hb4 (hp_new rfl)
      have y0 := blk_cell? hvb4 0
      have y1 := blk_cell? hvb4 1
      have y2 := blk_cell? hvb4 2
      have yf := blk_free hvb4
      simp only [List.getElem?_toArray, List.getElem?_cons_zero, List.getElem?_cons_succ] at y0 y1 y2
      have HR4 := Lib.hid (below_keep hb4 ((hp_old hz2).trans HR2.out))
      have hbw4 : Below w.heap.size w w4 := ex_trans (ex_alloc hbw2 _) hb4
      have hz4 : w.heap.size < w4.heap.size := blk_lt HR4.out
      have hv4 : w2.heap.size < w4.heap.size := blk_lt hvb4
      have HVB4 := Lib.hid hvb4
      clear hb4 hvb4
      go_wp2_with fail
      refine (HV.out (intV n) (by show ByteArray.empty.size ≤ _; simp) _).mono ?_; rintro e w3 ⟨rfl, hb3⟩
      have hvb3 : w3.heap[w2.heap.size]? = some (.cells #[.int .i64 (intV n).kind, .int .i64 (intV n).int, .string (intV n).str] 23 (0, 0)) := below_keep hb3 (sets_blk [.int .i64 (intV n).kind, .int .i64 (intV n).int, .string (intV n).str] w4 0 _ HVB4.out)
      have HR3 := Lib.hid (below_keep hb3 ((sets_far (by omega) [.int .i64 (intV n).kind, .int .i64 (intV n).int, .string (intV n).str] w4 0).trans HR4.out))
      have hbw3 : Below w.heap.size w w3 := ex_trans (sets_below (by omega) [.int .i64 (intV n).kind, .int .i64 (intV n).int, .string (intV n).str] w w4 0 hbw4) hb3
      clear y0 y1 y2 yf
      have hz3 : w.heap.size < w3.heap.size := blk_lt HR3.out
      have hvz3 : w2.heap.size < w3.heap.size := blk_lt hvb3
      have HVB3 := Lib.hid hvb3
      clear hb3 hvb3
      cases ho : okVl (intV n) with
      | false =>
        have HP := Lib.hid (pv_bad (s := s) (by rw [H0.out]; exact ho))
        clear ho
        have ur := blk_cell? HR3.out
        have r0 := blk_cell? HR3.out 0
        have r1 := blk_cell? HR3.out 1
        have r2 := blk_cell? HR3.out 2
        have rf := blk_free HR3.out
        simp only [List.getElem?_toArray, List.getElem?_cons_zero, List.getElem?_cons_succ] at r0 r1 r2
        go_wp2_with fail
        refine bodyPost_ret (v := .tuple #[Vl.zero.v, .bool false]) (by simp [results, Tryd.results12, go_sem, Vl.zero, ur]; rfl) rfl ?_
        exact ⟨ret_pv HP.out, sets_below (Nat.le_refl _) [.int .i64 0, .int .i64 0, .string ByteArray.empty] w w3 0 hbw3⟩
      | true =>
        have HP := Lib.hid (pv_ok (s := s) (by rw [H0.out]; exact ho))
        have HFV := Lib.hid (show fmtV (intV n) = s from by have h := fmt_pv0 HD.out (by rw [H0.out]; exact ho); rw [H0.out] at h; exact h)
        clear ho
        have y0 := blk_cell? HVB3.out 0
        have y1 := blk_cell? HVB3.out 1
        have y2 := blk_cell? HVB3.out 2
        simp only [List.getElem?_toArray, List.getElem?_cons_zero, List.getElem?_cons_succ] at y0 y1 y2
        go_wp2_with fail
        refine (HF.out (intV n) (by show ByteArray.empty.size ≤ _; simp) _).mono ?_; rintro e w5 ⟨rfl, hb5⟩
        rw [HFV.out]
        have HR5 := Lib.hid (below_keep hb5 HR3.out)
        have HVB5 := Lib.hid (below_keep hb5 HVB3.out)
        have hbw5 := ex_trans hbw3 hb5
        have hne : (s.toList != s.toList) = false := by simp
        clear y0 y1 y2 hb5
        have ur := blk_cell? HR5.out
        have r0 := blk_cell? HR5.out 0
        have r1 := blk_cell? HR5.out 1
        have r2 := blk_cell? HR5.out 2
        have rf := blk_free HR5.out
        have y0 := blk_cell? HVB5.out 0
        have y1 := blk_cell? HVB5.out 1
        have y2 := blk_cell? HVB5.out 2
        simp only [List.getElem?_toArray, List.getElem?_cons_zero, List.getElem?_cons_succ] at r0 r1 r2 y0 y1 y2
        go_wp2_with fail
        refine bodyPost_ret (v := .tuple #[(intV n).v, .bool true]) (by simp [results, Tryd.results12, go_sem, ur]) rfl ?_
        exact ⟨ret_pv ⟨HP.out.1.trans H0.out, HP.out.2⟩, sets_below (Nat.le_refl _) [.int .i64 (intV n).kind, .int .i64 (intV n).int, .string (intV n).str] w w5 0 hbw5⟩
set_option maxHeartbeats 3200000 in
theorem impl_ParseValue (s : ByteArray) (hs : s.size ≤ 1048576) (w : World) (hT : PowT w) (hE : ErrV w) :
    Calls Tryd.prog 13 #[.string s] w fun e w' => e = .returned (.tuple #[(pvV s).v, .bool (pvB s)]) ∧ Below w.heap.size w w' := by
  have HPU := Lib.hid fun w' (h1 : PowT w') (h2 : ErrV w') => impl_ParseUint s hs w' h1 h2
  have HV := Lib.hid fun (v : Vl) (hv : v.str.size ≤ 1073741824) w' => impl_IsValidValue v w' hv
  have HT := Lib.hid hT
  have HE := Lib.hid hE
  clear hT hE
  cases hpu : pu s.data.toList with
  | none =>
    have HN := Lib.hid (puN hpu)
    rw [HN.out.1, HN.out.2] at HPU
    by_cases hd : s = dash
    · have H0 := Lib.hid (show pv0 s = Vl.zero by unfold pv0; rw [hpu]; simp only; rw [if_pos hd])
      have hq : (s.toList == [45]) = true := by rw [hd, dash_list]; rfl
      have hq2 : (s.toList != [45]) = false := by rw [bne, hq]; rfl
      clear hpu hd
      go_enter Tryd.func13, Tryd.ntmps13
      go_wp2_with fail
      refine (HPU.out _ (tab_on HT.out (by go_grown)) (HE.out.on (by go_grown))).mono ?_; rintro e w1 ⟨rfl, hb1⟩
      have hr1 := below_keep hb1 (hp_new rfl)
      have hbw1 : Below w.heap.size w w1 := ex_trans (by go_grown) hb1
      have hz1 : w.heap.size < w1.heap.size := blk_lt hr1
      have HR1 := Lib.hid hr1
      clear hr1 hb1
      go_wp2_with fail
      refine (HV.out Vl.zero (by show ByteArray.empty.size ≤ _; simp) _).mono ?_; rintro e w3 ⟨rfl, hb3⟩
      have HVB3 := Lib.hid (show w3.heap[w1.heap.size]? = some (.cells #[.int .i64 Vl.zero.kind, .int .i64 Vl.zero.int, .string Vl.zero.str] 23 (0, 0)) from below_keep hb3 (hp_new rfl))
      have HR3 := Lib.hid (below_keep hb3 ((hp_old hz1).trans HR1.out))
      have hbw3 : Below w.heap.size w w3 := ex_trans (ex_alloc hbw1 _) hb3
      clear hb3
      have hz3 : w.heap.size < w3.heap.size := blk_lt HR3.out
      have hvz3 : w1.heap.size < w3.heap.size := blk_lt HVB3.out
      have ur := blk_cell? HR3.out
      have r0 := blk_cell? HR3.out 0
      have r1 := blk_cell? HR3.out 1
      have r2 := blk_cell? HR3.out 2
      have rf := blk_free HR3.out
      have y0 := blk_cell? HVB3.out 0
      have y1 := blk_cell? HVB3.out 1
      have y2 := blk_cell? HVB3.out 2
      simp only [List.getElem?_toArray, List.getElem?_cons_zero, List.getElem?_cons_succ] at r0 r1 r2 y0 y1 y2
      cases ho : okVl Vl.zero with
      | false =>
        have HP := Lib.hid (pv_bad (s := s) (by rw [H0.out]; exact ho))
        clear ho
        go_wp2_with fail
        refine bodyPost_ret (v := .tuple #[Vl.zero.v, .bool false]) (by simp [results, Tryd.results13, go_sem, Vl.zero, ur]; rfl) rfl ?_
        exact ⟨ret_pv HP.out, sets_below (Nat.le_refl _) [.int .i64 0, .int .i64 0, .string ByteArray.empty] w w3 0 hbw3⟩
      | true =>
        have HP := Lib.hid (pv_ok (s := s) (by rw [H0.out]; exact ho))
        clear ho
        go_wp2_with fail
        refine bodyPost_ret (v := .tuple #[Vl.zero.v, .bool true]) (by simp [results, Tryd.results13, go_sem, ur]) rfl ?_
        exact ⟨ret_pv ⟨HP.out.1.trans H0.out, HP.out.2⟩, sets_below (Nat.le_refl _) [.int .i64 Vl.zero.kind, .int .i64 Vl.zero.int, .string Vl.zero.str] w w3 0 hbw3⟩
    · have H0 := Lib.hid (pv_none hpu hd)
      have hq := dash_ne hd
      have hq2 : (s.toList != [45]) = true := by rw [bne, hq]; rfl
      clear hpu hd
      go_enter Tryd.func13, Tryd.ntmps13
      go_wp2_with fail
      refine (HPU.out _ (tab_on HT.out (by go_grown)) (HE.out.on (by go_grown))).mono ?_; rintro e w1 ⟨rfl, hb1⟩
      have hr1 := below_keep hb1 (hp_new rfl)
      have hbw1 : Below w.heap.size w w1 := ex_trans (by go_grown) hb1
      have hz1 : w.heap.size < w1.heap.size := blk_lt hr1
      have HR1 := Lib.hid hr1
      clear hr1 hb1
      go_wp2_with fail
      refine (impl_StringValue s _).mono ?_; rintro e w2 ⟨rfl, hb2⟩
      have hvb2 : w2.heap[w1.heap.size]? = some (.cells #[.int .i64 0, .int .i64 0, .string ByteArray.empty] 23 (0, 0)) := below_keep hb2 (hp_new rfl)
      have HR2 := Lib.hid (below_keep hb2 ((hp_old hz1).trans HR1.out))
      have hbw2 : Below w.heap.size w w2 := ex_trans (ex_alloc hbw1 _) hb2
      have y0 := blk_cell? hvb2 0
      have y1 := blk_cell? hvb2 1
      have y2 := blk_cell? hvb2 2
      have yf := blk_free hvb2
      simp only [List.getElem?_toArray, List.getElem?_cons_zero, List.getElem?_cons_succ] at y0 y1 y2
      have hz2 : w.heap.size < w2.heap.size := blk_lt HR2.out
      have hv2 : w1.heap.size < w2.heap.size := blk_lt hvb2
      have HVB2 := Lib.hid hvb2
      clear hb2 hvb2
      go_wp2_with fail
      refine (HV.out (strV s) (by show s.size ≤ _; omega) _).mono ?_; rintro e w3 ⟨rfl, hb3⟩
      have HVB3 := Lib.hid (show w3.heap[w1.heap.size]? = some (.cells #[.int .i64 (strV s).kind, .int .i64 (strV s).int, .string (strV s).str] 23 (0, 0)) from below_keep hb3 (sets_blk [.int .i64 (strV s).kind, .int .i64 (strV s).int, .string (strV s).str] w2 0 _ HVB2.out))
      have HR3 := Lib.hid (below_keep hb3 ((sets_far (by omega) [.int .i64 (strV s).kind, .int .i64 (strV s).int, .string (strV s).str] w2 0).trans HR2.out))
      have hbw3 : Below w.heap.size w w3 := ex_trans (sets_below (by omega) [.int .i64 (strV s).kind, .int .i64 (strV s).int, .string (strV s).str] w w2 0 hbw2) hb3
      clear y0 y1 y2 yf hb3
      have hz3 : w.heap.size < w3.heap.size := blk_lt HR3.out
      have hvz3 : w1.heap.size < w3.heap.size := blk_lt HVB3.out
      have ur := blk_cell? HR3.out
      have r0 := blk_cell? HR3.out 0
      have r1 := blk_cell? HR3.out 1
      have r2 := blk_cell? HR3.out 2
      have rf := blk_free HR3.out
      have y0 := blk_cell? HVB3.out 0
      have y1 := blk_cell? HVB3.out 1
      have y2 := blk_cell? HVB3.out 2
      simp only [List.getElem?_toArray, List.getElem?_cons_zero, List.getElem?_cons_succ] at r0 r1 r2 y0 y1 y2
      cases ho : okVl (strV s) with
      | false =>
        have HP := Lib.hid (pv_bad (s := s) (by rw [H0.out]; exact ho))
        clear ho
        go_wp2_with fail
        refine bodyPost_ret (v := .tuple #[Vl.zero.v, .bool false]) (by simp [results, Tryd.results13, go_sem, Vl.zero, ur]; rfl) rfl ?_
        exact ⟨ret_pv HP.out, sets_below (Nat.le_refl _) [.int .i64 0, .int .i64 0, .string ByteArray.empty] w w3 0 hbw3⟩
      | true =>
        have HP := Lib.hid (pv_ok (s := s) (by rw [H0.out]; exact ho))
        clear ho
        go_wp2_with fail
        refine bodyPost_ret (v := .tuple #[(strV s).v, .bool true]) (by simp [results, Tryd.results13, go_sem, ur]) rfl ?_
        exact ⟨ret_pv ⟨HP.out.1.trans H0.out, HP.out.2⟩, sets_below (Nat.le_refl _) [.int .i64 (strV s).kind, .int .i64 (strV s).int, .string (strV s).str] w w3 0 hbw3⟩
  | some n =>
    have HN := Lib.hid (puS hpu)
    have H0 := Lib.hid (pv_some hpu)
    clear hpu
    rw [HN.out.1, HN.out.2] at HPU
    go_enter Tryd.func13, Tryd.ntmps13
    go_wp2_with fail
    refine (HPU.out _ (tab_on HT.out (by go_grown)) (HE.out.on (by go_grown))).mono ?_; rintro e w1 ⟨rfl, hb1⟩
    have hr1 := below_keep hb1 (hp_new rfl)
    have hbw1 : Below w.heap.size w w1 := ex_trans (by go_grown) hb1
    have hz1 : w.heap.size < w1.heap.size := blk_lt hr1
    have HR1 := Lib.hid hr1
    clear hr1 hb1
    go_wp2_with fail
    refine (impl_IntValue _ _).mono ?_; rintro e w2 ⟨rfl, hb2⟩
    have hvb2 : w2.heap[w1.heap.size]? = some (.cells #[.int .i64 0, .int .i64 0, .string ByteArray.empty] 23 (0, 0)) := below_keep hb2 (hp_new rfl)
    have HR2 := Lib.hid (below_keep hb2 ((hp_old hz1).trans HR1.out))
    have hbw2 : Below w.heap.size w w2 := ex_trans (ex_alloc hbw1 _) hb2
    have y0 := blk_cell? hvb2 0
    have y1 := blk_cell? hvb2 1
    have y2 := blk_cell? hvb2 2
    have yf := blk_free hvb2
    simp only [List.getElem?_toArray, List.getElem?_cons_zero, List.getElem?_cons_succ] at y0 y1 y2
    have hz2 : w.heap.size < w2.heap.size := blk_lt HR2.out
    have hv2 : w1.heap.size < w2.heap.size := blk_lt hvb2
    have HVB2 := Lib.hid hvb2
    clear hb2 hvb2
    go_wp2_with fail
    refine (HV.out (intV n) (by show ByteArray.empty.size ≤ _; simp) _).mono ?_; rintro e w3 ⟨rfl, hb3⟩
    have HVB3 := Lib.hid (show w3.heap[w1.heap.size]? = some (.cells #[.int .i64 (intV n).kind, .int .i64 (intV n).int, .string (intV n).str] 23 (0, 0)) from below_keep hb3 (sets_blk [.int .i64 (intV n).kind, .int .i64 (intV n).int, .string (intV n).str] w2 0 _ HVB2.out))
    have HR3 := Lib.hid (below_keep hb3 ((sets_far (by omega) [.int .i64 (intV n).kind, .int .i64 (intV n).int, .string (intV n).str] w2 0).trans HR2.out))
    have hbw3 : Below w.heap.size w w3 := ex_trans (sets_below (by omega) [.int .i64 (intV n).kind, .int .i64 (intV n).int, .string (intV n).str] w w2 0 hbw2) hb3
    clear y0 y1 y2 yf hb3
    have hz3 : w.heap.size < w3.heap.size := blk_lt HR3.out
    have hvz3 : w1.heap.size < w3.heap.size := blk_lt HVB3.out
    have ur := blk_cell? HR3.out
    have r0 := blk_cell? HR3.out 0
    have r1 := blk_cell? HR3.out 1
    have r2 := blk_cell? HR3.out 2
    have rf := blk_free HR3.out
    have y0 := blk_cell? HVB3.out 0
    have y1 := blk_cell? HVB3.out 1
    have y2 := blk_cell? HVB3.out 2
    simp only [List.getElem?_toArray, List.getElem?_cons_zero, List.getElem?_cons_succ] at r0 r1 r2 y0 y1 y2
    cases ho : okVl (intV n) with
    | false =>
      have HP := Lib.hid (pv_bad (s := s) (by rw [H0.out]; exact ho))
      clear ho
      go_wp2_with fail
      refine bodyPost_ret (v := .tuple #[Vl.zero.v, .bool false]) (by simp [results, Tryd.results13, go_sem, Vl.zero, ur]; rfl) rfl ?_
      exact ⟨ret_pv HP.out, sets_below (Nat.le_refl _) [.int .i64 0, .int .i64 0, .string ByteArray.empty] w w3 0 hbw3⟩
    | true =>
      have HP := Lib.hid (pv_ok (s := s) (by rw [H0.out]; exact ho))
      clear ho
      go_wp2_with fail
      refine bodyPost_ret (v := .tuple #[(intV n).v, .bool true]) (by simp [results, Tryd.results13, go_sem, ur]) rfl ?_
      exact ⟨ret_pv ⟨HP.out.1.trans H0.out, HP.out.2⟩, sets_below (Nat.le_refl _) [.int .i64 (intV n).kind, .int .i64 (intV n).int, .string (intV n).str] w w3 0 hbw3⟩
def HexE (w : World) : Prop := ∃ te a, w.cell? ⟨1, 0, none⟩ = some (.iface te (.pointer (some a)))
theorem HexE.on {w w' : World} (h : HexE w) (hb : Below w.heap.size w w') : HexE w' := by
  obtain ⟨te, a, h⟩ := h
  exact ⟨te, a, keep_cell hb h⟩
/-- hex.DecodeString: what is read, in a slice of bytes, and an error or none -/
theorem hex_dec (s : ByteArray) (hs : s.size ≤ 1048576) (w : World) (hE : HexE w) :
    Calls Tryd.prog 45 #[.string s] w fun e w' => ∃ (g c : Nat) (l : List UInt8) (ev : Value), e = .returned (.tuple #[.slice (some ⟨g, 0, none⟩) l.length c, ev]) ∧ l.length ≤ 1048576 ∧ FRow 5 1 eByt w' w.heap.size (some ⟨g, 0, none⟩) l.length c l ∧ g < w'.heap.size ∧ Below w.heap.size w w' ∧
      ((ev = .nilIface ∧ (Lib.Hx.decode s.data.toList).2 = .ok ∧ (Lib.Hx.decode s.data.toList).1 = l) ∨ ((∃ te v, ev = .iface te v ∧ ((∃ a, v = .pointer (some a)) ∨ ∃ x, v = .int .u8 x)) ∧ (Lib.Hx.decode s.data.toList).2 ≠ .ok)) := by
  obtain ⟨te, a, hE⟩ := hE
  refine (Any.hex_DecodeString Tryd.laysPah43 s w _ hE (by omega)).mono ?_
  rintro e w' ⟨rfl, hrow, hb⟩
  have hlen := Lib.Hx.decode_len s.data.toList
  rw [show s.data.toList.length = s.size from (Lib.size_eq s).symm] at hlen
  generalize Lib.Hx.decode s.data.toList = r at *
  obtain ⟨l, o⟩ := r
  simp only at hrow hlen ⊢
  have hg : w.heap.size < w'.heap.size := by
    obtain ⟨cc, hh, _, _⟩ := hrow
    exact blk_lt hh
  have hown := rowP_owns hrow hlen (by unfold maxLen; omega) w.heap.size (Nat.le_refl _)
  have hR : FRow 5 1 eByt w' w.heap.size (some ⟨w.heap.size, 0, none⟩) l.length (s.size / 2) l := by
    obtain ⟨h1, ⟨h2, _⟩ | ⟨g, cap, cur, h2, hg, hcur, hn, hcap, hsz, ht⟩⟩ := hown
    · cases h2
    · cases h2
      exact ⟨rfl, hn, hcap, .inr ⟨_, cur, rfl, hg, hcur, hsz, by rw [ht]; exact List.map_eq_flatMap⟩⟩
  refine ⟨w.heap.size, s.size / 2, l, _, rfl, by omega, hR, hg, hb, ?_⟩
  cases o with
  | ok => exact .inl ⟨rfl, rfl, rfl⟩
  | bad x => exact .inr ⟨⟨_, _, rfl, .inr ⟨_, rfl⟩⟩, by simp⟩
  | odd => exact .inr ⟨⟨_, _, rfl, .inl ⟨_, rfl⟩⟩, by simp⟩
theorem hex_enc_row {w : World} {B c g : Nat} {l : List UInt8} (h : FRow 5 1 eByt w B (some ⟨g, 0, none⟩) l.length c l) (hg : g < w.heap.size) (hl : l.length ≤ 1048576) :
    Calls Tryd.prog 46 #[.slice (some ⟨g, 0, none⟩) l.length c] w fun e w' => e = .returned (.string ⟨(Lib.Hx.encode l).toArray⟩) ∧ Below w.heap.size w w' := by
  refine Tryd.hex_EncodeToString_bytes g 0 c l w (fun i hi => ?_) hg (by omega)
  obtain ⟨g', hA, _, _, _, _, hc⟩ := h.cell encByt (by omega)
  cases hA
  have := hc i hi 0 _ rfl
  simpa using this
set_option maxHeartbeats 1600000 in
theorem impl_DecodeHex (s : ByteArray) (hs : s.size ≤ 1048576) (w : World) (hE : HexE w) :
    Calls Tryd.prog 16 #[.string s] w fun e w' => e = .returned (.tuple #[.string (dhS s), .bool (dhB s)]) ∧ Below w.heap.size w w' := by
  have HC := Lib.hid (hex_dec s hs w hE)
  clear hE
  go_enter Tryd.func16, Tryd.ntmps16
  go_wp2_with fail
  refine HC.out.mono ?_; rintro e w1 ⟨g, c, l, ev, rfl, hl, hR, hg, hb1, hor⟩
  have HR := Lib.hid hR
  clear hR
  rcases hor with ⟨rfl, ho, hd⟩ | ⟨⟨te, v, rfl, hv⟩, ho⟩
  · have HD := Lib.hid (And.intro ho hd)
    clear ho hd
    obtain ⟨n, hn⟩ : ∃ n, l.length = n := ⟨_, rfl⟩
    have HEn := Lib.hid (hex_enc_row HR.out hg hl)
    have HNn := Lib.hid hn
    rw [hn] at hl HR HEn
    rw [hn]
    have hcv := run_row_string (P := Tryd.prog) HR.out Tryd.underlying30 Tryd.underlying5 Tryd.underlying9
    clear hn
    by_cases h2 : 20000 < n
    · have HP := Lib.hid (dhN (s := s) (dh_not (by rw [HD.out.2, HNn.out]; omega)))
      have i1 : (20000 : Int) < (n : Int) := by omega
      have i2 : decide ((20000 : Int) < (n : Int)) = true := by simp; omega
      clear hcv
      go_wp2_with fail
      go_ret2
      exact ⟨ret_dh HP.out, hb1⟩
    · have i1 : ¬ ((20000 : Int) < (n : Int)) := by omega
      have i2 : decide ((20000 : Int) < (n : Int)) = false := by simp; omega
      obtain ⟨t, ht⟩ : ∃ t : ByteArray, t = ⟨(Lib.Hx.encode l).toArray⟩ := ⟨_, rfl⟩
      rw [← ht] at HEn
      have HT := Lib.hid ht
      clear ht
      have HCV := Lib.hid hcv
      clear hcv
      go_wp2_with fail
      refine HEn.out.mono ?_; rintro e w2 ⟨rfl, hb2⟩
      have hcv := run_row_string (P := Tryd.prog) (HR.out.below hb2) Tryd.underlying30 Tryd.underlying5 Tryd.underlying9
      by_cases he : t = s
      · have HP := Lib.hid (dhY (s := s) (p := l) (dh_some.2 ⟨by rw [HNn.out]; omega, by rw [← he, HT.out]⟩))
        subst he
        have hne : (t.toList != t.toList) = false := by simp
        go_wp2_with fail
        go_ret2
        exact ⟨ret_dh HP.out, ex_trans hb1 hb2⟩
      · have HP := Lib.hid (dhN (s := s) (dh_not (by rw [HD.out.2]; intro h; exact he (by rw [HT.out, h.2]))))
        have hne : (t.toList == s.toList) = false := by rw [beq_eq_false_iff_ne]; exact fun h => he (toList_inj h)
        have hne2 : (t.toList != s.toList) = true := by rw [bne, hne]; rfl
        go_wp2_with fail
        go_ret2
        exact ⟨ret_dh HP.out, ex_trans hb1 hb2⟩
  · have HP := Lib.hid (dhN (s := s) (dh_bad ho))
    clear ho
    rcases hv with ⟨a, rfl⟩ | ⟨x, rfl⟩
    · go_wp2_with fail
      go_ret2
      exact ⟨ret_dh HP.out, hb1⟩
    · go_wp2_with fail
      go_ret2
      exact ⟨ret_dh HP.out, hb1⟩
end Go.Proofs.YtkoagijliokhlaaDoor
