/-
  PLAIN: a valid value's text is read back as the value; what is read is written as it was.
-/
import Derived.WalkKit
import Derived.Lib.Hide
import Derived.Lib.ItoaNum
import Derived.Test.YtkoagijliokhlaaDoorLib
import Derived.Test.YtkoagijliokhlaaDoorC1
import Derived.Test.YtkoagijliokhlaaDoorC2
import Derived.Test.YtkoagijliokhlaaDoorC4
import Derived.Test.YtkoagijliokhlaaDoorX0
import Derived.Test.YtkoagijliokhlaaDoorX1
import Derived.Test.YtkoagijliokhlaaDoorX2
import Derived.Test.YtkoagijliokhlaaDoorX3
import Derived.Test.YtkoagijliokhlaaDoorX4
namespace Go.Proofs.YtkoagijliokhlaaDoor
open Go.RowKit
set_option linter.unusedVariables false
theorem dd_short {n : Nat} (h : n ≤ 999) : (Lib.decDigits n).length ≤ 10 := by
  rw [Lib.decDigits_length]
  by_cases h1 : n < 10
  · rw [Lib.nDigits_small h1]; omega
  · rw [Lib.nDigits_big h1]
    by_cases h2 : n / 10 < 10
    · rw [Lib.nDigits_small h2]; omega
    · rw [Lib.nDigits_big h2, Lib.nDigits_small (by omega)]; omega
theorem empty_of {s : ByteArray} (h : s.toList.isEmpty = true) : s = ByteArray.empty := toList_inj (by
  rw [List.isEmpty_iff] at h
  rw [h]; simp [ByteArray.toList_eq])
theorem okVl_parts {v : Vl} (h : okVl v = true) : v = Vl.zero ∨ (∃ n : Nat, n ≤ 999 ∧ v = intV n) ∨ (v.kind = 2 ∧ txt v.str 6 = true ∧ v = strV v.str) := by
  obtain ⟨k, i, s⟩ := v
  unfold okVl at h
  simp only at h
  split at h
  · rename_i hk
    simp only [Bool.and_eq_true, beq_iff_eq] at hk h
    obtain ⟨rfl, hs⟩ := h
    subst hk
    exact .inl (by rw [empty_of hs]; rfl)
  · split at h
    · rename_i hk
      simp only [Bool.and_eq_true, beq_iff_eq] at hk h
      obtain ⟨hi, hs⟩ := h
      subst hk
      simp [inB] at hi
      refine .inr (.inl ⟨i.toNat, by omega, ?_⟩)
      unfold intV
      rw [empty_of hs, Int.toNat_of_nonneg (by omega)]
    · split at h
      · rename_i hk
        simp only [Bool.and_eq_true, beq_iff_eq] at hk h
        obtain ⟨ht, rfl⟩ := h
        subst hk
        exact .inr (.inr ⟨rfl, ht, rfl⟩)
      · cases h
theorem txt_parts {s : ByteArray} (h : txt s 6 = true) : low s ∧ 0 < s.size := by
  unfold txt at h
  split at h
  · rename_i hl
    simp [inB] at h
    exact ⟨hl, by omega⟩
  · cases h
theorem low_get {s : ByteArray} (h : low s) (hs : 0 < s.size) : ∃ x : UInt8, s.data.toList[0]? = some x ∧ 97 ≤ x.toNat := by
  have h0 := h 0 hs
  exact ⟨s[0], Lib.data_getElem? s 0 hs, by omega⟩
theorem pu_txt {s : ByteArray} (h : txt s 6 = true) : pu s.data.toList = none ∧ ¬ s = dash := by
  obtain ⟨hl, hs⟩ := txt_parts h
  obtain ⟨x, hx, h97⟩ := low_get hl hs
  refine ⟨pu_sign (dec_none hx (by omega)), fun e => ?_⟩
  subst e
  have : dash.data.toList[0]? = some 45 := rfl
  rw [this] at hx
  cases hx
  exact absurd h97 (by decide)
theorem okVl_int' (n : Nat) (h : n ≤ 999) : okVl (intV n) = true := by
  unfold okVl intV
  simp [inB, ByteArray.toList_eq]
  omega
theorem fmt_zero : fmtV Vl.zero = dash := by
  unfold fmtV
  rw [okVl_zero, if_pos rfl, if_neg (by decide), if_neg (by decide)]
  rfl
/-- a valid value's text is parsed as the value -/
theorem pv_fmt {v : Vl} (h : okVl v = true) : pvV (fmtV v) = v ∧ pvB (fmtV v) = true := by
  rcases okVl_parts h with rfl | ⟨n, hn, rfl⟩ | ⟨hk, ht, hv⟩
  · rw [fmt_zero]; exact pv_dash
  · have hf : fmtV (intV n) = ⟨(Lib.decDigits n).toArray⟩ := by
      unfold fmtV
      rw [h, if_pos rfl, if_pos (show (intV (n : Int)).kind = 1 from rfl)]
      show (⟨(Lib.itoa (n : Int)).toArray⟩ : ByteArray) = _
      rw [itoa_nat]
    have hp : pu (fmtV (intV n)).data.toList = some n := by
      rw [hf]
      exact pu_some.2 ⟨dd_short hn, by omega, rfl⟩
    have h0 := pv_some hp
    obtain ⟨h1, h2⟩ := pv_ok (s := fmtV (intV n)) (by rw [h0]; exact h)
    exact ⟨h1.trans h0, h2⟩
  · have hf : fmtV v = v.str := by
      unfold fmtV
      rw [h, if_pos rfl, if_neg (by rw [hk]; decide), if_pos hk]
    obtain ⟨hp, hd⟩ := pu_txt ht
    rw [hf]
    have h0 := pv_none hp hd
    obtain ⟨h1, h2⟩ := pv_ok (s := v.str) (by rw [h0, ← hv]; exact h)
    exact ⟨(h1.trans h0).trans hv.symm, h2⟩
/-- an invalid value's text is no value's -/
theorem pv_bad_fmt {v : Vl} (h : okVl v = false) : pvB (fmtV v) = false := by
  have hf : fmtV v = ⟨#[63]⟩ := by unfold fmtV; rw [h]; rfl
  rw [hf]
  have hp : pu (⟨#[63]⟩ : ByteArray).data.toList = none := pu_sign (by decide)
  have hd : ¬ (⟨#[63]⟩ : ByteArray) = dash := by unfold dash; decide
  have h0 := pv_none hp hd
  unfold pvB
  rw [h0]
  have ht : txt (⟨#[63]⟩ : ByteArray) 6 = false := (txt_not (s := ⟨#[63]⟩) (m := 6) (k := 0) (by decide) (.inl (by decide))).symm
  unfold okVl strV
  simp [ht]
/-- what was parsed is written as it was read -/
theorem fmt_pv {t : ByteArray} (h : pvB t = true) : fmtV (pvV t) = t := by
  by_cases hd : t = dash
  · subst hd; rw [pv_dash.1]; exact fmt_zero
  · have ho : okVl (pv0 t) = true := h
    rw [(pv_ok ho).1]
    exact fmt_pv0 hd ho
theorem pv_str {t : ByteArray} (h : t.size ≤ 1048576) : (pvV t).str.size ≤ 1073741824 := by
  unfold pvV
  split
  · unfold pv0
    split
    · show ByteArray.empty.size ≤ _; simp
    · split
      · show ByteArray.empty.size ≤ _; simp
      · show t.size ≤ _; omega
  · show ByteArray.empty.size ≤ _; simp
end Go.Proofs.YtkoagijliokhlaaDoor
