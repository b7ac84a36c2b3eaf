/-
  CONTRACTS: RemoveField, NewStore, LookupIndex.
-/
import Derived.WalkKit
import Derived.WalkSpells
import Derived.WalkLawsBesides
import Derived.Lib.Hide
import Derived.Handy
import Derived.StillTailTactics
import Derived.Deep.Light
import Derived.Deep.QuietTactic
import Derived.BigQuiet
import Derived.Deep.RegionHeld3
import Derived.Test.YtaljpnfohpcgpaaLib
import Derived.Test.YtaljpnfohpcgpaaOwn
import Derived.Test.YtaljpnfohpcgpaaRow
import Derived.Test.YtaljpnfohpcgpaaHld
import Derived.Test.YtaljpnfohpcgpaaM0
import Derived.Test.YtaljpnfohpcgpaaC1
import Derived.Test.YtaljpnfohpcgpaaC2
import Derived.Test.YtaljpnfohpcgpaaT1
import Derived.Test.YtaljpnfohpcgpaaT2
import Derived.Test.YtaljpnfohpcgpaaT3
import Derived.Test.YtaljpnfohpcgpaaT4
import Derived.Test.YtaljpnfohpcgpaaC3
import Derived.Test.YtaljpnfohpcgpaaC4
import Derived.Test.YtaljpnfohpcgpaaC5
import Derived.Test.YtaljpnfohpcgpaaD1
import Derived.Test.YtaljpnfohpcgpaaD3
import Derived.Test.YtaljpnfohpcgpaaRows
namespace Go.Proofs.Ytaljpnfohpcgpaa
open Go.RowKit
set_option linter.unusedVariables false
set_option maxRecDepth 100000
theorem impl_RemoveField_1 (x : Fld) (nm : ByteArray) (b o : Nat) (w : World) (hc : w.cell? ⟨b, o, none⟩ = some (.string nm)) :
    Calls Try.prog 90 #[.agg #[.string x.name, .int .i64 x.kind], .pointer (some ⟨b, o, none⟩)] w fun e w2 => e = .returned (.bool (eqS x.name nm)) ∧ Below w.heap.size w w2 := by
  have hl := World.block_lt_of_cell? w _ hc
  simp only at hl
  go_enter Try.func90, Try.ntmps90
  go_wp2_with fail
  go_returns
  exact ⟨rfl, by go_grown⟩
noncomputable def remOk (l : List Fld) (nm : ByteArray) : Bool := okSchema l && l.any fun x => eqS x.name nm
noncomputable def remF (l : List Fld) (nm : ByteArray) : List Fld := if remOk l nm then l.filter fun x => !eqS x.name nm else l
theorem remF_len (l : List Fld) (nm : ByteArray) : (remF l nm).length ≤ l.length := by
  unfold remF; split
  · exact List.length_filter_le _ _
  · exact Nat.le_refl _
set_option maxHeartbeats 1600000 in
theorem impl_RemoveField (A : Option Addr) (n c : Nat) (l : List Fld) (nm : ByteArray) (w : World) (hS : Sl 2 RFld w A n l) (hn : n ≤ 1073741824) (hok : ∀ y ∈ l, y.ok 1073741824) :
    Calls Try.prog 28 #[.slice A n c, .string nm] w (NewRow (fun v => .tuple #[v, .bool (remOk l nm)]) 37 2 eFld w (remF l nm)) := by
  have HV := Lib.hid fun w' (hb : Below w.heap.size w w') => impl_IsValidSchema A n c l w' (hS.mono mFld hb) hn hok
  have HH := Lib.hid fun w' (hb : Below w.heap.size w w') => impl_hasField A n c l nm w' (hS.mono mFld hb) hn
  have HC := Lib.hid fun w' (hb : Below w.heap.size w w') => slices_Clone_Field A n c l w' (hS.mono mFld hb) hn
  obtain rfl : l.length = n := hS.len
  clear hok hS
  cases hv : okSchema l with
  | false =>
    have hz : remOk l nm = false := by unfold remOk; rw [hv]; rfl
    have hr : remF l nm = l := by unfold remF; rw [hz]; rfl
    rw [hz, hr]
    have Hv := Lib.hid hv
    clear hz hr hv
    go_enter Try.func28, Try.ntmps28
    go_wp2_with fail
    refine (HV.out _ (by go_grown)).mono ?_; rintro e w1 ⟨rfl, hb1⟩
    rw [Hv.out]
    have hB1 := ex_trans (w := w) (by go_grown) hb1
    go_wp2_with fail
    refine (HC.out _ hB1).mono ?_; rintro e w2 ⟨A2, c2, rfl, hr2, hb2⟩
    go_wp2_with fail
    go_returns
    exact ⟨A2, c2, rfl, hr2.re (fun b hb => by have := (hr2.base b hb).1; have := hB1.size; omega), ex_trans hB1 hb2⟩
  | true =>
    cases ha : (l.any fun x => eqS x.name nm) with
    | false =>
      have hz : remOk l nm = false := by unfold remOk; rw [ha]; simp
      have hr : remF l nm = l := by unfold remF; rw [hz]; rfl
      rw [hz, hr]
      have Hv := Lib.hid hv
      have Ha := Lib.hid ha
      clear hz hr hv ha
      go_enter Try.func28, Try.ntmps28
      go_wp2_with fail
      refine (HV.out _ (by go_grown)).mono ?_; rintro e w1 ⟨rfl, hb1⟩
      rw [Hv.out]
      have hB1 := ex_trans (w := w) (by go_grown) hb1
      have x0 : w1.cell? ⟨w.heap.size, 0, none⟩ = some (.string nm) := keep_cell hb1 (by go_simp)
      go_wp2_with fail
      refine (HH.out _ hB1).mono ?_; rintro e w2 ⟨rfl, hb2⟩
      rw [Ha.out]
      have hB2 := ex_trans hB1 hb2
      go_wp2_with fail
      refine (HC.out _ hB2).mono ?_; rintro e w3 ⟨A3, c3, rfl, hr3, hb3⟩
      go_wp2_with fail
      go_returns
      exact ⟨A3, c3, rfl, hr3.re (fun b hb => by have := (hr3.base b hb).1; have := hB2.size; omega), ex_trans hB2 hb3⟩
    | true =>
      have hz : remOk l nm = true := by unfold remOk; rw [hv, ha]; rfl
      have hr : remF l nm = l.filter fun x => !eqS x.name nm := by unfold remF; rw [hz]; rfl
      rw [hz, hr]
      have Hv := Lib.hid hv
      have Ha := Lib.hid ha
      clear hz hr hv ha
      go_enter Try.func28, Try.ntmps28
      go_wp2_with fail
      refine (HV.out _ (by go_grown)).mono ?_; rintro e w1 ⟨rfl, hb1⟩
      rw [Hv.out]
      have hB1 := ex_trans (w := w) (by go_grown) hb1
      have x0 : w1.cell? ⟨w.heap.size, 0, none⟩ = some (.string nm) := keep_cell hb1 (by go_simp)
      have z0 : w.heap.size < w1.heap.size := keep_lt hb1 (by simp <;> omega)
      go_wp2_with fail
      refine (HH.out _ hB1).mono ?_; rintro e w2 ⟨rfl, hb2⟩
      rw [Ha.out]
      have hB2 := ex_trans hB1 hb2
      have x1 := keep_cell hb2 x0
      have z1 := keep_lt hb2 z0
      go_wp2_with fail
      refine (HC.out _ hB2).mono ?_; rintro e w3 ⟨A3, c3, rfl, hr3, hb3⟩
      have x2 := keep_cell hb3 x1
      have z2 := keep_lt hb3 z1
      have HD := Lib.hid (slices_DeleteFunc_Field A3 l.length c3 l 90 #[.pointer (some ⟨w.heap.size, 0, none⟩)] (fun x => eqS x.name nm) (w.heap.size + 1) w3 (hr3.re (fun b hb => by have := (hr3.base b hb).1; omega)) hn (by omega)
        (fun _ _ => by kernel_rfl) (pred_name (by simp) x2 fun w' x h => impl_RemoveField_1 x nm _ _ w' h))
      have HB3 := Lib.hid (ex_trans hB2 hb3)
      have HS3 := Lib.hid fun b (hb : b ∈ rowBs A3 c3) => (hr3.base b hb).1
      have HZ := Lib.hid hB2.size
      clear hr3
      go_wp2_with fail
      refine HD.out.mono ?_; rintro e w4 ⟨rfl, hr4, hc4⟩
      have HR4 := Lib.hid hr4
      clear hr4
      go_wp2_with fail
      go_returns
      exact ⟨A3, c3, rfl, HR4.out.re (fun b hb => by have := HS3.out b hb; have := HZ.out; omega), Below.mark HB3.out hc4 HB3.out.size (fun b hb => by have := HS3.out b hb; have := HZ.out; omega)⟩
theorem okSchema_kind {l : List Fld} (h : okSchema l = true) : ∀ x ∈ l, x.kind ≠ 0 := by
  intro x hx h0
  obtain ⟨i, hi, rfl⟩ := List.getElem_of_mem hx
  unfold okSchema at h
  split at h
  · rename_i hall
    have hb := hall i hi
    rcases Nat.eq_zero_or_pos i with rfl | hp
    · rw [badAt_zero hi, h0] at hb; simp at hb
    · rw [badAt_pos hp hi, h0] at hb; simp at hb
  · cases h
theorem fldKind_any {l : List Fld} (h : okSchema l = true) (nm : ByteArray) : (fldKind l nm == 0) = !(l.any fun x => eqS x.name nm) := by
  unfold fldKind
  cases hf : l.find? fun f => eqS f.name nm with
  | none =>
    have h1 : (l.any fun x => eqS x.name nm) = false := by
      rw [List.any_eq_false]
      exact fun x hx => by have := List.find?_eq_none.1 hf x hx; simpa using this
    rw [h1]; rfl
  | some f =>
    have h1 := List.find?_some hf
    have hm := List.mem_of_find?_eq_some hf
    have h2 : (l.any fun x => eqS x.name nm) = true := List.any_eq_true.2 ⟨f, hm, h1⟩
    have h3 := okSchema_kind h f hm
    rw [h2]
    simpa using h3
set_option maxHeartbeats 1600000 in
theorem spec_RemoveField (A : Option Addr) (n c : Nat) (l : List Fld) (nm : ByteArray) (w : World) (hS : Sl 2 RFld w A n l) (hn : n ≤ 1073741824) (hok : ∀ y ∈ l, y.ok 1073741824) :
    Calls Try.prog 26 #[.slice A n c, .string nm] w (NewRow (fun v => .tuple #[v, .bool (remOk l nm)]) 37 2 eFld w (remF l nm)) := by
  have HV := Lib.hid fun w' (hb : Below w.heap.size w w') => spec_IsValidSchema A n c l w' (hS.mono mFld hb) hn hok
  have HK := Lib.hid fun w' (hb : Below w.heap.size w w') => spec_FieldKind A n c l nm w' (hS.mono mFld hb) hn
  obtain rfl : l.length = n := hS.len
  have HS := Lib.hid hS
  obtain ⟨ii, hi, hi0, hi1, hi2⟩ := info_parts info_Field
  clear hok
  have HA : ∀ (W : World) (hb : Below w.heap.size w W) (hx : w.heap.size < W.heap.size), Src 2 eFld W A l.length l := fun W hb _ => Src.of_sl (R := RFld) encFld (fun h => h) (HS.out.mono mFld hb)
  have HA' := Lib.hid HA
  clear HA
  have same : ∀ (A2 : Option Addr) (c2 : Nat) (W1 W2 : World), FRow 37 2 eFld W1 w.heap.size A2 (0 + l.length) c2 ([] ++ l) → Below w.heap.size w W1 → Below W1.heap.size W1 W2 → FRow 37 2 eFld W2 w.heap.size A2 l.length c2 l ∧ Below w.heap.size w W2 :=
    fun A2 c2 W1 W2 h hb hb2 => ⟨by simpa using h.below hb2, ex_trans hb hb2⟩
  have SAME := Lib.hid same
  clear same
  cases hv : okSchema l with
  | false =>
    have hz : remOk l nm = false := by unfold remOk; rw [hv]; rfl
    have hr : remF l nm = l := by unfold remF; rw [hz]; rfl
    rw [hz, hr]
    have Hv := Lib.hid hv
    clear hz hr hv hS
    go_enter Try.func26, Try.ntmps26
    go_wp2_with (at_builtin; refine wpList_append_row rfl _ _ _ rfl encFld Try.underlying24 hi hi0 hi1 hi2 rfl rfl rfl (FRow.any0 _ _ _ _ _ _) (HA'.out _ (by go_grown) (by simp)) (by unfold maxLen; omega) (by omega) (show w.heap.size ≤ _ by simp) ?_; intro A2 c2 w2 hr2 hc2 hx2)
    have hB2 := (Below.refl _ _).trans (Below.mark (B := w.heap.size) (w := w) (by go_grown) hc2 (by simp) (by simp [rowBs_zero]))
    have HR := Lib.hid hr2
    clear hr2 hx2 hc2
    go_wp2_with fail
    refine (HV.out _ hB2).mono ?_; rintro e w3 ⟨rfl, hb3⟩
    rw [Hv.out]
    go_wp2_with fail
    go_returns
    obtain ⟨h1, h2⟩ := SAME.out _ _ _ _ HR.out hB2 hb3
    exact ⟨A2, c2, by simp, h1, h2⟩
  | true =>
    cases ha : (l.any fun x => eqS x.name nm) with
    | false =>
      have hz : remOk l nm = false := by unfold remOk; rw [ha]; simp
      have hr : remF l nm = l := by unfold remF; rw [hz]; rfl
      have hk : fldKind l nm = 0 := by have := fldKind_any hv nm; rw [ha] at this; simpa using this
      rw [hz, hr]
      have Hv := Lib.hid hv
      have Hk := Lib.hid hk
      clear hz hr hv hS hk ha
      go_enter Try.func26, Try.ntmps26
      go_wp2_with (at_builtin; refine wpList_append_row rfl _ _ _ rfl encFld Try.underlying24 hi hi0 hi1 hi2 rfl rfl rfl (FRow.any0 _ _ _ _ _ _) (HA'.out _ (by go_grown) (by simp)) (by unfold maxLen; omega) (by omega) (show w.heap.size ≤ _ by simp) ?_; intro A2 c2 w2 hr2 hc2 hx2)
      have hB2 := (Below.refl _ _).trans (Below.mark (B := w.heap.size) (w := w) (by go_grown) hc2 (by simp) (by simp [rowBs_zero]))
      have HR := Lib.hid hr2
      clear hr2 hx2 hc2
      go_wp2_with fail
      refine (HV.out _ hB2).mono ?_; rintro e w3 ⟨rfl, hb3⟩
      rw [Hv.out]
      go_wp2_with fail
      refine (HK.out _ (ex_trans hB2 hb3)).mono ?_; rintro e w' ⟨rfl, rfl⟩
      rw [Hk.out]
      go_wp2_with fail
      go_returns
      obtain ⟨h1, h2⟩ := SAME.out _ _ _ _ HR.out hB2 hb3
      exact ⟨A2, c2, by simp, h1, h2⟩
    | true =>
      have hz : remOk l nm = true := by unfold remOk; rw [hv, ha]; rfl
      have hr : remF l nm = l.filter fun x => !eqS x.name nm := by unfold remF; rw [hz]; rfl
      have hk : (fldKind l nm == 0) = false := by rw [fldKind_any hv nm, ha]; rfl
      rw [hz, hr]
      have Hv := Lib.hid hv
      clear hz hr hv ha
      go_enter Try.func26, Try.ntmps26
      go_wp2_with (at_builtin; refine wpList_append_row rfl _ _ _ rfl encFld Try.underlying24 hi hi0 hi1 hi2 rfl rfl rfl (FRow.any0 _ _ _ _ _ _) (HA'.out _ (by go_grown) (by simp)) (by unfold maxLen; omega) (by omega) (show w.heap.size ≤ _ by simp) ?_; intro A2 c2 w2 hr2 hc2 hx2)
      have hB2 := (Below.refl _ _).trans (Below.mark (B := w.heap.size) (w := w) (by go_grown) hc2 (by simp) (by simp [rowBs_zero]))
      clear hr2 hx2 hc2
      go_wp2_with fail
      refine (HV.out _ hB2).mono ?_; rintro e w3 ⟨rfl, hb3⟩
      rw [Hv.out]
      have hB3 := ex_trans hB2 hb3
      go_wp2_with fail
      refine (HK.out _ hB3).mono ?_; rintro e w' ⟨rfl, rfl⟩
      go_wp2_with fail
      have hz3 := hB3.size
      go_loopw [7, 8] (fun v i wr => ∃ k q : Nat, k ≤ l.length ∧ q ≤ k ∧ i = .int .i64 k ∧ App 37 2 eFld w q ((l.take k).filter fun x => !eqS x.name nm) v wr) (fun _ i _ => l.length - (intOf i).toNat)
      case atStart => exact ⟨0, 0, Nat.zero_le _, Nat.le_refl _, rfl, _, _, rfl, FRow.any0 _ _ _ _ _ _, ex_alloc hB3 _⟩
      case round =>
        obtain ⟨k, q, hk2, hq, rfl, A1, c1, rfl, hrow, hb⟩ := hrel
        by_cases hlt : k < l.length
        · obtain ⟨b, off, rfl, bw, bc⟩ := hS.fld (by omega)
          obtain ⟨q0, q1⟩ := bc k (by omega)
          rw [← hb.cell (p := ⟨b, _, none⟩) bw] at q0 q1
          have i0 : (0 : Int) ≤ (k : Int) := by omega
          have i1 : (k : Int) < (l.length : Int) := by omega
          have HR := Lib.hid hrow
          clear bc hrow
          cases hf : eqS l[k].name nm with
          | true =>
            have HT := Lib.hid (show (l.take (k + 1)).filter (fun x => !eqS x.name nm) = (l.take k).filter (fun x => !eqS x.name nm) by rw [take_filter_succ _ l hlt, hf]; simp)
            have hne : (l[k].name.toList != nm.toList) = false := by unfold eqS at hf; simpa [bne] using hf
            unfold eqS at hf
            go_wp2_with fail
            go_roundw
            case rel => exact ⟨k + 1, q, by omega, by omega, by go_num, A1, c1, rfl, by rw [HT.out]; exact HR.out, hb⟩
            case measure => simp [intOf]; omega
          | false =>
            have HT := Lib.hid (show (l.take (k + 1)).filter (fun x => !eqS x.name nm) = (l.take k).filter (fun x => !eqS x.name nm) ++ [l[k]] by rw [take_filter_succ _ l hlt, hf]; simp)
            have hne : (l[k].name.toList != nm.toList) = true := by unfold eqS at hf; simpa [bne] using hf
            unfold eqS at hf
            go_wp2_with (at_builtin; refine wpList_append_row rfl _ _ _ rfl encFld Try.underlying24 hi hi0 hi1 hi2 rfl rfl rfl (HR.out.below (by go_grown)) (src1 encFld _ l[k] _ (by simp) rfl) (by unfold maxLen; omega) (by omega) (by have := hb.size; simp; omega) ?_; intro A3 c3 w5 hr5 hc5 hx5)
            have HR2 := Lib.hid (show App 37 2 eFld w (q + 1) ((l.take (k + 1)).filter fun x => !eqS x.name nm) (.slice A3 (q + 1) c3) w5 from ⟨A3, c3, rfl, by rw [HT.out]; exact hr5, Below.mark (ex_trans hb (by go_grown)) hc5 (by have := hb.size; simp; omega) (fun b hb' => (HR.out.base b hb').1)⟩)
            clear hr5
            go_wp2_with fail
            go_roundw
            case rel => exact ⟨k + 1, q + 1, by omega, by omega, by go_num, HR2.out⟩
            case measure => simp [intOf]; omega
        · have hrow' := hrow
          rw [List.take_of_length_le (by omega)] at hrow'
          obtain rfl : (l.filter fun x => !eqS x.name nm).length = q := hrow'.len
          have HR := Lib.hid hrow'
          clear hrow hrow'
          go_wp2_with fail
          go_returns
          exact ⟨A1, c1, by simp, HR.out, hb⟩
end Go.Proofs.Ytaljpnfohpcgpaa
