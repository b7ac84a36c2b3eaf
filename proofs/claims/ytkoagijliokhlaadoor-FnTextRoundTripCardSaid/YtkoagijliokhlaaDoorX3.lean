/-
  CONTRACTS: the program's own text functions, over the library's.
-/
import Derived.WalkKit
import Derived.WalkSpells
import Derived.WalkLawsBesides
import Derived.Lib.Hide
import Derived.Handy
import Derived.Laws.IdiomStrings
import Derived.Laws.BytesArg
import Derived.StillTailTactics
import Derived.Deep.Light
import Derived.Deep.QuietTactic
import Derived.BigQuiet
import Derived.Deep.RegionHeld3
import Derived.Lib.SplitLaws
import Derived.Lib.ConvBytes
import Derived.Lib.AtoiErrMem
import Derived.Lib.AppendIntMem
import Derived.Lib.AtoiAllCases
import Derived.Test.YtkoagijliokhlaaDoorLib
import Derived.Test.YtkoagijliokhlaaDoorOwn
import Derived.Test.YtkoagijliokhlaaDoorRow
import Derived.Test.YtkoagijliokhlaaDoorHld
import Derived.Test.YtkoagijliokhlaaDoorSz
import Derived.Test.YtkoagijliokhlaaDoorC1
import Derived.Test.YtkoagijliokhlaaDoorC2
import Derived.Test.YtkoagijliokhlaaDoorD1
import Derived.Test.YtkoagijliokhlaaDoorX0
import Derived.Test.YtkoagijliokhlaaDoorX1
import Derived.Test.YtkoagijliokhlaaDoorX2
import Derived.Test.YtkoagijliokhlaaDoorShelf
import Derived.Test.YtkoagijliokhlaaDoorRows
namespace Go.Proofs.YtkoagijliokhlaaDoor
open Go.RowKit
set_option linter.unusedVariables false
set_option maxRecDepth 100000
/-- the table of powers, and whatever is done behind it -/
abbrev PowT (w : World) : Prop := Lib.TabBelow Tryd.prog w.heap.size w "internal/strconv.uint64pow10" .u64 Lib.pow10Tab
theorem tab_on {name : String} {k : IntKind} {zs : List Int} {w w' : World} (h : Lib.TabBelow Tryd.prog w.heap.size w name k zs) (hb : Below w.heap.size w w') : Lib.TabBelow Tryd.prog w'.heap.size w' name k zs :=
  Lib.tabBelow_of_tabIs (h w' hb)
theorem impl_FormatInt (n : Int) (h0 : -9223372036854775808 ≤ n) (h1 : n ≤ 9223372036854775807) (w : World) (hT : PowT w) :
    Calls Tryd.prog 24 #[.int .i64 n] w fun e w' => e = .returned (.string ⟨(Lib.itoa n).toArray⟩) ∧ Below w.heap.size w w' := by
  have HC := Lib.hid (Tryd.strconv_Itoa n h0 h1 w hT.here)
  clear hT
  go_enter Tryd.func24, Tryd.ntmps24
  go_wp2_with fail
  refine HC.out.mono ?_; rintro e w2 ⟨rfl, k, os, rfl⟩
  have hb : Below w.heap.size w (Sort.grow (w.drewN k) os) := Lib.below_grow _ w (Nat.le_refl _) k os
  generalize Sort.grow (w.drewN k) os = w3 at *
  go_wp2_with fail
  go_ret
  exact ⟨rfl, hb⟩
/-- the two variables that hold the errors -/
def ErrV (w : World) : Prop := (∃ ev, w.cell? ⟨3, 0, none⟩ = some ev ∧ (ev = .nilIface ∨ ∃ te pe, ev = .iface te pe)) ∧ ∃ ev, w.cell? ⟨4, 0, none⟩ = some ev ∧ (ev = .nilIface ∨ ∃ te pe, ev = .iface te pe)
theorem ErrV.on {w w' : World} (h : ErrV w) (hb : Below w.heap.size w w') : ErrV w' := by
  obtain ⟨⟨e1, h1, k1⟩, e2, h2, k2⟩ := h
  exact ⟨⟨e1, keep_cell hb h1, k1⟩, e2, keep_cell hb h2, k2⟩
/-- strconv.Atoi at a short text: what it spells, or an error that is not nil -/
theorem atoi_short (s : ByteArray) (hs : s.size ≤ 10) (w : World) (hE : ErrV w) :
    Calls Tryd.prog 60 #[.string s] w fun e w' => ∃ (v : Int) (ev : Value), e = .returned (.tuple #[.int .i64 v, ev]) ∧ Below w.heap.size w w' ∧ (-9223372036854775808 ≤ v ∧ v ≤ 9223372036854775807) ∧ ((ev = .nilIface ∧ Lib.atoiAll s.data.toList = .ok v) ∨ ((∃ te a, ev = .iface te (.pointer (some a))) ∧ ∀ v', Lib.atoiAll s.data.toList ≠ .ok v')) := by
  obtain ⟨⟨e1, h1, k1⟩, e2, h2, k2⟩ := hE
  cases ha : Lib.atoiAll s.data.toList with
  | ok v =>
    refine (Tryd.strconv_Atoi_ok s (by omega) v ha w).mono ?_
    rintro e w' ⟨rfl, hw⟩
    refine ⟨v, _, rfl, ?_, Lib.atoiAll_bounds ha, .inl ⟨rfl, rfl⟩⟩
    rcases hw with rfl | ⟨t, rfl⟩
    · exact Below.refl _ _
    · exact Lib.bytesWorld_below _ _ _
  | range =>
    refine (Tryd.strconv_Atoi_range s (by omega) ha e2 w h2 k2).mono ?_
    rintro e w' ⟨N, rfl, _, _, hb⟩
    exact ⟨Lib.atoiSat s.data.toList, _, rfl, hb, Lib.atoiSat_bounds _, .inr ⟨⟨_, _, rfl⟩, fun v' => by simp⟩⟩
  | _ =>
    refine (Any.strconv_Atoi_syntax Tryd.laysC172 s (by omega) ha e1 w h1 k1).mono ?_
    rintro e w' ⟨N, rfl, _, _, hb⟩
    exact ⟨0, _, rfl, hb, by omega, .inr ⟨⟨_, _, rfl⟩, fun v' => by simp⟩⟩
theorem impl_within_t (n a b : Int) (h : a ≤ n ∧ n ≤ b) (w : World) : Calls Tryd.prog 55 #[.int .i64 n, .int .i64 a, .int .i64 b] w fun e w' => e = .returned (.bool true) ∧ w = w' := by
  have h1 : decide (a ≤ n) = true := by simpa using h.1
  have h2 : decide (n ≤ b) = true := by simpa using h.2
  go_enter Tryd.func55, Tryd.ntmps55
  go_wp2_with fail
  go_ret
  exact ⟨rfl, rfl⟩
theorem impl_within_f (n a b : Int) (h : ¬ (a ≤ n ∧ n ≤ b)) (w : World) : Calls Tryd.prog 55 #[.int .i64 n, .int .i64 a, .int .i64 b] w fun e w' => e = .returned (.bool false) ∧ w = w' := by
  by_cases ha : a ≤ n
  · have h1 : decide (a ≤ n) = true := by simpa using ha
    have h2 : decide (n ≤ b) = false := by simp; omega
    clear h
    go_enter Tryd.func55, Tryd.ntmps55
    go_wp2_with fail
    go_ret
    exact ⟨rfl, rfl⟩
  · have h1 : decide (a ≤ n) = false := by simp; omega
    clear h
    go_enter Tryd.func55, Tryd.ntmps55
    go_wp2_with fail
    go_ret
    exact ⟨rfl, rfl⟩
set_option maxHeartbeats 1600000 in
theorem impl_ParseUint (s : ByteArray) (hs : s.size ≤ 1048576) (w : World) (hT : PowT w) (hE : ErrV w) :
    Calls Tryd.prog 35 #[.string s] w fun e w' => e = .returned (.tuple #[.int .i64 (puV s.data.toList), .bool (puB s.data.toList)]) ∧ Below w.heap.size w w' := by
  have hlen : s.data.toList.length = s.size := (Lib.size_eq s).symm
  have HLn := Lib.hid hlen
  have HT := Lib.hid hT
  clear hlen hT
  by_cases h10 : 10 < s.size
  · have HP := Lib.hid (puN (pu_long (l := s.data.toList) (by rw [HLn.out]; exact h10)))
    have i1 : (10 : Int) < (s.size : Int) := by omega
    clear hE
    go_enter Tryd.func35, Tryd.ntmps35
    go_wp2_with fail
    go_ret2
    exact ⟨ret_pu HP.out, Below.refl _ _⟩
  · have i1 : ¬ ((10 : Int) < (s.size : Int)) := by omega
    have HA := Lib.hid (atoi_short s (by omega) w hE)
    clear hE
    go_enter Tryd.func35, Tryd.ntmps35
    go_wp2_with fail
    refine HA.out.mono ?_; rintro e w1 ⟨v, ev, rfl, hb1, ⟨v0, v1⟩, hor⟩
    have HT1 := Lib.hid (tab_on HT.out hb1)
    rcases hor with ⟨rfl, ha⟩ | ⟨⟨te, ad, rfl⟩, ha⟩
    · have HA2 := Lib.hid ha
      clear ha
      by_cases hw : 0 ≤ v ∧ v ≤ 1000000000
      · have HW := Lib.hid fun w' => impl_within_t v 0 1000000000 hw w'
        have HF := Lib.hid (impl_FormatInt v v0 v1 w1 HT1.out)
        obtain ⟨t, ht⟩ : ∃ t : ByteArray, t = ⟨(Lib.itoa v).toArray⟩ := ⟨_, rfl⟩
        rw [← ht] at HF
        have HTt := Lib.hid ht
        clear ht
        go_wp2_with fail
        refine (HW.out _).mono ?_; rintro e w2 ⟨rfl, rfl⟩
        go_wp2_with fail
        refine HF.out.mono ?_; rintro e w3 ⟨rfl, hb3⟩
        by_cases he : t = s
        · have HP := Lib.hid (puS (pu_ok (l := s.data.toList) (by rw [HLn.out]; omega) hw.1 hw.2 (by rw [← he, HTt.out])))
          have HV := Lib.hid (show ((v.toNat : Nat) : Int) = v from by omega)
          subst he
          have hne : (t.toList != t.toList) = false := by simp
          go_wp2_with fail
          go_ret2
          exact ⟨ret_pu ⟨HP.out.1.trans HV.out, HP.out.2⟩, ex_trans hb1 hb3⟩
        · have HP := Lib.hid (puN (pu_bad HA2.out fun h => he (by rw [HTt.out, h.2.2])))
          have hne : (t.toList == s.toList) = false := by rw [beq_eq_false_iff_ne]; exact fun h => he (toList_inj h)
          have hne2 : (t.toList != s.toList) = true := by rw [bne, hne]; rfl
          go_wp2_with fail
          go_ret2
          exact ⟨ret_pu HP.out, ex_trans hb1 hb3⟩
      · have HW := Lib.hid fun w' => impl_within_f v 0 1000000000 hw w'
        have HP := Lib.hid (puN (pu_bad HA2.out fun h => hw ⟨h.1, h.2.1⟩))
        go_wp2_with fail
        refine (HW.out _).mono ?_; rintro e w2 ⟨rfl, rfl⟩
        go_wp2_with fail
        go_ret2
        exact ⟨ret_pu HP.out, hb1⟩
    · have HP := Lib.hid (puN (pu_err ha))
      clear ha
      go_wp2_with fail
      go_ret2
      exact ⟨ret_pu HP.out, hb1⟩
theorem cntF_le : ∀ (ws : Bool) (l : List UInt8), Lib.cntF ws l ≤ l.length
  | _, [] => Nat.le_refl _
  | ws, x :: l => by
    have := cntF_le (Lib.isSp x) l
    rw [Lib.cntF_step, List.length_cons]
    split <;> omega
abbrev SpT (w : World) : Prop := Lib.TabBelow Tryd.prog w.heap.size w "strings.asciiSpace" .u8 Lib.asciiSpaceTab
set_option maxHeartbeats 1600000 in
theorem impl_SplitFields (s : ByteArray) (hs : s.size ≤ 1048576) (w : World) (hT : SpT w) :
    Calls Tryd.prog 26 #[.string s] w (NewRow (SfV s) 9 1 eStr w (sfL s)) := by
  have hlen : s.data.toList.length = s.size := (Lib.size_eq s).symm
  have HLn := Lib.hid hlen
  have HT := Lib.hid hT
  clear hlen hT
  by_cases hl : 600 < s.size
  · have HP := Lib.hid (sf_long hl)
    have i1 : (600 : Int) < (s.size : Int) := by omega
    go_enter Tryd.func26, Tryd.ntmps26
    go_wp2_with fail
    go_returns
    exact sf_none s w _ (by go_grown) HP.out _ _ _ (FRow.any0 _ _ _ _ _ _)
  have i1 : ¬ ((600 : Int) < (s.size : Int)) := by omega
  go_enter Tryd.func26, Tryd.ntmps26
  go_wp2_with fail
  go_loop [11] (fun i => ∃ k : Nat, i = .int .i64 (k : Int) ∧ k ≤ s.size ∧ ∀ (j : Nat) (x : UInt8), j < k → s.data.toList[j]? = some x → inR x = true) (fun i => s.size - (intOf i).toNat)
  case atStart => exact ⟨0, rfl, Nat.zero_le _, fun j x h => absurd h (by omega)⟩
  case round =>
    obtain ⟨k, rfl, hk, hin⟩ := hrel
    have HI := Lib.hid hin
    clear hin
    have i0 : (0 : Int) ≤ (k : Int) := by omega
    by_cases hlt : k < s.size
    · have hkz : (k : Int) < (s.size : Int) := by omega
      obtain ⟨x, hx⟩ : ∃ x : UInt8, s[k] = x := ⟨_, rfl⟩
      have HX := Lib.hid (show s.data.toList[k]? = some x by rw [← hx]; exact Lib.data_getElem? s k hlt)
      have x1 : (x.toNat : Int) < 256 := by have := x.toNat_lt; omega
      by_cases hr : inR x = true
      · have HIN := Lib.hid (show ∀ (j : Nat) (y : UInt8), j < k + 1 → s.data.toList[j]? = some y → inR y = true from fun j y hj hy => by
          by_cases e : j = k
          · subst e; rw [HX.out] at hy; cases hy; exact hr
          · exact HI.out j y (by omega) hy)
        have hr2 := hr
        unfold inR at hr2
        simp only [Bool.and_eq_true, decide_eq_true_eq] at hr2
        have HW := Lib.hid fun w' => impl_within_t (x.toNat : Int) 32 126 (by omega) w'
        clear hr hr2
        go_wp2_with fail
        refine (HW.out _).mono ?_; rintro e w2 ⟨rfl, rfl⟩
        go_wp2_with fail
        go_round
        case rel => exact ⟨k + 1, by go_num, by omega, HIN.out⟩
        case measure => simp [intOf]; omega
      · have hr1 : inR x = false := by simpa using hr
        have HP := Lib.hid (sf_out HX.out hr1)
        have HW := Lib.hid fun w' => impl_within_f (x.toNat : Int) 32 126 (by unfold inR at hr1; simp at hr1; omega) w'
        clear hr hr1
        go_wp2_with fail
        refine (HW.out _).mono ?_; rintro e w2 ⟨rfl, rfl⟩
        go_wp2_with fail
        go_returns
        exact sf_none s _ _ (Below.refl _ _) HP.out _ _ _ (FRow.any0 _ _ _ _ _ _)
    · obtain rfl : s.size = k := by omega
      have hkz : ¬ ((s.size : Int) < (s.size : Int)) := by omega
      have HIN := Lib.hid (show ∀ (j : Nat) (y : UInt8), s.data.toList[j]? = some y → inR y = true from fun j y hy => HI.out j y (by have := (List.getElem?_eq_some_iff.1 hy).1; rw [HLn.out] at this; omega) hy)
      have HC := Lib.hid (Tryd.strings_Fields s w (by omega) (fun j b hb => by have h := HIN.out j b hb; unfold inR at h; simp only [Bool.and_eq_true, decide_eq_true_eq] at h; omega) HT.out.here)
      have hfl : ((Lib.fields s.data.toList).map fun l => (⟨l.toArray⟩ : ByteArray)).length = (Lib.fields s.data.toList).length := by rw [List.length_map]
      have hmap : (((Lib.fields s.data.toList).map fun l => Value.string ⟨l.toArray⟩).toArray).toList = ((Lib.fields s.data.toList).map fun l => (⟨l.toArray⟩ : ByteArray)).flatMap eStr := by
        rw [List.flatMap_map, List.toList_toArray]
        exact List.map_eq_flatMap
      have hle : (Lib.fields s.data.toList).length ≤ s.size + 1 := by rw [Lib.fields_length]; have := cntF_le true s.data.toList; rw [HLn.out] at this; omega
      have HR := Lib.hid (FRow.lit (e := 9) (B := w.heap.size) encStr w (by rw [hfl]; unfold maxLen; omega) (Nat.le_refl _) hmap)
      rw [hfl] at HR
      have HO := Lib.hid (fun h => sf_ok (s := s) (by omega) HIN.out h)
      have HM := Lib.hid (fun h => sf_many (s := s) h)
      have HY := Lib.hid (fun h => sfY (s := s) h)
      clear hmap hfl
      generalize hq : (Lib.fields s.data.toList).length = q at *
      generalize hcs : ((Lib.fields s.data.toList).map fun l => Value.string ⟨l.toArray⟩).toArray = cs at *
      generalize hfs : ((Lib.fields s.data.toList).map fun l => (⟨l.toArray⟩ : ByteArray)) = fs at *
      have hql : fs.length = q := HR.out.len
      have HQL := Lib.hid hql
      clear hq hcs hfs hql
      go_wp2_with fail
      refine HC.out.mono ?_; rintro e w2 ⟨rfl, rfl⟩
      by_cases hq24 : 24 < q
      · have HP := Lib.hid (HM.out hq24)
        have e5 : (24 : Int) < (q : Int) := by omega
        go_wp2_with fail
        go_returns
        exact sf_none s w _ (by go_grown) HP.out _ _ _ (FRow.any0 _ _ _ _ _ _)
      · have HP := Lib.hid (HO.out (by omega))
        have e5 : ¬ ((24 : Int) < (q : Int)) := by omega
        go_wp2_with fail
        go_returns
        rw [HY.out HP.out]
        have HV : SfV s (.slice (some ⟨w.heap.size, 0, none⟩) fs.length q) = .tuple #[.slice (some ⟨w.heap.size, 0, none⟩) q q, .bool true] := by unfold SfV; rw [HP.out, HQL.out]
        exact ⟨some ⟨w.heap.size, 0, none⟩, q, by rw [HV]; rfl, by rw [HQL.out]; exact HR.out, by go_grown⟩
end Go.Proofs.YtkoagijliokhlaaDoor
