/-
  CONTRACTS: the reference's text functions that make memory.
-/
import Derived.WalkKit
import Derived.WalkSpells
import Derived.WalkLawsBesides
import Derived.Lib.Hide
import Derived.Handy
import Derived.Laws.IdiomStrings
import Derived.Laws.BytesArg
import Derived.StillTailTactics
import Derived.Deep.Light
import Derived.Deep.QuietTactic
import Derived.BigQuiet
import Derived.Deep.RegionHeld3
import Derived.Lib.SplitLaws
import Derived.IntWalk
import Derived.Test.YtkoagijliokhlaaDoorLib
import Derived.Test.YtkoagijliokhlaaDoorOwn
import Derived.Test.YtkoagijliokhlaaDoorRow
import Derived.Test.YtkoagijliokhlaaDoorHld
import Derived.Test.YtkoagijliokhlaaDoorSz
import Derived.Test.YtkoagijliokhlaaDoorC1
import Derived.Test.YtkoagijliokhlaaDoorC2
import Derived.Test.YtkoagijliokhlaaDoorD1
import Derived.Test.YtkoagijliokhlaaDoorX0
import Derived.Test.YtkoagijliokhlaaDoorX1
import Derived.Test.YtkoagijliokhlaaDoorRows
namespace Go.Proofs.YtkoagijliokhlaaDoor
open Go.RowKit
set_option linter.unusedVariables false
set_option maxRecDepth 100000
theorem run_row_string {P : Program} {w : World} {B n c : Nat} {A : Option Addr} {l : List UInt8} {e src dst : TypeId} (h : FRow e 1 eByt w B A n c l) (hs : P.underlying src = some (.slice e)) (he : P.underlying e = some (.int .u8)) (hd : P.underlying dst = some .string) :
    (convert src dst (.slice A n c)).run P w = .ok (.string ⟨l.toArray⟩) w := by
  obtain rfl : l.length = n := h.len
  rcases Nat.eq_zero_or_pos l.length with h0 | h0
  · obtain rfl : l = [] := List.eq_nil_of_length_eq_zero h0
    cases A with
    | none => exact run_convert_bytes_nil w src e hs he 0 c dst hd
    | some a => exact run_convert_bytes_back w src dst e a c [] hs he hd (fun j hj => absurd hj (by simp))
  · obtain ⟨g, rfl, _, _, _, _, hc⟩ := h.cell encByt h0
    refine run_convert_bytes_back w src dst e ⟨g, 0, none⟩ c l hs he hd fun j hj => ?_
    have := hc j hj 0 _ rfl
    rw [Addr.add_lit, Nat.zero_add]
    simpa using this
theorem srcL {α : Type} {size : Nat} {enc : α → List Value} (hE : Enc size enc) (w : World) (l : List α) (e : TypeId) {g n : Nat} (hg : g = w.heap.size) (hn : l.length = n) (hm : n ≤ maxLen) {cs : Array Value} (hcs : cs.toList = l.flatMap enc) : Src size enc (w.alloc (.cells cs e)) (some ⟨g, 0, none⟩) n l := by
  subst hg; subst hn
  exact Src.of_row hE (FRow.lit (e := e) (B := 0) hE w hm (Nat.zero_le _) hcs)
noncomputable def dhS (s : ByteArray) : ByteArray := match dh s.data.toList with | some p => ⟨p.toArray⟩ | none => ByteArray.empty
noncomputable def dhB (s : ByteArray) : Bool := (dh s.data.toList).isSome
theorem dhN {s : ByteArray} (h : dh s.data.toList = none) : dhS s = ByteArray.empty ∧ dhB s = false := by unfold dhS dhB; rw [h]; exact ⟨rfl, rfl⟩
theorem dhY {s : ByteArray} {p : List UInt8} (h : dh s.data.toList = some p) : dhS s = ⟨p.toArray⟩ ∧ dhB s = true := by unfold dhS dhB; rw [h]; exact ⟨rfl, rfl⟩
theorem ret_dh {s v : ByteArray} {b : Bool} (h : dhS s = v ∧ dhB s = b) : Ending.returned (.tuple #[.string v, .bool b]) = .returned (.tuple #[.string (dhS s), .bool (dhB s)]) := by rw [h.1, h.2]
set_option maxHeartbeats 1600000 in
theorem spec_DecodeHex (s : ByteArray) (hs : s.size ≤ 1048576) (w : World) :
    Calls Tryd.prog 15 #[.string s] w fun e w' => e = .returned (.tuple #[.string (dhS s), .bool (dhB s)]) ∧ Below w.heap.size w w' := by
  have hlen : s.data.toList.length = s.size := (Lib.size_eq s).symm
  have HLn := Lib.hid hlen
  clear hlen
  obtain ⟨ii, hi, hi0, hi1, hi2⟩ := info_parts info_uint8
  by_cases hl : 40000 < s.size
  · have HP := Lib.hid (dhN (s := s) (dh_long (by rw [HLn.out]; exact hl)))
    have i1 : (40000 : Int) < (s.size : Int) := by omega
    have i2 : decide ((40000 : Int) < (s.size : Int)) = true := by simp; omega
    go_enter Tryd.func15, Tryd.ntmps15
    go_wp2_with fail
    go_ret2
    exact ⟨ret_dh HP.out, Below.refl _ _⟩
  have i1 : ¬ ((40000 : Int) < (s.size : Int)) := by omega
  have i2 : decide ((40000 : Int) < (s.size : Int)) = false := by simp; omega
  by_cases ho : s.size % 2 = 0
  · have o1 : (((s.size : Int) % 2) != 0) = false := by simp; omega
    go_enter Tryd.func15, Tryd.ntmps15
    go_wp2_with fail
    go_loopw [4, 5] (fun v i wr => ∃ (j k : Nat) (p : List UInt8) (A : Option Addr) (c : Nat), i = .int .i64 (j : Int) ∧ v = .slice A k c ∧ j = 2 * k ∧ j ≤ s.size ∧ FRow 5 1 eByt wr w.heap.size A k c p ∧ Lib.Hx.encode p = s.data.toList.take (2 * k) ∧ Below w.heap.size w wr) (fun _ i _ => s.size - (intOf i).toNat)
    case atStart =>
      refine ⟨0, 0, [], _, _, rfl, rfl, rfl, Nat.zero_le _, FRow.any0 _ _ _ _ _ _, rfl, by go_grown⟩
    case round =>
      obtain ⟨j, k, p, A, c, rfl, rfl, hj, hjs, hR, hp, hB⟩ := hrel
      have HR := Lib.hid hR
      have HPp := Lib.hid hp
      have HJ := Lib.hid hj
      have HJ2 := Lib.hid (show j % 2 = 0 by omega)
      have hkj : k ≤ j := by omega
      clear hR hp hj
      by_cases hlt : j < s.size
      · have hj1 : j + 1 < s.size := by have := HJ2.out; omega
        have hkz : (j : Int) < (s.size : Int) := by omega
        have hkz1 : (j : Int) + 1 < (s.size : Int) := by omega
        have hjn : ((j : Int) + 1).toNat = j + 1 := by omega
        obtain ⟨x, hx⟩ : ∃ x : UInt8, s[j] = x := ⟨_, rfl⟩
        obtain ⟨y, hy⟩ : ∃ y : UInt8, s[j + 1] = y := ⟨_, rfl⟩
        have HX := Lib.hid (show s.data.toList[2 * k]? = some x by rw [← HJ.out, ← hx]; exact Lib.data_getElem? s j hlt)
        have HY := Lib.hid (show s.data.toList[2 * k + 1]? = some y by rw [← HJ.out, ← hy]; exact Lib.data_getElem? s (j + 1) hj1)
        have i0 : (0 : Int) ≤ (j : Int) := by omega
        have j0 : (0 : Int) ≤ (j : Int) + 1 := by omega
        have HV := Lib.hid fun (q : UInt8) w' => spec_l01Value (q.toNat : Int) (by omega) (by have := q.toNat_lt; omega) w'
        go_wp2_with fail
        refine (HV.out _ _).mono ?_; rintro e w2 ⟨rfl, rfl⟩
        go_wp2_with fail
        refine (HV.out _ _).mono ?_; rintro e w2 ⟨rfl, rfl⟩
        have hfx := Lib.hid (fun h : lowV (x.toNat : Int) < 0 => dhN (s := s) (dh_fig HX.out h))
        have hfy := Lib.hid (fun h : lowV (y.toNat : Int) < 0 => dhN (s := s) (dh_fig HY.out h))
        have hst := Lib.hid (fun (h1 : 0 ≤ lowV (x.toNat : Int)) (h2 : 0 ≤ lowV (y.toNat : Int)) => And.intro (enc_step HPp.out HX.out HY.out h1 h2) (And.intro (dig_low x h1).2 (dig_low y h2).2))
        generalize lowV (x.toNat : Int) = u at *
        generalize lowV (y.toNat : Int) = v at *
        by_cases hu : u < 0
        · have HP := Lib.hid (hfx.out hu)
          have hu1 : decide (u < 0) = true := by simpa using hu
          go_wp2_with fail
          go_ret2
          exact ⟨ret_dh HP.out, hB⟩
        · have hu1 : decide (u < 0) = false := by simpa using hu
          by_cases hv : v < 0
          · have HP := Lib.hid (hfy.out hv)
            have hv1 : decide (v < 0) = true := by simpa using hv
            go_wp2_with fail
            go_ret2
            exact ⟨ret_dh HP.out, hB⟩
          · have hv1 : decide (v < 0) = false := by simpa using hv
            obtain ⟨hs1, hs2, hs3⟩ := hst.out (by omega) (by omega)
            have HS := Lib.hid hs1
            have u0 : 0 ≤ u := by omega
            have v0 : 0 ≤ v := by omega
            clear hfx hfy hst hs1
            have HC := Lib.hid (show ((UInt8.ofNat (16 * u + v).toNat).toNat : Int) = 16 * u + v from by rw [UInt8.toNat_ofNat']; omega)
            go_wp2_with (at_builtin; refine wpList_append_row rfl _ _ _ rfl encByt Tryd.underlying30 hi hi0 hi1 hi2 rfl rfl rfl (HR.out.below (by go_grown)) (src1 encByt _ (UInt8.ofNat (16 * u + v).toNat) _ (by simp) (by unfold eByt; rw [HC.out])) (by unfold maxLen; omega) (by omega) (by have := hB.size; simp; omega) ?_; intro A2 c2 w2 hr2 hc2 hx2)
            have HR2 := Lib.hid (And.intro hr2 (Below.mark (ex_trans hB (by go_grown)) hc2 (by have := hB.size; simp; omega) (fun b hb' => (HR.out.base b hb').1)))
            clear hr2
            go_wp2_with fail
            go_roundw
            case rel => exact ⟨j + 2, k + 1, _, A2, c2, by go_num, rfl, by have := HJ.out; omega, by omega, HR2.out.1, HS.out, HR2.out.2⟩
            case measure => simp [intOf]; omega
      · obtain rfl : s.size = j := by omega
        have hpl : p.length = k := HR.out.len
        have HPl := Lib.hid (show dh s.data.toList = some p from dh_some.2 ⟨by rw [hpl]; have := HJ.out; omega, by rw [HPp.out, ← HJ.out, List.take_of_length_le (by rw [HLn.out]; exact Nat.le_refl _)]⟩)
        have HP := Lib.hid (dhY HPl.out)
        have hcv := run_row_string (P := Tryd.prog) HR.out Tryd.underlying30 Tryd.underlying5 Tryd.underlying9
        clear hpl
        go_wp2_with fail
        go_ret2
        exact ⟨ret_dh HP.out, hB⟩
  · have HP := Lib.hid (dhN (s := s) (dh_odd (by rw [HLn.out]; exact ho)))
    have o1 : (((s.size : Int) % 2) != 0) = true := by simp; omega
    go_enter Tryd.func15, Tryd.ntmps15
    go_wp2_with fail
    go_ret2
    exact ⟨ret_dh HP.out, Below.refl _ _⟩
def inR (b : UInt8) : Bool := decide (32 ≤ b.toNat) && decide (b.toNat ≤ 126)
def sfB (s : ByteArray) : Bool := decide (s.size ≤ 600) && s.data.toList.all inR && decide ((Lib.fields s.data.toList).length ≤ 24)
def sfL (s : ByteArray) : List ByteArray := if sfB s then (Lib.fields s.data.toList).map (fun l => ⟨l.toArray⟩) else []
theorem sf_long {s : ByteArray} (h : 600 < s.size) : sfB s = false := by unfold sfB; rw [decide_eq_false (by omega)]; rfl
theorem sf_out {s : ByteArray} {k : Nat} {x : UInt8} (hx : s.data.toList[k]? = some x) (h : inR x = false) : sfB s = false := by
  unfold sfB
  have : s.data.toList.all inR = false := by rw [List.all_eq_false]; exact ⟨x, List.mem_of_getElem? hx, by rw [h]; simp⟩
  rw [this]; simp
theorem sf_many {s : ByteArray} (h : 24 < (Lib.fields s.data.toList).length) : sfB s = false := by unfold sfB; rw [decide_eq_false (by omega : ¬ (Lib.fields s.data.toList).length ≤ 24)]; simp
theorem sf_ok {s : ByteArray} (h1 : s.size ≤ 600) (h2 : ∀ (k : Nat) (x : UInt8), s.data.toList[k]? = some x → inR x = true) (h3 : (Lib.fields s.data.toList).length ≤ 24) : sfB s = true := by
  unfold sfB
  simp only [Bool.and_eq_true, decide_eq_true_eq]
  exact ⟨⟨h1, List.all_eq_true.2 fun x hx => by obtain ⟨k, hk⟩ := List.getElem?_of_mem hx; exact h2 k x hk⟩, h3⟩
theorem sfN {s : ByteArray} (h : sfB s = false) : sfL s = [] := by unfold sfL; rw [h]; rfl
theorem sfY {s : ByteArray} (h : sfB s = true) : sfL s = (Lib.fields s.data.toList).map (fun l => (⟨l.toArray⟩ : ByteArray)) := by unfold sfL; rw [h]; rfl
theorem inR_sp {x : UInt8} (h : inR x = true) : Lib.isSp x = decide (x.toNat = 32) := by
  unfold inR at h
  simp only [Bool.and_eq_true, decide_eq_true_eq] at h
  exact isSp_print h.1 h.2
abbrev SfV (s : ByteArray) : Value → Value := fun v => .tuple #[v, .bool (sfB s)]
/-- what is left to be read of the line -/
def sfRest (s : ByteArray) (bg k : Nat) : List (List UInt8) := if k ≤ s.size then Lib.fieldsGo ((s.data.toList.drop bg).take (k - bg)) (s.data.toList.drop k) else []
theorem sf_none (s : ByteArray) (w w' : World) (hB : Below w.heap.size w w') (h : sfB s = false) (e : TypeId) (A : Option Addr) (c : Nat) (hc : FRow e 1 eStr w' w.heap.size A 0 c []) :
    NewRow (SfV s) e 1 eStr w (sfL s) (.returned (.tuple #[.slice A 0 c, .bool false])) w' := by
  rw [sfN h]
  exact ⟨A, c, by unfold SfV; rw [h]; rfl, hc, hB⟩
set_option maxHeartbeats 3200000 in
theorem spec_SplitFields (s : ByteArray) (hs : s.size ≤ 1048576) (w : World) :
    Calls Tryd.prog 25 #[.string s] w (NewRow (SfV s) 9 1 eStr w (sfL s)) := by
  have hlen : s.data.toList.length = s.size := (Lib.size_eq s).symm
  have HLn := Lib.hid hlen
  clear hlen
  obtain ⟨ii, hi, hi0, hi1, hi2⟩ := info_parts info_string
  by_cases hl : 600 < s.size
  · have HP := Lib.hid (sf_long hl)
    have i1 : (600 : Int) < (s.size : Int) := by omega
    go_enter Tryd.func25, Tryd.ntmps25
    go_wp2_with fail
    go_returns
    exact sf_none s w _ (by go_grown) HP.out _ _ _ (FRow.any0 _ _ _ _ _ _)
  have i1 : ¬ ((600 : Int) < (s.size : Int)) := by omega
  go_enter Tryd.func25, Tryd.ntmps25
  go_wp2_with fail
  go_loopw [4, 5, 6] (fun v b i wr => ∃ (k bg q : Nat) (fs : List ByteArray) (A : Option Addr) (c : Nat), i = .int .i64 (k : Int) ∧ b = .int .i64 (bg : Int) ∧ v = .slice A q c ∧ bg ≤ k ∧ q ≤ k ∧ k ≤ s.size + 1 ∧ FRow 9 1 eStr wr w.heap.size A q c fs ∧ fs.map (·.data.toList) ++ sfRest s bg k = Lib.fields s.data.toList ∧ (∀ (j : Nat) (x : UInt8), j < k → s.data.toList[j]? = some x → inR x = true) ∧ Below w.heap.size w wr) (fun _ _ i _ => s.size + 1 - (intOf i).toNat)
  case atStart => exact ⟨0, 0, 0, [], _, _, rfl, rfl, rfl, Nat.le_refl _, Nat.le_refl _, Nat.zero_le _, FRow.any0 _ _ _ _ _ _, by unfold sfRest; rw [if_pos (Nat.zero_le _)]; simp [Lib.fields], fun j x h => absurd h (by omega), by go_grown⟩
  case round =>
    obtain ⟨k, bg, q, fs, A, c, rfl, rfl, rfl, hbk, hqk, hk, hR, hf, hin, hB⟩ := hrel
    have HR := Lib.hid hR
    have HF := Lib.hid hf
    have HI := Lib.hid hin
    clear hR hf hin
    have i0 : (0 : Int) ≤ (k : Int) := by omega
    have b0 : (0 : Int) ≤ (bg : Int) := by omega
    have bk : (bg : Int) ≤ (k : Int) := by omega
    by_cases hlt : k < s.size
    · have hkz : (k : Int) < (s.size : Int) := by omega
      have hkl : (k : Int) ≤ (s.size : Int) := by omega
      have hkd : decide ((k : Int) < (s.size : Int)) = true := by simp; omega
      obtain ⟨x, hx⟩ : ∃ x : UInt8, s[k] = x := ⟨_, rfl⟩
      have HX := Lib.hid (show s.data.toList[k]? = some x by rw [← hx]; exact Lib.data_getElem? s k hlt)
      have x1 : (x.toNat : Int) < 256 := by have := x.toNat_lt; omega
      by_cases hr : inR x = true
      · have hr2 := hr
        unfold inR at hr2
        simp only [Bool.and_eq_true, decide_eq_true_eq] at hr2
        have e1 : decide ((x.toNat : Int) < 32) = false := by simp; omega
        have e2 : decide ((126 : Int) < (x.toNat : Int)) = false := by simp; omega
        have HIN := Lib.hid (show ∀ j y, j < k + 1 → s.data.toList[j]? = some y → inR y = true from fun j y hj hy => by
          by_cases e : j = k
          · subst e; rw [HX.out] at hy; cases hy; exact hr
          · exact HI.out j y (by omega) hy)
        have HSP := Lib.hid (inR_sp hr)
        clear hr hr2
        by_cases h32 : x.toNat = 32
        · have e3 : ((x.toNat : Int) != 32) = false := by simp; omega
          have hsx : Lib.isSp x = true := by rw [HSP.out, h32]; rfl
          by_cases hbl : bg < k
          · have e4 : decide ((bg : Int) < (k : Int)) = true := by simp; omega
            have HN := Lib.hid (show (fs ++ [s.extract bg k]).map (·.data.toList) ++ sfRest s (k + 1) (k + 1) = Lib.fields s.data.toList from by
              have h := HF.out
              unfold sfRest at h ⊢
              rw [if_pos (by omega), Lib.drop_at HX.out, Lib.fieldsGo_end _ _ _ hsx (Lib.piece_ne hbl (by rw [HLn.out]; omega))] at h
              rw [if_pos (by omega), ← h, List.map_append, List.map_cons, List.map_nil, Lib.extract_data]
              simp)
            clear hsx
            go_wp2_with (at_builtin; refine wpList_append_row rfl _ _ _ rfl encStr Tryd.underlying38 hi hi0 hi1 hi2 rfl rfl rfl (HR.out.below (by go_grown)) (src1 encStr _ (s.extract bg k) _ (by simp) (by rfl)) (by unfold maxLen; omega) (by omega) (by have := hB.size; simp; omega) ?_; intro A2 c2 w2 hr2 hc2 hx2)
            have HR2 := Lib.hid (And.intro hr2 (Below.mark (ex_trans hB (by go_grown)) hc2 (by have := hB.size; simp; omega) (fun b hb' => (HR.out.base b hb').1)))
            clear hr2
            go_wp2_with fail
            go_roundw
            case rel => exact ⟨k + 1, k + 1, q + 1, _, A2, c2, by go_num, by go_num, rfl, by omega, by omega, by omega, HR2.out.1, HN.out, HIN.out, HR2.out.2⟩
            case measure => simp [intOf]; omega
          · have e4 : decide ((bg : Int) < (k : Int)) = false := by simp; omega
            obtain rfl : k = bg := by omega
            have HN := Lib.hid (show fs.map (·.data.toList) ++ sfRest s (k + 1) (k + 1) = Lib.fields s.data.toList from by
              have h := HF.out
              unfold sfRest at h ⊢
              rw [if_pos (by omega), Lib.piece_nil, Lib.drop_at HX.out, Lib.fieldsGo_sp _ _ hsx] at h
              rw [if_pos (by omega), Lib.piece_nil]; exact h)
            clear hsx
            go_wp2_with fail
            go_roundw
            case rel => exact ⟨k + 1, k + 1, q, fs, A, c, by go_num, by go_num, rfl, by omega, by omega, by omega, HR.out, HN.out, HIN.out, hB⟩
            case measure => simp [intOf]; omega
        · have e3 : ((x.toNat : Int) != 32) = true := by simp; omega
          have hsx : Lib.isSp x = false := by rw [HSP.out]; exact decide_eq_false h32
          have HN := Lib.hid (show fs.map (·.data.toList) ++ sfRest s bg (k + 1) = Lib.fields s.data.toList from by
            have h := HF.out
            unfold sfRest at h ⊢
            rw [if_pos (by omega), Lib.drop_at HX.out, Lib.fieldsGo_more _ _ _ hsx, ← Lib.piece_more hbk HX.out] at h
            rw [if_pos (by omega)]; exact h)
          clear hsx
          go_wp2_with fail
          go_roundw
          case rel => exact ⟨k + 1, bg, q, fs, A, c, by go_num, rfl, rfl, by omega, by omega, by omega, HR.out, HN.out, HIN.out, hB⟩
          case measure => simp [intOf]; omega
      · have hr1 : inR x = false := by simpa using hr
        have HP := Lib.hid (sf_out HX.out hr1)
        by_cases hd1 : x.toNat < 32
        · have e1 : decide ((x.toNat : Int) < 32) = true := by simp; omega
          clear hr hr1
          go_wp2_with fail
          go_returns
          exact sf_none s w _ (ex_trans hB (by go_grown)) HP.out _ _ _ (FRow.any0 _ _ _ _ _ _)
        · have e1 : decide ((x.toNat : Int) < 32) = false := by simp; omega
          have e2 : decide ((126 : Int) < (x.toNat : Int)) = true := by
            unfold inR at hr1
            simp at hr1 ⊢
            omega
          clear hr hr1
          go_wp2_with fail
          go_returns
          exact sf_none s w _ (ex_trans hB (by go_grown)) HP.out _ _ _ (FRow.any0 _ _ _ _ _ _)
    · have hkd : decide ((k : Int) < (s.size : Int)) = false := by simp; omega
      by_cases hks : k = s.size
      · subst hks
        have hkl : ((s.size : Nat) : Int) ≤ (s.size : Int) := by omega
        by_cases hbl : bg < s.size
        · have e4 : decide ((bg : Int) < (s.size : Int)) = true := by simp; omega
          have hne := Lib.piece_ne (l := s.data.toList) hbl (by rw [HLn.out]; omega)
          have HN := Lib.hid (show (fs ++ [s.extract bg s.size]).map (·.data.toList) ++ sfRest s (s.size + 1) (s.size + 1) = Lib.fields s.data.toList from by
            have h := HF.out
            unfold sfRest at h ⊢
            rw [if_pos (by omega), List.drop_of_length_le (i := s.size) (by rw [HLn.out]; omega)] at h
            rw [if_neg (by omega), ← h, List.map_append, List.map_cons, List.map_nil, Lib.extract_data]
            cases hc : (s.data.toList.drop bg).take (s.size - bg) with
            | nil => exact absurd hc hne
            | cons _ _ => simp [Lib.fieldsGo])
          clear hne
          go_wp2_with (at_builtin; refine wpList_append_row rfl _ _ _ rfl encStr Tryd.underlying38 hi hi0 hi1 hi2 rfl rfl rfl (HR.out.below (by go_grown)) (src1 encStr _ (s.extract bg s.size) _ (by simp) (by rfl)) (by unfold maxLen; omega) (by omega) (by have := hB.size; simp; omega) ?_; intro A2 c2 w2 hr2 hc2 hx2)
          have HR2 := Lib.hid (And.intro hr2 (Below.mark (ex_trans hB (by go_grown)) hc2 (by have := hB.size; simp; omega) (fun b hb' => (HR.out.base b hb').1)))
          clear hr2
          go_wp2_with fail
          go_roundw
          case rel => exact ⟨s.size + 1, s.size + 1, q + 1, _, A2, c2, by go_num, by go_num, rfl, by omega, by omega, by omega, HR2.out.1, HN.out, fun j y hj hy => HI.out j y (by have := (List.getElem?_eq_some_iff.1 hy).1; rw [HLn.out] at this; omega) hy, HR2.out.2⟩
          case measure => simp [intOf]
        · have e4 : decide ((bg : Int) < (s.size : Int)) = false := by simp; omega
          obtain rfl : bg = s.size := by omega
          have HN := Lib.hid (show fs.map (·.data.toList) ++ sfRest s (s.size + 1) (s.size + 1) = Lib.fields s.data.toList from by
            have h := HF.out
            unfold sfRest at h ⊢
            rw [if_pos (by omega), List.drop_of_length_le (i := s.size) (by rw [HLn.out]; omega)] at h
            rw [if_neg (by omega), ← h]
            simp [Lib.fieldsGo])
          go_wp2_with fail
          go_roundw
          case rel => exact ⟨s.size + 1, s.size + 1, q, fs, A, c, by go_num, by go_num, rfl, by omega, by omega, by omega, HR.out, HN.out, fun j y hj hy => HI.out j y (by have := (List.getElem?_eq_some_iff.1 hy).1; rw [HLn.out] at this; omega) hy, hB⟩
          case measure => simp [intOf]
      · obtain rfl : k = s.size + 1 := by omega
        have hkl : ¬ (((s.size + 1 : Nat) : Int) ≤ (s.size : Int)) := by omega
        have hkl2 : ¬ ((s.size : Int) + 1 ≤ (s.size : Int)) := by omega
        have hfs : fs.map (·.data.toList) = Lib.fields s.data.toList := by
          have h := HF.out
          unfold sfRest at h
          rw [if_neg (by omega)] at h
          simpa using h
        have hq : (Lib.fields s.data.toList).length = q := by rw [← hfs, List.length_map]; exact HR.out.len
        by_cases hq24 : 24 < q
        · have HP := Lib.hid (sf_many (s := s) (by rw [hq]; exact hq24))
          have e5 : (24 : Int) < (q : Int) := by omega
          clear hfs hq
          go_wp2_with fail
          go_returns
          exact sf_none s w _ (ex_trans hB (by go_grown)) HP.out _ _ _ (FRow.any0 _ _ _ _ _ _)
        · have HP := Lib.hid (sf_ok (s := s) (by omega) (fun j y hy => HI.out j y (by have := (List.getElem?_eq_some_iff.1 hy).1; rw [HLn.out] at this; omega) hy) (by rw [hq]; omega))
          have HFS := Lib.hid (show sfL s = fs from by
            rw [sfY HP.out, ← hfs, List.map_map]
            conv => rhs; rw [← List.map_id fs]
            apply List.map_congr_left
            intro a _
            rfl)
          have e5 : ¬ ((24 : Int) < (q : Int)) := by omega
          have hql : fs.length = q := HR.out.len
          have HQL := Lib.hid hql
          clear hfs hq hql
          go_wp2_with fail
          go_returns
          rw [HFS.out]
          have HV : SfV s (.slice A fs.length c) = .tuple #[.slice A q c, .bool true] := by unfold SfV; rw [HP.out, HQL.out]
          exact ⟨A, c, by rw [HV]; rfl, by rw [HQL.out]; exact HR.out, hB⟩
end Go.Proofs.YtkoagijliokhlaaDoor
