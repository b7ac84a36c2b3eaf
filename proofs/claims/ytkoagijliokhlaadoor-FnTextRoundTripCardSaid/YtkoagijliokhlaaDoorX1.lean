/-
  CONTRACTS: the reference's text functions.
-/
import Derived.WalkKit
import Derived.WalkSpells
import Derived.WalkLawsBesides
import Derived.Lib.Hide
import Derived.Handy
import Derived.Laws.IdiomStrings
import Derived.Laws.BytesArg
import Derived.StillTailTactics
import Derived.Deep.Light
import Derived.Deep.QuietTactic
import Derived.BigQuiet
import Derived.Test.YtkoagijliokhlaaDoorLib
import Derived.Test.YtkoagijliokhlaaDoorOwn
import Derived.Test.YtkoagijliokhlaaDoorRow
import Derived.Test.YtkoagijliokhlaaDoorC1
import Derived.Test.YtkoagijliokhlaaDoorC2
import Derived.Test.YtkoagijliokhlaaDoorX0
import Derived.Test.YtkoagijliokhlaaDoorRows
namespace Go.Proofs.YtkoagijliokhlaaDoor
open Go.RowKit
set_option linter.unusedVariables false
set_option maxRecDepth 100000
def eByt (c : UInt8) : List Value := [.int .u8 (c.toNat : Int)]
theorem encByt : Enc 1 eByt := ⟨by omega, fun _ => rfl, fun x u hu => by simp [eByt] at hu; subst hu; rfl⟩
theorem info_uint8 : (Tryd.prog.info? 5).map (fun i => (i.zero, i.size, i.bytes)) = some (some (.int .u8 0), 1, 1) := by kernel_rfl
theorem spec_l01Figure (x : Int) (hx0 : 0 ≤ x) (hx1 : x < 16) (w : World) : Calls Tryd.prog 53 #[.int .i64 x] w fun e w' => e = .returned (.int .u8 ((Lib.Hx.digit x.toNat).toNat : Int)) ∧ w = w' := by
  obtain ⟨d, rfl⟩ : ∃ d : Nat, x = d := ⟨x.toNat, by omega⟩
  have hf := fig_hex ⟨d, by omega⟩
  simp only at hf
  rw [show ((d : Int)).toNat = d from by simp]
  by_cases h : d < 10
  · rw [if_pos h] at hf
    have h1 : (d : Int) < 10 := by omega
    have HF := Lib.hid hf
    clear hf
    go_enter Tryd.func53, Tryd.ntmps53
    go_wp2_with fail
    go_ret
    exact ⟨ret_int (by have := HF.out; omega), rfl⟩
  · rw [if_neg h] at hf
    have h1 : ¬ ((d : Int) < 10) := by omega
    have h0 : (10 : Int) ≤ d := by omega
    have HF := Lib.hid hf
    clear hf
    go_enter Tryd.func53, Tryd.ntmps53
    go_wp2_with fail
    go_ret
    exact ⟨ret_int (by have := HF.out; omega), rfl⟩
theorem bytes_cons (c : UInt8) (l : List UInt8) : (⟨#[c]⟩ : ByteArray) ++ ⟨l.toArray⟩ = ⟨(c :: l).toArray⟩ := ByteArray.ext (by simp)
theorem ddz_len (N : Nat) (h : N < 18446744073709551616) : (ddz N).length ≤ 21 := by
  unfold ddz
  split
  · simp
  · rw [Lib.decDigits_length]
    obtain ⟨h1, h2⟩ := Lib.numDigits_eq N (by omega) h
    split at h1 <;> omega
theorem ret_str {a b : ByteArray} (h : a = b) : Ending.returned (.string a) = .returned (.string b) := by rw [h]
theorem tdiv_neg10 (k : Nat) : Int.tdiv (-(k : Int)) 10 = -((k / 10 : Nat) : Int) := by rw [Int.neg_tdiv]; rfl
theorem tmod_neg10 (k : Nat) : Int.tmod (-(k : Int)) 10 = -((k % 10 : Nat) : Int) := by rw [Int.neg_tmod]; rfl
theorem run_byte1 {P : Program} (w : World) (src dst e : TypeId) (a : Addr) (cap : Nat) (c : UInt8) (hs : P.underlying src = some (.slice e)) (he : P.underlying e = some (.int .u8)) (hd : P.underlying dst = some .string) (hc : w.cell? a = some (.int .u8 (c.toNat : Int))) :
    (convert src dst (.slice (some a) 1 cap)).run P w = .ok (.string ⟨#[c]⟩) w := by
  have := run_convert_bytes_back (P := P) w src dst e a cap [c] hs he hd (fun j hj => by
    obtain rfl : j = 0 := by simpa using hj
    simpa [Addr.add] using hc)
  exact this
set_option maxHeartbeats 1600000 in
theorem spec_FormatInt (n : Int) (h0 : -9223372036854775808 ≤ n) (h1 : n ≤ 9223372036854775807) (w : World) :
    Calls Tryd.prog 23 #[.int .i64 n] w fun e w' => e = .returned (.string ⟨(Lib.itoa n).toArray⟩) ∧ Below w.heap.size w w' := by
  by_cases hz : n = 0
  · subst hz
    have hb : ((0 : Int) == 0) = true := rfl
    go_enter Tryd.func23, Tryd.ntmps23
    go_wp2_with fail
    go_ret
    exact ⟨ret_str (by have e : Lib.itoa 0 = [48] := by rw [show (0 : Int) = ((0 : Nat) : Int) from rfl, itoa_nat, dd_lt (by decide)]; rfl
                       rw [e]), Below.refl _ _⟩
  · by_cases hn : 0 < n
    · obtain ⟨N, rfl⟩ : ∃ N : Nat, n = N := ⟨n.toNat, by omega⟩
      have hb : decide ((N : Int) < 0) = false := by simp
      have hb2 : ((N : Int) == 0) = false := by simpa using hz
      have HI := Lib.hid (show Lib.itoa (N : Int) = ddz N by rw [itoa_nat]; unfold ddz; rw [if_neg (by omega)])
      go_enter Tryd.func23, Tryd.ntmps23
      go_wp2_with fail
      go_loopw [0, 4] (fun v s wr => ∃ (k : Nat) (l : List UInt8), v = .int .i64 (k : Int) ∧ s = .string ⟨l.toArray⟩ ∧ k ≤ N ∧ ddz N = ddz k ++ l ∧ Below w.heap.size w wr) (fun v _ _ => (intOf v).toNat)
      case atStart => exact ⟨N, [], rfl, rfl, Nat.le_refl _, by simp, Below.refl _ _⟩
      case round =>
        obtain ⟨k, l, rfl, rfl, hk, hl, hB⟩ := hrel
        have HL := Lib.hid hl
        clear hl
        by_cases hk0 : k = 0
        · subst hk0
          go_wp2_with fail
          go_ret
          exact ⟨ret_str (by rw [HI.out, HL.out]; simp [ddz]), hB⟩
        · have hkz : ((k : Int) != 0) = true := by simpa using hk0
          have i0 : (0 : Int) ≤ k := by omega
          have i1 : (k : Int) ≤ 9223372036854775807 := by omega
          have j0 : (0 : Int) ≤ (k : Int) % 10 := by omega
          have j1 : (k : Int) % 10 < 16 := by omega
          have j2 : ((k : Int) % 10).toNat = k % 10 := by omega
          have HJ := Lib.hid j2
          clear j2
          go_wp2_with fail
          refine (spec_l01Figure _ j0 j1 _).mono ?_; rintro e w2 ⟨rfl, rfl⟩
          rw [HJ.out]
          have hcv := fun (W : World) (b : Nat) (hc : W.cell? ⟨b, 0, none⟩ = some (.int .u8 ((Lib.Hx.digit (k % 10)).toNat : Int))) => run_byte1 (P := Tryd.prog) W 30 9 5 ⟨b, 0, none⟩ 1 (Lib.Hx.digit (k % 10)) Tryd.underlying30 Tryd.underlying5 Tryd.underlying9 hc
          have hcw := hcv (wr.alloc (.cells #[.int .u8 ((Lib.Hx.digit (k % 10)).toNat : Int)] 5)) wr.heap.size (by go_simp)
          clear hcv
          generalize (Lib.Hx.digit (k % 10)).toNat = dg at *
          have hll : ¬ (9223372036854775807 < 1 + l.length) := by have h2 := ddz_len N (by omega); rw [HL.out, List.length_append] at h2; omega
          have HD := Lib.hid (show ddz N = ddz (k / 10) ++ Lib.Hx.digit (k % 10) :: l by rw [HL.out, ddz_step hk0, ← fig_dec (Nat.mod_lt k (by decide : 0 < 10)), List.append_assoc]; rfl)
          go_wp2_with fail
          go_roundw
          case rel => exact ⟨k / 10, Lib.Hx.digit (k % 10) :: l, by go_num, by rw [bytes_cons], by omega, HD.out, ex_alloc hB _⟩
          case measure => simp [intOf]; omega
    · obtain ⟨N, rfl⟩ : ∃ N : Nat, n = -(N : Int) := ⟨(-n).toNat, by omega⟩
      have hNp : 0 < N := by omega
      have hb : decide (-(N : Int) < 0) = true := by simpa using hNp
      have hb2 : (-(N : Int) == 0) = false := by simpa using hz
      have HI := Lib.hid (show Lib.itoa (-(N : Int)) = 45 :: ddz N by unfold Lib.itoa ddz; rw [if_pos (by omega), if_neg (by omega)]; simp)
      clear hn hz
      go_enter Tryd.func23, Tryd.ntmps23
      go_wp2_with fail
      go_loopw [0, 4] (fun v s wr => ∃ (k : Nat) (l : List UInt8), v = .int .i64 (-(k : Int)) ∧ s = .string ⟨l.toArray⟩ ∧ k ≤ N ∧ ddz N = ddz k ++ l ∧ Below w.heap.size w wr) (fun v _ _ => (intOf v).natAbs)
      case atStart => exact ⟨N, [], rfl, rfl, Nat.le_refl _, by simp, Below.refl _ _⟩
      case round =>
        obtain ⟨k, l, rfl, rfl, hk, hl, hB⟩ := hrel
        have HL := Lib.hid hl
        clear hl
        by_cases hk0 : k = 0
        · subst hk0
          have hll : ¬ (9223372036854775807 < 1 + l.length) := by have h2 := ddz_len N (by omega); rw [HL.out, List.length_append] at h2; omega
          go_wp2_with fail
          go_ret
          exact ⟨ret_str (by rw [HI.out, HL.out]; simp [ddz, bytes_cons]), hB⟩
        · have hkz : (-(k : Int) != 0) = true := by simpa using hk0
          have hll : ¬ (9223372036854775807 < 1 + l.length) := by have h2 := ddz_len N (by omega); rw [HL.out, List.length_append] at h2; omega
          have HD := Lib.hid (show ddz N = ddz (k / 10) ++ Lib.Hx.digit (k % 10) :: l by rw [HL.out, ddz_step hk0, ← fig_dec (Nat.mod_lt k (by decide : 0 < 10)), List.append_assoc]; rfl)
          have i0 : (0 : Int) ≤ k := by omega
          have i1 : (k : Int) ≤ 9223372036854775808 := by omega
          have hm := tmod_neg10 k
          have hq := tdiv_neg10 k
          generalize hr : k % 10 = r at *
          have hr10 : r < 10 := by omega
          have hk10 : k / 10 ≤ N := by omega
          have hkl : k / 10 < k := by omega
          generalize hqq : k / 10 = q at *
          clear hr hqq
          by_cases hr0 : r = 0
          · subst hr0
            have j0 : (0 : Int) ≤ (0 : Int) := by omega
            have j1 : (0 : Int) < 16 := by omega
            have HT := Lib.hid (show (0 : Int).toNat = 0 from by simp)
            have hcv := fun (W : World) (b : Nat) (hc : W.cell? ⟨b, 0, none⟩ = some (.int .u8 ((Lib.Hx.digit 0).toNat : Int))) => run_byte1 (P := Tryd.prog) W 30 9 5 ⟨b, 0, none⟩ 1 (Lib.Hx.digit 0) Tryd.underlying30 Tryd.underlying5 Tryd.underlying9 hc
            have hcw := hcv (wr.alloc (.cells #[.int .u8 ((Lib.Hx.digit 0).toNat : Int)] 5)) wr.heap.size (by go_simp)
            clear hcv
            go_wp2_with fail
            refine (spec_l01Figure _ j0 j1 _).mono ?_; rintro e w2 ⟨rfl, rfl⟩
            rw [HT.out]
            generalize (Lib.Hx.digit 0).toNat = dg at *
            go_wp2_with fail
            go_roundw
            case rel => exact ⟨q, Lib.Hx.digit 0 :: l, by go_num, by rw [bytes_cons], hk10, HD.out, ex_alloc hB _⟩
            case measure => simp [intOf]; omega
          · have hd1 : decide (-(r : Int) < 0) = true := by simp; omega
            have j0 : (0 : Int) ≤ (r : Int) := by omega
            have j1 : (r : Int) < 16 := by omega
            have HT := Lib.hid (show ((r : Int)).toNat = r from by simp)
            have hcv := fun (W : World) (b : Nat) (hc : W.cell? ⟨b, 0, none⟩ = some (.int .u8 ((Lib.Hx.digit r).toNat : Int))) => run_byte1 (P := Tryd.prog) W 30 9 5 ⟨b, 0, none⟩ 1 (Lib.Hx.digit r) Tryd.underlying30 Tryd.underlying5 Tryd.underlying9 hc
            have hcw := hcv (wr.alloc (.cells #[.int .u8 ((Lib.Hx.digit r).toNat : Int)] 5)) wr.heap.size (by go_simp)
            clear hcv
            go_wp2_with fail
            refine (spec_l01Figure _ j0 j1 _).mono ?_; rintro e w2 ⟨rfl, rfl⟩
            rw [HT.out]
            generalize (Lib.Hx.digit r).toNat = dg at *
            go_wp2_with fail
            go_roundw
            case rel => exact ⟨q, Lib.Hx.digit r :: l, by go_num, by rw [bytes_cons], hk10, HD.out, ex_alloc hB _⟩
            case measure => simp [intOf]; omega
theorem spec_l01Value (x : Int) (h0 : 0 ≤ x) (h1 : x ≤ 255) (w : World) : Calls Tryd.prog 44 #[.int .u8 x] w fun e w' => e = .returned (.int .i64 (lowV x)) ∧ w = w' := by
  go_enter Tryd.func44, Tryd.ntmps44
  go_wp2_with fail
  all_goals
    go_ret
    exact ⟨ret_int (by unfold lowV; (repeat' split) <;> omega), rfl⟩
def puV (l : List UInt8) : Int := match pu l with | some n => (n : Int) | none => 0
def puB (l : List UInt8) : Bool := (pu l).isSome
theorem puN {l : List UInt8} (h : pu l = none) : puV l = 0 ∧ puB l = false := by unfold puV puB; rw [h]; exact ⟨rfl, rfl⟩
theorem puS {l : List UInt8} {n : Nat} (h : pu l = some n) : puV l = n ∧ puB l = true := by unfold puV puB; rw [h]; exact ⟨rfl, rfl⟩
theorem ret_pu {l : List UInt8} {v : Int} {b : Bool} (h : puV l = v ∧ puB l = b) : Ending.returned (.tuple #[.int .i64 v, .bool b]) = .returned (.tuple #[.int .i64 (puV l), .bool (puB l)]) := by rw [h.1, h.2]
theorem dec_digit {l : List UInt8} {k m : Nat} (h : Lib.decFrom 0 (l.take k) = some m) {c : UInt8} (hc : l[k]? = some c) (h1 : 48 ≤ c.toNat) (h2 : c.toNat ≤ 57) : Lib.decFrom 0 (l.take (k + 1)) = some (10 * m + c.toNat - 48) := by
  have := Lib.decFrom_take l k 0 m c (c.toNat - 48) h hc (by unfold Lib.digitVal; rw [if_pos ⟨h1, h2⟩])
  rw [this]; congr 1; omega
theorem dec_none {l : List UInt8} {k : Nat} {c : UInt8} (hc : l[k]? = some c) (h : ¬ (48 ≤ c.toNat ∧ c.toNat ≤ 57)) : Lib.decFrom 0 l = none := by
  cases hd : Lib.decFrom 0 l with
  | none => rfl
  | some n =>
    obtain ⟨d, hd2⟩ := Lib.digit_of_decFrom _ _ _ hd k c hc
    have := Lib.digitVal_eq hd2
    omega
theorem dec_lt10 {l : List UInt8} {k m : Nat} (h : Lib.decFrom 0 (l.take k) = some m) (hk : k ≤ 10) : m < 10000000000 := by
  have h1 := Lib.decFrom_lt _ 0 m h
  have h2 : (l.take k).length ≤ 10 := by rw [List.length_take]; omega
  have h3 := Nat.pow_le_pow_right (n := 10) (by decide) h2
  have e : (10 : Nat) ^ 10 = 10000000000 := by decide
  omega
set_option maxHeartbeats 1600000 in
theorem spec_ParseUint (s : ByteArray) (hs : s.size ≤ 1048576) (w : World) :
    Calls Tryd.prog 34 #[.string s] w fun e w' => e = .returned (.tuple #[.int .i64 (puV s.data.toList), .bool (puB s.data.toList)]) ∧ Below w.heap.size w w' := by
  have hlen : s.data.toList.length = s.size := (Lib.size_eq s).symm
  have HLn := Lib.hid hlen
  clear hlen
  by_cases h10 : 10 < s.size
  · have HP := Lib.hid (puN (pu_long (l := s.data.toList) (by rw [HLn.out]; exact h10)))
    have i1 : (10 : Int) < (s.size : Int) := by omega
    go_enter Tryd.func34, Tryd.ntmps34
    go_wp2_with fail
    go_ret2
    exact ⟨ret_pu HP.out, Below.refl _ _⟩
  · have i1 : ¬ ((10 : Int) < (s.size : Int)) := by omega
    go_enter Tryd.func34, Tryd.ntmps34
    go_wp2_with fail
    go_loop [4, 5] (fun n i => ∃ k m : Nat, i = .int .i64 (k : Int) ∧ n = .int .i64 (m : Int) ∧ k ≤ s.size ∧ Lib.decFrom 0 (s.data.toList.take k) = some m) (fun _ i => s.size - (intOf i).toNat)
    case atStart => exact ⟨0, 0, rfl, rfl, Nat.zero_le _, rfl⟩
    case round =>
      obtain ⟨k, m, rfl, rfl, hk, hm⟩ := hrel
      have hm10 := dec_lt10 hm (by omega)
      have HM := Lib.hid hm
      clear hm
      by_cases hlt : k < s.size
      · have hkz : (k : Int) < (s.size : Int) := by omega
        obtain ⟨x, hx⟩ : ∃ x : UInt8, s[k] = x := ⟨_, rfl⟩
        have HX := Lib.hid (show s.data.toList[k]? = some x by rw [← hx]; exact Lib.data_getElem? s k hlt)
        have i0 : (0 : Int) ≤ (k : Int) := by omega
        have m0 : (0 : Int) ≤ (m : Int) := by omega
        have m1 : (m : Int) < 10000000000 := by omega
        have x0 : (x.toNat : Int) < 256 := by have := x.toNat_lt; omega
        by_cases hd : 48 ≤ x.toNat ∧ x.toNat ≤ 57
        · have d1 : ¬ ((x.toNat : Int) < 48) := by omega
          have d2 : ¬ ((57 : Int) < (x.toNat : Int)) := by omega
          have d3 : (48 : Int) ≤ (x.toNat : Int) := by omega
          have HN := Lib.hid (dec_digit HM.out HX.out hd.1 hd.2)
          go_wp2_with fail
          go_round
          case rel => exact ⟨k + 1, 10 * m + x.toNat - 48, by go_num, by congr 1; omega, by omega, HN.out⟩
          case measure => simp [intOf]; omega
        · have HP := Lib.hid (puN (pu_sign (dec_none HX.out hd)))
          by_cases hd1 : x.toNat < 48
          · have d1 : (x.toNat : Int) < 48 := by omega
            go_wp2_with fail
            go_ret2
            exact ⟨ret_pu HP.out, Below.refl _ _⟩
          · have d1 : ¬ ((x.toNat : Int) < 48) := by omega
            have d2 : (57 : Int) < (x.toNat : Int) := by omega
            go_wp2_with fail
            go_ret2
            exact ⟨ret_pu HP.out, Below.refl _ _⟩
      · obtain rfl : s.size = k := by omega
        have hm2 := HM.out
        rw [List.take_of_length_le (by rw [HLn.out]; exact Nat.le_refl _)] at hm2
        have HM2 := Lib.hid hm2
        clear hm2 HM
        have hll : s.data.toList.length ≤ 10 := by rw [HLn.out]; omega
        have HLL := Lib.hid hll
        clear hll
        by_cases hb : m ≤ 1000000000
        · have hb1 : ¬ ((1000000000 : Int) < (m : Int)) := by omega
          have hb2 : decide ((1000000000 : Int) < (m : Int)) = false := by simp; omega
          have HF := Lib.hid fun w' => spec_FormatInt (m : Int) (by omega) (by omega) w'
          obtain ⟨t, ht⟩ : ∃ t : ByteArray, t = ⟨(Lib.itoa (m : Int)).toArray⟩ := ⟨_, rfl⟩
          rw [← ht] at HF
          have HT := Lib.hid ht
          clear ht
          by_cases he : t = s
          · have HP := Lib.hid (puS (pu_some.2 ⟨HLL.out, hb, show Lib.decDigits m = s.data.toList by rw [← he, HT.out, itoa_nat]⟩))
            subst he
            go_wp2_with fail
            refine (HF.out _).mono ?_; rintro e w2 ⟨rfl, hb2⟩
            go_wp2_with fail
            go_ret2
            exact ⟨ret_pu HP.out, hb2⟩
          · have HP := Lib.hid (puN (pu_num HM2.out HLL.out fun h => he (by rw [HT.out]; have h2 := h.2; rw [h2])))
            have hne : (t.toList == s.toList) = false := by rw [beq_eq_false_iff_ne]; exact fun h => he (toList_inj h)
            have hne2 : (t.toList != s.toList) = true := by rw [bne, hne]; rfl
            go_wp2_with fail
            refine (HF.out _).mono ?_; rintro e w2 ⟨rfl, hb2⟩
            go_wp2_with fail
            go_ret2
            exact ⟨ret_pu HP.out, hb2⟩
        · have hb1 : (1000000000 : Int) < (m : Int) := by omega
          have HP := Lib.hid (puN (pu_num HM2.out HLL.out fun h => hb h.1))
          go_wp2_with fail
          go_ret2
          exact ⟨ret_pu HP.out, Below.refl _ _⟩
end Go.Proofs.YtkoagijliokhlaaDoor
