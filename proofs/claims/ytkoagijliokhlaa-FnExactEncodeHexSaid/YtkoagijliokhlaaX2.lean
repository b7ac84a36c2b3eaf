/-
  CONTRACTS: the reference's text functions that make memory.
-/
import Derived.WalkKit
import Derived.WalkSpells
import Derived.WalkLawsBesides
import Derived.Lib.Hide
import Derived.Handy
import Derived.Laws.IdiomStrings
import Derived.Laws.BytesArg
import Derived.StillTailTactics
import Derived.Deep.Light
import Derived.Deep.QuietTactic
import Derived.BigQuiet
import Derived.Deep.RegionHeld3
import Derived.Lib.SplitLaws
import Derived.IntWalk
import Derived.Test.YtkoagijliokhlaaLib
import Derived.Test.YtkoagijliokhlaaOwn
import Derived.Test.YtkoagijliokhlaaRow
import Derived.Test.YtkoagijliokhlaaHld
import Derived.Test.YtkoagijliokhlaaSz
import Derived.Test.YtkoagijliokhlaaC1
import Derived.Test.YtkoagijliokhlaaC2
import Derived.Test.YtkoagijliokhlaaD1
import Derived.Test.YtkoagijliokhlaaX0
import Derived.Test.YtkoagijliokhlaaX1
import Derived.Test.YtkoagijliokhlaaRows
namespace Go.Proofs.Ytkoagijliokhlaa
open Go.RowKit
set_option linter.unusedVariables false
set_option maxRecDepth 100000
theorem run_row_string {P : Program} {w : World} {B n c : Nat} {A : Option Addr} {l : List UInt8} {e src dst : TypeId} (h : FRow e 1 eByt w B A n c l) (hs : P.underlying src = some (.slice e)) (he : P.underlying e = some (.int .u8)) (hd : P.underlying dst = some .string) :
    (convert src dst (.slice A n c)).run P w = .ok (.string ⟨l.toArray⟩) w := by
  obtain rfl : l.length = n := h.len
  rcases Nat.eq_zero_or_pos l.length with h0 | h0
  · obtain rfl : l = [] := List.eq_nil_of_length_eq_zero h0
    cases A with
    | none => exact run_convert_bytes_nil w src e hs he 0 c dst hd
    | some a => exact run_convert_bytes_back w src dst e a c [] hs he hd (fun j hj => absurd hj (by simp))
  · obtain ⟨g, rfl, _, _, _, _, hc⟩ := h.cell encByt h0
    refine run_convert_bytes_back w src dst e ⟨g, 0, none⟩ c l hs he hd fun j hj => ?_
    have := hc j hj 0 _ rfl
    rw [Addr.add_lit, Nat.zero_add]
    simpa using this
theorem srcL {α : Type} {size : Nat} {enc : α → List Value} (hE : Enc size enc) (w : World) (l : List α) (e : TypeId) {g n : Nat} (hg : g = w.heap.size) (hn : l.length = n) (hm : n ≤ maxLen) {cs : Array Value} (hcs : cs.toList = l.flatMap enc) : Src size enc (w.alloc (.cells cs e)) (some ⟨g, 0, none⟩) n l := by
  subst hg; subst hn
  exact Src.of_row hE (FRow.lit (e := e) (B := 0) hE w hm (Nat.zero_le _) hcs)
def ehS (s : ByteArray) : ByteArray := if s.size ≤ 20000 then ⟨(Lib.Hx.encode s.data.toList).toArray⟩ else ByteArray.empty
def ehB (s : ByteArray) : Bool := decide (s.size ≤ 20000)
theorem ret_eh {s v : ByteArray} {b : Bool} (h : ehS s = v ∧ ehB s = b) : Ending.returned (.tuple #[.string v, .bool b]) = .returned (.tuple #[.string (ehS s), .bool (ehB s)]) := by rw [h.1, h.2]
theorem ehN {s : ByteArray} (h : 20000 < s.size) : ehS s = ByteArray.empty ∧ ehB s = false := by unfold ehS ehB; exact ⟨if_neg (by omega), decide_eq_false (by omega)⟩
theorem ehY {s : ByteArray} (h : s.size ≤ 20000) : ehS s = ⟨(Lib.Hx.encode s.data.toList).toArray⟩ ∧ ehB s = true := by unfold ehS ehB; exact ⟨if_pos h, decide_eq_true h⟩
theorem enc_take (l : List UInt8) (k : Nat) (x : UInt8) (h : l[k]? = some x) : Lib.Hx.encode (l.take (k + 1)) = Lib.Hx.encode (l.take k) ++ [Lib.Hx.digit (x.toNat / 16), Lib.Hx.digit (x.toNat % 16)] := by
  rw [List.take_add_one, h, encode_app]; rfl
set_option maxHeartbeats 1600000 in
theorem spec_EncodeHex (s : ByteArray) (hs : s.size ≤ 1048576) (w : World) :
    Calls Try.prog 4 #[.string s] w fun e w' => e = .returned (.tuple #[.string (ehS s), .bool (ehB s)]) ∧ Below w.heap.size w w' := by
  have hlen : s.data.toList.length = s.size := (Lib.size_eq s).symm
  have HLn := Lib.hid hlen
  clear hlen
  obtain ⟨ii, hi, hi0, hi1, hi2⟩ := info_parts info_uint8
  by_cases hl : 20000 < s.size
  · have HP := Lib.hid (ehN hl)
    have i1 : (20000 : Int) < (s.size : Int) := by omega
    go_enter Try.func4, Try.ntmps4
    go_wp2_with fail
    go_ret2
    exact ⟨ret_eh HP.out, Below.refl _ _⟩
  have i1 : ¬ ((20000 : Int) < (s.size : Int)) := by omega
  have HP := Lib.hid (ehY (s := s) (by omega))
  go_enter Try.func4, Try.ntmps4
  go_wp2_with fail
  go_loopw [4, 5] (fun v i wr => ∃ (k : Nat) (A : Option Addr) (c : Nat), i = .int .i64 (k : Int) ∧ v = .slice A (2 * k) c ∧ k ≤ s.size ∧ FRow 5 1 eByt wr w.heap.size A (2 * k) c (Lib.Hx.encode (s.data.toList.take k)) ∧ Below w.heap.size w wr) (fun _ i _ => s.size - (intOf i).toNat)
  case atStart => exact ⟨0, _, _, rfl, rfl, Nat.zero_le _, FRow.any0 _ _ _ _ _ _, by go_grown⟩
  case round =>
    obtain ⟨k, A, c, rfl, rfl, hk, hR, hB⟩ := hrel
    have HR := Lib.hid hR
    clear hR
    by_cases hlt : k < s.size
    · have hkz : (k : Int) < (s.size : Int) := by omega
      obtain ⟨x, hx⟩ : ∃ x : UInt8, s[k] = x := ⟨_, rfl⟩
      have HX := Lib.hid (enc_take s.data.toList k x (by rw [← hx]; exact Lib.data_getElem? s k hlt))
      have i0 : (0 : Int) ≤ (k : Int) := by omega
      have x1 : x.toNat < 256 := x.toNat_lt
      have x2 : (0 : Int) ≤ (x.toNat : Int) := by omega
      have hw : IntKind.i64.wrap (x.toNat : Int) = (x.toNat : Int) := IntWalk.i64_in _ (by omega)
      have hwd : IntKind.i64.wrap (Int.tdiv (IntKind.i64.wrap (x.toNat : Int)) 16) = (x.toNat : Int) / 16 := by
        rw [hw, Int.tdiv_eq_ediv_of_nonneg x2, IntWalk.i64_in _ (by omega)]
      have hwm : Int.tmod (IntKind.i64.wrap (x.toNat : Int)) 16 = (x.toNat : Int) % 16 := by
        rw [hw, Int.tmod_eq_emod_of_nonneg x2]
      have HF1 := Lib.hid fun w' => (spec_l01Figure (IntKind.i64.wrap (Int.tdiv (IntKind.i64.wrap (x.toNat : Int)) 16)) (by rw [hwd]; omega) (by rw [hwd]; omega) w')
      have HF2 := Lib.hid fun w' => (spec_l01Figure (Int.tmod (IntKind.i64.wrap (x.toNat : Int)) 16) (by rw [hwm]; omega) (by rw [hwm]; omega) w')
      rw [show (IntKind.i64.wrap (Int.tdiv (IntKind.i64.wrap (x.toNat : Int)) 16)).toNat = x.toNat / 16 by rw [hwd]; omega] at HF1
      rw [show (Int.tmod (IntKind.i64.wrap (x.toNat : Int)) 16).toNat = x.toNat % 16 by rw [hwm]; omega] at HF2
      clear hw hwd hwm
      go_upto_region 7 with fail
      go_region_held3 (fun w' => Tok w') (exact trivial)
        (first
          | (go_at_call 6; (with_reducible refine (HF1.out _).mono ?_); rintro e w9 ⟨rfl, rfl⟩)
          | (go_at_call 6; (with_reducible refine (HF2.out _).mono ?_); rintro e w9 ⟨rfl, rfl⟩)
          | (refine step_append_row rfl (.tmp 16) (.tmp 29) _ rfl encByt Try.underlying25 hi hi0 hi1 hi2 rfl rfl rfl (HR.out.below (by go_grown)) (srcL (n := 2) encByt _ [Lib.Hx.digit (x.toNat / 16), Lib.Hx.digit (x.toNat % 16)] _ (by simp) rfl (by unfold maxLen; omega) rfl) (by unfold maxLen; omega) (by omega) (by have := hB.size; simp; omega) ?_; intro A3 c3 w5 hr5 hc5 hx5; have HR5 := Lib.hid (And.intro hr5 (Below.mark (ex_trans hB (by go_grown)) hc5 (by have := hB.size; simp; omega) (fun b hb' => (HR.out.base b hb').1))); clear hr5 hc5 hx5))
      all_goals
        go_wp2_with fail
        go_roundw
        case rel => exact ⟨k + 1, A3, c3, by go_num, by rw [show 2 * (k + 1) = 2 * k + 2 by omega], by omega, by rw [HX.out, show 2 * (k + 1) = 2 * k + 2 by omega]; exact HR5.out.1, HR5.out.2⟩
        case measure => simp [intOf]; omega
    · obtain rfl : s.size = k := by omega
      rw [List.take_of_length_le (by rw [HLn.out]; exact Nat.le_refl _)] at HR
      have hcv := run_row_string (P := Try.prog) HR.out Try.underlying25 Try.underlying5 Try.underlying9
      go_wp2_with fail
      go_ret2
      exact ⟨ret_eh HP.out, hB⟩
end Go.Proofs.Ytkoagijliokhlaa
