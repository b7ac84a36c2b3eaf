/-
  CONTRACTS: hexadecimal text written, at a short text.
-/
import Derived.WalkKit
import Derived.WalkSpells
import Derived.WalkLawsBesides
import Derived.Lib.Hide
import Derived.Handy
import Derived.Laws.IdiomStrings
import Derived.Laws.BytesArg
import Derived.StillTailTactics
import Derived.Deep.Light
import Derived.Lib.ConvBytes
import Derived.Lib.AtoiErrMem
import Derived.Lib.ItoaLen
import Derived.Test.YtkoagijliokhlaaDoorLib
import Derived.Test.YtkoagijliokhlaaDoorOwn
import Derived.Test.YtkoagijliokhlaaDoorRow
import Derived.Test.YtkoagijliokhlaaDoorHld
import Derived.Test.YtkoagijliokhlaaDoorSz
import Derived.Test.YtkoagijliokhlaaDoorC1
import Derived.Test.YtkoagijliokhlaaDoorC2
import Derived.Test.YtkoagijliokhlaaDoorD1
import Derived.Test.YtkoagijliokhlaaDoorX0
import Derived.Test.YtkoagijliokhlaaDoorX1
import Derived.Test.YtkoagijliokhlaaDoorX2
import Derived.Test.YtkoagijliokhlaaDoorX3
import Derived.Test.YtkoagijliokhlaaDoorShelf
import Derived.Test.YtkoagijliokhlaaDoorRows
namespace Go.Proofs.YtkoagijliokhlaaDoor
open Go.RowKit
set_option linter.unusedVariables false
set_option maxRecDepth 100000
theorem impl_EncodeHexY (s : ByteArray) (hs : s.size ≤ 20000) (w : World) :
    Calls Tryd.prog 37 #[.string s] w fun e w' => e = .returned (.tuple #[.string ⟨(Lib.Hx.encode s.data.toList).toArray⟩, .bool true]) ∧ Below w.heap.size w w' := by
  have hlen : s.data.toList.length = s.size := (Lib.size_eq s).symm
  have i1 : ¬ ((20000 : Int) < (s.size : Int)) := by omega
  have hcv := Lib.run_convert_string_bytes (P := Tryd.prog) w 9 30 5 s Tryd.underlying9 Tryd.underlying30 Tryd.underlying5
  have HB := Lib.hid (Lib.bytesWorld_below w 5 s)
  have HC := Lib.hid (Tryd.hex_EncodeToString_bytes w.heap.size 0 (grownCap w s.size 0 5) s.data.toList (Lib.bytesWorld w 5 s) (fun i hi => by
    have := Lib.bytesWorld_cell w 5 s i (by omega)
    rw [Nat.zero_add, this]
    simp [List.getD, List.getElem?_eq_getElem hi]) (by rw [Lib.bytesWorld_size]; omega) (by omega))
  rw [hlen] at HC
  generalize Lib.bytesWorld w 5 s = w1 at *
  clear hlen
  go_enter Tryd.func37, Tryd.ntmps37
  go_wp2_with fail
  refine HC.out.mono ?_; rintro e w2 ⟨rfl, hb2⟩
  go_wp2_with fail
  go_ret2
  exact ⟨rfl, ex_trans HB.out hb2⟩
theorem itoa_short (n : Int) (h0 : -9223372036854775808 ≤ n) (h1 : n ≤ 9223372036854775807) : (⟨(Lib.itoa n).toArray⟩ : ByteArray).size ≤ 21 := by
  show (Lib.itoa n).toArray.size ≤ 21
  rw [List.size_toArray]; exact Lib.itoa_length_le _ h0 h1
theorem dd_lenle : ∀ (k n : Nat), n < 10 ^ (k + 1) → (Lib.decDigits n).length ≤ k + 1
  | 0, n, h => by rw [dd_lt (by simpa using h)]; simp
  | k + 1, n, h => by
    by_cases hn : n < 10
    · rw [dd_lt hn]; simp
    · rw [dd_ge hn, List.length_append]
      have := dd_lenle k (n / 10) (by rw [Nat.pow_succ] at h; omega)
      simpa using this
theorem itoa_le10 (n : Int) (h0 : 0 ≤ n) (h1 : n < 100000000) : (Lib.itoa n).length ≤ 10 := by
  obtain ⟨N, rfl⟩ : ∃ N : Nat, n = N := ⟨n.toNat, by omega⟩
  rw [itoa_nat]
  exact Nat.le_trans (dd_lenle 7 N (by simp; omega)) (by decide)
theorem byteOf_toNat (x : Int) (h0 : 0 ≤ x) (h1 : x < 256) : ((UInt8.ofNat x.toNat).toNat : Int) = x := by
  rw [UInt8.toNat_ofNat']; omega
theorem run_bytes2 {P : Program} (w : World) (src dst e : TypeId) (a : Addr) (cap : Nat) (x y : Int) (hs : P.underlying src = some (.slice e)) (he : P.underlying e = some (.int .u8)) (hd : P.underlying dst = some .string) (hx0 : 0 ≤ x) (hx1 : x < 256) (hy0 : 0 ≤ y) (hy1 : y < 256)
    (hc : w.cell? (a.add 0) = some (.int .u8 x)) (hc' : w.cell? (a.add 1) = some (.int .u8 y)) :
    (convert src dst (.slice (some a) 2 cap)).run P w = .ok (.string ⟨#[UInt8.ofNat x.toNat, UInt8.ofNat y.toNat]⟩) w := by
  have := run_convert_bytes_back (P := P) w src dst e a cap [UInt8.ofNat x.toNat, UInt8.ofNat y.toNat] hs he hd (fun j hj => by
    match j, hj with
    | 0, _ => rw [hc]; simp only [List.getElem_cons_zero]; rw [byteOf_toNat x hx0 hx1]
    | 1, _ => rw [hc']; simp only [List.getElem_cons_succ, List.getElem_cons_zero]; rw [byteOf_toNat y hy0 hy1])
  exact this
end Go.Proofs.YtkoagijliokhlaaDoor
