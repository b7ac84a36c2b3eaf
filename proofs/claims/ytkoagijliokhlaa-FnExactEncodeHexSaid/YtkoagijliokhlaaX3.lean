/-
  CONTRACTS: the program's own text functions, over the library's.
-/
import Derived.WalkKit
import Derived.WalkSpells
import Derived.WalkLawsBesides
import Derived.Lib.Hide
import Derived.Handy
import Derived.Laws.IdiomStrings
import Derived.Laws.BytesArg
import Derived.StillTailTactics
import Derived.Deep.Light
import Derived.Deep.QuietTactic
import Derived.BigQuiet
import Derived.Deep.RegionHeld3
import Derived.Lib.SplitLaws
import Derived.Lib.ConvBytes
import Derived.Lib.AtoiErrMem
import Derived.Lib.AppendIntMem
import Derived.Lib.AtoiAllCases
import Derived.Test.YtkoagijliokhlaaLib
import Derived.Test.YtkoagijliokhlaaOwn
import Derived.Test.YtkoagijliokhlaaRow
import Derived.Test.YtkoagijliokhlaaHld
import Derived.Test.YtkoagijliokhlaaSz
import Derived.Test.YtkoagijliokhlaaC1
import Derived.Test.YtkoagijliokhlaaC2
import Derived.Test.YtkoagijliokhlaaD1
import Derived.Test.YtkoagijliokhlaaX0
import Derived.Test.YtkoagijliokhlaaX1
import Derived.Test.YtkoagijliokhlaaX2
import Derived.Test.YtkoagijliokhlaaShelf
import Derived.Test.YtkoagijliokhlaaRows
namespace Go.Proofs.Ytkoagijliokhlaa
open Go.RowKit
set_option linter.unusedVariables false
set_option maxRecDepth 100000
set_option maxHeartbeats 1600000 in
theorem impl_EncodeHex (s : ByteArray) (hs : s.size ≤ 1048576) (w : World) :
    Calls Try.prog 5 #[.string s] w fun e w' => e = .returned (.tuple #[.string (ehS s), .bool (ehB s)]) ∧ Below w.heap.size w w' := by
  have hlen : s.data.toList.length = s.size := (Lib.size_eq s).symm
  by_cases hl : 20000 < s.size
  · have HP := Lib.hid (ehN hl)
    have i1 : (20000 : Int) < (s.size : Int) := by omega
    clear hlen
    go_enter Try.func5, Try.ntmps5
    go_wp2_with fail
    go_ret2
    exact ⟨ret_eh HP.out, Below.refl _ _⟩
  have i1 : ¬ ((20000 : Int) < (s.size : Int)) := by omega
  have HP := Lib.hid (ehY (s := s) (by omega))
  have hcv := Lib.run_convert_string_bytes (P := Try.prog) w 9 25 5 s Try.underlying9 Try.underlying25 Try.underlying5
  have HB := Lib.hid (Lib.bytesWorld_below w 5 s)
  have HC := Lib.hid (Try.hex_EncodeToString_bytes w.heap.size 0 (grownCap w s.size 0 5) s.data.toList (Lib.bytesWorld w 5 s) (fun i hi => by
    have := Lib.bytesWorld_cell w 5 s i (by omega)
    rw [Nat.zero_add, this]
    simp [List.getD, List.getElem?_eq_getElem hi]) (by rw [Lib.bytesWorld_size]; omega) (by omega))
  rw [hlen] at HC
  generalize Lib.bytesWorld w 5 s = w1 at *
  clear hlen
  go_enter Try.func5, Try.ntmps5
  go_wp2_with fail
  refine HC.out.mono ?_; rintro e w2 ⟨rfl, hb2⟩
  go_wp2_with fail
  go_ret2
  exact ⟨ret_eh HP.out, ex_trans HB.out hb2⟩
end Go.Proofs.Ytkoagijliokhlaa
