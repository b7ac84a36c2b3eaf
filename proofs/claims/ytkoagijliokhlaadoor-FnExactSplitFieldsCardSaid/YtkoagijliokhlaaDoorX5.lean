/-
  CONTRACTS: the fields of a line, as the law's printer wants them.
-/
import Derived.WalkKit
import Derived.Lib.Hide
import Derived.Lib.AppendIntMem
import Derived.Test.YtkoagijliokhlaaDoorLib
import Derived.Test.YtkoagijliokhlaaDoorOwn
import Derived.Test.YtkoagijliokhlaaDoorRow
import Derived.Test.YtkoagijliokhlaaDoorX0
import Derived.Test.YtkoagijliokhlaaDoorX1
import Derived.Test.YtkoagijliokhlaaDoorX2
import Derived.Test.YtkoagijliokhlaaDoorX3
namespace Go.Proofs.YtkoagijliokhlaaDoor
open Go.RowKit
set_option linter.unusedVariables false
theorem SpT.mono {w w' : World} (h : SpT w) (_ : Unit) (hb : Below w.heap.size w w') : SpT w' := tab_on h hb
theorem sfL_len (s : ByteArray) : (sfL s).length ≤ 24 := by
  cases h : sfB s with
  | false => rw [sfN h]; simp
  | true =>
    rw [sfY h, List.length_map]
    unfold sfB at h
    simp only [Bool.and_eq_true, decide_eq_true_eq] at h
    exact h.2
theorem spec_SplitFieldsx (s : ByteArray) (hs : s.size ≤ 1048576) (w : World) : Calls Tryd.prog 25 #[.string s] w (NewRow (fun v => .tuple #[v, .bool (sfB s)]) 9 1 eStr w (sfL s)) := spec_SplitFields s hs w
theorem impl_SplitFieldsx (s : ByteArray) (hs : s.size ≤ 1048576) (w : World) (hT : SpT w) : Calls Tryd.prog 26 #[.string s] w (NewRow (fun v => .tuple #[v, .bool (sfB s)]) 9 1 eStr w (sfL s)) := impl_SplitFields s hs w hT
end Go.Proofs.YtkoagijliokhlaaDoor
