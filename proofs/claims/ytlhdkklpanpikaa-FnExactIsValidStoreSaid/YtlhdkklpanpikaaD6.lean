/-
  CONTRACTS: SumAttr.
-/
import Derived.WalkKit
import Derived.WalkSpells
import Derived.WalkLawsBesides
import Derived.Lib.Hide
import Derived.Handy
import Derived.StillTailTactics
import Derived.Deep.Light
import Derived.Deep.QuietTactic
import Derived.BigQuiet
import Derived.Deep.RegionHeld3
import Derived.Test.YtlhdkklpanpikaaLib
import Derived.Test.YtlhdkklpanpikaaOwn
import Derived.Test.YtlhdkklpanpikaaRow
import Derived.Test.YtlhdkklpanpikaaHld
import Derived.Test.YtlhdkklpanpikaaC1
import Derived.Test.YtlhdkklpanpikaaC2
import Derived.Test.YtlhdkklpanpikaaT1
import Derived.Test.YtlhdkklpanpikaaT2
import Derived.Test.YtlhdkklpanpikaaT3
import Derived.Test.YtlhdkklpanpikaaC3
import Derived.Test.YtlhdkklpanpikaaC4
import Derived.Test.YtlhdkklpanpikaaD1
import Derived.Test.YtlhdkklpanpikaaRows
namespace Go.Proofs.Ytlhdkklpanpikaa
open Go.RowKit
set_option linter.unusedVariables false
set_option maxRecDepth 100000
def sumI (nm : ByteArray) (l : List Fil) : Int := l.foldl (fun s f => wrap64 (s + intA f.attrs nm)) 0
theorem sumI_succ (nm : ByteArray) (l : List Fil) {k : Nat} (h : k < l.length) : sumI nm (l.take (k + 1)) = wrap64 (sumI nm (l.take k) + intA l[k].attrs nm) := by
  unfold sumI; rw [List.take_succ_eq_append_getElem h, List.foldl_append]; rfl
end Go.Proofs.Ytlhdkklpanpikaa
