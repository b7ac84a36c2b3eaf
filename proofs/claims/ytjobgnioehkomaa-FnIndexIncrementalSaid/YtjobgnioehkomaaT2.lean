/-
  CONTRACTS: the statements' own conversions (toX), sizes (szX) and comparisons (eqX): attributes.
-/
import Derived.WalkKit
import Derived.WalkSpells
import Derived.WalkLawsBesides
import Derived.Lib.Hide
import Derived.Handy
import Derived.StillTailTactics
import Derived.Deep.Light
import Derived.Test.YtjobgnioehkomaaLib
import Derived.Test.YtjobgnioehkomaaOwn
import Derived.Test.YtjobgnioehkomaaC1
import Derived.Test.YtjobgnioehkomaaC2
import Derived.Test.YtjobgnioehkomaaT1
import Derived.Test.YtjobgnioehkomaaRows
namespace Go.Proofs.Ytjobgnioehkomaa
open Go.RowKit
set_option linter.unusedVariables false
set_option maxRecDepth 100000
def Atr.sz (a : Atr) : Int := a.name.size + a.val.str.size
theorem Atr.sz_nn (a : Atr) : 0 ≤ a.sz := by unfold Atr.sz; omega
theorem Vl.sz_nn (a : Vl) : 0 ≤ a.sz := by unfold Vl.sz; omega
theorem szS_nn {α : Type} {f : α → Int} (h0 : ∀ x, 0 ≤ f x) (l : List α) : 0 ≤ szS f l := by
  have h2 := sumTo_mono (l := l) h0 l.length 0 (by omega)
  rw [sumTo_zero, Nat.zero_add] at h2
  unfold szS; omega
def Fil.sz (f : Fil) : Int := szS Atr.sz f.attrs
theorem Fil.sz_nn (f : Fil) : 0 ≤ f.sz := szS_nn Atr.sz_nn _
def Sto.sz (s : Sto) : Int := szS Fld.sz s.schema + szS Fil.sz s.files
def Atr.eqb (a b : Atr) : Bool := eqS a.name b.name && a.val.eqb b.val
theorem Atr.eqb_iff {a b : Atr} : a.eqb b = true ↔ a = b := by
  cases a; cases b; simp [Atr.eqb, eqS_iff, Vl.eqb_iff]
def Fil.eqb (a b : Fil) : Bool := (a.id == b.id && a.owner == b.owner && a.shared == b.shared && a.link == b.link) && eqL Atr.eqb a.attrs b.attrs
theorem Fil.eqb_iff {a b : Fil} : a.eqb b = true ↔ a = b := by
  cases a; cases b; simp [Fil.eqb, eqL_iff (fun a b => Atr.eqb_iff), and_assoc]
def Sto.eqb (a b : Sto) : Bool := (eqL Fld.eqb a.schema b.schema && eqL Fil.eqb a.files b.files) && a.next == b.next
theorem Sto.eqb_iff {a b : Sto} : a.eqb b = true ↔ a = b := by
  cases a; cases b; simp [Sto.eqb, eqL_iff (fun a b => Fld.eqb_iff), eqL_iff (fun a b => Fil.eqb_iff), and_assoc]
theorem ok_mono {M N : Nat} (h : M ≤ N) {a : Atr} (ha : a.ok M) : a.ok N := ⟨Nat.le_trans ha.1 h, Nat.le_trans ha.2 h⟩
theorem info_Attr : (Try.prog.info? 84).map (fun i => (i.zero, i.size, i.bytes)) = some (some (.agg #[.string ByteArray.empty, .int .i64 0, .int .i64 0, .string ByteArray.empty]), 4, 48) := by kernel_rfl
end Go.Proofs.Ytjobgnioehkomaa
