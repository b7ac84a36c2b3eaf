/-
  CONTRACTS: files: who may read and write them, their attributes.
-/
import Derived.WalkKit
import Derived.WalkSpells
import Derived.WalkLawsBesides
import Derived.Lib.Hide
import Derived.Handy
import Derived.StillTailTactics
import Derived.Deep.Light
import Derived.Deep.QuietTactic
import Derived.BigQuiet
import Derived.Deep.RegionHeld3
import Derived.Test.YtkoagijliokhlaaDoorLib
import Derived.Test.YtkoagijliokhlaaDoorOwn
import Derived.Test.YtkoagijliokhlaaDoorC1
import Derived.Test.YtkoagijliokhlaaDoorC2
import Derived.Test.YtkoagijliokhlaaDoorT1
import Derived.Test.YtkoagijliokhlaaDoorT2
import Derived.Test.YtkoagijliokhlaaDoorC3
import Derived.Test.YtkoagijliokhlaaDoorRows
namespace Go.Proofs.YtkoagijliokhlaaDoor
open Go.RowKit
set_option linter.unusedVariables false
set_option maxRecDepth 100000
def canRead (f : Fil) (u : Int) : Bool := inB u 0 2 && (f.owner == u || f.shared)
def canWrite (f : Fil) (u : Int) : Bool := inB u 0 2 && f.owner == u
/-! ### GetAttr, IntAttr -/
def Vl.zero : Vl := ⟨0, 0, ByteArray.empty⟩
def getA (l : List Atr) (nm : ByteArray) : Vl := ((l.find? fun a => eqS a.name nm).map (·.val)).getD Vl.zero
theorem getA_at {l : List Atr} {nm : ByteArray} {k : Nat} (hk : k < l.length) (hn : noneTo (fun a : Atr => eqS a.name nm) l k) (h : eqS l[k].name nm = true) : getA l nm = l[k].val := by
  unfold getA; rw [find_at hk hn h]; rfl
theorem getA_none {l : List Atr} {nm : ByteArray} {k : Nat} (hk : l.length ≤ k) (hn : noneTo (fun a : Atr => eqS a.name nm) l k) : getA l nm = Vl.zero := by
  unfold getA; rw [find_none hk hn]; rfl
theorem blk_new2 (w : World) (o o' : Obj) : ((w.alloc o).alloc o').heap[w.heap.size + 1]? = some o' := by
  have h := blk_new (w.alloc o) o'
  rwa [World.size_alloc] at h
/-- the attribute's number, if it is one -/
def intA (l : List Atr) (nm : ByteArray) : Int := if (getA l nm).kind = 1 then (getA l nm).int else 0
def hasI (l : List Atr) (nm : ByteArray) : Bool := (getA l nm).kind == 1
end Go.Proofs.YtkoagijliokhlaaDoor
