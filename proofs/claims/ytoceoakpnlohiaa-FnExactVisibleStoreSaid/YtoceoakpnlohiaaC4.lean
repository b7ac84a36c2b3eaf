/-
  CONTRACTS: files: who may read and write them, their attributes.
-/
import Derived.WalkKit
import Derived.WalkSpells
import Derived.WalkLawsBesides
import Derived.Lib.Hide
import Derived.Handy
import Derived.StillTailTactics
import Derived.Deep.Light
import Derived.Deep.QuietTactic
import Derived.BigQuiet
import Derived.Deep.RegionHeld3
import Derived.Test.YtoceoakpnlohiaaLib
import Derived.Test.YtoceoakpnlohiaaOwn
import Derived.Test.YtoceoakpnlohiaaC1
import Derived.Test.YtoceoakpnlohiaaC2
import Derived.Test.YtoceoakpnlohiaaT1
import Derived.Test.YtoceoakpnlohiaaT2
import Derived.Test.YtoceoakpnlohiaaT3
import Derived.Test.YtoceoakpnlohiaaC3
import Derived.Test.YtoceoakpnlohiaaRows
namespace Go.Proofs.Ytoceoakpnlohiaa
open Go.RowKit
set_option linter.unusedVariables false
set_option maxRecDepth 100000
def canRead (f : Fil) (u : Int) : Bool := inB u 0 2 && (f.owner == u || f.shared)
def canWrite (f : Fil) (u : Int) : Bool := inB u 0 2 && f.owner == u
theorem impl_isUser (u : Int) (w : World) : Calls Try.prog 143 #[.int .i64 u] w fun e w' => e = .returned (.bool (inB u 0 2)) ∧ w = w' := by
  go_enter Try.func143, Try.ntmps143
  go_wp2_with (go_at_call 148; refine (impl_within _ _ _ _).mono ?_; rintro e w' ⟨rfl, rfl⟩)
  go_returns
  exact ⟨rfl, rfl⟩
theorem impl_CanRead (f : Fil) (A : Option Addr) (n c : Nat) (u : Int) (w : World) : Calls Try.prog 100 #[f.v A n c, .int .i64 u] w fun e w' => e = .returned (.bool (canRead f u)) ∧ Below w.heap.size w w' := by
  go_enter Try.func100, Try.ntmps100
  go_wp2_with (go_at_call 143; refine (impl_isUser _ _).mono ?_; rintro e w' ⟨rfl, rfl⟩)
  all_goals go_returns
  all_goals refine ⟨ret_bool ?_, by go_grown⟩
  all_goals go_light
  all_goals simp_all [canRead]
theorem spec_CanRead (f : Fil) (A : Option Addr) (n c : Nat) (u : Int) (w : World) : Calls Try.prog 97 #[f.v A n c, .int .i64 u] w fun e w' => e = .returned (.bool (canRead f u)) ∧ Below w.heap.size w w' := by
  go_enter Try.func97, Try.ntmps97
  go_wp2_with (go_at_call 125; refine (spec_l01In _ _ _ _).mono ?_; rintro e w' ⟨rfl, rfl⟩)
  all_goals go_returns
  all_goals refine ⟨ret_bool ?_, by go_grown⟩
  all_goals go_light
  all_goals simp_all [canRead]
/-! ### GetAttr, IntAttr -/
def Vl.zero : Vl := ⟨0, 0, ByteArray.empty⟩
def getA (l : List Atr) (nm : ByteArray) : Vl := ((l.find? fun a => eqS a.name nm).map (·.val)).getD Vl.zero
theorem getA_at {l : List Atr} {nm : ByteArray} {k : Nat} (hk : k < l.length) (hn : noneTo (fun a : Atr => eqS a.name nm) l k) (h : eqS l[k].name nm = true) : getA l nm = l[k].val := by
  unfold getA; rw [find_at hk hn h]; rfl
theorem getA_none {l : List Atr} {nm : ByteArray} {k : Nat} (hk : l.length ≤ k) (hn : noneTo (fun a : Atr => eqS a.name nm) l k) : getA l nm = Vl.zero := by
  unfold getA; rw [find_none hk hn]; rfl
theorem blk_new2 (w : World) (o o' : Obj) : ((w.alloc o).alloc o').heap[w.heap.size + 1]? = some o' := by
  have h := blk_new (w.alloc o) o'
  rwa [World.size_alloc] at h
/-- the attribute's number, if it is one -/
def intA (l : List Atr) (nm : ByteArray) : Int := if (getA l nm).kind = 1 then (getA l nm).int else 0
def hasI (l : List Atr) (nm : ByteArray) : Bool := (getA l nm).kind == 1
end Go.Proofs.Ytoceoakpnlohiaa
