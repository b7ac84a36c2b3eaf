/-
  CONTRACTS: files: who may read and write them, their attributes.
-/
import Derived.WalkKit
import Derived.WalkSpells
import Derived.WalkLawsBesides
import Derived.Lib.Hide
import Derived.Handy
import Derived.StillTailTactics
import Derived.Deep.Light
import Derived.Deep.QuietTactic
import Derived.BigQuiet
import Derived.Deep.RegionHeld3
import Derived.Test.YtjobgnioehkomaaLib
import Derived.Test.YtjobgnioehkomaaOwn
import Derived.Test.YtjobgnioehkomaaC1
import Derived.Test.YtjobgnioehkomaaC2
import Derived.Test.YtjobgnioehkomaaT1
import Derived.Test.YtjobgnioehkomaaT2
import Derived.Test.YtjobgnioehkomaaT3
import Derived.Test.YtjobgnioehkomaaC3
import Derived.Test.YtjobgnioehkomaaRows
namespace Go.Proofs.Ytjobgnioehkomaa
open Go.RowKit
set_option linter.unusedVariables false
set_option maxRecDepth 100000
def canRead (f : Fil) (u : Int) : Bool := inB u 0 2 && (f.owner == u || f.shared)
def canWrite (f : Fil) (u : Int) : Bool := inB u 0 2 && f.owner == u
theorem impl_isUser (u : Int) (w : World) : Calls Try.prog 73 #[.int .i64 u] w fun e w' => e = .returned (.bool (inB u 0 2)) ∧ w = w' := by
  go_enter Try.func73, Try.ntmps73
  go_wp2_with (go_at_call 82; refine (impl_within _ _ _ _).mono ?_; rintro e w' ⟨rfl, rfl⟩)
  go_returns
  exact ⟨rfl, rfl⟩
theorem impl_CanRead (f : Fil) (A : Option Addr) (n c : Nat) (u : Int) (w : World) : Calls Try.prog 20 #[f.v A n c, .int .i64 u] w fun e w' => e = .returned (.bool (canRead f u)) ∧ Below w.heap.size w w' := by
  go_enter Try.func20, Try.ntmps20
  go_wp2_with (go_at_call 73; refine (impl_isUser _ _).mono ?_; rintro e w' ⟨rfl, rfl⟩)
  all_goals go_returns
  all_goals refine ⟨ret_bool ?_, by go_grown⟩
  all_goals go_light
  all_goals simp_all [canRead]
theorem impl_CanWrite (f : Fil) (A : Option Addr) (n c : Nat) (u : Int) (w : World) : Calls Try.prog 18 #[f.v A n c, .int .i64 u] w fun e w' => e = .returned (.bool (canWrite f u)) ∧ Below w.heap.size w w' := by
  go_enter Try.func18, Try.ntmps18
  go_wp2_with (go_at_call 73; refine (impl_isUser _ _).mono ?_; rintro e w' ⟨rfl, rfl⟩)
  all_goals go_returns
  all_goals refine ⟨ret_bool ?_, by go_grown⟩
  all_goals go_light
  all_goals simp_all [canWrite]
/-! ### GetAttr, IntAttr -/
def Vl.zero : Vl := ⟨0, 0, ByteArray.empty⟩
def getA (l : List Atr) (nm : ByteArray) : Vl := ((l.find? fun a => eqS a.name nm).map (·.val)).getD Vl.zero
theorem getA_at {l : List Atr} {nm : ByteArray} {k : Nat} (hk : k < l.length) (hn : noneTo (fun a : Atr => eqS a.name nm) l k) (h : eqS l[k].name nm = true) : getA l nm = l[k].val := by
  unfold getA; rw [find_at hk hn h]; rfl
theorem getA_none {l : List Atr} {nm : ByteArray} {k : Nat} (hk : l.length ≤ k) (hn : noneTo (fun a : Atr => eqS a.name nm) l k) : getA l nm = Vl.zero := by
  unfold getA; rw [find_none hk hn]; rfl
theorem blk_new2 (w : World) (o o' : Obj) : ((w.alloc o).alloc o').heap[w.heap.size + 1]? = some o' := by
  have h := blk_new (w.alloc o) o'
  rwa [World.size_alloc] at h
set_option maxHeartbeats 800000 in
theorem impl_GetAttr (f : Fil) (A : Option Addr) (n c : Nat) (nm : ByteArray) (w : World) (hS : Sl 4 RAtr w A n f.attrs) (hn : n ≤ 1073741824) :
    Calls Try.prog 13 #[f.v A n c, .string nm] w fun e w' => e = .returned (getA f.attrs nm).v ∧ Below w.heap.size w w' := by
  obtain rfl : f.attrs.length = n := hS.len
  go_enter Try.func13, Try.ntmps13
  go_wp2_with fail
  go_loopw [10] (fun i wr => ∃ k : Nat, k ≤ f.attrs.length ∧ i = .int .i64 k ∧ noneTo (fun a : Atr => eqS a.name nm) f.attrs k ∧ Below w.heap.size w wr ∧ w.heap.size + 1 < wr.heap.size ∧
      wr.heap[w.heap.size + 1]? = some (.cells #[.int .i64 0, .int .i64 0, .string ByteArray.empty] 30 (0, 0))) (fun i _ => f.attrs.length - (intOf i).toNat)
  case atStart => exact ⟨0, Nat.zero_le _, rfl, noneTo_zero _ _, by go_grown, by simp, blk_new2 w _ _⟩
  case round =>
    obtain ⟨k, hk, rfl, hN, hb, hz, hg⟩ := hrel
    have p0 := blk_cell hg (j := 0) (by simp)
    have p1 := blk_cell hg (j := 1) (by simp)
    have p2 := blk_cell hg (j := 2) (by simp)
    have f0 := blk_free hg 0
    have f1 := blk_free hg 1
    have f2 := blk_free hg 2
    have Hg := Lib.hid hg
    clear hg
    by_cases hlt : k < f.attrs.length
    · obtain ⟨b, off, rfl, bw, bc⟩ := hS.atr (by omega)
      obtain ⟨q0, q1, q2, q3⟩ := bc k (by omega)
      rw [← hb.cell (p := ⟨b, _, none⟩) bw] at q0 q1 q2 q3
      clear bc
      cases hf : eqS f.attrs[k].name nm with
      | true =>
        have HZ := Lib.hid (getA_at hlt hN hf)
        unfold eqS at hf
        clear hN
        go_wp2_with fail
        refine bodyPost_ret (v := f.attrs[k].val.v) (by simp [results, Try.results13, go_sem, p0, p1, p2, hz]) rfl ⟨by rw [HZ.out], ?_⟩
        exact ex_alloc (sets_below (Nat.le_succ w.heap.size) [.int .i64 f.attrs[k].val.kind, .int .i64 f.attrs[k].val.int, .string f.attrs[k].val.str] w _ 0 hb) _
      | false =>
        have hN' := noneTo_succ hN (fun _ => hf)
        unfold eqS at hf
        have HN := Lib.hid hN'
        clear hN hN'
        go_wp2_with fail
        go_roundw
        case rel => exact ⟨k + 1, by omega, by go_num, HN.out, ex_alloc hb _, by simp; omega, (Below.heap_alloc _ _ _ hz).trans Hg.out⟩
        case measure => simp [intOf]; omega
    · have HZ := Lib.hid (getA_none (by omega) hN)
      clear hN
      go_wp2_with fail
      refine bodyPost_ret (v := Vl.zero.v) (by simp [results, Try.results13, go_sem, p0, p1, p2]; exact ⟨rfl, rfl, rfl⟩) rfl ⟨by rw [HZ.out], ?_⟩
      exact sets_below (Nat.le_succ w.heap.size) [.int .i64 0, .int .i64 0, .string ByteArray.empty] w _ 0 hb
set_option maxHeartbeats 800000 in
theorem spec_GetAttr (f : Fil) (A : Option Addr) (n c : Nat) (nm : ByteArray) (w : World) (hS : Sl 4 RAtr w A n f.attrs) (hn : n ≤ 1073741824) :
    Calls Try.prog 24 #[f.v A n c, .string nm] w fun e w' => e = .returned (getA f.attrs nm).v ∧ Below w.heap.size w w' := by
  obtain rfl : f.attrs.length = n := hS.len
  go_enter Try.func24, Try.ntmps24
  go_wp2_with fail
  go_loop [5] (fun i => ∃ k : Nat, k ≤ f.attrs.length ∧ i = .int .i64 k ∧ noneTo (fun a : Atr => eqS a.name nm) f.attrs k) (fun i => f.attrs.length - (intOf i).toNat)
  case atStart => exact ⟨0, Nat.zero_le _, rfl, noneTo_zero _ _⟩
  case round =>
    obtain ⟨k, hk, rfl, hN⟩ := hrel
    by_cases hlt : k < f.attrs.length
    · obtain ⟨b, off, rfl, bw, bc⟩ := hS.atr (by omega)
      obtain ⟨q0, q1, q2, q3⟩ := bc k (by omega)
      clear bc
      cases hf : eqS f.attrs[k].name nm with
      | true =>
        have HZ := Lib.hid (getA_at hlt hN hf)
        unfold eqS at hf
        clear hN
        go_wp2_with fail
        refine bodyPost_ret (v := f.attrs[k].val.v) (by simp [results, Try.results24, go_sem]) rfl ⟨by rw [HZ.out], by go_grown⟩
      | false =>
        have hN' := noneTo_succ hN (fun _ => hf)
        unfold eqS at hf
        have HN := Lib.hid hN'
        clear hN hN'
        go_wp2_with fail
        go_round
        case rel => exact ⟨k + 1, by omega, by go_num, HN.out⟩
        case measure => simp [intOf]; omega
    · have HZ := Lib.hid (getA_none (by omega) hN)
      clear hN
      go_wp2_with fail
      refine bodyPost_ret (v := Vl.zero.v) (by simp [results, Try.results24, go_sem]; exact ⟨rfl, rfl, rfl⟩) rfl ⟨by rw [HZ.out], by go_grown⟩
/-- the attribute's number, if it is one -/
def intA (l : List Atr) (nm : ByteArray) : Int := if (getA l nm).kind = 1 then (getA l nm).int else 0
def hasI (l : List Atr) (nm : ByteArray) : Bool := (getA l nm).kind == 1
set_option maxHeartbeats 800000 in
theorem impl_IntAttr (f : Fil) (A : Option Addr) (n c : Nat) (nm : ByteArray) (w : World) (hS : Sl 4 RAtr w A n f.attrs) (hn : n ≤ 1073741824) :
    Calls Try.prog 53 #[f.v A n c, .string nm] w fun e w' => e = .returned (.tuple #[.int .i64 (intA f.attrs nm), .bool (hasI f.attrs nm)]) ∧ Below w.heap.size w w' := by
  have HC := Lib.hid fun w' (hb : Below w.heap.size w w') => impl_GetAttr f A n c nm w' (hS.mono mAtr hb) hn
  go_enter Try.func53, Try.ntmps53
  go_wp2_with (go_at_call 13; refine (HC.out _ (by go_grown)).mono ?_; rintro e w1 ⟨rfl, hb1⟩; have hB1 := ex_trans (w := w) (by go_grown) hb1; have hs1 := hB1.size)
  all_goals go_returns
  all_goals refine ⟨?_, by go_grown⟩
  all_goals clear HC
  all_goals go_light
  all_goals simp_all [intA, hasI]
set_option maxHeartbeats 800000 in
theorem spec_IntAttr (f : Fil) (A : Option Addr) (n c : Nat) (nm : ByteArray) (w : World) (hS : Sl 4 RAtr w A n f.attrs) (hn : n ≤ 1073741824) :
    Calls Try.prog 54 #[f.v A n c, .string nm] w fun e w' => e = .returned (.tuple #[.int .i64 (intA f.attrs nm), .bool (hasI f.attrs nm)]) ∧ Below w.heap.size w w' := by
  have HC := Lib.hid fun w' (hb : Below w.heap.size w w') => spec_GetAttr f A n c nm w' (hS.mono mAtr hb) hn
  go_enter Try.func54, Try.ntmps54
  go_wp2_with (go_at_call 24; refine (HC.out _ (by go_grown)).mono ?_; rintro e w1 ⟨rfl, hb1⟩; have hB1 := ex_trans (w := w) (by go_grown) hb1; have hs1 := hB1.size)
  all_goals go_returns
  all_goals refine ⟨?_, by go_grown⟩
  all_goals clear HC
  all_goals go_light
  all_goals simp_all [intA, hasI]
end Go.Proofs.Ytjobgnioehkomaa
