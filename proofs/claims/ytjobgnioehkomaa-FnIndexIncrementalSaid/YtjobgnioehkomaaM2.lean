/-
  MARKS of files, stores, postings.
-/
import Derived.WalkKit
import Derived.WalkSpells
import Derived.WalkLawsBesides
import Derived.Lib.Hide
import Derived.Handy
import Derived.StillTailTactics
import Derived.Deep.Light
import Derived.Deep.RegionHeld3
import Derived.Test.YtjobgnioehkomaaLib
import Derived.Test.YtjobgnioehkomaaOwn
import Derived.Test.YtjobgnioehkomaaRow
import Derived.Test.YtjobgnioehkomaaHld
import Derived.Test.YtjobgnioehkomaaC1
import Derived.Test.YtjobgnioehkomaaM0
import Derived.Test.YtjobgnioehkomaaT2
import Derived.Test.YtjobgnioehkomaaT3
import Derived.Test.YtjobgnioehkomaaT4
import Derived.Test.YtjobgnioehkomaaRows
namespace Go.Proofs.Ytjobgnioehkomaa
open Go.RowKit
set_option linter.unusedVariables false
set_option maxRecDepth 100000
/-- where the marks of element i begin: the elements before it take up 'a' numbers each and 'b' for each of the ms -/
def kat (b : Nat) (ms : List Nat) (k i : Nat) : Nat := k + 4 * i + b * (ms.take i).sum
theorem kat_zero (b : Nat) (ms : List Nat) (k : Nat) : kat b ms k 0 = k := by simp [kat]
theorem sum_take_succ (ms : List Nat) {i : Nat} (h : i < ms.length) : (ms.take (i + 1)).sum = (ms.take i).sum + ms[i] := by
  rw [List.take_succ_eq_append_getElem h, List.sum_append]; simp
theorem sum_take_le (ms : List Nat) (i : Nat) : (ms.take i).sum ≤ ms.sum := by
  conv => rhs; rw [← List.take_append_drop i ms]
  rw [List.sum_append]; omega
theorem kat_succ {b : Nat} {ms : List Nat} {k i : Nat} (h : i < ms.length) : kat b ms k (i + 1) = kat b ms k i + 4 + b * ms[i] := by
  unfold kat; rw [sum_take_succ ms h, Nat.mul_add b]; omega
theorem kat_le (b : Nat) (ms : List Nat) (k : Nat) {i : Nat} (h : i ≤ ms.length) : kat b ms k i ≤ k + 4 * ms.length + b * ms.sum := by
  unfold kat
  have := Nat.mul_le_mul_left b (sum_take_le ms i)
  omega
theorem setsA_snoc (x : Value) : ∀ (l : List Value) (cur : Array Value) (o : Nat), setsA cur o (l ++ [x]) = (setsA cur o l).setIfInBounds (o + l.length) x
  | [], _, _ => rfl
  | v :: l, cur, o => by
    rw [List.cons_append, setsA, setsA_snoc x l, setsA, List.length_cons, show o + 1 + l.length = o + (l.length + 1) by omega]
theorem setsA_keep {x : Value} {l : List Value} {cur : Array Value} {o : Nat} (h : cur[o + l.length]? = some x) : setsA cur o (l ++ [x]) = setsA cur o l := by
  rw [setsA_snoc]
  have h1 : (setsA cur o l)[o + l.length]? = some x := (setsA_high _ _ _ _ (Nat.le_refl _)).trans h
  apply Array.ext_getElem?
  intro i
  rw [Array.getElem?_setIfInBounds]
  split
  · rename_i e; subst e
    have hlt := (Array.getElem?_eq_some_iff.1 h1).1
    rw [if_pos hlt, h1]
  · rfl
def mkFile1 (n k : Nat) : Fil := ⟨(k : Int), ((k + 1 : Nat) : Int), ((k : Int) + 1 + 1) % 3 == 0, ((k + 3 : Nat) : Int), mkAttr n (k + 4)⟩
def mkFile (ms : List Nat) (k : Nat) : List Fil := (List.range ms.length).map fun i => mkFile1 (ms.getD i 0) (kat 4 ms k i)
def mkPosting1 (n k : Nat) : Pst := ⟨mt (k : Nat), ⟨((k + 1 : Nat) : Int), ((k + 2 : Nat) : Int), mt (k + 3 : Nat)⟩, mkInt n (k + 4)⟩
def mkPosting (ms : List Nat) (k : Nat) : List Pst := (List.range ms.length).map fun i => mkPosting1 (ms.getD i 0) (kat 1 ms k i)
def Fil.cnt (f : Fil) : Nat := f.attrs.length
def Pst.cnt (p : Pst) : Nat := p.ids.length
theorem mkFile_len (ms : List Nat) (k : Nat) : (mkFile ms k).length = ms.length := by simp [mkFile]
theorem mkPosting_len (ms : List Nat) (k : Nat) : (mkPosting ms k).length = ms.length := by simp [mkPosting]
theorem mkFile_at {ms : List Nat} {k i : Nat} (h : i < ms.length) : (mkFile ms k)[i]'(by rw [mkFile_len]; exact h) = mkFile1 ms[i] (kat 4 ms k i) := by simp [mkFile, h]
theorem mkPosting_at {ms : List Nat} {k i : Nat} (h : i < ms.length) : (mkPosting ms k)[i]'(by rw [mkPosting_len]; exact h) = mkPosting1 ms[i] (kat 1 ms k i) := by simp [mkPosting, h]
end Go.Proofs.Ytjobgnioehkomaa
