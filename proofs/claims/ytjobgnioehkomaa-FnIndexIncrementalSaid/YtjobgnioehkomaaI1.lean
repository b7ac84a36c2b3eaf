/-
  CONTRACTS: slices.Insert of one element into a row of the call's own.
-/
import Derived.WalkKit
import Derived.WalkSpells
import Derived.WalkLawsBesides
import Derived.Lib.Hide
import Derived.Handy
import Derived.StillTailTactics
import Derived.Deep.Light
import Derived.Deep.QuietTactic
import Derived.BigQuiet
import Derived.Deep.RegionHeld3
import Derived.Deep.RegionLaw
import Derived.Lib.Overlaps
import Derived.ChangeAlike
import Derived.Test.YtjobgnioehkomaaLib
import Derived.Test.YtjobgnioehkomaaOwn
import Derived.Test.YtjobgnioehkomaaRow
import Derived.Test.YtjobgnioehkomaaRaw
import Derived.Test.YtjobgnioehkomaaHld
import Derived.Test.YtjobgnioehkomaaM0
import Derived.Test.YtjobgnioehkomaaC1
import Derived.Test.YtjobgnioehkomaaC2
import Derived.Test.YtjobgnioehkomaaT1
import Derived.Test.YtjobgnioehkomaaT2
import Derived.Test.YtjobgnioehkomaaT3
import Derived.Test.YtjobgnioehkomaaT4
import Derived.Test.YtjobgnioehkomaaC3
import Derived.Test.YtjobgnioehkomaaC4
import Derived.Test.YtjobgnioehkomaaD1
import Derived.Test.YtjobgnioehkomaaH1
import Derived.Test.YtjobgnioehkomaaRows
namespace Go.Proofs.Ytjobgnioehkomaa
open Go.RowKit
set_option linter.unusedVariables false
set_option maxRecDepth 100000
section
variable {α : Type} {size : Nat} {enc : α → List Value} {l : List α} {i n : Nat} {x : α} {cur : Array Value}
theorem Chg.drew {bs : List Nat} {w w' : World} (h : Chg bs w w') : Chg bs w w'.drew := ⟨h.os, h.tape, h.output, h.size, h.block⟩
theorem spl_list (cur : Array Value) (o : Nat) (cs : List Value) : (spl cur o cs).toList = cur.toList.take o ++ cs ++ cur.toList.drop (o + cs.length) := by simp [spl]
theorem ins_a (hE : Enc size enc) (hl : l.length = n) (hi : i ≤ n) (hT : cur.toList.take (i * size) = (l.take i).flatMap enc) (hs : (n + 1) * size ≤ cur.size) :
    (spl (spl cur ((i + 1) * size) ((l.drop i).flatMap enc)) (i * size) (enc x)).toList.take ((n + 1) * size) = (l.take i ++ x :: l.drop i).flatMap enc := by
  have hD : ((l.drop i).flatMap enc).length = (n - i) * size := by rw [flat_len hE, List.length_drop, hl]
  have hX := hE.len x
  have e1 : (i + 1) * size = i * size + size := Nat.succ_mul _ _
  have e2 : (n + 1) * size = i * size + size + (n - i) * size := by rw [← e1, ← Nat.add_mul]; congr 1; omega
  have hTl : (cur.toList.take (i * size)).length = i * size := by rw [List.length_take, Array.length_toList]; omega
  have hTl' : (cur.toList.take ((i + 1) * size)).length = (i + 1) * size := by rw [List.length_take, Array.length_toList]; omega
  have hgoal : (l.take i ++ x :: l.drop i).flatMap enc = (cur.toList.take (i * size) ++ enc x) ++ (l.drop i).flatMap enc := by
    rw [List.flatMap_append, List.flatMap_cons, hT]; simp
  rw [spl_list, spl_list, hgoal, hX]
  have t1 : (cur.toList.take ((i + 1) * size) ++ (l.drop i).flatMap enc ++ cur.toList.drop ((i + 1) * size + ((l.drop i).flatMap enc).length)).take (i * size) = cur.toList.take (i * size) := by
    rw [List.append_assoc, List.take_append_of_le_length (by rw [hTl']; omega), List.take_take, Nat.min_eq_left (by omega)]
  have t2 : (cur.toList.take ((i + 1) * size) ++ (l.drop i).flatMap enc ++ cur.toList.drop ((i + 1) * size + ((l.drop i).flatMap enc).length)).drop (i * size + size) = (l.drop i).flatMap enc ++ cur.toList.drop ((i + 1) * size + ((l.drop i).flatMap enc).length) := by
    rw [List.append_assoc, ← e1]
    exact List.drop_left' hTl'
  rw [t1, t2, ← List.append_assoc]
  have hlen : (cur.toList.take (i * size) ++ enc x ++ (l.drop i).flatMap enc).length = (n + 1) * size := by rw [List.length_append, List.length_append, hTl, hX, hD, e2]
  rw [← hlen]
  exact List.take_left
theorem ins_b (hE : Enc size enc) (hl : l.length = n) (hi : i ≤ n) (hT : cur.toList.take (i * size) = (l.take i).flatMap enc) (hs : (n + 1) * size ≤ cur.size) :
    (spl (spl cur (i * size) (enc x)) ((i + 1) * size) ((l.drop i).flatMap enc)).toList.take ((n + 1) * size) = (l.take i ++ x :: l.drop i).flatMap enc := by
  have hD : ((l.drop i).flatMap enc).length = (n - i) * size := by rw [flat_len hE, List.length_drop, hl]
  have hX := hE.len x
  have e1 : (i + 1) * size = i * size + size := Nat.succ_mul _ _
  have e2 : (n + 1) * size = i * size + size + (n - i) * size := by rw [← e1, ← Nat.add_mul]; congr 1; omega
  have hTl : (cur.toList.take (i * size)).length = i * size := by rw [List.length_take, Array.length_toList]; omega
  have hgoal : (l.take i ++ x :: l.drop i).flatMap enc = (cur.toList.take (i * size) ++ enc x) ++ (l.drop i).flatMap enc := by
    rw [List.flatMap_append, List.flatMap_cons, hT]; simp
  rw [spl_list, spl_list, hgoal, hX]
  have hTX : (cur.toList.take (i * size) ++ enc x).length = (i + 1) * size := by rw [List.length_append, hTl, hX, e1]
  have t1 : (cur.toList.take (i * size) ++ enc x ++ cur.toList.drop (i * size + size)).take ((i + 1) * size) = cur.toList.take (i * size) ++ enc x := by
    rw [← hTX]; exact List.take_left
  rw [t1]
  have hlen : (cur.toList.take (i * size) ++ enc x ++ (l.drop i).flatMap enc).length = (n + 1) * size := by rw [List.length_append, hTX, hD, e2, e1]
  rw [← hlen]
  exact List.take_left
end
end Go.Proofs.Ytjobgnioehkomaa
