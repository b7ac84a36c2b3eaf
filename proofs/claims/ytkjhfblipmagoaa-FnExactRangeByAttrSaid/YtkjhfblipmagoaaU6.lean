/-
  PLAIN: the reference model's order: the places of the files, each put behind the ones that are not greater.
-/
import Derived.Test.YtkjhfblipmagoaaLib
import Derived.Test.YtkjhfblipmagoaaOwn
import Derived.Test.YtkjhfblipmagoaaRow
import Derived.Test.YtkjhfblipmagoaaC4
import Derived.Test.YtkjhfblipmagoaaD1
import Derived.Test.YtkjhfblipmagoaaU0
import Derived.Test.YtkjhfblipmagoaaU4
namespace Go.Proofs.Ytkjhfblipmagoaa
set_option linter.unusedVariables false
def atF (fs : List Fil) (i : Nat) : Fil := fs.getD i ⟨0, 0, false, 0, []⟩
theorem atF_at {fs : List Fil} {i : Nat} (h : i < fs.length) : atF fs i = fs[i] := by unfold atF; rw [List.getD_eq_getElem?_getD, List.getElem?_eq_getElem h]; rfl
def keyN (nm : ByteArray) (fs : List Fil) (i : Nat) : Int := intA (atF fs i).attrs nm
def hasN (nm : ByteArray) (fs : List Fil) (i : Nat) : Bool := hasI (atF fs i).attrs nm
def plcs (nm : ByteArray) (fs : List Fil) (k : Nat) : List Nat := srt (keyN nm fs) ((List.range k).filter (hasN nm fs))
theorem plcs_zero (nm : ByteArray) (fs : List Fil) : plcs nm fs 0 = [] := rfl
theorem plcs_succ (nm : ByteArray) (fs : List Fil) (k : Nat) : plcs nm fs (k + 1) = if hasN nm fs k then insK (keyN nm fs) k (plcs nm fs k) else plcs nm fs k := by
  unfold plcs
  rw [List.range_succ, List.filter_append]
  cases h : hasN nm fs k with
  | true => rw [show [k].filter (hasN nm fs) = [k] by simp [h], srt_snoc]; rfl
  | false => rw [show [k].filter (hasN nm fs) = [] by simp [h], List.append_nil]; rfl
theorem plcs_len (nm : ByteArray) (fs : List Fil) (k : Nat) : (plcs nm fs k).length ≤ k := by
  unfold plcs; rw [srt_len]
  exact Nat.le_trans (List.length_filter_le _ _) (by simp)
theorem plcs_lt {nm : ByteArray} {fs : List Fil} {k i : Nat} (h : i ∈ plcs nm fs k) : i < k := by
  unfold plcs at h
  have := (List.mem_filter.1 (srt_mem.1 h)).1
  simpa using this
theorem range_atF (fs : List Fil) : (List.range fs.length).map (atF fs) = fs := by
  apply List.ext_getElem (by simp)
  intro i h1 h2
  rw [List.getElem_map, List.getElem_range, atF_at h2]
theorem plcs_map (nm : ByteArray) (fs : List Fil) : (plcs nm fs fs.length).map (atF fs) = sortF nm fs := by
  unfold plcs sortF
  have h := srt_map (key := fun f : Fil => intA f.attrs nm) (atF fs) ((List.range fs.length).filter (hasN nm fs))
  rw [show keyN nm fs = fun b => intA (atF fs b).attrs nm from rfl, h]
  congr 1
  conv => rhs; rw [← range_atF fs, List.filter_map]
  rfl
/-- the place where an element is put: behind those that are not greater -/
def leKey (nm : ByteArray) (fs : List Fil) (x : Int) (L : List Nat) (j : Nat) : Prop := ∀ y ∈ L.take j, keyN nm fs y ≤ x
theorem leKey_zero (nm : ByteArray) (fs : List Fil) (x : Int) (L : List Nat) : leKey nm fs x L 0 := by intro y hy; simp at hy
theorem leKey_succ {nm : ByteArray} {fs : List Fil} {x : Int} {L : List Nat} {j : Nat} (h : leKey nm fs x L j) (hj : j < L.length) (hx : keyN nm fs L[j] ≤ x) : leKey nm fs x L (j + 1) := by
  intro y hy
  rw [List.take_succ_eq_append_getElem hj, List.mem_append] at hy
  rcases hy with hy | hy
  · exact h y hy
  · rw [List.mem_singleton] at hy; rw [hy]; exact hx
theorem insK_at {nm : ByteArray} {fs : List Fil} {k : Nat} {L : List Nat} {j : Nat} (h : leKey nm fs (keyN nm fs k) L j) (hj : j ≤ L.length) (hx : ∀ h : j < L.length, ¬ keyN nm fs L[j] ≤ keyN nm fs k) : insK (keyN nm fs) k L = L.take j ++ [k] ++ L.drop j := by
  conv => lhs; rw [← List.take_append_drop j L]
  rw [insK_last (key := keyN nm fs) (x := k) h, List.append_assoc]
  congr 1
  by_cases hjl : j < L.length
  · rw [List.drop_eq_getElem_cons hjl]
    unfold insK
    rw [if_neg (hx hjl)]
    rfl
  · rw [List.drop_of_length_le (by omega)]
    rfl
/-- the places as the program writes them -/
def intsN (L : List Nat) : List Int := L.map (fun (i : Nat) => (i : Int))
theorem intsN_len (L : List Nat) : (intsN L).length = L.length := by unfold intsN; simp
theorem intsN_at (L : List Nat) (j : Nat) (h : j < L.length) (h' : j < (intsN L).length) : (intsN L)[j] = (L[j] : Int) := List.getElem_map (fun (i : Nat) => (i : Int))
theorem intsN_put (L : List Nat) (j k : Nat) : intsN (L.take j ++ [k] ++ L.drop j) = (intsN L).take j ++ [(k : Int)] ++ (intsN L).drop j := by unfold intsN; simp [List.map_take, List.map_drop]
theorem plcs_ids (nm : ByteArray) (fs : List Fil) : (plcs nm fs fs.length).map (fun i => (atF fs i).id) = (sortF nm fs).map (·.id) := by
  rw [← plcs_map, List.map_map]; rfl
theorem plcs_range (nm : ByteArray) (lo hi : Int) (fs : List Fil) : ((plcs nm fs fs.length).filter fun i => inB (keyN nm fs i) lo hi).map (fun i => (atF fs i).id) = ((sortF nm fs).filter fun f => inB (intA f.attrs nm) lo hi).map (·.id) := by
  rw [← plcs_map, List.filter_map, List.map_map]; rfl
end Go.Proofs.Ytkjhfblipmagoaa
