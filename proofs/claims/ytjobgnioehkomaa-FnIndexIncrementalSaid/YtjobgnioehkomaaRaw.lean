/-
  LAWS FOR copy AND FOR append OF ZERO VALUES, at elements of any number of cells: the row is spoken of cell by cell.
-/
import Derived.WalkKit
import Derived.WalkSpells
import Derived.WalkLawsBesides
import Derived.Lib.Hide
import Derived.Handy
import Derived.Maps.AppendAt
import Derived.Deep.AppendLies
import Derived.RegionTactic
import Derived.OwnWalk
import Derived.Laws.OwnMore
import Derived.Laws.CopyRow
import Derived.Deep.RegionLaw
import Derived.Test.YtjobgnioehkomaaLib
import Derived.Test.YtjobgnioehkomaaOwn
import Derived.Test.YtjobgnioehkomaaRow
namespace Go.Proofs.Ytjobgnioehkomaa
open Go.RowKit
set_option linter.unusedVariables false
/-- cells cs laid over a row from place o on (a definition of its own: the walk leaves it standing) -/
def spl (cur : Array Value) (o : Nat) (cs : List Value) : Array Value := (cur.toList.take o ++ cs ++ cur.toList.drop (o + cs.length)).toArray
theorem spl_size {cur : Array Value} {o : Nat} {cs : List Value} (h : o + cs.length ≤ cur.size) : (spl cur o cs).size = cur.size := by
  simp only [spl, List.size_toArray, List.length_append, List.length_take, List.length_drop, Array.length_toList]; omega
section
variable {P : Program} {size : Nat} {w : World} {t tS ty e : TypeId} {i : TypeInfo} {z : Value}
theorem run_copy_raw (ht : P.underlying t = some (.slice e)) (hi : P.info? e = some i) (hsize : i.size = size) {g o dLen dCap sLen sCap : Nat} {ad : Addr} {cur : Array Value} {cs : List Value} {m : Nat} (hm : Nat.min sLen dLen = m) (hcs : cs.length = m * size)
    (hg : w.heap[g]? = some (.cells cur e (0, 0))) (hsrc : ∀ j v, cs[j]? = some v → w.cell? (ad.add j) = some v) (hfit : o + cs.length ≤ cur.size) (h1 : ∀ v ∈ cs, v.oneCell' = true) :
    (Builtin.copy_ #[t, tS] ty #[.slice (some ⟨g, o, none⟩) dLen dCap, .slice (some ad) sLen sCap]).run P w = .ok (goInt m) (w.setRow g (spl cur o cs)) := by
  have hst := run_storeCells_at P g o e cs 0 cur w hg (by simpa using hfit) h1
  simp only [Nat.add_zero] at hst
  have hf := run_firstCells_some (P := P) w size m ad sLen sCap cs hcs hsrc
  subst hsize
  simp [Builtin.copy_, run_underlying ht, sizeOf, typeInfo, hi, Builtin.lenOf, hm, hf, hst, spl]
/-- append(s[:k], make(S, m)...), where there is no room: a new row -/
theorem run_append_zeros (ht : P.underlying t = some (.slice e)) (hk : P.underlying tS = some (.int .i64)) (hi : P.info? e = some i) (hz : i.zero = some z) (hsize : i.size = size) {bytes : Nat} (hby : i.bytes = bytes) (hpos : 0 < size)
    {A : Option Addr} {k c m : Nat} {olds : List Value} (hol : olds.length = k * size) (hold : 0 < k → ∃ a, A = some a ∧ ∀ j u, olds[j]? = some u → w.cell? (a.add j) = some u) (hm : 0 < m) (hno : c < k + m) (hkc : k ≤ c) (hbig : (k + m) * bytes ≤ 140737488355328) (hbs : m * bytes ≤ 140737488355328) (h63 : k + m ≤ 1099511627776) :
    (Builtin.append_ #[t, tS] ty #[.slice A k c, .int .i64 (m : Int)]).run P w = .ok (.slice (some ⟨w.heap.size, 0, none⟩) (k + m) (grownCap w (k + m) c e))
      (w.drew.alloc (.cells (olds.toArray ++ Builtin.zeroCells z.cells m ++ Builtin.zeroCells z.cells (grownCap w (k + m) c e - (k + m))) e)) := by
  subst hsize
  subst hby
  have hf : (Builtin.firstCells i.size k (.slice A k c)).run P w.drew = .ok olds.toArray w.drew := by
    rcases Nat.eq_zero_or_pos k with h0 | h0
    · subst h0
      obtain rfl : olds = [] := List.eq_nil_of_length_eq_zero (by simpa using hol)
      cases A <;> simp [Builtin.firstCells, loadCells, loadCellsFrom]
    · obtain ⟨a, rfl, hc⟩ := hold h0
      exact run_firstCells_some (P := P) w.drew i.size k a k c olds hol (by simpa using hc)
  have hw : IntKind.i64.wrap (m : Int) = m := IntWalk.i64_in _ (by omega)
  have hneg : ¬ (m : Int) < 0 := by omega
  have hb' : ¬ ((281474976710656 : Int) < (m : Int) * (i.bytes : Int)) := by
    have : ((m * i.bytes : Nat) : Int) ≤ 140737488355328 := by omega
    rw [Int.natCast_mul] at this
    omega
  have hn : ¬ (k + m ≤ c) := by omega
  have h63' : ¬ (9223372036854775807 < ((k : Int) + (m : Int))) := by omega
  have h48' : ¬ (281474976710656 < Builtin.nextslicecap (k + m) c * i.bytes) := by have := growslice_fits hno hbig; omega
  have hmz : ¬ (m = 0 ∨ i.size = 0) := by omega
  have hmz' : ¬ m * i.size = 0 := by rw [Nat.mul_eq_zero]; exact hmz
  simp [Builtin.append_, asInt, asIntOf, run_underlying ht, run_underlying hk, sizeOf, typeInfo, zeroValue, hi, hz, hw, hneg, hb', hn, h63', h48', Question.forced, hf, newRow, grownCap, hmz']

theorem wp_copy_raw {o : Oper} {a : Act} {K : Act → World → Prop} {Q : Exit → Act → World → Prop} (d s : Operand) (ho : o.op = .call { callee := .builtin .copy, args := #[d, s], argTypes := #[t, tS] })
    (ht : P.underlying t = some (.slice e)) (hi : P.info? e = some i) (hsize : i.size = size) {g off dLen dCap sLen sCap : Nat} {ad : Addr} {cur : Array Value} {cs : List Value} {m : Nat} (hd : a.eval d = .slice (some ⟨g, off, none⟩) dLen dCap) (hs : a.eval s = .slice (some ad) sLen sCap)
    (hm : Nat.min sLen dLen = m) (hcs : cs.length = m * size) (hg : w.heap[g]? = some (.cells cur e (0, 0))) (hsrc : ∀ j v, cs[j]? = some v → w.cell? (ad.add j) = some v) (hfit : off + cs.length ≤ cur.size) (h1 : ∀ v ∈ cs, v.oneCell' = true)
    (hK : ∀ w', Hid (w'.heap[g]? = some (.cells (spl cur off cs) e (0, 0))) → Chg [g] w w' → w'.heap.size = w.heap.size → K (a.put o.dst (goInt m)) w') : o.wp P a w K Q := by
  have hrun := run_copy_raw (P := P) (tS := tS) (ty := o.type) (dCap := dCap) (sCap := sCap) ht hi hsize hm hcs hg hsrc hfit h1
  unfold Oper.wp execOp
  simp only [ho, resolve, invoke, builtin, Sem.run_bind, Sem.run_pure, Result.andThen_ok, List.map_toArray, List.map_cons, List.map_nil, hd, hs, hrun]
  exact hK _ (Lib.hid (setRow_heap w g cur _ e _ hg)) ⟨rfl, rfl, rfl, by simp, fun k _ hk => setRow_other w g k _ (fun e => hk (by rw [e]; simp))⟩ (by simp)
theorem wpList_copy_raw {ops : Array Oper} {rest : List Oper} {o : Oper} {a : Act} {Q : Exit → Act → World → Prop} (hgd : o.guard = none) (d s : Operand) (ho : o.op = .call { callee := .builtin .copy, args := #[d, s], argTypes := #[t, tS] })
    (ht : P.underlying t = some (.slice e)) (hi : P.info? e = some i) (hsize : i.size = size) {g off dLen dCap sLen sCap : Nat} {ad : Addr} {cur : Array Value} {cs : List Value} {m : Nat} (hd : a.eval d = .slice (some ⟨g, off, none⟩) dLen dCap) (hs : a.eval s = .slice (some ad) sLen sCap)
    (hm : Nat.min sLen dLen = m) (hcs : cs.length = m * size) (hg : w.heap[g]? = some (.cells cur e (0, 0))) (hsrc : ∀ j v, cs[j]? = some v → w.cell? (ad.add j) = some v) (hfit : off + cs.length ≤ cur.size) (h1 : ∀ v ∈ cs, v.oneCell' = true)
    (hK : ∀ w', Hid (w'.heap[g]? = some (.cells (spl cur off cs) e (0, 0))) → Chg [g] w w' → w'.heap.size = w.heap.size → wpList P ops Q rest (a.put o.dst (goInt m)) w') : wpList P ops Q (o :: rest) a w :=
  wpList_plain hgd fun _ hK' => wp_copy_raw d s ho ht hi hsize hd hs hm hcs hg hsrc hfit h1 fun w' h2 h3 h4 => hK' _ _ (hK w' h2 h3 h4)
theorem step_copy_raw {ops : Array Oper} {o : Oper} {a : Act} {K : Act → World → Prop} {Q : Exit → Act → World → Prop} {E : Prop} (hgd : o.guard = none) (d s : Operand) (ho : o.op = .call { callee := .builtin .copy, args := #[d, s], argTypes := #[t, tS] })
    (ht : P.underlying t = some (.slice e)) (hi : P.info? e = some i) (hsize : i.size = size) {g off dLen dCap sLen sCap : Nat} {ad : Addr} {cur : Array Value} {cs : List Value} {m : Nat} (hd : a.eval d = .slice (some ⟨g, off, none⟩) dLen dCap) (hs : a.eval s = .slice (some ad) sLen sCap)
    (hm : Nat.min sLen dLen = m) (hcs : cs.length = m * size) (hg : w.heap[g]? = some (.cells cur e (0, 0))) (hsrc : ∀ j v, cs[j]? = some v → w.cell? (ad.add j) = some v) (hfit : off + cs.length ≤ cur.size) (h1 : ∀ v ∈ cs, v.oneCell' = true)
    (hK : ∀ w', Hid (w'.heap[g]? = some (.cells (spl cur off cs) e (0, 0))) → Chg [g] w w' → w'.heap.size = w.heap.size → K (a.put o.dst (goInt m)) w') :
    if Region.wanted o (yielded ops a.tmps) = true then Oper.wp P o a w K Q else E := by
  have hw : Region.wanted o (yielded ops a.tmps) = true := by simp [Region.wanted, hgd]
  rw [if_pos hw]
  exact wp_copy_raw d s ho ht hi hsize hd hs hm hcs hg hsrc hfit h1 hK
theorem wpList_append_zeros {ops : Array Oper} {rest : List Oper} {o : Oper} {a : Act} {Q : Exit → Act → World → Prop} (hgd : o.guard = none) (s x : Operand) (ho : o.op = .call { callee := .builtin .append, args := #[s, x], argTypes := #[t, tS] })
    (ht : P.underlying t = some (.slice e)) (hk : P.underlying tS = some (.int .i64)) (hi : P.info? e = some i) (hz : i.zero = some z) (hsize : i.size = size) {bytes : Nat} (hby : i.bytes = bytes) (hzs : z.cells.size = size) (hpos : 0 < size)
    {A : Option Addr} {k c m : Nat} {olds : List Value} (hs : a.eval s = .slice A k c) (hx : a.eval x = .int .i64 (m : Int)) (hol : olds.length = k * size) (hold : 0 < k → ∃ a, A = some a ∧ ∀ j u, olds[j]? = some u → w.cell? (a.add j) = some u) (hm : 0 < m) (hno : c < k + m) (hkc : k ≤ c)
    (hbig : (k + m) * bytes ≤ 140737488355328) (hbs : m * bytes ≤ 140737488355328) (h63 : k + m ≤ 1099511627776)
    (hK : ∀ c' cur w', k + m ≤ c' → c' ≤ maxLen → Hid (w'.heap[w.heap.size]? = some (.cells cur e (0, 0)) ∧ cur.size = c' * size ∧ cur.toList.take (k * size) = olds) → Below w.heap.size w w' → w.heap.size < w'.heap.size → wpList P ops Q rest (a.put o.dst (.slice (some ⟨w.heap.size, 0, none⟩) (k + m) c')) w') :
    wpList P ops Q (o :: rest) a w := by
  refine wpList_plain hgd fun K hK' => ?_
  have hrun := run_append_zeros (P := P) (ty := o.type) ht hk hi hz hsize hby hpos hol hold hm hno hkc hbig hbs h63
  unfold Oper.wp execOp
  simp only [ho, resolve, invoke, builtin, Sem.run_bind, Sem.run_pure, Result.andThen_ok, List.map_toArray, List.map_cons, List.map_nil, hs, hx, hrun]
  have hge := grownCap_ge w (k + m) c e
  refine hK' _ _ (hK _ _ _ hge (grownCap_le_maxLen w (k + m) c e (by unfold maxLen; omega)) (Lib.hid ⟨blk_new w.drew _, ?_, ?_⟩) ⟨rfl, rfl, rfl, by simp, fun b hb => Below.heap_alloc w.drew _ b hb⟩ (by simp))
  · simp only [Array.size_append, List.size_toArray, size_zeroCells, hzs, hol, ← Nat.add_mul]
    congr 1
    omega
  · simp only [Array.toList_append, List.append_assoc]
    rw [← hol]
    exact List.take_left
end
end Go.Proofs.Ytjobgnioehkomaa
