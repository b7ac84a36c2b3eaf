/-
  CONTRACTS: a library function that deletes from a slice of the call's own; functions that use it.
-/
import Derived.WalkKit
import Derived.WalkSpells
import Derived.WalkLawsBesides
import Derived.Lib.Hide
import Derived.Handy
import Derived.StillTailTactics
import Derived.Deep.Light
import Derived.Deep.QuietTactic
import Derived.BigQuiet
import Derived.Deep.RegionHeld3
import Derived.Laws.CopyRow
import Derived.Test.YtjobgnioehkomaaLib
import Derived.Test.YtjobgnioehkomaaOwn
import Derived.Test.YtjobgnioehkomaaRow
import Derived.Test.YtjobgnioehkomaaHld
import Derived.Test.YtjobgnioehkomaaM0
import Derived.Test.YtjobgnioehkomaaC1
import Derived.Test.YtjobgnioehkomaaC2
import Derived.Test.YtjobgnioehkomaaT1
import Derived.Test.YtjobgnioehkomaaT2
import Derived.Test.YtjobgnioehkomaaT3
import Derived.Test.YtjobgnioehkomaaT4
import Derived.Test.YtjobgnioehkomaaC3
import Derived.Test.YtjobgnioehkomaaC4
import Derived.Test.YtjobgnioehkomaaC5
import Derived.Test.YtjobgnioehkomaaD1
import Derived.Test.YtjobgnioehkomaaRows
namespace Go.Proofs.Ytjobgnioehkomaa
open Go.RowKit
set_option linter.unusedVariables false
set_option maxRecDepth 100000
/-- the cells behind position k are cleared: what stands before it stays -/
theorem run_clear_row {α : Type} {P : Program} {e size : Nat} {enc : α → List Value} {w : World} {B n c k : Nat} {A : Option Addr} {l : List α} {t ty : TypeId} {z : Value} (hE : Enc size enc)
    (ht : P.underlying t = some (.slice e)) (hz : ∀ w, (zeroValue e).run P w = .ok z w) (hzs : z.cells.size = size) (hz1 : ∀ u ∈ z.cells.toList, u.oneCell' = true)
    (h : FRow e size enc w B A n c l) (hk : k ≤ n) (m : Nat) (hm : m ≤ n - k) (d : Nat) (A' : Option Addr) (hA : 0 < m → ∀ g, A = some ⟨g, 0, none⟩ → A' = some ⟨g, k * size, none⟩) :
    ∃ w', (Builtin.clear_ #[t] ty #[.slice A' m d]).run P w = .ok (.tuple #[]) w' ∧ FRow e size enc w' B A k c (l.take k) ∧ Chg (rowBs A c) w w' := by
  rcases Nat.eq_zero_or_pos m with h0 | h0
  · subst h0
    refine ⟨w, ?_, h.cut hE hk, Chg.refl _ _⟩
    cases A' <;> simp [Builtin.clear_, run_underlying ht]
  · have hn : 0 < n := by omega
    obtain ⟨g, hAg, hB, hg, hr, cur, hcur, hs, htk⟩ := h.row (by have := h.le; omega)
    obtain rfl := hA h0 g hAg
    have hzl : (Builtin.zeroCells z.cells m).toList.length = m * size := by rw [Array.length_toList, size_zeroCells, hzs]
    have hle : (k + m) * size ≤ c * size := Nat.mul_le_mul_right _ (by have := h.le; omega)
    rw [Nat.add_mul] at hle
    have h1 : ∀ u ∈ (Builtin.zeroCells z.cells m).toList, u.oneCell' = true := fun u hu => by
      have hu' : u ∈ Builtin.zeroCells z.cells m := Array.mem_toList_iff.1 hu
      unfold Builtin.zeroCells at hu'
      rw [Array.mem_map] at hu'
      obtain ⟨i, hi, rfl⟩ := hu'
      have hlt : i % z.cells.size < z.cells.size := Nat.mod_lt _ (by rw [hzs]; exact hE.pos)
      rw [getElem!_pos z.cells (i % z.cells.size) hlt]
      exact hz1 _ (Array.getElem_mem_toList hlt)
    have hst := run_storeCells_at P g (k * size) e (Builtin.zeroCells z.cells m).toList 0 cur w hcur (by rw [hzl, hs]; omega) h1
    simp only [Nat.add_zero] at hst
    obtain ⟨m', rfl⟩ : ∃ m', m = m' + 1 := ⟨m - 1, by omega⟩
    refine ⟨w.setRow g (cur.toList.take (k * size) ++ (Builtin.zeroCells z.cells (m' + 1)).toList ++ cur.toList.drop (k * size + (Builtin.zeroCells z.cells (m' + 1)).toList.length)).toArray, by simp [Builtin.clear_, run_underlying ht, hz, hst], ⟨by rw [List.length_take, h.len]; omega, by have := h.le; omega, h.2.2.1, .inr ⟨g, _, hAg, hB, setRow_heap w g cur _ e _ hcur, ?_, ?_⟩⟩, ⟨rfl, rfl, rfl, by simp, fun b hb hn => setRow_other w g b _ (fun e => hn (by rw [hr, e]; simp))⟩⟩
    · simp only [List.size_toArray, List.length_append, List.length_take, List.length_drop, Array.length_toList, hzl]
      omega
    · have e1 : (cur.toList.take (k * size)) = (l.take k).flatMap enc := by
        rw [← flat_take hE, ← htk, List.take_take, Nat.min_eq_left (Nat.mul_le_mul_right _ hk)]
      rw [e1, List.append_assoc]
      have e2 : ((l.take k).flatMap enc).length = k * size := by rw [flat_len hE, List.length_take, h.len]; congr 1; omega
      rw [← e2]
      exact List.take_left
theorem wpList_clear_row {α : Type} {P : Program} {e size : Nat} {enc : α → List Value} {w : World} {B n c k : Nat} {A : Option Addr} {l : List α} {t : TypeId} {z : Value}
    {ops : Array Oper} {rest : List Oper} {o : Oper} {a : Act} {Q : Exit → Act → World → Prop} (hgd : o.guard = none) (s : Operand)
    (ho : o.op = .call { callee := .builtin .clear, args := #[s], argTypes := #[t] }) (hE : Enc size enc)
    (ht : P.underlying t = some (.slice e)) (hz : ∀ w, (zeroValue e).run P w = .ok z w) (hzs : z.cells.size = size) (hz1 : ∀ u ∈ z.cells.toList, u.oneCell' = true)
    (h : FRow e size enc w B A n c l) (hk : k ≤ n) (m : Nat) (hm : m ≤ n - k) (d : Nat) (A' : Option Addr) (hA : 0 < m → ∀ g, A = some ⟨g, 0, none⟩ → A' = some ⟨g, k * size, none⟩) (hs : a.eval s = .slice A' m d)
    (hK : ∀ w', FRow e size enc w' B A k c (l.take k) → Chg (rowBs A c) w w' → wpList P ops Q rest (a.put o.dst (.tuple #[])) w') : wpList P ops Q (o :: rest) a w := by
  refine wpList_plain hgd fun K hK' => ?_
  obtain ⟨w', hrun, h2, h3⟩ := run_clear_row (P := P) (ty := o.type) hE ht hz hzs hz1 h hk m hm d A' hA
  unfold Oper.wp execOp
  simp only [ho, resolve, invoke, builtin, Sem.run_bind, Sem.run_pure, Result.andThen_ok, List.map_toArray, List.map_cons, List.map_nil, hs, hrun]
  exact hK' _ _ (hK w' h2 h3)
theorem setsA_list {cur : Array Value} {o : Nat} {vs : List Value} (h : o + vs.length ≤ cur.size) : (setsA cur o vs).toList = cur.toList.take o ++ (vs ++ cur.toList.drop (o + vs.length)) := by
  have hl : (cur.toList.take o).length = o := by rw [List.length_take, Array.length_toList]; omega
  apply List.ext_getElem?
  intro j
  rw [Array.getElem?_toList]
  by_cases h1 : j < o
  · rw [setsA_low _ _ _ _ h1, List.getElem?_append_left (by omega), List.getElem?_take_of_lt h1, Array.getElem?_toList]
  · rw [List.getElem?_append_right (by omega), hl]
    by_cases h2 : j - o < vs.length
    · rw [List.getElem?_append_left h2]
      have hv : vs[j - o]? = some vs[j - o] := List.getElem?_eq_getElem h2
      have := setsA_get vs cur o (j - o) _ h hv
      rw [show o + (j - o) = j by omega] at this
      rw [this, hv]
    · rw [setsA_high _ _ _ _ (by omega), List.getElem?_append_right (by omega), List.getElem?_drop, Array.getElem?_toList]
      congr 1
      omega
/-- an element of the row is stored -/
theorem FRow.setE {α : Type} {e size : Nat} {enc : α → List Value} {w : World} {B n c g i : Nat} {A : Option Addr} {l : List α} (hE : Enc size enc) (h : FRow e size enc w B A n c l) (hA : A = some ⟨g, 0, none⟩) (hi : i < l.length) (x : α) :
    FRow e size enc (sets w g (i * size) (enc x)) B A n c (l.set i x) := by
  have hn : 0 < n := by rw [← h.len]; omega
  obtain ⟨g', hA', hB, hg, hr, cur, hcur, hs, ht⟩ := h.row (by have := h.le; omega)
  obtain rfl : g' = g := by rw [hA] at hA'; simpa using hA'.symm
  have hle : (i + 1) * size ≤ n * size := Nat.mul_le_mul_right _ (by rw [← h.len]; omega)
  have hle2 : n * size ≤ c * size := Nat.mul_le_mul_right _ h.le
  rw [Nat.succ_mul] at hle
  refine ⟨by rw [List.length_set]; exact h.len, h.le, h.2.2.1, .inr ⟨g', _, hA, hB, sets_blk _ _ _ _ hcur, by rw [setsA_size]; exact hs, ?_⟩⟩
  rw [setsA_list (by rw [hE.len]; omega), hE.len]
  have e1 : cur.toList.take (i * size) = (l.take i).flatMap enc := by
    rw [← flat_take hE, ← ht, List.take_take, Nat.min_eq_left (by omega)]
  have e2 : (cur.toList.drop (i * size + size)).take (n * size - (i * size + size)) = (l.drop (i + 1)).flatMap enc := by
    rw [← flat_drop hE, ← ht, List.drop_take, Nat.succ_mul]
  have e3 : l.set i x = l.take i ++ ([x] ++ l.drop (i + 1)) := by rw [List.set_eq_take_append_cons_drop, if_pos hi]; rfl
  have l1 : ((l.take i).flatMap enc).length = i * size := by rw [flat_len hE, List.length_take, Nat.min_eq_left (by omega)]
  have l2 : (([x] : List α).flatMap enc) = enc x := by simp
  rw [e3, List.flatMap_append, List.flatMap_append, l2, e1, List.take_append, l1, List.take_of_length_le (l := (l.take i).flatMap enc) (by rw [l1]; omega), List.take_append, hE.len, List.take_of_length_le (l := enc x) (by rw [hE.len]; omega), ← e2]
  rw [show n * size - i * size - size = n * size - (i * size + size) by omega]
/-- how far DeleteFunc has come: the kept ones of the first j elements stand in front, from j on all is as it was -/
def keep {α : Type} (p : α → Bool) (l : List α) (j : Nat) : List α := (l.take j).filter fun x => !p x
def DelInv {α : Type} (p : α → Bool) (l : List α) (j i : Nat) (cur : List α) : Prop :=
  cur.length = l.length ∧ (keep p l j).length = i ∧ cur.take i = keep p l j ∧ cur.drop j = l.drop j
theorem keep_le {α : Type} (p : α → Bool) (l : List α) (j : Nat) : (keep p l j).length ≤ j := Nat.le_trans (List.length_filter_le _ _) (by rw [List.length_take]; omega)
theorem keep_succ {α : Type} (p : α → Bool) (l : List α) {j : Nat} (h : j < l.length) : keep p l (j + 1) = keep p l j ++ (if p l[j] then [] else [l[j]]) := by
  unfold keep
  rw [take_filter_succ _ l h]
  cases p l[j] <;> simp
theorem keep_all {α : Type} (p : α → Bool) (l : List α) {j : Nat} (h : l.length ≤ j) : keep p l j = l.filter fun x => !p x := by unfold keep; rw [List.take_of_length_le h]
theorem DelInv.start {α : Type} {p : α → Bool} {l : List α} {i : Nat} (hi : i < l.length) (hn : noneTo p l i) (hp : p l[i] = true) : DelInv p l (i + 1) i l := by
  have h0 : keep p l i = l.take i := by
    unfold keep
    rw [List.filter_eq_self]
    intro x hx
    obtain ⟨q, hq, rfl⟩ := List.getElem_of_mem hx
    rw [List.length_take] at hq
    rw [List.getElem_take, hn q (by omega) (by omega)]
    rfl
  have h1 : keep p l (i + 1) = l.take i := by rw [keep_succ p l hi, hp, h0]; simp
  exact ⟨rfl, by rw [h1, List.length_take]; omega, h1.symm, rfl⟩
theorem DelInv.at_ {α : Type} {p : α → Bool} {l cur : List α} {j i : Nat} (h : DelInv p l j i cur) (hj : j < l.length) : cur[j]'(by rw [h.1]; exact hj) = l[j] := by
  have := congrArg (fun x : List α => x[0]?) h.2.2.2
  simp only [List.getElem?_drop, Nat.add_zero] at this
  rw [List.getElem?_eq_getElem (by rw [h.1]; exact hj), List.getElem?_eq_getElem hj] at this
  simpa using this
theorem DelInv.skip {α : Type} {p : α → Bool} {l cur : List α} {j i : Nat} (h : DelInv p l j i cur) (hj : j < l.length) (hp : p l[j] = true) : DelInv p l (j + 1) i cur := by
  have h1 : keep p l (j + 1) = keep p l j := by rw [keep_succ p l hj, hp]; simp
  refine ⟨h.1, by rw [h1]; exact h.2.1, by rw [h1]; exact h.2.2.1, ?_⟩
  have := congrArg (List.drop 1) h.2.2.2
  simpa [List.drop_drop] using this
theorem DelInv.put {α : Type} {p : α → Bool} {l cur : List α} {j i : Nat} (h : DelInv p l j i cur) (hj : j < l.length) (hp : p l[j] = false) : DelInv p l (j + 1) (i + 1) (cur.set i l[j]) := by
  have h1 : keep p l (j + 1) = keep p l j ++ [l[j]] := by rw [keep_succ p l hj, hp]; simp
  have hij : i ≤ j := by have := keep_le p l j; have := h.2.1; omega
  refine ⟨by rw [List.length_set]; exact h.1, by rw [h1, List.length_append, h.2.1]; rfl, ?_, ?_⟩
  · rw [h1, ← h.2.2.1, List.take_succ_eq_append_getElem (by rw [List.length_set, h.1]; omega), List.getElem_set_self, List.take_set_of_le (Nat.le_refl _)]
  · rw [List.drop_set_of_lt (by omega)]
    have := congrArg (List.drop 1) h.2.2.2
    simpa [List.drop_drop] using this
theorem zero_Attr : ∀ w, (zeroValue 84).run Try.prog w = .ok (.agg #[.string ByteArray.empty, .int .i64 0, .int .i64 0, .string ByteArray.empty]) w := fun _ => by kernel_rfl
set_option maxHeartbeats 3200000 in
theorem slices_DeleteFunc_Attr (A : Option Addr) (n c : Nat) (l : List Atr) (kf : Nat) (caps : Array Value) (p : Atr → Bool) (B : Nat) (w : World) (h : FRow 84 4 eAtr w B A n c l) (hn : n ≤ 1073741824) (hB : B ≤ w.heap.size)
    (hcf : ∀ args w, (callFunc kf args).run Try.prog w = .ok (.enter kf args) w) (hp : Pred Try.prog kf caps (fun a : Atr => .agg #[.string a.name, .int .i64 a.val.kind, .int .i64 a.val.int, .string a.val.str]) p l B w) :
    Calls Try.prog 64 #[.slice A n c, .func (.func kf) #[] caps] w fun e' w' => e' = .returned (.slice A (l.filter fun x => !p x).length c) ∧ FRow 84 4 eAtr w' B A (l.filter fun x => !p x).length c (l.filter fun x => !p x) ∧ Chg (rowBs A c) w w' := by
  obtain rfl : l.length = n := h.len
  have HI := Lib.hid (slices_IndexFunc_Attr A l.length c l kf caps p B w (h.sl encAtr (fun _ => rfl)) hn hB hcf hp)
  cases hx : l.findIdx? p with
  | none =>
    have h0 := List.findIdx?_eq_none_iff.1 hx
    have e1 : (l.filter fun x => !p x) = l := List.filter_eq_self.2 fun x hm => by rw [h0 x hm]; rfl
    have ei : idxI p l = -1 := by unfold idxI; rw [hx]
    rw [e1]
    have HR := Lib.hid h
    clear hp h h0 e1
    have HI' := HI.out
    rw [ei] at HI'
    have HJ := Lib.hid HI'
    clear HI' ei hx HI
    go_enter Try.func64, Try.ntmps64
    go_wp2_with fail
    refine HJ.out.mono ?_; rintro e w1 ⟨rfl, hb1⟩
    go_wp2_with fail
    go_returns
    exact ⟨rfl, HR.out.below hb1, Chg.of_below _ hb1⟩
  | some i0 =>
    obtain ⟨hi0, hpi, hni⟩ := List.findIdx?_eq_some_iff_getElem.1 hx
    have ei : idxI p l = i0 := by unfold idxI; rw [hx]
    have hD0 := DelInv.start hi0 (fun j hj hji => by have := hni j hji; simpa using this) hpi
    have hcn := h.le
    obtain ⟨g, hA, hBg, hgw, hrb, -⟩ := h.row (by omega)
    subst hA
    have hk0 : (l.filter fun x => !p x).length < l.length := by
      rcases Nat.lt_or_ge (l.filter fun x => !p x).length l.length with h1 | h1
      · exact h1
      · have := (List.filter_eq_self.1 (List.filter_sublist.eq_of_length (Nat.le_antisymm (List.length_filter_le _ _) h1))) _ (List.getElem_mem hi0)
        rw [hpi] at this
        cases this
    rw [hrb]
    have hrb' := Lib.hid hrb
    have HR := Lib.hid h
    have HP := Lib.hid hp
    have HD := Lib.hid hD0
    have HI' := HI.out
    rw [ei] at HI'
    have HJ := Lib.hid HI'
    have HK0 := Lib.hid hk0
    have ge : ((i0 : Int) == -1) = false := by simp <;> omega
    clear HI' ei hx HI h hp hD0 hk0 hni hpi hrb
    go_enter Try.func64, Try.ntmps64
    go_wp2_with fail
    refine HJ.out.mono ?_; rintro e w1 ⟨rfl, hb1⟩
    go_wp2_with fail
    go_loopw [5, 6] (fun ii jj wr => ∃ j i : Nat, ∃ cur : List Atr, j ≤ l.length ∧ i < j ∧ ii = .int .i64 i ∧ jj = .int .i64 j ∧ DelInv p l j i cur ∧ FRow 84 4 eAtr wr B (some ⟨g, 0, none⟩) l.length c cur ∧ Chg [g] w wr) (fun _ jj _ => l.length - (intOf jj).toNat)
    case atStart => exact ⟨i0 + 1, i0, l, by omega, by omega, rfl, by first | rfl | go_num, HD.out, HR.out.below hb1, Chg.of_below _ hb1⟩
    case round =>
      obtain ⟨j, i, cur, hj, hij, rfl, rfl, hD, hF, hC⟩ := hrel
      by_cases hlt : j < l.length
      · have i0' : (0 : Int) ≤ (j : Int) := by omega
        have i1' : (j : Int) < (l.length : Int) := by omega
        have i2' : (0 : Int) ≤ (i : Int) := by omega
        have i3' : (i : Int) < (l.length : Int) := by omega
        obtain ⟨g', hg', -, hgr, -, hfr, hcj⟩ := hF.cell encAtr (by omega)
        obtain rfl : g = g' := by simpa using hg'
        have hat := hD.at_ hlt
        have q0 := hcj j (by rw [hD.1]; omega) 0 (.string l[j].name) (by rw [hat]; rfl)
        obtain ⟨v0, p0⟩ : ∃ v, wr.cell? ⟨g, i * 4 + 0, none⟩ = some v := ⟨_, hcj i (by rw [hD.1]; omega) 0 _ rfl⟩
        have q1 := hcj j (by rw [hD.1]; omega) 1 (.int .i64 l[j].val.kind) (by rw [hat]; rfl)
        obtain ⟨v1, p1⟩ : ∃ v, wr.cell? ⟨g, i * 4 + 1, none⟩ = some v := ⟨_, hcj i (by rw [hD.1]; omega) 1 _ rfl⟩
        have q2 := hcj j (by rw [hD.1]; omega) 2 (.int .i64 l[j].val.int) (by rw [hat]; rfl)
        obtain ⟨v2, p2⟩ : ∃ v, wr.cell? ⟨g, i * 4 + 2, none⟩ = some v := ⟨_, hcj i (by rw [hD.1]; omega) 2 _ rfl⟩
        have q3 := hcj j (by rw [hD.1]; omega) 3 (.string l[j].val.str) (by rw [hat]; rfl)
        obtain ⟨v3, p3⟩ : ∃ v, wr.cell? ⟨g, i * 4 + 3, none⟩ = some v := ⟨_, hcj i (by rw [hD.1]; omega) 3 _ rfl⟩
        have HC := Lib.hid fun (w' : World) (hb' : Below wr.heap.size wr w') => HP.out w' ((hC.below hB (by simpa using hBg)).trans (hb'.mono (Nat.le_trans hB hC.size))) l[j] (List.getElem_mem _)
        have HL := Lib.hid hD.1
        clear hg' hcj hat
        simp only [Nat.add_zero] at q0 p0
        cases hf : p l[j] with
        | true =>
          have HN := Lib.hid (hD.skip hlt hf)
          have HF := Lib.hid hF
          have Hf := Lib.hid hf
          clear hD hF hf
          go_wp2_with fail
          refine (HC.out _ (by go_grown)).mono ?_; rintro e w2 ⟨rfl, hb2⟩
          rw [Hf.out]
          go_wp2_with fail
          go_roundw
          case rel => exact ⟨j + 1, i, cur, by omega, by omega, rfl, by go_num, HN.out, HF.out.below (ex_trans (by go_grown) hb2), hC.trans (Chg.of_below _ (ex_trans (by go_grown) hb2))⟩
          case measure => simp [intOf]; omega
        | false =>
          have HN := Lib.hid (hD.put hlt hf)
          have HF := Lib.hid hF
          have Hf := Lib.hid hf
          clear hD hF hf
          go_wp2_with fail
          refine (HC.out _ (by go_grown)).mono ?_; rintro e w2 ⟨rfl, hb2⟩
          rw [Hf.out]
          have hbx := ex_trans (w := wr) (by go_grown) hb2
          obtain ⟨hcc, hff⟩ := bcell hb2
          have hz2 : wr.heap.size < w2.heap.size := by have := hb2.size; simp at this; omega
          have y0 := keep_cell hbx p0
          have y1 := keep_cell hbx p1
          have y2 := keep_cell hbx p2
          have y3 := keep_cell hbx p3
          have hfr2 : ∀ j, w2.frozen? ⟨g, j, none⟩ = false := fun j => (hbx.frozen (p := ⟨g, j, none⟩) hgr).trans (hfr j)
          go_wp2_with fail
          go_roundw
          case rel =>
            refine ⟨j + 1, i + 1, cur.set i l[j], by omega, by omega, by go_num, by go_num, HN.out, ?_, ?_⟩
            · have hh := FRow.setE (i := i) encAtr (HF.out.below hbx) rfl (by rw [HL.out]; omega) l[j]
              exact hh
            · have hh := sets_chg (bs := [g]) (g := g) (w := w) (w1 := w2) (by simp) (eAtr l[j]) w2 (i * 4) (hC.trans (Chg.of_below _ hbx))
              exact hh
          case measure => simp [intOf]; omega
      · obtain rfl : l.length = j := by omega
        have e1 : keep p l l.length = l.filter fun x => !p x := keep_all p l (Nat.le_refl _)
        have ei : i = (l.filter fun x => !p x).length := by rw [← e1]; exact hD.2.1.symm
        have ec : cur.take i = l.filter fun x => !p x := by rw [← e1]; exact hD.2.2.1
        have hic : i < c := by omega
        have hil : i < l.length := hij
        have HF := Lib.hid hF
        have HE := Lib.hid (And.intro ei ec)
        clear hF hD e1 ei ec
        go_wp2_with (refine wpList_clear_row rfl _ rfl encAtr Try.underlying26 zero_Attr rfl (by simp [Value.oneCell', Value.cells]) HF.out (k := i) (by omega) _ ?hm _ _ ?hA rfl ?_)
        case hm => first | omega | simp
        case hA => intro _ g2 hg2; simp at hg2; subst hg2; simp
        intro w2 hr2 hc2
        rw [HE.out.2] at hr2
        have HR2 := Lib.hid hr2
        clear hr2
        go_wp2_with fail
        go_returns
        rw [hrb'.out] at hc2
        have e9 : Ending.returned (Value.slice (some ⟨g, 0, none⟩) i c) = .returned (.slice (some ⟨g, 0, none⟩) (l.filter fun x => !p x).length c) := by rw [← HE.out.1]
        have h9 := HR2.out
        rw [HE.out.1] at h9
        exact ⟨e9, h9, hC.trans hc2⟩
theorem zero_int : ∀ w, (zeroValue 3).run Try.prog w = .ok (.int .i64 0) w := fun _ => by kernel_rfl
set_option maxHeartbeats 3200000 in
theorem slices_DeleteFunc_int (A : Option Addr) (n c : Nat) (l : List Int) (kf : Nat) (caps : Array Value) (p : Int → Bool) (B : Nat) (w : World) (h : FRow 3 1 eInt w B A n c l) (hn : n ≤ 1073741824) (hB : B ≤ w.heap.size)
    (hcf : ∀ args w, (callFunc kf args).run Try.prog w = .ok (.enter kf args) w) (hp : Pred Try.prog kf caps (fun x : Int => .int .i64 x) p l B w) :
    Calls Try.prog 107 #[.slice A n c, .func (.func kf) #[] caps] w fun e' w' => e' = .returned (.slice A (l.filter fun x => !p x).length c) ∧ FRow 3 1 eInt w' B A (l.filter fun x => !p x).length c (l.filter fun x => !p x) ∧ Chg (rowBs A c) w w' := by
  obtain rfl : l.length = n := h.len
  have HI := Lib.hid (slices_IndexFunc_int A l.length c l kf caps p B w (h.sl encInt (fun _ => rfl)) hn hB hcf hp)
  cases hx : l.findIdx? p with
  | none =>
    have h0 := List.findIdx?_eq_none_iff.1 hx
    have e1 : (l.filter fun x => !p x) = l := List.filter_eq_self.2 fun x hm => by rw [h0 x hm]; rfl
    have ei : idxI p l = -1 := by unfold idxI; rw [hx]
    rw [e1]
    have HR := Lib.hid h
    clear hp h h0 e1
    have HI' := HI.out
    rw [ei] at HI'
    have HJ := Lib.hid HI'
    clear HI' ei hx HI
    go_enter Try.func107, Try.ntmps107
    go_wp2_with fail
    refine HJ.out.mono ?_; rintro e w1 ⟨rfl, hb1⟩
    go_wp2_with fail
    go_returns
    exact ⟨rfl, HR.out.below hb1, Chg.of_below _ hb1⟩
  | some i0 =>
    obtain ⟨hi0, hpi, hni⟩ := List.findIdx?_eq_some_iff_getElem.1 hx
    have ei : idxI p l = i0 := by unfold idxI; rw [hx]
    have hD0 := DelInv.start hi0 (fun j hj hji => by have := hni j hji; simpa using this) hpi
    have hcn := h.le
    obtain ⟨g, hA, hBg, hgw, hrb, -⟩ := h.row (by omega)
    subst hA
    have hk0 : (l.filter fun x => !p x).length < l.length := by
      rcases Nat.lt_or_ge (l.filter fun x => !p x).length l.length with h1 | h1
      · exact h1
      · have := (List.filter_eq_self.1 (List.filter_sublist.eq_of_length (Nat.le_antisymm (List.length_filter_le _ _) h1))) _ (List.getElem_mem hi0)
        rw [hpi] at this
        cases this
    rw [hrb]
    have hrb' := Lib.hid hrb
    have HR := Lib.hid h
    have HP := Lib.hid hp
    have HD := Lib.hid hD0
    have HI' := HI.out
    rw [ei] at HI'
    have HJ := Lib.hid HI'
    have HK0 := Lib.hid hk0
    have ge : ((i0 : Int) == -1) = false := by simp <;> omega
    clear HI' ei hx HI h hp hD0 hk0 hni hpi hrb
    go_enter Try.func107, Try.ntmps107
    go_wp2_with fail
    refine HJ.out.mono ?_; rintro e w1 ⟨rfl, hb1⟩
    go_wp2_with fail
    go_loopw [5, 6] (fun ii jj wr => ∃ j i : Nat, ∃ cur : List Int, j ≤ l.length ∧ i < j ∧ ii = .int .i64 i ∧ jj = .int .i64 j ∧ DelInv p l j i cur ∧ FRow 3 1 eInt wr B (some ⟨g, 0, none⟩) l.length c cur ∧ Chg [g] w wr) (fun _ jj _ => l.length - (intOf jj).toNat)
    case atStart => exact ⟨i0 + 1, i0, l, by omega, by omega, rfl, by first | rfl | go_num, HD.out, HR.out.below hb1, Chg.of_below _ hb1⟩
    case round =>
      obtain ⟨j, i, cur, hj, hij, rfl, rfl, hD, hF, hC⟩ := hrel
      by_cases hlt : j < l.length
      · have i0' : (0 : Int) ≤ (j : Int) := by omega
        have i1' : (j : Int) < (l.length : Int) := by omega
        have i2' : (0 : Int) ≤ (i : Int) := by omega
        have i3' : (i : Int) < (l.length : Int) := by omega
        obtain ⟨g', hg', -, hgr, -, hfr, hcj⟩ := hF.cell encInt (by omega)
        obtain rfl : g = g' := by simpa using hg'
        have hat := hD.at_ hlt
        have q0 := hcj j (by rw [hD.1]; omega) 0 (.int .i64 l[j]) (by rw [hat]; rfl)
        obtain ⟨v0, p0⟩ : ∃ v, wr.cell? ⟨g, i * 1 + 0, none⟩ = some v := ⟨_, hcj i (by rw [hD.1]; omega) 0 _ rfl⟩
        have HC := Lib.hid fun (w' : World) (hb' : Below wr.heap.size wr w') => HP.out w' ((hC.below hB (by simpa using hBg)).trans (hb'.mono (Nat.le_trans hB hC.size))) l[j] (List.getElem_mem _)
        have HL := Lib.hid hD.1
        clear hg' hcj hat
        simp only [Nat.mul_one, Nat.add_zero] at q0 p0
        cases hf : p l[j] with
        | true =>
          have HN := Lib.hid (hD.skip hlt hf)
          have HF := Lib.hid hF
          have Hf := Lib.hid hf
          clear hD hF hf
          go_wp2_with fail
          refine (HC.out _ (by go_grown)).mono ?_; rintro e w2 ⟨rfl, hb2⟩
          rw [Hf.out]
          go_wp2_with fail
          go_roundw
          case rel => exact ⟨j + 1, i, cur, by omega, by omega, rfl, by go_num, HN.out, HF.out.below (ex_trans (by go_grown) hb2), hC.trans (Chg.of_below _ (ex_trans (by go_grown) hb2))⟩
          case measure => simp [intOf]; omega
        | false =>
          have HN := Lib.hid (hD.put hlt hf)
          have HF := Lib.hid hF
          have Hf := Lib.hid hf
          clear hD hF hf
          go_wp2_with fail
          refine (HC.out _ (by go_grown)).mono ?_; rintro e w2 ⟨rfl, hb2⟩
          rw [Hf.out]
          have hbx := ex_trans (w := wr) (by go_grown) hb2
          obtain ⟨hcc, hff⟩ := bcell hb2

          have y0 := keep_cell hbx p0
          have hfr2 : ∀ j, w2.frozen? ⟨g, j, none⟩ = false := fun j => (hbx.frozen (p := ⟨g, j, none⟩) hgr).trans (hfr j)
          go_wp2_with fail
          go_roundw
          case rel =>
            refine ⟨j + 1, i + 1, cur.set i l[j], by omega, by omega, by go_num, by go_num, HN.out, ?_, ?_⟩
            · have hh := FRow.setE (i := i) encInt (HF.out.below hbx) rfl (by rw [HL.out]; omega) l[j]
              rw [Nat.mul_one] at hh; exact hh
            · have hh := sets_chg (bs := [g]) (g := g) (w := w) (w1 := w2) (by simp) (eInt l[j]) w2 (i) (hC.trans (Chg.of_below _ hbx))
              exact hh
          case measure => simp [intOf]; omega
      · obtain rfl : l.length = j := by omega
        have e1 : keep p l l.length = l.filter fun x => !p x := keep_all p l (Nat.le_refl _)
        have ei : i = (l.filter fun x => !p x).length := by rw [← e1]; exact hD.2.1.symm
        have ec : cur.take i = l.filter fun x => !p x := by rw [← e1]; exact hD.2.2.1
        have hic : i < c := by omega
        have hil : i < l.length := hij
        have HF := Lib.hid hF
        have HE := Lib.hid (And.intro ei ec)
        clear hF hD e1 ei ec
        go_wp2_with (refine wpList_clear_row rfl _ rfl encInt Try.underlying24 zero_int rfl (by simp [Value.oneCell', Value.cells]) HF.out (k := i) (by omega) _ ?hm _ _ ?hA rfl ?_)
        case hm => first | omega | simp
        case hA => intro _ g2 hg2; simp at hg2; subst hg2; simp
        intro w2 hr2 hc2
        rw [HE.out.2] at hr2
        have HR2 := Lib.hid hr2
        clear hr2
        go_wp2_with fail
        go_returns
        rw [hrb'.out] at hc2
        have e9 : Ending.returned (Value.slice (some ⟨g, 0, none⟩) i c) = .returned (.slice (some ⟨g, 0, none⟩) (l.filter fun x => !p x).length c) := by rw [← HE.out.1]
        have h9 := HR2.out
        rw [HE.out.1] at h9
        exact ⟨e9, h9, hC.trans hc2⟩
theorem pred_name {P : Program} {kf : Nat} {B : Nat} {w : World} {nm : ByteArray} {q : Addr} {l : List Fld} (hq : q.block < B) (hc : w.cell? q = some (.string nm))
    (h : ∀ w' (x : Fld), w'.cell? q = some (.string nm) → Calls P kf #[.agg #[.string x.name, .int .i64 x.kind], .pointer (some q)] w' fun e w2 => e = .returned (.bool (eqS x.name nm)) ∧ Below w'.heap.size w' w2) :
    Pred P kf #[.pointer (some q)] (fun f : Fld => .agg #[.string f.name, .int .i64 f.kind]) (fun x => eqS x.name nm) l B w :=
  fun w' hb x _ => h w' x ((hb.cell hq).trans hc)
end Go.Proofs.Ytjobgnioehkomaa
