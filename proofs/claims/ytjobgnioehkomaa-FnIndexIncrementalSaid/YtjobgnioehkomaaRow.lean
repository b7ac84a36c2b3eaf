/-
  ROWS OF THE CALL's OWN WITH THEIR CAPACITY: a slice of flat elements that may be appended to, cut, written into ('FRow'); what a walk changes ('Chg').
-/
import Derived.WalkKit
import Derived.WalkSpells
import Derived.WalkLawsBesides
import Derived.Lib.Hide
import Derived.Handy
import Derived.Maps.AppendAt
import Derived.Deep.AppendLies
import Derived.RegionTactic
import Derived.OwnWalk
import Derived.Laws.OwnMore
import Derived.Test.YtjobgnioehkomaaLib
import Derived.Test.YtjobgnioehkomaaOwn
namespace Go.Proofs.Ytjobgnioehkomaa
open Go.RowKit
set_option linter.unusedVariables false

/-! ### What has changed: only the blocks bs, and what is new -/
structure Chg (bs : List Nat) (w w' : World) : Prop where
  os : w'.os = w.os
  tape : w'.tape = w.tape
  output : w'.output = w.output
  size : w.heap.size ≤ w'.heap.size
  block : ∀ b, b < w.heap.size → b ∉ bs → w'.heap[b]? = w.heap[b]?
theorem Chg.refl (bs : List Nat) (w : World) : Chg bs w w := ⟨rfl, rfl, rfl, Nat.le_refl _, fun _ _ _ => rfl⟩
theorem Chg.of_below {w w' : World} (bs : List Nat) (h : Below w.heap.size w w') : Chg bs w w' := ⟨h.os, h.tape, h.output, h.size, fun b hb _ => h.block b hb⟩
theorem Chg.trans {bs : List Nat} {w w1 w2 : World} (h : Chg bs w w1) (k : Chg bs w1 w2) : Chg bs w w2 :=
  ⟨k.os.trans h.os, k.tape.trans h.tape, k.output.trans h.output, Nat.le_trans h.size k.size, fun b hb hn => (k.block b (Nat.lt_of_lt_of_le hb h.size) hn).trans (h.block b hb hn)⟩
theorem Chg.mono {bs bs' : List Nat} {w w' : World} (h : Chg bs w w') (hs : ∀ b ∈ bs, b < w.heap.size → b ∈ bs') : Chg bs' w w' :=
  ⟨h.os, h.tape, h.output, h.size, fun b hb hn => h.block b hb fun hm => hn (hs b hm hb)⟩
theorem Chg.below {bs : List Nat} {w w' : World} {B : Nat} (h : Chg bs w w') (hB : B ≤ w.heap.size) (hs : ∀ b ∈ bs, B ≤ b) : Below B w w' :=
  ⟨h.os, h.tape, h.output, h.size, fun b hb => h.block b (Nat.lt_of_lt_of_le hb hB) fun hm => absurd (hs b hm) (by omega)⟩
theorem Chg.set {bs : List Nat} {w w' : World} (h : Chg bs w w') {a : Addr} (ha : a.block ∈ bs) (u : Value) : Chg bs w (w'.setCell a u) :=
  ⟨h.os, h.tape, h.output, by rw [size_set]; exact h.size, fun b hb hn => (blk_far w' a (fun e => hn (by rw [e]; exact ha)) u).trans (h.block b hb hn)⟩
theorem Chg.alloc {bs : List Nat} {w w' : World} (h : Chg bs w w') (o : Obj) : Chg bs w (w'.alloc o) :=
  h.trans (Chg.of_below bs ((Below.refl _ _).alloc (Nat.le_refl _) _))
theorem Chg.drewN {bs : List Nat} {w w' : World} (h : Chg bs w w') (n : Nat) : Chg bs w (w'.drewN n) := ⟨h.os, h.tape, h.output, h.size, h.block⟩
theorem Chg.new_ {bs : List Nat} {w w' : World} {g : Nat} (h : Chg (g :: bs) w w') (hg : w.heap.size ≤ g) : Chg bs w w' :=
  h.mono fun b hb hlt => by
    rcases List.mem_cons.1 hb with rfl | hb
    · omega
    · exact hb
theorem Chg.step {bs bs' : List Nat} {w w1 w2 : World} (h : Chg bs w w1) (k : Chg bs' w1 w2) (hs : ∀ b ∈ bs', b < w.heap.size → b ∈ bs) : Chg bs w w2 :=
  ⟨k.os.trans h.os, k.tape.trans h.tape, k.output.trans h.output, Nat.le_trans h.size k.size, fun b hb hn =>
    (k.block b (Nat.lt_of_lt_of_le hb h.size) fun hm => hn (hs b hm hb)).trans (h.block b hb hn)⟩
theorem Chg.blow {w w' : World} (h : Chg [] w w') : Below w.heap.size w w' := h.below (Nat.le_refl _) (by simp)
theorem Chg.grown {w w' : World} {row : Option Nat} {bs : List Nat} (h : w.grownBy w' row) (hs : ∀ g, row = some g → g ∈ bs) : Chg bs w w' :=
  ⟨h.os, h.tape, h.output, h.size, fun b hb hn => h.block b hb fun e => hn (hs b e.symm)⟩

/-! ### Flat elements -/
structure Enc {α : Type} (size : Nat) (enc : α → List Value) : Prop where
  pos : 0 < size
  len : ∀ x, (enc x).length = size
  one : ∀ x, ∀ u ∈ enc x, u.oneCell' = true
section
variable {α : Type} {size : Nat} {enc : α → List Value}
theorem flat_len (hE : Enc size enc) : ∀ l : List α, (l.flatMap enc).length = l.length * size
  | [] => by simp
  | x :: l => by rw [List.flatMap_cons, List.length_append, hE.len, flat_len hE l, List.length_cons, Nat.succ_mul]; omega
theorem flat_get (hE : Enc size enc) : ∀ (l : List α) (i : Nat) (h : i < l.length) (j : Nat), j < size → (l.flatMap enc)[i * size + j]? = (enc l[i])[j]?
  | x :: l, 0, _, j, hj => by
    rw [List.flatMap_cons, Nat.zero_mul, Nat.zero_add, List.getElem?_append_left (by rw [hE.len]; exact hj)]; rfl
  | x :: l, i + 1, h, j, hj => by
    rw [List.flatMap_cons, List.getElem?_append_right (by rw [hE.len, Nat.succ_mul]; omega), hE.len, show (i + 1) * size + j - size = i * size + j from by rw [Nat.succ_mul]; omega]
    exact flat_get hE l i (by simpa using h) j hj
theorem flat_one (hE : Enc size enc) (l : List α) : ∀ u ∈ l.flatMap enc, u.oneCell' = true := fun u hu => by
  obtain ⟨x, _, hx⟩ := List.mem_flatMap.1 hu
  exact hE.one x u hx
theorem flat_take (hE : Enc size enc) (l : List α) (k : Nat) : (l.flatMap enc).take (k * size) = (l.take k).flatMap enc := by
  induction l generalizing k with
  | nil => simp
  | cons x l ih =>
    cases k with
    | zero => simp
    | succ k =>
      rw [List.flatMap_cons, List.take_succ_cons, List.flatMap_cons, ← ih, Nat.succ_mul, Nat.add_comm, List.take_append, hE.len, List.take_of_length_le (by rw [hE.len]; omega)]
      congr 2; omega
theorem flat_drop (hE : Enc size enc) (l : List α) (k : Nat) : (l.flatMap enc).drop (k * size) = (l.drop k).flatMap enc := by
  induction l generalizing k with
  | nil => simp
  | cons x l ih =>
    cases k with
    | zero => simp
    | succ k =>
      rw [List.flatMap_cons, List.drop_succ_cons, ← ih, Nat.succ_mul, Nat.add_comm, List.drop_append, hE.len, List.drop_of_length_le (by rw [hE.len]; omega), List.nil_append]
      congr 1; omega
theorem flat_set (hE : Enc size enc) : ∀ (l : List α) (i : Nat) (h : i < l.length) (j : Nat) (u : Value) (x : α), j < size → enc x = (enc l[i]).set j u → (l.flatMap enc).set (i * size + j) u = (l.set i x).flatMap enc
  | y :: l, 0, _, j, u, x, hj, he => by
    simp only [List.getElem_cons_zero] at he
    rw [List.flatMap_cons, List.set_cons_zero, List.flatMap_cons, he, Nat.zero_mul, Nat.zero_add, List.set_append_left _ _ (by rw [hE.len]; exact hj)]
  | y :: l, i + 1, h, j, u, x, hj, he => by
    rw [List.flatMap_cons, List.set_cons_succ, List.flatMap_cons, List.set_append_right _ _ (by rw [hE.len, Nat.succ_mul]; omega), hE.len, show (i + 1) * size + j - size = i * size + j from by rw [Nat.succ_mul]; omega]
    rw [flat_set hE l i (by simpa using h) j u x hj (by simpa using he)]
end

/-- a slice of the call's own (from block B on): elements l, capacity c; at capacity 0 it may point anywhere -/
def FRow {α : Type} (e size : Nat) (enc : α → List Value) (w : World) (B : Nat) (A : Option Addr) (n c : Nat) (l : List α) : Prop :=
  l.length = n ∧ n ≤ c ∧ c ≤ maxLen ∧ (c = 0 ∨ ∃ g cur, A = some ⟨g, 0, none⟩ ∧ B ≤ g ∧ w.heap[g]? = some (.cells cur e (0, 0)) ∧ cur.size = c * size ∧ cur.toList.take (n * size) = l.flatMap enc)
/-- the blocks that it takes up -/
def rowBs (A : Option Addr) (c : Nat) : List Nat := if c = 0 then [] else match A with | some a => [a.block] | none => []

section
variable {α : Type} {e size : Nat} {enc : α → List Value} {w w' : World} {B n c : Nat} {A : Option Addr} {l : List α}
theorem rowBs_zero (A : Option Addr) : rowBs A 0 = [] := rfl
theorem rowBs_pos {g : Nat} (hc : 0 < c) : rowBs (some ⟨g, 0, none⟩) c = [g] := by unfold rowBs; rw [if_neg (by omega)]
theorem FRow.len (h : FRow e size enc w B A n c l) : l.length = n := h.1
theorem FRow.le (h : FRow e size enc w B A n c l) : n ≤ c := h.2.1
theorem FRow.any0 (e size : Nat) (enc : α → List Value) (w : World) (B : Nat) (A : Option Addr) : FRow e size enc w B A 0 0 ([] : List α) := ⟨rfl, Nat.le_refl _, Nat.zero_le _, .inl rfl⟩
theorem FRow.base (h : FRow e size enc w B A n c l) : ∀ b ∈ rowBs A c, B ≤ b ∧ b < w.heap.size := by
  obtain ⟨_, _, _, rfl | ⟨g, cur, rfl, hB, hg, _⟩⟩ := h
  · intro b hb; simp [rowBs] at hb
  · intro b hb
    unfold rowBs at hb
    split at hb
    · simp at hb
    · simp only [List.mem_singleton] at hb; subst hb
      exact ⟨hB, blk_lt hg⟩
theorem FRow.loc (h : FRow e size enc w B A n c l) (hb : ∀ b ∈ rowBs A c, w'.heap[b]? = w.heap[b]?) : FRow e size enc w' B A n c l := by
  obtain ⟨h1, h2, h3, rfl | ⟨g, cur, rfl, hB, hg, hs, ht⟩⟩ := h
  · exact ⟨h1, h2, h3, .inl rfl⟩
  · by_cases hc : c = 0
    · exact ⟨h1, h2, h3, .inl hc⟩
    · exact ⟨h1, h2, h3, .inr ⟨g, cur, rfl, hB, (hb g (by rw [rowBs_pos (by omega)]; simp)).trans hg, hs, ht⟩⟩
theorem FRow.chg {bs : List Nat} (h : FRow e size enc w B A n c l) (hc : Chg bs w w') (hd : ∀ b ∈ rowBs A c, b ∉ bs) : FRow e size enc w' B A n c l :=
  h.loc fun b hb => hc.block b (h.base b hb).2 (hd b hb)
theorem FRow.below (h : FRow e size enc w B A n c l) (hb : Below w.heap.size w w') : FRow e size enc w' B A n c l := h.loc fun b hm => hb.block b (h.base b hm).2
theorem FRow.re {B' : Nat} (h : FRow e size enc w B A n c l) (hB : ∀ b ∈ rowBs A c, B' ≤ b) : FRow e size enc w B' A n c l := by
  obtain ⟨h1, h2, h3, rfl | ⟨g, cur, rfl, _, hg, hs, ht⟩⟩ := h
  · exact ⟨h1, h2, h3, .inl rfl⟩
  · by_cases hc : c = 0
    · exact ⟨h1, h2, h3, .inl hc⟩
    · exact ⟨h1, h2, h3, .inr ⟨g, cur, rfl, hB g (by rw [rowBs_pos (by omega)]; simp), hg, hs, ht⟩⟩
theorem FRow.row (h : FRow e size enc w B A n c l) (hc : 0 < c) : ∃ g, A = some ⟨g, 0, none⟩ ∧ B ≤ g ∧ g < w.heap.size ∧ rowBs A c = [g] ∧ ∃ cur : Array Value, w.heap[g]? = some (.cells cur e (0, 0)) ∧ cur.size = c * size ∧ cur.toList.take (n * size) = l.flatMap enc := by
  obtain ⟨_, _, _, rfl | ⟨g, cur, rfl, hB, hg, h4⟩⟩ := h
  · omega
  · exact ⟨g, rfl, hB, blk_lt hg, rowBs_pos hc, cur, hg, h4⟩
theorem FRow.curget (hE : Enc size enc) (h : FRow e size enc w B A n c l) {cur : Array Value} (ht : cur.toList.take (n * size) = l.flatMap enc) {i j : Nat} (hi : i < l.length) (hj : j < size) : cur[i * size + j]? = (enc l[i])[j]? := by
  rw [← flat_get hE l i hi j hj, ← ht, List.getElem?_take_of_lt, Array.getElem?_toList]
  have : (i + 1) * size ≤ n * size := Nat.mul_le_mul_right _ (by rw [← h.len]; omega)
  rw [Nat.succ_mul] at this
  omega
/-- its cells -/
theorem FRow.cell (hE : Enc size enc) (h : FRow e size enc w B A n c l) (hn : 0 < n) : ∃ g, A = some ⟨g, 0, none⟩ ∧ B ≤ g ∧ g < w.heap.size ∧ rowBs A c = [g] ∧ (∀ j, w.frozen? ⟨g, j, none⟩ = false) ∧
    ∀ i (hi : i < l.length) j u, (enc l[i])[j]? = some u → w.cell? ⟨g, i * size + j, none⟩ = some u := by
  obtain ⟨g, hA, hB, hg, hr, cur, hcur, hs, ht⟩ := h.row (by have := h.le; omega)
  refine ⟨g, hA, hB, hg, hr, blk_free hcur, fun i hi j u hu => ?_⟩
  have hj : j < size := by rw [← hE.len l[i]]; exact (List.getElem?_eq_some_iff.1 hu).1
  rw [blk_cell? hcur, h.curget hE ht hi hj]
  exact hu
theorem FRow.sl {R : World → List Value → α → Prop} (hE : Enc size enc) (hR : ∀ x, R w (enc x) x) (h : FRow e size enc w B A n c l) : Sl size R w A n l := by
  rcases Nat.eq_zero_or_pos n with rfl | hn
  · obtain rfl : l = [] := List.eq_nil_of_length_eq_zero h.len
    exact Sl.nil
  · obtain ⟨g, rfl, _, hg, _, _, hc⟩ := h.cell hE hn
    refine Sl.mk_ h.len hg (fun i => if hi : i < l.length then enc l[i] else []) fun i hi => ?_
    simp only [hi, dif_pos]
    refine ⟨hE.len _, fun j u hj => ?_, hR _⟩
    rw [Nat.zero_add]
    exact hc i hi j u hj
/-- as 'OSl': the elements lead to no block -/
theorem FRow.osl {O : OR α} (hE : Enc size enc) (hO : ∀ x, O w (enc x) x []) (h : FRow e size enc w B A n c l) : OSl e size O w A n l (if n = 0 then [] else rowBs A c) := by
  rcases Nat.eq_zero_or_pos n with rfl | hn
  · rw [if_pos rfl]; exact OSl.zero h.len
  · obtain ⟨g, hA, hB, hg, hr, cur, hcur, hs, ht⟩ := h.row (by have := h.le; omega)
    rw [if_neg (by omega), hr, hA]
    refine ⟨h.len, .inr ⟨g, List.replicate n [], rfl, ⟨cur, hcur, by rw [hs]; exact Nat.mul_le_mul_right _ h.le, by simp, by rw [h.len]; omega, fun i hi hik => ⟨enc l[i], hE.len _, fun j u hj => ?_, ?_⟩⟩, ?_⟩⟩
    · have hj' : j < size := by rw [← hE.len l[i]]; exact (List.getElem?_eq_some_iff.1 hj).1
      rw [h.curget hE ht hi hj']
      exact hj
    · have e : (List.replicate n ([] : List Nat)).getD i [] = [] := by rw [List.getD_eq_getElem?_getD, List.getElem?_replicate]; split <;> rfl
      rw [e]; exact hO _
    · have e : (List.replicate n ([] : List Nat)).flatten = [] := by simp
      rw [e]
/-- one cell is stored -/
theorem FRow.set1 (hE : Enc size enc) (h : FRow e size enc w B A n c l) {g : Nat} (hA : A = some ⟨g, 0, none⟩) {i j : Nat} (hi : i < l.length) (hj : j < size) {u : Value} {x : α} (hx : enc x = (enc l[i]).set j u) :
    FRow e size enc (w.setCell ⟨g, i * size + j, none⟩ u) B A n c (l.set i x) := by
  have hn : 0 < n := by rw [← h.len]; omega
  obtain ⟨g', hA', hB, hg, hr, cur, hcur, hs, ht⟩ := h.row (by have := h.le; omega)
  obtain rfl : g' = g := by rw [hA] at hA'; simpa using hA'.symm
  refine ⟨by rw [List.length_set]; exact h.len, h.le, h.2.2.1, .inr ⟨g', _, hA, hB, blk_set hcur _ _, by simpa using hs, ?_⟩⟩
  rw [← flat_set hE l i hi j u x hj hx, ← ht, Array.toList_setIfInBounds, List.take_set]
theorem FRow.cut (hE : Enc size enc) (h : FRow e size enc w B A n c l) {k : Nat} (hk : k ≤ n) : FRow e size enc w B A k c (l.take k) := by
  refine ⟨by rw [List.length_take, h.len]; omega, by have := h.le; omega, h.2.2.1, ?_⟩
  obtain ⟨_, _, _, rfl | ⟨g, cur, hA, hB, hg, hs, ht⟩⟩ := h
  · exact .inl rfl
  · refine .inr ⟨g, cur, hA, hB, hg, hs, ?_⟩
    rw [← flat_take hE, ← ht, List.take_take, Nat.min_eq_left (Nat.mul_le_mul_right _ hk)]
/-- a made row of zero values -/
theorem FRow.made {z : α} (hE : Enc size enc) (w : World) (n : Nat) (hn : n ≤ maxLen) (hB : B ≤ w.heap.size) {cs : Array Value} (hs : cs.size = n * size) (hz : cs.toList = (List.replicate n z).flatMap enc) :
    FRow e size enc (w.alloc (.cells cs e)) B (some ⟨w.heap.size, 0, none⟩) n n (List.replicate n z) :=
  ⟨by simp, Nat.le_refl _, hn, .inr ⟨_, _, rfl, hB, blk_new w _, hs, by rw [← hz, List.take_of_length_le]; rw [Array.length_toList, hs]; exact Nat.le_refl _⟩⟩
/-- a row written out -/
theorem FRow.lit (hE : Enc size enc) (w : World) (hn : l.length ≤ maxLen) (hB : B ≤ w.heap.size) {cs : Array Value} (hz : cs.toList = l.flatMap enc) :
    FRow e size enc (w.alloc (.cells cs e)) B (some ⟨w.heap.size, 0, none⟩) l.length l.length l :=
  ⟨rfl, Nat.le_refl _, hn, .inr ⟨_, _, rfl, hB, blk_new w _, by rw [← Array.length_toList, hz, flat_len hE], by rw [← hz, List.take_of_length_le]; rw [hz, flat_len hE]; exact Nat.le_refl _⟩⟩
end

/-! ### append -/
section
variable {α : Type} {P : Program} {size bytes : Nat} {enc : α → List Value} {w : World} {B n c m d : Nat} {A A2 : Option Addr} {l l2 : List α} {t ty e : TypeId} {i : TypeInfo} {z : Value}
/-- what is appended: m elements that are read at A2 -/
def Src (size : Nat) (enc : α → List Value) (w : World) (A : Option Addr) (m : Nat) (l : List α) : Prop :=
  l.length = m ∧ (0 < m → ∃ a, A = some a ∧ a.block < w.heap.size ∧ ∀ j u, (l.flatMap enc)[j]? = some u → w.cell? (a.add j) = some u)
theorem Src.none0 (w : World) (A : Option Addr) : Src size enc w A 0 ([] : List α) := ⟨rfl, fun h => absurd h (by omega)⟩
theorem Src.below {w' : World} (h : Src size enc w A m l) (hb : Below w.heap.size w w') : Src size enc w' A m l :=
  ⟨h.1, fun hm => by
    obtain ⟨a, hA, hlt, hc⟩ := h.2 hm
    refine ⟨a, hA, Nat.lt_of_lt_of_le hlt hb.size, fun j u hu => (hb.cell ?_).trans (hc j u hu)⟩
    have : (a.add j).block = a.block := by unfold Addr.add; split <;> rfl
    rw [this]; exact hlt⟩
theorem Src.of_sl {R : World → List Value → α → Prop} (hE : Enc size enc) (hR : ∀ {cs : List Value} {x : α}, R w cs x → cs = enc x) (h : Sl size R w A m l) : Src size enc w A m l := by
  refine ⟨h.len, fun hm => ?_⟩
  obtain ⟨b, off, hA, hlt, hc⟩ := h.at_ hm
  refine ⟨_, hA, hlt, fun j u hu => ?_⟩
  have hjl : j < l.length * size := by rw [← flat_len hE]; exact (List.getElem?_eq_some_iff.1 hu).1
  have hi : j / size < l.length := Nat.div_lt_of_lt_mul (by rw [Nat.mul_comm]; exact hjl)
  have hj : j % size < size := Nat.mod_lt _ hE.pos
  obtain ⟨cs, hl, hcs, hr⟩ := hc (j / size) hi
  rw [hR hr] at hcs
  have ej : j / size * size + j % size = j := by rw [Nat.mul_comm]; exact Nat.div_add_mod j size
  have h1 := flat_get hE l (j / size) hi (j % size) hj
  rw [ej, hu] at h1
  have h2 := hcs (j % size) u h1.symm
  rw [Addr.add_lit, ← ej, ← Nat.add_assoc]
  exact h2
theorem Src.of_row (hE : Enc size enc) (h : FRow e size enc w B A n c l) : Src size enc w A n l :=
  Src.of_sl (R := fun _ cs x => cs = enc x) hE id (h.sl hE fun _ => rfl)
/-- an element that lies at an address -/
theorem Src.of_cells {a : Addr} {x : α} (hlt : a.block < w.heap.size) (hc : ∀ j u, (enc x)[j]? = some u → w.cell? (a.add j) = some u) : Src size enc w (some a) 1 [x] :=
  ⟨rfl, fun _ => ⟨a, rfl, hlt, by simpa using hc⟩⟩

theorem run_append_row (hE : Enc size enc) (ht : P.underlying t = some (.slice e)) (hi : P.info? e = some i) (hz : i.zero = some z) (hsize : i.size = size) (hby : i.bytes = bytes) (hzs : z.cells.size = size)
    (h : FRow e size enc w B A n c l) (hs : Src size enc w A2 m l2) (h63 : n + m ≤ maxLen) (hbytes : (n + m) * bytes ≤ 140737488355328) (hB : B ≤ w.heap.size) :
    ∃ A' c' w', (Builtin.append_ #[t, t] ty #[.slice A n c, .slice A2 m d]).run P w = .ok (.slice A' (n + m) c') w' ∧ FRow e size enc w' B A' (n + m) c' (l ++ l2) ∧ Chg (rowBs A c) w w' ∧ ∀ b ∈ rowBs A' c', b ∈ rowBs A c ∨ w.heap.size ≤ b := by
  have hnl : (l2.flatMap enc).length = m * size := by rw [flat_len hE, hs.1]
  have holdl : (l.flatMap enc).length = n * size := by rw [flat_len hE, h.len]
  rcases Nat.eq_zero_or_pos m with hm | hm
  · subst hm
    obtain rfl : l2 = [] := List.eq_nil_of_length_eq_zero hs.1
    refine ⟨A, c, w, ?_, by simpa using h, Chg.refl _ _, fun b hb => .inl hb⟩
    have hnc := h.le
    cases A2 <;> cases A <;> simp [Builtin.append_, run_underlying ht, sizeOf, typeInfo, hi, Builtin.lenOf, Builtin.firstCells, hnc, storeCells, loadCells, loadCellsFrom]
  · obtain ⟨a2, rfl, hlt, hc2⟩ := hs.2 hm
    subst hsize
    subst hby
    have hfit : ∀ cap, cap < n + m → Builtin.nextslicecap (n + m) cap * i.bytes ≤ 281474976710656 := fun cap hc => growslice_fits (by omega) hbytes
    have hsmall : n + m ≤ 9223372036854775807 := by simp only [maxLen] at h63; omega
    have grown : ∀ (old : Nat), old < n + m →
        FRow e i.size enc (w.drew.alloc (.cells ((l.flatMap enc).toArray ++ (l2.flatMap enc).toArray ++ Builtin.zeroCells z.cells (grownCap w (n + m) old e - (n + m))) e)) B (some ⟨w.heap.size, 0, none⟩) (n + m) (grownCap w (n + m) old e) (l ++ l2) ∧
        Chg (rowBs A c) w (w.drew.alloc (.cells ((l.flatMap enc).toArray ++ (l2.flatMap enc).toArray ++ Builtin.zeroCells z.cells (grownCap w (n + m) old e - (n + m))) e)) := by
      intro old ho
      have hge := grownCap_ge w (n + m) old e
      have hcm : grownCap w (n + m) old e ≤ maxLen := grownCap_le_maxLen w (n + m) old e h63
      refine ⟨⟨by rw [List.length_append, h.len, hs.1], hge, hcm, .inr ⟨_, _, rfl, hB, blk_new w.drew _, ?_, ?_⟩⟩, ⟨rfl, rfl, rfl, by simp, fun k hk _ => Below.heap_alloc w.drew _ k hk⟩⟩
      · simp only [Array.size_append, List.size_toArray, size_zeroCells, hzs, holdl, hnl, ← Nat.add_mul]
        congr 1
        omega
      · simp only [Array.toList_append, List.append_assoc]
        rw [← List.append_assoc, ← List.flatMap_append]
        have e2 : ((l ++ l2).flatMap enc).length = (n + m) * i.size := by rw [flat_len hE, List.length_append, h.len, hs.1]
        rw [← e2]
        exact List.take_left
    have hA' : ∀ cap b, b ∈ rowBs (some ⟨w.heap.size, 0, none⟩) cap → b ∈ rowBs A c ∨ w.heap.size ≤ b := by
      intro cap b hb
      unfold rowBs at hb
      split at hb
      · simp at hb
      · simp only [List.mem_singleton] at hb; exact .inr (by omega)
    obtain ⟨_, hnc, hcm, h0 | ⟨g, cur, hA, hBg, hg, hcs, htake⟩⟩ := h
    · subst h0
      obtain rfl : n = 0 := by omega
      obtain rfl : l = [] := List.eq_nil_of_length_eq_zero ‹_›
      rcases A with _ | a
      · have hr := run_append_nil (P := P) w t ty e i z ht hi hz a2 m d _ hnl hc2 hm (by omega) (by have hb := hbytes; simp only [Nat.zero_add] at hb; omega)
        have hgr := grown 0 (by omega)
        simp only [Nat.zero_add, List.nil_append, Array.empty_append, List.flatMap_nil] at hgr ⊢
        exact ⟨_, _, _, hr, hgr.1, hgr.2, hA' _⟩
      · have hr := run_append_grow (P := P) w t ty e i z ht hi hz a 0 0 [] (by simp) (by simp) a2 m d _ hnl hc2 (by omega) (by omega) (hfit 0 (by omega))
        have hgr := grown 0 (by omega)
        exact ⟨_, _, _, hr, hgr.1, hgr.2, hA' _⟩
    · subst hA
      by_cases hroom : n + m ≤ c
      · have hfit2 : n * i.size + (l2.flatMap enc).length ≤ cur.size := by rw [hnl, hcs, ← Nat.add_mul]; exact Nat.mul_le_mul_right _ hroom
        have hr := run_append_room (P := P) w t ty e i ht hi g n c cur hg a2 m d _ hnl hc2 (flat_one hE _) hroom hfit2
        have hrb : rowBs (some ⟨g, 0, none⟩) c = [g] := rowBs_pos (by omega)
        refine ⟨_, _, _, hr, ⟨by rw [List.length_append, ‹l.length = n›, hs.1], hroom, hcm, .inr ⟨g, _, rfl, hBg, setRow_heap w g cur _ e _ hg, ?_, ?_⟩⟩, ⟨rfl, rfl, rfl, by simp, fun k _ hk => setRow_other w g k _ (fun e => hk (by rw [hrb, e]; simp))⟩, fun b hb => .inl hb⟩
        · simp only [List.size_toArray, List.length_append, List.length_take, List.length_drop, Array.length_toList]
          omega
        · rw [htake, ← List.flatMap_append]
          have e2 : ((l ++ l2).flatMap enc).length = (n + m) * i.size := by rw [flat_len hE, List.length_append, ‹l.length = n›, hs.1]
          rw [← e2]
          exact List.take_left
      · have holds : ∀ j u, (l.flatMap enc)[j]? = some u → w.cell? ((⟨g, 0, none⟩ : Addr).add j) = some u := fun j u hu => by
          have hjl : j < n * i.size := by rw [← holdl]; exact (List.getElem?_eq_some_iff.1 hu).1
          rw [Addr.add_lit, Nat.zero_add, blk_cell? hg, ← Array.getElem?_toList, ← List.getElem?_take_of_lt hjl, htake]
          exact hu
        have hr := run_append_grow (P := P) w t ty e i z ht hi hz ⟨g, 0, none⟩ n c _ holdl holds a2 m d _ hnl hc2 (by omega) (by omega) (hfit c (by omega))
        have hgr := grown c (by omega)
        exact ⟨_, _, _, hr, hgr.1, hgr.2, hA' _⟩

theorem wp_append_row {o : Oper} {a : Act} {K : Act → World → Prop} {Q : Exit → Act → World → Prop} (s x : Operand) (t : TypeId)
    (ho : o.op = .call { callee := .builtin .append, args := #[s, x], argTypes := #[t, t] })
    (hE : Enc size enc) (ht : P.underlying t = some (.slice e)) (hi : P.info? e = some i) (hz : i.zero = some z) (hsize : i.size = size) (hby : i.bytes = bytes) (hzs : z.cells.size = size)
    (hs : a.eval s = .slice A n c) (hx : a.eval x = .slice A2 m d)
    (h : FRow e size enc w B A n c l) (hsrc : Src size enc w A2 m l2) (h63 : n + m ≤ maxLen) (hbytes : (n + m) * bytes ≤ 140737488355328) (hB : B ≤ w.heap.size)
    (hK : ∀ A' c' w', FRow e size enc w' B A' (n + m) c' (l ++ l2) → Chg (rowBs A c) w w' → (∀ b ∈ rowBs A' c', b ∈ rowBs A c ∨ w.heap.size ≤ b) → K (a.put o.dst (.slice A' (n + m) c')) w') : o.wp P a w K Q := by
  obtain ⟨A', c', w', hrun, h2, h3, h4⟩ := run_append_row (P := P) (ty := o.type) (d := d) hE ht hi hz hsize hby hzs h hsrc h63 hbytes hB
  unfold Oper.wp execOp
  simp only [ho, resolve, invoke, builtin, Sem.run_bind, Sem.run_pure, Result.andThen_ok, List.map_toArray, List.map_cons, List.map_nil, hs, hx, hrun]
  exact hK A' c' w' h2 h3 h4
theorem wpList_append_row {ops : Array Oper} {rest : List Oper} {o : Oper} {a : Act} {Q : Exit → Act → World → Prop} (hgd : o.guard = none) (s x : Operand) (t : TypeId)
    (ho : o.op = .call { callee := .builtin .append, args := #[s, x], argTypes := #[t, t] })
    (hE : Enc size enc) (ht : P.underlying t = some (.slice e)) (hi : P.info? e = some i) (hz : i.zero = some z) (hsize : i.size = size) (hby : i.bytes = bytes) (hzs : z.cells.size = size)
    (hs : a.eval s = .slice A n c) (hx : a.eval x = .slice A2 m d)
    (h : FRow e size enc w B A n c l) (hsrc : Src size enc w A2 m l2) (h63 : n + m ≤ maxLen) (hbytes : (n + m) * bytes ≤ 140737488355328) (hB : B ≤ w.heap.size)
    (hK : ∀ A' c' w', FRow e size enc w' B A' (n + m) c' (l ++ l2) → Chg (rowBs A c) w w' → (∀ b ∈ rowBs A' c', b ∈ rowBs A c ∨ w.heap.size ≤ b) → wpList P ops Q rest (a.put o.dst (.slice A' (n + m) c')) w') : wpList P ops Q (o :: rest) a w :=
  wpList_plain hgd fun _ hK' => wp_append_row s x t ho hE ht hi hz hsize hby hzs hs hx h hsrc h63 hbytes hB fun A' c' w' h2 h3 h4 => hK' _ _ (hK A' c' w' h2 h3 h4)
theorem step_append_row {ops : Array Oper} {o : Oper} {a : Act} {K : Act → World → Prop} {Q : Exit → Act → World → Prop} {E : Prop} (hgd : o.guard = none) (s x : Operand) (t : TypeId)
    (ho : o.op = .call { callee := .builtin .append, args := #[s, x], argTypes := #[t, t] })
    (hE : Enc size enc) (ht : P.underlying t = some (.slice e)) (hi : P.info? e = some i) (hz : i.zero = some z) (hsize : i.size = size) (hby : i.bytes = bytes) (hzs : z.cells.size = size)
    (hs : a.eval s = .slice A n c) (hx : a.eval x = .slice A2 m d)
    (h : FRow e size enc w B A n c l) (hsrc : Src size enc w A2 m l2) (h63 : n + m ≤ maxLen) (hbytes : (n + m) * bytes ≤ 140737488355328) (hB : B ≤ w.heap.size)
    (hK : ∀ A' c' w', FRow e size enc w' B A' (n + m) c' (l ++ l2) → Chg (rowBs A c) w w' → (∀ b ∈ rowBs A' c', b ∈ rowBs A c ∨ w.heap.size ≤ b) → K (a.put o.dst (.slice A' (n + m) c')) w') :
    if Region.wanted o (yielded ops a.tmps) = true then Oper.wp P o a w K Q else E := by
  have hw : Region.wanted o (yielded ops a.tmps) = true := by simp [Region.wanted, hgd]
  rw [if_pos hw]
  exact wp_append_row s x t ho hE ht hi hz hsize hby hzs hs hx h hsrc h63 hbytes hB hK
end

/-! ### This program's flat elements -/
def eInt (x : Int) : List Value := [.int .i64 x]
def eStr (s : ByteArray) : List Value := [.string s]
def eFld (f : Fld) : List Value := [.string f.name, .int .i64 f.kind]
def eAtr (a : Atr) : List Value := [.string a.name, .int .i64 a.val.kind, .int .i64 a.val.int, .string a.val.str]
theorem encInt : Enc 1 eInt := ⟨by omega, fun _ => rfl, fun x u hu => by simp [eInt] at hu; subst hu; rfl⟩
theorem encStr : Enc 1 eStr := ⟨by omega, fun _ => rfl, fun x u hu => by simp [eStr] at hu; subst hu; rfl⟩
theorem encFld : Enc 2 eFld := ⟨by omega, fun _ => rfl, fun x u hu => by simp [eFld] at hu; rcases hu with rfl | rfl <;> rfl⟩
theorem encAtr : Enc 4 eAtr := ⟨by omega, fun _ => rfl, fun x u hu => by simp [eAtr] at hu; rcases hu with rfl | rfl | rfl | rfl <;> rfl⟩

/-! ### What a call hands back: a slice in new memory, with its capacity -/
def NewRow {α : Type} (f : Value → Value) (e size : Nat) (enc : α → List Value) (w : World) (l : List α) (en : Ending) (w' : World) : Prop :=
  ∃ A c, en = .returned (f (.slice A l.length c)) ∧ FRow e size enc w' w.heap.size A l.length c l ∧ Below w.heap.size w w'
def NewV {α : Type} (f : Value → Value) (e size : Nat) (O : OR α) (w : World) (l : List α) (en : Ending) (w' : World) : Prop :=
  ∃ A c bs, en = .returned (f (.slice A l.length c)) ∧ OSl e size O w' A l.length l bs ∧ Fresh w bs ∧ Below w.heap.size w w'
def ReadV {α : Type} (f : Value → Value) (size : Nat) (R : World → List Value → α → Prop) (w : World) (l : List α) (en : Ending) (w' : World) : Prop :=
  ∃ A c, en = .returned (f (.slice A l.length c)) ∧ Sl size R w' A l.length l ∧ Below w.heap.size w w'
theorem NewRow.v {α : Type} {f : Value → Value} {e size : Nat} {enc : α → List Value} {O : OR α} {w w' : World} {l : List α} {en : Ending} (hE : Enc size enc) (hO : ∀ x, O w' (enc x) x []) (h : NewRow f e size enc w l en w') : NewV f e size O w l en w' := by
  obtain ⟨A, c, h1, h2, h3⟩ := h
  refine ⟨A, c, _, h1, h2.osl hE hO, ?_, h3⟩
  split
  · exact Fresh.nil _
  · refine ⟨?_, fun b hb => (h2.base b hb).1⟩
    unfold rowBs; split
    · simp
    · split <;> simp
theorem NewRow.r {α : Type} {f : Value → Value} {e size : Nat} {enc : α → List Value} {R : World → List Value → α → Prop} {w w' : World} {l : List α} {en : Ending} (hE : Enc size enc) (hR : ∀ x, R w' (enc x) x) (h : NewRow f e size enc w l en w') : ReadV f size R w l en w' := by
  obtain ⟨A, c, h1, h2, h3⟩ := h
  exact ⟨A, c, h1, h2.sl hE hR, h3⟩
theorem ReadV.out {α : Type} {f : Value → Value} {size : Nat} {R : World → List Value → α → Prop} {w w' : World} {l : List α} {en : Ending} (h : ReadV f size R w l en w') :
    ∃ A c, en = .returned (f (.slice A l.length c)) ∧ Sl size R w' A l.length l ∧ Below w.heap.size w w' := h
theorem Below.mark {B : Nat} {w w1 w2 : World} {bs : List Nat} (h : Below B w w1) (hc : Chg bs w1 w2) (hB : B ≤ w1.heap.size) (hs : ∀ b ∈ bs, B ≤ b) : Below B w w2 := h.trans (hc.below hB hs)
theorem Chg.cell {bs : List Nat} {w w' : World} (h : Chg bs w w') {a : Addr} {v : Value} (hc : w.cell? a = some v) (hn : a.block ∉ bs) : w'.cell? a = some v := by
  rw [World.cell?_of_block (h.block _ (World.block_lt_of_cell? w a hc) hn)]; exact hc
end Go.Proofs.Ytjobgnioehkomaa
