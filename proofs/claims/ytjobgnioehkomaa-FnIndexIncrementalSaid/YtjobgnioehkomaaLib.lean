/-
  THE LIBRARY OF THIS PLACE'S PROOFS: plain data (a value, a field, a file ..), how a slice of such data is read off the cells of a world, how a law's statement follows from what its walk shows.
  No program is named here.
-/
import Derived.WalkKit
import Derived.WalkSpells
import Derived.WalkLawsBesides
import Derived.Lib.Hide
import Derived.Deep.Slices
import Derived.ProofKit
import Derived.OpenShut
import Derived.ChangeSame
namespace Go.Proofs.Ytjobgnioehkomaa
open Go.RowKit Go.ChangeShapes Go.WideShapes Go.ChangeAt Go.Deep

theorem bcell {W w1 : World} (hb : Below W.heap.size W w1) : (∀ b o, b < W.heap.size → w1.cell? ⟨b, o, none⟩ = W.cell? ⟨b, o, none⟩) ∧ (∀ b o, b < W.heap.size → w1.frozen? ⟨b, o, none⟩ = W.frozen? ⟨b, o, none⟩) :=
  ⟨fun b o h => hb.cell (p := ⟨b, o, none⟩) h, fun b o h => hb.frozen (p := ⟨b, o, none⟩) h⟩

theorem keep_cell {w w' : World} (hb : Below w.heap.size w w') {a : Addr} {v : Value} (h : w.cell? a = some v) : w'.cell? a = some v :=
  (hb.cell (World.block_lt_of_cell? w a h)).trans h
theorem keep_lt {w w' : World} {n : Nat} (hb : Below w.heap.size w w') (h : n < w.heap.size) : n < w'.heap.size := Nat.lt_of_lt_of_le h hb.size
theorem ex_trans {w w1 w2 : World} (h : Below w.heap.size w w1) (k : Below w1.heap.size w1 w2) : Below w.heap.size w w2 := h.trans (k.mono h.size)
theorem ex_alloc {w w1 : World} (h : Below w.heap.size w w1) (o : Obj) : Below w.heap.size w (w1.alloc o) := h.alloc h.size o
theorem ex_drewN {w w1 : World} (h : Below w.heap.size w w1) (n : Nat) : Below w.heap.size w (w1.drewN n) := ⟨h.os, h.tape, h.output, h.size, h.block⟩

theorem ret_int {k : IntKind} {a b : Int} (h : a = b) : Ending.returned (.int k a) = .returned (.int k b) := by rw [h]
theorem ret_bool {a b : Bool} (h : a = b) : Ending.returned (.bool a) = .returned (.bool b) := by rw [h]

/-! ### Plain data -/
structure Vl where
  kind : Int
  int : Int
  str : ByteArray
structure Fld where
  name : ByteArray
  kind : Int
structure Atr where
  name : ByteArray
  val : Vl
structure Fil where
  id : Int
  owner : Int
  shared : Bool
  link : Int
  attrs : List Atr
structure Sto where
  schema : List Fld
  files : List Fil
  next : Int
structure Pst where
  name : ByteArray
  val : Vl
  ids : List Int
structure Nod where
  op : Int
  left : Int
  right : Int
  name : ByteArray
  val : Vl

/-! ### Strings: Go's '==' asks the lists of bytes -/
theorem toList_inj {s t : ByteArray} (h : s.toList = t.toList) : s = t := by
  have e : s.data.toList = t.data.toList := by simpa [ByteArray.toList_eq] using h
  cases s; cases t; simp at e; simp [e]
def eqS (s t : ByteArray) : Bool := s.toList == t.toList
theorem eqS_iff {s t : ByteArray} : eqS s t = true ↔ s = t := by
  unfold eqS; rw [beq_iff_eq]; exact ⟨toList_inj, fun h => by rw [h]⟩
theorem eqS_self (s : ByteArray) : eqS s s = true := eqS_iff.2 rfl
theorem beqS_self (s : ByteArray) : (s.toList == s.toList) = true := by simp

/-! ### A slice as it is read: n elements of 'size' cells each -/
def Rd (w : World) (size : Nat) (A : Option Addr) (n : Nat) (xs : List Value) : Prop :=
  xs.length = n * size ∧ (0 < n → ∃ b off, A = some ⟨b, off, none⟩ ∧ b < w.heap.size ∧ ∀ j u, xs[j]? = some u → w.cell? ⟨b, off + j, none⟩ = some u)

theorem Rd.mono {w w' : World} {size n : Nat} {A : Option Addr} {xs : List Value} (h : Rd w size A n xs) (hb : Below w.heap.size w w') : Rd w' size A n xs :=
  ⟨h.1, fun hn => by
    obtain ⟨b, off, hA, hlt, hc⟩ := h.2 hn
    exact ⟨b, off, hA, Nat.lt_of_lt_of_le hlt hb.size, fun j u hj => (hb.cell (p := ⟨b, off + j, none⟩) hlt).trans (hc j u hj)⟩⟩

/-- what a reader of cells says of an element must stand when the world grows -/
structure RMono {α : Type} (R : World → List Value → α → Prop) : Prop where
  out : ∀ {w w' : World} {cs : List Value} {x : α}, Below w.heap.size w w' → R w cs x → R w' cs x

def Dec {α : Type} (size : Nat) (R : World → List Value → α → Prop) (w : World) (xs : List Value) (l : List α) : Prop :=
  xs.length = l.length * size ∧ ∀ i (h : i < l.length), R w ((xs.drop (i * size)).take size) l[i]

def Sl {α : Type} (size : Nat) (R : World → List Value → α → Prop) (w : World) (A : Option Addr) (n : Nat) (l : List α) : Prop :=
  l.length = n ∧ ∃ xs, Rd w size A n xs ∧ Dec size R w xs l

section
variable {α : Type} {size : Nat} {R : World → List Value → α → Prop} {w w' : World} {A : Option Addr} {n : Nat} {l : List α} {xs : List Value}

theorem Dec.mono (hR : RMono R) (h : Dec size R w xs l) (hb : Below w.heap.size w w') : Dec size R w' xs l := ⟨h.1, fun i hi => hR.out hb (h.2 i hi)⟩
theorem Sl.mono (hR : RMono R) (h : Sl size R w A n l) (hb : Below w.heap.size w w') : Sl size R w' A n l := by
  obtain ⟨h1, xs, h2, h3⟩ := h
  exact ⟨h1, xs, h2.mono hb, h3.mono hR hb⟩
theorem Sl.len (h : Sl size R w A n l) : l.length = n := h.1
theorem Sl.nil : Sl size R w A 0 ([] : List α) := ⟨rfl, [], ⟨by simp, fun h => absurd h (by omega)⟩, by simp, fun i hi => absurd hi (by simp)⟩
theorem Sl.at_ (h : Sl size R w A n l) (hn : 0 < n) : ∃ b off, A = some ⟨b, off, none⟩ ∧ b < w.heap.size ∧
    ∀ i (hi : i < l.length), ∃ cs : List Value, cs.length = size ∧ (∀ j u, cs[j]? = some u → w.cell? ⟨b, off + i * size + j, none⟩ = some u) ∧ R w cs l[i] := by
  obtain ⟨hl, xs, ⟨hx, hr⟩, hd, hR⟩ := h
  obtain ⟨b, off, hA, hb, hc⟩ := hr hn
  refine ⟨b, off, hA, hb, fun i hi => ⟨(xs.drop (i * size)).take size, ?_, fun j u hj => ?_, hR i hi⟩⟩
  · have : (i + 1) * size ≤ l.length * size := Nat.mul_le_mul_right _ (by omega)
    rw [Nat.succ_mul] at this
    rw [List.length_take, List.length_drop, hd]
    omega
  · have hj' : xs[i * size + j]? = some u := by
      have hlt : j < size := by
        have := (List.getElem?_eq_some_iff.1 hj).1
        rw [List.length_take] at this
        omega
      rw [List.getElem?_take_of_lt hlt, List.getElem?_drop] at hj
      exact hj
    have := hc _ _ hj'
    rw [← Nat.add_assoc] at this
    exact this
theorem Sl.mk_ (hl : l.length = n) {b off : Nat} (hb : b < w.heap.size) (css : Nat → List Value) (h : ∀ i (hi : i < l.length), (css i).length = size ∧ (∀ j u, (css i)[j]? = some u → w.cell? ⟨b, off + i * size + j, none⟩ = some u) ∧ R w (css i) l[i]) :
    Sl size R w (some ⟨b, off, none⟩) n l := by
  subst hl
  have key : ∀ k, k ≤ l.length → ∃ xs : List Value, xs.length = k * size ∧ (∀ j u, xs[j]? = some u → w.cell? ⟨b, off + j, none⟩ = some u) ∧ ∀ i (hi : i < l.length), i < k → R w ((xs.drop (i * size)).take size) l[i] := by
    intro k
    induction k with
    | zero => exact fun _ => ⟨[], by simp, by simp, fun i _ h => absurd h (by omega)⟩
    | succ k ih =>
      intro hk
      obtain ⟨xs, h1, h2, h3⟩ := ih (by omega)
      obtain ⟨g1, g2, g3⟩ := h k (by omega)
      refine ⟨xs ++ css k, by rw [List.length_append, h1, g1, Nat.succ_mul], fun j u hj => ?_, fun i hi hik => ?_⟩
      · by_cases hjl : j < xs.length
        · rw [List.getElem?_append_left hjl] at hj; exact h2 j u hj
        · rw [List.getElem?_append_right (by omega)] at hj
          have := g2 _ _ hj
          rw [show off + k * size + (j - xs.length) = off + j from by rw [h1] at hjl ⊢; omega] at this
          exact this
      · by_cases hik' : i < k
        · have h4 := h3 i hi hik'
          have hle : (i + 1) * size ≤ k * size := Nat.mul_le_mul_right _ (by omega)
          rw [Nat.succ_mul] at hle
          have e : ((xs ++ css k).drop (i * size)).take size = (xs.drop (i * size)).take size := by
            rw [List.drop_append_of_le_length (by omega), List.take_append_of_le_length (by rw [List.length_drop]; omega)]
          rw [e]; exact h4
        · obtain rfl : i = k := by omega
          have e : ((xs ++ css i).drop (i * size)).take size = css i := by
            rw [List.drop_append, h1, Nat.sub_self, List.drop_zero, List.drop_of_length_le (by omega), List.nil_append]
            exact List.take_of_length_le (by omega)
          rw [e]; exact g3
  obtain ⟨xs, h1, h2, h3⟩ := key l.length (Nat.le_refl _)
  exact ⟨rfl, xs, ⟨h1, fun _ => ⟨b, off, rfl, hb, h2⟩⟩, h1, fun i hi => h3 i hi hi⟩
end

/-! ### The readers of this program's types -/
def RInt (_ : World) (cs : List Value) (x : Int) : Prop := cs = [.int .i64 x]
def RStr (_ : World) (cs : List Value) (s : ByteArray) : Prop := cs = [.string s]
def RByt (_ : World) (cs : List Value) (x : Int) : Prop := cs = [.int .u8 x]
def RFld (_ : World) (cs : List Value) (f : Fld) : Prop := cs = [.string f.name, .int .i64 f.kind]
def RAtr (_ : World) (cs : List Value) (a : Atr) : Prop := cs = [.string a.name, .int .i64 a.val.kind, .int .i64 a.val.int, .string a.val.str]
def RNod (_ : World) (cs : List Value) (x : Nod) : Prop := cs = [.int .i64 x.op, .int .i64 x.left, .int .i64 x.right, .string x.name, .int .i64 x.val.kind, .int .i64 x.val.int, .string x.val.str]
def RFil (w : World) (cs : List Value) (f : Fil) : Prop :=
  ∃ A n c, cs = [.int .i64 f.id, .int .i64 f.owner, .bool f.shared, .int .i64 f.link, .slice A n c] ∧ Sl 4 RAtr w A n f.attrs
def RPst (w : World) (cs : List Value) (p : Pst) : Prop :=
  ∃ A n c, cs = [.string p.name, .int .i64 p.val.kind, .int .i64 p.val.int, .string p.val.str, .slice A n c] ∧ Sl 1 RInt w A n p.ids

theorem mInt : RMono RInt := ⟨fun _ h => h⟩
theorem mStr : RMono RStr := ⟨fun _ h => h⟩
theorem mByt : RMono RByt := ⟨fun _ h => h⟩
theorem mFld : RMono RFld := ⟨fun _ h => h⟩
theorem mAtr : RMono RAtr := ⟨fun _ h => h⟩
theorem mNod : RMono RNod := ⟨fun _ h => h⟩
theorem mFil : RMono RFil := ⟨fun hb ⟨A, n, c, e, h⟩ => ⟨A, n, c, e, h.mono mAtr hb⟩⟩
theorem mPst : RMono RPst := ⟨fun hb ⟨A, n, c, e, h⟩ => ⟨A, n, c, e, h.mono mInt hb⟩⟩

section
variable {w : World} {A : Option Addr} {n : Nat}
theorem Sl.int {l : List Int} (h : Sl 1 RInt w A n l) (hn : 0 < n) : ∃ b off, A = some ⟨b, off, none⟩ ∧ b < w.heap.size ∧ ∀ i (_ : i < l.length), w.cell? ⟨b, off + i, none⟩ = some (.int .i64 l[i]) := by
  obtain ⟨b, off, hA, hb, hc⟩ := h.at_ hn
  refine ⟨b, off, hA, hb, fun i hi => ?_⟩
  obtain ⟨cs, _, hcs, rfl⟩ := hc i hi
  simpa using hcs 0 _ rfl
theorem Sl.byt {l : List Int} (h : Sl 1 RByt w A n l) (hn : 0 < n) : ∃ b off, A = some ⟨b, off, none⟩ ∧ b < w.heap.size ∧ ∀ i (_ : i < l.length), w.cell? ⟨b, off + i, none⟩ = some (.int .u8 l[i]) := by
  obtain ⟨b, off, hA, hb, hc⟩ := h.at_ hn
  refine ⟨b, off, hA, hb, fun i hi => ?_⟩
  obtain ⟨cs, _, hcs, rfl⟩ := hc i hi
  simpa using hcs 0 _ rfl
theorem Sl.str {l : List ByteArray} (h : Sl 1 RStr w A n l) (hn : 0 < n) : ∃ b off, A = some ⟨b, off, none⟩ ∧ b < w.heap.size ∧ ∀ i (_ : i < l.length), w.cell? ⟨b, off + i, none⟩ = some (.string l[i]) := by
  obtain ⟨b, off, hA, hb, hc⟩ := h.at_ hn
  refine ⟨b, off, hA, hb, fun i hi => ?_⟩
  obtain ⟨cs, _, hcs, rfl⟩ := hc i hi
  simpa using hcs 0 _ rfl
theorem Sl.fld {l : List Fld} (h : Sl 2 RFld w A n l) (hn : 0 < n) : ∃ b off, A = some ⟨b, off, none⟩ ∧ b < w.heap.size ∧
    ∀ i (_ : i < l.length), w.cell? ⟨b, off + i * 2, none⟩ = some (.string l[i].name) ∧ w.cell? ⟨b, off + i * 2 + 1, none⟩ = some (.int .i64 l[i].kind) := by
  obtain ⟨b, off, hA, hb, hc⟩ := h.at_ hn
  refine ⟨b, off, hA, hb, fun i hi => ?_⟩
  obtain ⟨cs, _, hcs, rfl⟩ := hc i hi
  exact ⟨hcs 0 _ rfl, hcs 1 _ rfl⟩
theorem Sl.atr {l : List Atr} (h : Sl 4 RAtr w A n l) (hn : 0 < n) : ∃ b off, A = some ⟨b, off, none⟩ ∧ b < w.heap.size ∧
    ∀ i (_ : i < l.length), w.cell? ⟨b, off + i * 4, none⟩ = some (.string l[i].name) ∧ w.cell? ⟨b, off + i * 4 + 1, none⟩ = some (.int .i64 l[i].val.kind) ∧
      w.cell? ⟨b, off + i * 4 + 2, none⟩ = some (.int .i64 l[i].val.int) ∧ w.cell? ⟨b, off + i * 4 + 3, none⟩ = some (.string l[i].val.str) := by
  obtain ⟨b, off, hA, hb, hc⟩ := h.at_ hn
  refine ⟨b, off, hA, hb, fun i hi => ?_⟩
  obtain ⟨cs, _, hcs, rfl⟩ := hc i hi
  exact ⟨hcs 0 _ rfl, hcs 1 _ rfl, hcs 2 _ rfl, hcs 3 _ rfl⟩
theorem Sl.nod {l : List Nod} (h : Sl 7 RNod w A n l) (hn : 0 < n) : ∃ b off, A = some ⟨b, off, none⟩ ∧ b < w.heap.size ∧
    ∀ i (_ : i < l.length), w.cell? ⟨b, off + i * 7, none⟩ = some (.int .i64 l[i].op) ∧ w.cell? ⟨b, off + i * 7 + 1, none⟩ = some (.int .i64 l[i].left) ∧ w.cell? ⟨b, off + i * 7 + 2, none⟩ = some (.int .i64 l[i].right) ∧
      w.cell? ⟨b, off + i * 7 + 3, none⟩ = some (.string l[i].name) ∧ w.cell? ⟨b, off + i * 7 + 4, none⟩ = some (.int .i64 l[i].val.kind) ∧
      w.cell? ⟨b, off + i * 7 + 5, none⟩ = some (.int .i64 l[i].val.int) ∧ w.cell? ⟨b, off + i * 7 + 6, none⟩ = some (.string l[i].val.str) := by
  obtain ⟨b, off, hA, hb, hc⟩ := h.at_ hn
  refine ⟨b, off, hA, hb, fun i hi => ?_⟩
  obtain ⟨cs, _, hcs, rfl⟩ := hc i hi
  exact ⟨hcs 0 _ rfl, hcs 1 _ rfl, hcs 2 _ rfl, hcs 3 _ rfl, hcs 4 _ rfl, hcs 5 _ rfl, hcs 6 _ rfl⟩
theorem Sl.fil {l : List Fil} (h : Sl 5 RFil w A n l) (hn : 0 < n) : ∃ b off, A = some ⟨b, off, none⟩ ∧ b < w.heap.size ∧
    ∀ i (_ : i < l.length), ∃ A' n' c', w.cell? ⟨b, off + i * 5, none⟩ = some (.int .i64 l[i].id) ∧ w.cell? ⟨b, off + i * 5 + 1, none⟩ = some (.int .i64 l[i].owner) ∧
      w.cell? ⟨b, off + i * 5 + 2, none⟩ = some (.bool l[i].shared) ∧ w.cell? ⟨b, off + i * 5 + 3, none⟩ = some (.int .i64 l[i].link) ∧ w.cell? ⟨b, off + i * 5 + 4, none⟩ = some (.slice A' n' c') ∧ Sl 4 RAtr w A' n' l[i].attrs := by
  obtain ⟨b, off, hA, hb, hc⟩ := h.at_ hn
  refine ⟨b, off, hA, hb, fun i hi => ?_⟩
  obtain ⟨cs, _, hcs, A', n', c', rfl, ha⟩ := hc i hi
  exact ⟨A', n', c', hcs 0 _ rfl, hcs 1 _ rfl, hcs 2 _ rfl, hcs 3 _ rfl, hcs 4 _ rfl, ha⟩
theorem Sl.pst {l : List Pst} (h : Sl 5 RPst w A n l) (hn : 0 < n) : ∃ b off, A = some ⟨b, off, none⟩ ∧ b < w.heap.size ∧
    ∀ i (_ : i < l.length), ∃ A' n' c', w.cell? ⟨b, off + i * 5, none⟩ = some (.string l[i].name) ∧ w.cell? ⟨b, off + i * 5 + 1, none⟩ = some (.int .i64 l[i].val.kind) ∧
      w.cell? ⟨b, off + i * 5 + 2, none⟩ = some (.int .i64 l[i].val.int) ∧ w.cell? ⟨b, off + i * 5 + 3, none⟩ = some (.string l[i].val.str) ∧ w.cell? ⟨b, off + i * 5 + 4, none⟩ = some (.slice A' n' c') ∧ Sl 1 RInt w A' n' l[i].ids := by
  obtain ⟨b, off, hA, hb, hc⟩ := h.at_ hn
  refine ⟨b, off, hA, hb, fun i hi => ?_⟩
  obtain ⟨cs, _, hcs, A', n', c', rfl, ha⟩ := hc i hi
  exact ⟨A', n', c', hcs 0 _ rfl, hcs 1 _ rfl, hcs 2 _ rfl, hcs 3 _ rfl, hcs 4 _ rfl, ha⟩
end

/-! ### From the form's own reading of an argument to these readers -/
section
variable {H : Type} {enc : TypeId × Value → H} {P : Program} {w : World} {base : Nat} {spare : Nat → Bool} {held : Bool}

theorem spot_none {a : Addr} {u : Value} (h : w.cell? a = some u) : a.spot = none := by
  unfold World.cell? at h
  split at h
  · split at h
    · cases h
    · rename_i hs; simpa using hs
  · cases h

/-- what the form's reader says of an element's cells -/
def Opens {α : Type} (enc : TypeId × Value → H) (P : Program) (w : World) (base : Nat) (spare : Nat → Bool) (held : Bool) (t size : Nat) (R : World → List Value → α → Prop) (ok : α → Prop) : Prop :=
  P.cellsOf t = size ∧ ∀ fuel cs x, DataW.trod enc P w base spare held fuel t cs = some x → ∃ y : α, R w cs y ∧ ok y

theorem opens_slice {α : Type} {t e size : Nat} {R : World → List Value → α → Prop} {ok : α → Prop} (ht : P.underlying t = some (.slice e)) (hsz : 0 < size) (he : Opens enc P w base spare held e size R ok) {fuel : Nat} {cs : List Value} {x : DataW H × List MemPlace}
    (h : DataW.trod enc P w base spare held fuel t cs = some x) : ∃ A n c l, cs = [.slice A n c] ∧ n ≤ maxLen ∧ n ≤ c ∧ Sl size R w A n l ∧ ∀ y ∈ l, ok y := by
  obtain ⟨hC, he⟩ := he
  rcases open_slice ht h with ⟨rfl, _⟩ | ⟨a, len, cap, m, nn, D, Pl, rfl, hb, hl, hm, hmm, _, hi⟩
  · exact ⟨none, 0, 0, [], rfl, Nat.zero_le _, Nat.le_refl _, Sl.nil, fun y hy => absurd hy (by simp)⟩
  have hlm : len ≤ m := by rw [hmm]; split <;> omega
  rcases Nat.eq_zero_or_pos len with h0 | h0
  · subst h0
    exact ⟨some a, 0, cap, [], rfl, Nat.zero_le _, hl, Sl.nil, fun y hy => absurd hy (by simp)⟩
  rw [hC] at hi
  have hel : ∀ i, i < len → ∃ (cs : List Value) (y : α), cs.length = size ∧ (∀ j u, cs[j]? = some u → w.cell? (a.add (i * size + j)) = some u) ∧ R w cs y ∧ ok y := by
    intro i hil
    obtain ⟨cs', hc, htr⟩ := hi i (by omega)
    obtain ⟨_, hcl, hat⟩ := World.cells?_some hc
    obtain ⟨y, hy, hok⟩ := he _ _ _ htr
    refine ⟨cs', y, hcl, fun j u hj => ?_, hy, hok⟩
    have hjl : j < size := by rw [← hcl]; exact (List.getElem?_eq_some_iff.1 hj).1
    rw [← Go.Deep.add_add, hat j hjl]
    exact hj
  have hspot : a.spot = none := by
    obtain ⟨cs0, y0, hl0, hc0, _⟩ := hel 0 h0
    have h1 := hc0 0 (cs0[0]'(by omega)) (List.getElem?_eq_getElem (by omega))
    have : a.add (0 * size + 0) = a := by simp [Addr.add]
    rw [this] at h1
    exact spot_none h1
  obtain ⟨ab, ao, asp⟩ := a
  simp only at hspot
  subst hspot
  have hadd : ∀ k, (⟨ab, ao, none⟩ : Addr).add k = ⟨ab, ao + k, none⟩ := by
    intro k
    unfold Addr.add
    split
    · rename_i hk; subst hk; rfl
    · rfl
  have hex : ∀ k, k ≤ len → ∃ (css : Nat → List Value) (l : List α), l.length = k ∧ (∀ y ∈ l, ok y) ∧ ∀ i (hi : i < l.length), (css i).length = size ∧ (∀ j u, (css i)[j]? = some u → w.cell? ⟨ab, ao + i * size + j, none⟩ = some u) ∧ R w (css i) l[i] := by
    intro k
    induction k with
    | zero => exact fun _ => ⟨fun _ => [], [], rfl, fun y hy => absurd hy (by simp), fun i hi => absurd hi (by simp)⟩
    | succ k ih =>
      intro hk
      obtain ⟨css, l, hll, hokl, hcss⟩ := ih (by omega)
      obtain ⟨cs, y, g1, g2, g3, g4⟩ := hel k (by omega)
      refine ⟨fun i => if i = k then cs else css i, l ++ [y], by simp [hll], fun z hz => ?_, fun i hi' => ?_⟩
      · rcases List.mem_append.1 hz with hz | hz
        · exact hokl z hz
        · obtain rfl : z = y := by simpa using hz
          exact g4
      · by_cases hik : i = k
        · subst hik
          simp only [if_true]
          refine ⟨g1, fun j u hj => ?_, ?_⟩
          · have := g2 j u hj
            rw [hadd] at this
            rw [Nat.add_assoc]
            exact this
          · rw [List.getElem_append_right (by omega)]
            simpa [hll] using g3
        · have hil : i < l.length := by simp [hll] at hi'; omega
          simp only [hik, if_false]
          obtain ⟨q1, q2, q3⟩ := hcss i hil
          refine ⟨q1, q2, ?_⟩
          rw [List.getElem_append_left hil]
          exact q3
  obtain ⟨css, l, hll, hokl, hcss⟩ := hex len (Nat.le_refl _)
  have hblt : ab < w.heap.size := by
    obtain ⟨q1, q2, _⟩ := hcss 0 (by omega)
    have h1 := q2 0 ((css 0)[0]'(by omega)) (List.getElem?_eq_getElem (by omega))
    unfold World.cell? at h1
    rcases Nat.lt_or_ge ab w.heap.size with hlt | hge
    · exact hlt
    · rw [Array.getElem?_eq_none hge] at h1; cases h1
  exact ⟨some ⟨ab, ao, none⟩, len, cap, l, rfl, by omega, hl, Sl.mk_ hll hblt css hcss, hokl⟩

theorem trod_i64 {t : TypeId} (ht : P.underlying t = some (.int .i64)) {fuel : Nat} {cs : List Value} {x : DataW H × List MemPlace} (h : DataW.trod enc P w base spare held fuel t cs = some x) :
    ∃ n : Int, cs = [.int .i64 n] ∧ (Lit.int .i64 n).wf = true := by
  cases fuel with
  | zero => simp [DataW.trod] at h
  | succ n =>
    unfold DataW.trod at h
    rw [ht] at h
    split at h <;> simp_all
theorem trod_u8 {t : TypeId} (ht : P.underlying t = some (.int .u8)) {fuel : Nat} {cs : List Value} {x : DataW H × List MemPlace} (h : DataW.trod enc P w base spare held fuel t cs = some x) :
    ∃ n : Int, cs = [.int .u8 n] ∧ 0 ≤ n ∧ n ≤ 255 := by
  obtain ⟨n, hcs, _, hw⟩ := DataW.trod_int ht h
  have hb := bounds_u8 hw
  exact ⟨n, hcs, hb⟩
theorem trod_str {t : TypeId} (ht : P.underlying t = some .string) {fuel : Nat} {cs : List Value} {x : DataW H × List MemPlace} (h : DataW.trod enc P w base spare held fuel t cs = some x) :
    ∃ s : ByteArray, cs = [.string s] ∧ s.size ≤ maxLen := by
  cases fuel with
  | zero => simp [DataW.trod] at h
  | succ n =>
    unfold DataW.trod at h
    rw [ht] at h
    split at h <;> simp_all
theorem trod_boolean {t : TypeId} (ht : P.underlying t = some .bool) {fuel : Nat} {cs : List Value} {x : DataW H × List MemPlace} (h : DataW.trod enc P w base spare held fuel t cs = some x) :
    ∃ b : Bool, cs = [.bool b] := by
  cases fuel with
  | zero => simp [DataW.trod] at h
  | succ n =>
    unfold DataW.trod at h
    rw [ht] at h
    split at h <;> simp_all
end

/-! ### The lengths that Go's int can hold, and what an argument's strings may be -/
def Vl.ok (M : Nat) (v : Vl) : Prop := v.str.size ≤ M
def Fld.ok (M : Nat) (f : Fld) : Prop := f.name.size ≤ M
def Atr.ok (M : Nat) (a : Atr) : Prop := a.name.size ≤ M ∧ a.val.str.size ≤ M
def Nod.ok (M : Nat) (x : Nod) : Prop := x.name.size ≤ M ∧ x.val.str.size ≤ M
def Fil.ok (M : Nat) (f : Fil) : Prop := f.attrs.length ≤ M ∧ ∀ a ∈ f.attrs, a.ok M
def Pst.ok (M : Nat) (p : Pst) : Prop := p.name.size ≤ M ∧ p.val.str.size ≤ M ∧ p.ids.length ≤ M
def Sto.ok (M : Nat) (s : Sto) : Prop := s.schema.length ≤ M ∧ (∀ f ∈ s.schema, f.ok M) ∧ s.files.length ≤ M ∧ ∀ f ∈ s.files, f.ok M

section
variable {H : Type} {enc : TypeId × Value → H} {P : Program} {w : World} {base : Nat} {spare : Nat → Bool} {held : Bool}

/-- a struct's cells, part by part -/
theorem trod_parts {t : TypeId} {fs : Array Field} (ht : P.underlying t = some (.struct fs)) {fuel : Nat} {cs : List Value} {x : DataW H × List MemPlace} (h : DataW.trod enc P w base spare held fuel t cs = some x) :
    cs.length = P.cellsOf t ∧ ∀ (i : Nat) (f : Field), fs[i]? = some f → ∃ n y, DataW.trod enc P w base spare held n f.type ((cs.drop f.offset).take (P.cellsOf f.type)) = some y := by
  obtain ⟨xs, n, _, _, hl, hxl, hf⟩ := DataW.trod_struct ht h
  refine ⟨hl, fun i f hi => ?_⟩
  have hil : i < xs.length := by rw [hxl]; exact (Array.getElem?_eq_some_iff.1 hi).1
  exact ⟨n, xs[i], (hf i f hi).trans (List.getElem?_eq_getElem hil)⟩
end

/-! ### A law's statement out of what its walk shows -/
theorem trodAll_stays {H : Type} {enc : TypeId × Value → H} {P : Program} (hl : laidOutB P = true) {W W' : World} {sp' : Nat → Bool} : ∀ (ts : List TypeId) (vs : List Value) (ds : List (DataW H)) (ps : List MemPlace),
    (∀ t ∈ ts, P.readableRec t = true ∧ t < P.types.size) → DataW.TrodAll enc P W 0 (fun _ => true) true ts vs ds ps → (∀ p ∈ ps, W.sameAt W' p) → (∀ p ∈ ps, sp' p.block = true) → DataW.TrodAll enc P W' 0 sp' true ts vs ds ps
  | [], vs, ds, ps, _, h, _, _ => by
    obtain ⟨rfl, rfl, rfl⟩ := trodAll_nil h
    exact rfl
  | t :: ts, vs, ds, ps, ht, h, hs, hsp => by
    obtain ⟨v, vs', d, ds', p, q, rfl, rfl, rfl, h1, h2⟩ := trodAll_cons h
    have ht1 := ht t (by simp)
    exact ⟨p, q, WideElems.Trod_stays hl ht1.1 ht1.2 h1 (fun x hx => hs x (by simp [hx])) (fun x hx => hsp x (by simp [hx])),
      trodAll_stays hl ts vs' ds' q (fun u hu => ht u (by simp [hu])) h2 (fun x hx => hs x (by simp [hx])) (fun x hx => hsp x (by simp [hx])), rfl⟩

theorem trodAll_length {H : Type} {enc : TypeId × Value → H} {P : Program} {w : World} {base : Nat} {spare : Nat → Bool} {held : Bool} : ∀ (ts : List TypeId) (vs : List Value) (ds : List (DataW H)) (ps : List MemPlace),
    DataW.TrodAll enc P w base spare held ts vs ds ps → ds.length = ts.length
  | [], vs, ds, ps, h => by obtain ⟨_, rfl, _⟩ := trodAll_nil h; rfl
  | t :: ts, vs, ds, ps, h => by
    obtain ⟨v, vs', d, ds', p, q, rfl, rfl, rfl, h1, h2⟩ := trodAll_cons h
    simp [trodAll_length ts vs' ds' q h2]

section
variable {H : Type} {enc : TypeId × Value → H} {P : Program}
theorem post_of_below {f : Func} {s : ChangeSpec} {apart fresh handsOn again : Bool} {W W' : World} {args : Array Value} {v : Value} {ds gs : List (DataW H)} {before pa pv : List MemPlace}
    (hW : DataW.Whole enc P f.params.toList s.vars apart W args.toList ds gs before)
    (hres : ∀ (b : Nat) (sp : Nat → Bool) (hd : Bool), DataW.TrodAll enc P W' b sp hd f.resultTypes.toList (v.resultList f.resultTypes.size) (s.fn H (ds ++ gs)).results [])
    (hargs : ∀ sp : Nat → Bool, (∀ p ∈ before, sp p.block = true) → DataW.TrodAll enc P W' 0 sp true f.params.toList args.toList (s.fn H (ds ++ gs)).args pa)
    (hvars : ∀ sp : Nat → Bool, (∀ p ∈ before, sp p.block = true) → DataW.TrodVars enc P W' sp s.vars (s.fn H (ds ++ gs)).vars pv)
    (hps : before = pa ++ pv) (hb : Below W.heap.size W W')
    (hok : ∀ (j : Nat) (t : TypeId) (r : Value), f.resultTypes[j]? = some t → (v.resultList f.resultTypes.size)[j]? = some r → Value.okWide P W' .any 0 t r) :
    s.post enc P f apart fresh handsOn again W args v W' := by
  have hlt : ∀ p ∈ before, p.block < W.heap.size := fun p hp => hW.lt p hp
  have hold : ∀ p ∈ before, (fun b => decide (b < W.heap.size)) p.block = true := fun p hp => by simpa using hlt p hp
  refine ⟨ds, gs, before, [], pa, pv, hW, hres _ _ _, hargs _ hold, hvars _ hold, World.keptBut_mono (fun p hp => ⟨hp, ?_⟩) (hb.frame (· ∈ before)), fun _ => ?_⟩
  · rw [hps, List.mem_append] at hp
    exact Or.inr hp
  · obtain ⟨_, _, _, _, _, hz, hn⟩ := hW
    refine ⟨hok, _, _, ([] ++ pa) ++ pv, ⟨[] ++ pa, pv, trodAll_append (hargs _ (fun _ _ => rfl)) (hres _ _ _), hvars _ (fun _ _ => rfl), rfl, ?_, ?_⟩, ?_⟩
    · intro b off hp
      have hin : MemPlace.cell b off ∈ before := by rw [hps]; simpa using hp
      rw [hb.frozen (hlt _ hin)]
      exact hz b off hin
    · intro ha
      have := hn ha
      rw [hps] at this
      simpa using this
    · intro p hp _
      rw [hps]
      simpa using hp
end

/-- A LAW THAT RETURNS true AND LEAVES ALL THAT WAS THERE AS IT WAS. 'hs': its specification; 'core': its walk. -/
theorem law_lifted {H : Type} {enc : TypeId × Value → H} {C : Checked} {os : Os} {f : FuncId} {fn : Func} {s : ChangeSpec} {tb : TypeId} {n : Nat}
    (own : ownKnob C.prog.godebug = none) (started : os.Started) (noInit : C.prog.inits.idxOf? f = none) (hfn : C.prog.funcs[f]? = some fn)
    (hvars : s.vars = []) (hrt : fn.resultTypes = #[tb]) (htb : C.prog.underlying tb = some .bool)
    (hn : fn.params.toList.length = n) (hs : ∀ ds : List (DataW H), ds.length = n → s.fn H ds = { results := [.lit (.bool true)], args := ds })
    (hl : laidOutB C.prog = true) (hread : (fn.params.toList.all fun t => C.prog.readableRec t && decide (t < C.prog.types.size)) = true)
    (witness : ∃ (w : World) (tape : Tape) (i : Input), w.os = os ∧ (w.forCall tape i).Shaped C.prog ∧ i.vars = [] ∧ Input.okWide C.prog (w.forCall tape i) .any w.heap.size f i ∧
      s.pre6 enc C.prog fn [] false (w.forCall tape i).memory i.args ∧ ({} : Assume).holds C.prog (lone (Frame.enter C.prog f i.args .normal) [] (w.forCall tape i)))
    (core : ∀ (W : World) (base : Nat) (args : Array Value) (ds : List (DataW H)) (p : List MemPlace), DataW.TrodAll enc C.prog W 0 (fun _ => true) true fn.params.toList args.toList ds p →
      (∀ (j : Nat) t v, fn.params[j]? = some t → args[j]? = some v → Value.okWide C.prog W .any base t v) →
      Calls C.prog f args W fun e W' => e = .returned (.bool true) ∧ Below W.heap.size W W') :
    ReturnsInHanded {} C os f .any (s.pre6 enc C.prog fn [] false) (s.post enc C.prog fn false true false false) := by
  refine returnsInHanded_of_change (C := C) own started noInit hfn witness ?_
  intro W base args ds gs before hval hW _ _
  have hW' := hW
  obtain ⟨p, q, hA, hV, rfl, hfz, hnd⟩ := hW
  rw [hvars] at hV
  obtain ⟨rfl, rfl⟩ := trodVars_none hV
  refine (core W base args ds p hA hval).mono fun e W' ⟨he, hb⟩ => ?_
  subst he
  have hlen := trodAll_length _ _ _ _ hA
  have hsd := hs ds (hlen.trans hn)
  have hread' : ∀ t ∈ fn.params.toList, C.prog.readableRec t = true ∧ t < C.prog.types.size := fun t ht => by simpa using List.all_eq_true.1 hread t ht
  have hlt : ∀ x ∈ p, x.block < W.heap.size := fun x hx => hW'.lt x (by simp [hx])
  refine ⟨_, rfl, post_of_below (pa := p) (pv := []) hW' ?_ ?_ ?_ rfl hb ?_⟩
  · intro b sp hd
    rw [List.append_nil, hsd, hrt]
    exact trodAll_mk1 (shut_bool htb true)
  · intro sp hsp
    rw [List.append_nil, hsd]
    exact trodAll_stays hl _ _ _ _ hread' hA (fun x hx => hb.same (hlt x hx)) (fun x hx => hsp x (by simp [hx]))
  · intro sp _
    rw [hvars, List.append_nil, hsd]
    exact rfl
  · exact ok_one hrt rfl (okWide_bool_mk htb true)

end Go.Proofs.Ytjobgnioehkomaa
