/-
  MEMORY OF THE CALL's OWN: a slice whose cells fill a block of its own ('OSl'), with the list of all blocks that it and what its elements lead to take up; a block that is filled element by element ('OFill').
-/
import Derived.WalkKit
import Derived.WalkSpells
import Derived.WalkLawsBesides
import Derived.Lib.Hide
import Derived.Handy
import Derived.Test.YtjobgnioehkomaaLib
namespace Go.Proofs.Ytjobgnioehkomaa
open Go.RowKit
set_option linter.unusedVariables false

theorem mk_full {P : Program} {t e : TypeId} {z : Value} {size bytes : Nat} (ht : P.underlying t = some (.slice e)) (h : (P.info? e).map (fun i => (i.zero, i.size, i.bytes)) = some (some z, size, bytes))
    (n : Nat) (hb : bytes * n ≤ 281474976710656) (hn : n ≤ 9223372036854775807) (W : World) :
    (Instr.makeSlice t (.int .i64 (n : Int)) (.int .i64 (n : Int))).run P W = .ok (.slice (some ⟨W.heap.size, 0, none⟩) n n) (W.alloc (.cells (madeCells z.cells (n * size)) e)) := by
  obtain ⟨i, hi, hz, hs, hby⟩ := info_parts h
  have hb' : (i.bytes : Int) * (n : Int) ≤ 281474976710656 := by
    rw [hby]
    have : ((bytes * n : Nat) : Int) ≤ 281474976710656 := by omega
    rwa [Int.natCast_mul] at this
  have hr := run_make (P := P) W t e i z ht hi hz .i64 .i64 n n (by omega) (by omega) hb' (by omega)
  simp only [Int.toNat_natCast, hs] at hr
  exact hr

theorem blk_lt {w : World} {g : Nat} {o : Obj} (h : w.heap[g]? = some o) : g < w.heap.size := by
  rcases Nat.lt_or_ge g w.heap.size with hlt | hge
  · exact hlt
  · rw [Array.getElem?_eq_none hge] at h; cases h
theorem blk_cell {w : World} {g : Nat} {cur : Array Value} {e : TypeId} (h : w.heap[g]? = some (.cells cur e (0, 0))) {j : Nat} (hj : j < cur.size) : w.cell? ⟨g, j, none⟩ = some cur[j] := by
  simp [World.cell?, h, hj]
theorem blk_cell? {w : World} {g : Nat} {cur : Array Value} {e : TypeId} (h : w.heap[g]? = some (.cells cur e (0, 0))) (j : Nat) : w.cell? ⟨g, j, none⟩ = cur[j]? := by
  simp [World.cell?, h]
theorem blk_free {w : World} {g : Nat} {cur : Array Value} {e : TypeId} (h : w.heap[g]? = some (.cells cur e (0, 0))) (j : Nat) : w.frozen? ⟨g, j, none⟩ = false := by
  simp [World.frozen?, h]
theorem blk_new (w : World) (o : Obj) : (w.alloc o).heap[w.heap.size]? = some o := heap_alloc_new w o
theorem blk_set {w : World} {g : Nat} {cur : Array Value} {e : TypeId} (h : w.heap[g]? = some (.cells cur e (0, 0))) (j : Nat) (u : Value) :
    (w.setCell ⟨g, j, none⟩ u).heap[g]? = some (.cells (cur.setIfInBounds j u) e (0, 0)) := by
  simp [World.setCell, Array.getElem?_modify, h]
theorem blk_far (w : World) {g : Nat} (a : Addr) (h : g ≠ a.block) (u : Value) : (w.setCell a u).heap[g]? = w.heap[g]? := Below.heap_setCell w a u g h
theorem size_set (w : World) (a : Addr) (u : Value) : (w.setCell a u).heap.size = w.heap.size := by simp [World.setCell]

/-! ### Which blocks a reading takes up -/
abbrev OR (α : Type) := World → List Value → α → List Nat → Prop
/-- it hangs on those blocks alone, and they are there -/
structure OLoc {α : Type} (O : OR α) : Prop where
  loc : ∀ {w w' : World} {cs : List Value} {x : α} {bs : List Nat}, O w cs x bs → (∀ b ∈ bs, w'.heap[b]? = w.heap[b]?) → O w' cs x bs
  lt : ∀ {w : World} {cs : List Value} {x : α} {bs : List Nat}, O w cs x bs → ∀ b ∈ bs, b < w.heap.size

/-- block g holds l, element by element, as far as k -/
def OFill {α : Type} (e size : Nat) (O : OR α) (w : World) (g : Nat) (N : Nat) (l : List α) (k : Nat) (bss : List (List Nat)) : Prop :=
  ∃ cur : Array Value, w.heap[g]? = some (.cells cur e (0, 0)) ∧ N ≤ cur.size ∧ bss.length = k ∧ k ≤ l.length ∧
    ∀ i (h : i < l.length), i < k → ∃ cs : List Value, cs.length = size ∧ (∀ j u, cs[j]? = some u → cur[i * size + j]? = some u) ∧ O w cs l[i] (bss.getD i [])

def OSl {α : Type} (e size : Nat) (O : OR α) (w : World) (A : Option Addr) (n : Nat) (l : List α) (bs : List Nat) : Prop :=
  l.length = n ∧ ((n = 0 ∧ bs = []) ∨ ∃ g bss, A = some ⟨g, 0, none⟩ ∧ OFill e size O w g (n * size) l n bss ∧ bs = g :: bss.flatten)

section
variable {α : Type} {e size N n k g : Nat} {O : OR α} {w w' : World} {A : Option Addr} {l : List α} {bs : List Nat} {bss : List (List Nat)}

theorem OFill.blk (h : OFill e size O w g N l k bss) : g < w.heap.size := by obtain ⟨cur, hc, _⟩ := h; exact blk_lt hc
theorem OFill.inl (h : OFill e size O w g N l k bss) {i : Nat} (hi : i < k) : bss.getD i [] ∈ bss := by
  obtain ⟨_, _, _, hb, _⟩ := h
  rw [List.getD_eq_getElem?_getD, List.getElem?_eq_getElem (by omega)]
  exact List.getElem_mem _
theorem OFill.lt (hO : OLoc O) (h : OFill e size O w g N l k bss) : ∀ b ∈ bss.flatten, b < w.heap.size := by
  obtain ⟨cur, hc, hs, hb, hkl, hf⟩ := h
  intro b hbm
  obtain ⟨bs, hbs, hbb⟩ := List.mem_flatten.1 hbm
  obtain ⟨i, hi, rfl⟩ := List.getElem_of_mem hbs
  obtain ⟨cs, _, _, ho⟩ := hf i (by omega) (by omega)
  rw [List.getD_eq_getElem?_getD, List.getElem?_eq_getElem hi] at ho
  exact hO.lt ho b hbb
theorem OFill.loc (hO : OLoc O) (h : OFill e size O w g N l k bss) (hg : w'.heap[g]? = w.heap[g]?) (hb : ∀ b ∈ bss.flatten, w'.heap[b]? = w.heap[b]?) : OFill e size O w' g N l k bss := by
  have h0 := h
  obtain ⟨cur, hc, hs, hl, hkl, hf⟩ := h
  refine ⟨cur, hg.trans hc, hs, hl, hkl, fun i hi hik => ?_⟩
  obtain ⟨cs, h1, h2, h3⟩ := hf i hi hik
  exact ⟨cs, h1, h2, hO.loc h3 fun b hbm => hb b (List.mem_flatten.2 ⟨_, h0.inl hik, hbm⟩)⟩
theorem OFill.below (hO : OLoc O) (h : OFill e size O w g N l k bss) (hb : Below w.heap.size w w') : OFill e size O w' g N l k bss :=
  h.loc hO (hb.block _ h.blk) fun b hbm => hb.block _ (h.lt hO b hbm)
theorem OFill.start {cur : Array Value} (hg : w.heap[g]? = some (.cells cur e (0, 0))) (hs : N ≤ cur.size) : OFill e size O w g N l 0 [] := ⟨cur, hg, hs, rfl, Nat.zero_le _, fun i _ h => absurd h (by omega)⟩
/-- the next element is stored: 'w2' is 'w1' but for block g, whose cells are cur' -/
theorem OFill.step (hO : OLoc O) (h : OFill e size O w g N l k bss) (hk : k < l.length) {cs : List Value} (hcs : cs.length = size) (ho : O w' cs l[k] bs) (hnb : g ∉ bs) (hng : g ∉ bss.flatten)
    (cur' : Array Value) (hg : w'.heap[g]? = some (.cells cur' e (0, 0))) (hsz : N ≤ cur'.size)
    (hold : ∀ cur : Array Value, w.heap[g]? = some (.cells cur e (0, 0)) → ∀ j, j < k * size → cur'[j]? = cur[j]?) (hnew : ∀ j u, cs[j]? = some u → cur'[k * size + j]? = some u)
    (hfar : ∀ b ∈ bss.flatten, w'.heap[b]? = w.heap[b]?) : OFill e size O w' g N l (k + 1) (bss ++ [bs]) := by
  have h0 := h
  obtain ⟨cur, hc, hs, hl, hkl, hf⟩ := h
  refine ⟨cur', hg, hsz, by simp [hl], by omega, fun i hi hik => ?_⟩
  by_cases hlt : i < k
  · obtain ⟨cs1, h1, h2, h3⟩ := hf i hi hlt
    refine ⟨cs1, h1, fun j u hj => ?_, ?_⟩
    · have hjs : j < size := by rw [← h1]; exact (List.getElem?_eq_some_iff.1 hj).1
      have hle : (i + 1) * size ≤ k * size := Nat.mul_le_mul_right _ (by omega)
      rw [Nat.succ_mul] at hle
      rw [hold cur hc (i * size + j) (by omega)]
      exact h2 j u hj
    · have hm : bss.getD i [] ∈ bss := h0.inl hlt
      rw [List.getD_eq_getElem?_getD, List.getElem?_append_left (by omega), ← List.getD_eq_getElem?_getD]
      exact hO.loc h3 fun b hb => hfar b (List.mem_flatten.2 ⟨_, hm, hb⟩)
  · obtain rfl : i = k := by omega
    refine ⟨cs, hcs, hnew, ?_⟩
    rw [List.getD_eq_getElem?_getD, List.getElem?_append_right (by omega), hl, Nat.sub_self]
    exact ho

theorem OSl.len (h : OSl e size O w A n l bs) : l.length = n := h.1
theorem OSl.zero (h : l.length = 0) : OSl e size O w A 0 l [] := ⟨h, .inl ⟨rfl, rfl⟩⟩
theorem OSl.of_fill (hl : l.length = n) (h : OFill e size O w g (n * size) l n bss) : OSl e size O w (some ⟨g, 0, none⟩) n l (g :: bss.flatten) := ⟨hl, .inr ⟨g, bss, rfl, h, rfl⟩⟩
theorem OSl.loc (hO : OLoc O) (h : OSl e size O w A n l bs) (hb : ∀ b ∈ bs, w'.heap[b]? = w.heap[b]?) : OSl e size O w' A n l bs := by
  obtain ⟨hl, h | ⟨g, bss, hA, hf, rfl⟩⟩ := h
  · exact ⟨hl, .inl h⟩
  · exact ⟨hl, .inr ⟨g, bss, hA, hf.loc hO (hb g (by simp)) (fun b hbm => hb b (List.mem_cons_of_mem _ hbm)), rfl⟩⟩
theorem OSl.lt (hO : OLoc O) (h : OSl e size O w A n l bs) : ∀ b ∈ bs, b < w.heap.size := by
  obtain ⟨hl, ⟨_, rfl⟩ | ⟨g, bss, hA, hf, rfl⟩⟩ := h
  · simp
  · intro b hb
    rcases List.mem_cons.1 hb with rfl | hb
    · exact hf.blk
    · exact hf.lt hO b hb
theorem OSl.below (hO : OLoc O) (h : OSl e size O w A n l bs) (hb : Below w.heap.size w w') : OSl e size O w' A n l bs := h.loc hO fun b hbm => hb.block _ (h.lt hO b hbm)
/-- what is owned is read -/
theorem OSl.sl {R : World → List Value → α → Prop} (hR : ∀ {cs : List Value} {x : α} {bs : List Nat}, O w cs x bs → R w cs x) (h : OSl e size O w A n l bs) : Sl size R w A n l := by
  obtain ⟨hl, ⟨rfl, rfl⟩ | ⟨g, bss, rfl, hf, rfl⟩⟩ := h
  · obtain rfl : l = [] := List.eq_nil_of_length_eq_zero hl
    exact Sl.nil
  · have hblk := hf.blk
    obtain ⟨cur, hc, hs, hbl, hkl, hf⟩ := hf
    have hex : ∀ i, ∃ cs : List Value, ∀ (hi : i < l.length), cs.length = size ∧ (∀ j u, cs[j]? = some u → cur[i * size + j]? = some u) ∧ R w cs l[i] := by
      intro i
      by_cases hi : i < l.length
      · obtain ⟨cs, h1, h2, h3⟩ := hf i hi (by omega)
        exact ⟨cs, fun _ => ⟨h1, h2, hR h3⟩⟩
      · exact ⟨[], fun h => absurd h hi⟩
    exact Sl.mk_ hl hblk (fun i => Classical.choose (hex i)) fun i hi => by
      obtain ⟨h1, h2, h3⟩ := Classical.choose_spec (hex i) hi
      refine ⟨h1, fun j u hj => ?_, h3⟩
      rw [Nat.zero_add]
      exact (blk_cell? hc _).trans (h2 j u hj)
end

/-! ### The types of this program -/
def OInt : OR Int := fun w cs x bs => RInt w cs x ∧ bs = []
def OStr : OR ByteArray := fun w cs x bs => RStr w cs x ∧ bs = []
def OFld : OR Fld := fun w cs x bs => RFld w cs x ∧ bs = []
def OAtr : OR Atr := fun w cs x bs => RAtr w cs x ∧ bs = []
def ONod : OR Nod := fun w cs x bs => RNod w cs x ∧ bs = []
theorem lInt : OLoc OInt := ⟨fun h _ => h, fun h b hb => by rw [h.2] at hb; cases hb⟩
theorem lStr : OLoc OStr := ⟨fun h _ => h, fun h b hb => by rw [h.2] at hb; cases hb⟩
theorem lFld : OLoc OFld := ⟨fun h _ => h, fun h b hb => by rw [h.2] at hb; cases hb⟩
theorem lAtr : OLoc OAtr := ⟨fun h _ => h, fun h b hb => by rw [h.2] at hb; cases hb⟩
theorem lNod : OLoc ONod := ⟨fun h _ => h, fun h b hb => by rw [h.2] at hb; cases hb⟩
/-- 'ea': the number that the elements' type bears in the program at hand -/
def OFil (ea : Nat) : OR Fil := fun w cs f bs => ∃ A n c, cs = [.int .i64 f.id, .int .i64 f.owner, .bool f.shared, .int .i64 f.link, .slice A n c] ∧ n ≤ c ∧ OSl ea 4 OAtr w A n f.attrs bs
def OPst (ei : Nat) : OR Pst := fun w cs p bs => ∃ A n c, cs = [.string p.name, .int .i64 p.val.kind, .int .i64 p.val.int, .string p.val.str, .slice A n c] ∧ n ≤ c ∧ OSl ei 1 OInt w A n p.ids bs
theorem lFil (ea : Nat) : OLoc (OFil ea) :=
  ⟨fun ⟨A, n, c, e, h0, h⟩ hb => ⟨A, n, c, e, h0, h.loc lAtr hb⟩, fun ⟨A, n, c, e, h0, h⟩ => h.lt lAtr⟩
theorem lPst (ei : Nat) : OLoc (OPst ei) :=
  ⟨fun ⟨A, n, c, e, h0, h⟩ hb => ⟨A, n, c, e, h0, h.loc lInt hb⟩, fun ⟨A, n, c, e, h0, h⟩ => h.lt lInt⟩
theorem OFil.r {ea : Nat} {w : World} {cs : List Value} {f : Fil} {bs : List Nat} (h : OFil ea w cs f bs) : RFil w cs f := by
  obtain ⟨A, n, c, e, h0, h⟩ := h
  exact ⟨A, n, c, e, h.sl fun h => h.1⟩
theorem OPst.r {ei : Nat} {w : World} {cs : List Value} {f : Pst} {bs : List Nat} (h : OPst ei w cs f bs) : RPst w cs f := by
  obtain ⟨A, n, c, e, h0, h⟩ := h
  exact ⟨A, n, c, e, h.sl fun h => h.1⟩

/-! ### What a call hands back in new memory -/
def Fresh (w : World) (bs : List Nat) : Prop := bs.Nodup ∧ ∀ b ∈ bs, w.heap.size ≤ b
def NewSl {α : Type} (e size : Nat) (O : OR α) (w : World) (l : List α) (en : Ending) (w' : World) : Prop :=
  ∃ A n c bs, en = .returned (.slice A n c) ∧ n ≤ c ∧ OSl e size O w' A n l bs ∧ Fresh w bs ∧ Below w.heap.size w w'
/-- the same, opened: for the walk -/
theorem NewSl.out {α : Type} {e size : Nat} {O : OR α} {w w' : World} {l : List α} {en : Ending} (h : NewSl e size O w l en w') :
    ∃ A c bs, en = .returned (.slice A l.length c) ∧ l.length ≤ c ∧ OSl e size O w' A l.length l bs ∧ Fresh w bs ∧ Below w.heap.size w w' := by
  obtain ⟨A, n, c, bs, h1, h2, h3, h4, h5⟩ := h
  obtain rfl := h3.len
  exact ⟨A, c, bs, h1, h2, h3, h4, h5⟩
/-- the round's invariant of a loop that fills a new block -/
def FillInv {α : Type} (e size : Nat) (O : OR α) (w : World) (n : Nat) (l : List α) (k : Nat) (wr : World) : Prop :=
  Below w.heap.size w wr ∧ ∃ bss, OFill e size O wr w.heap.size (n * size) l k bss ∧ bss.flatten.Nodup ∧ ∀ b ∈ bss.flatten, w.heap.size < b
section
variable {α : Type} {e size n k : Nat} {O : OR α} {w w' wr : World} {l : List α}
theorem FillInv.start {cur : Array Value} (hs : n * size ≤ cur.size) : FillInv e size O w n l 0 (w.alloc (.cells cur e)) :=
  ⟨(Below.refl _ _).alloc (Nat.le_refl _) _, [], OFill.start (blk_new w _) hs, by simp, by simp⟩
theorem FillInv.end_ (h : FillInv e size O w n l n wr) (hl : l.length = n) : NewSl e size O w l (.returned (.slice (some ⟨w.heap.size, 0, none⟩) n n)) wr := by
  obtain ⟨hb, bss, hf, hn, hlt⟩ := h
  exact ⟨_, n, n, _, rfl, Nat.le_refl _, OSl.of_fill hl hf, ⟨List.nodup_cons.2 ⟨fun h => absurd (hlt _ h) (by omega), hn⟩, fun b hbm => by
    rcases List.mem_cons.1 hbm with rfl | h
    · exact Nat.le_refl _
    · exact Nat.le_of_lt (hlt b h)⟩, hb⟩
theorem FillInv.cur (h : FillInv e size O w n l k wr) : ∃ cur : Array Value, wr.heap[w.heap.size]? = some (.cells cur e (0, 0)) ∧ n * size ≤ cur.size := by
  obtain ⟨_, _, ⟨cur, hc, hs, _⟩, _⟩ := h
  exact ⟨cur, hc, hs⟩
/-- element k is stored: 'w1': the world behind the call that made it (its blocks: bs); 'w2': behind the stores -/
theorem FillInv.step {w1 w2 : World} (hO : OLoc O) (h : FillInv e size O w n l k wr) (hk : k < l.length) (h1 : Below wr.heap.size wr w1) {cs : List Value} (hcs : cs.length = size) {bs : List Nat} (ho : O w1 cs l[k] bs) (hf : Fresh wr bs)
    {cur cur' : Array Value} (hg : w1.heap[w.heap.size]? = some (.cells cur e (0, 0))) (hg' : w2.heap[w.heap.size]? = some (.cells cur' e (0, 0))) (hsz : cur'.size = cur.size)
    (hold : ∀ j, j < k * size → cur'[j]? = cur[j]?) (hnew : ∀ j u, cs[j]? = some u → cur'[k * size + j]? = some u)
    (hfar : ∀ b, b ≠ w.heap.size → w2.heap[b]? = w1.heap[b]?) (hb2 : Below w.heap.size w w2) : FillInv e size O w n l (k + 1) w2 := by
  obtain ⟨hb, bss, hF, hn, hlt⟩ := h
  have hgr := hF.blk
  have hcur0 : wr.heap[w.heap.size]? = some (.cells cur e (0, 0)) := (h1.block _ hgr).symm.trans hg
  have hsz0 : n * size ≤ cur.size := by
    obtain ⟨c0, hc0, hs0, _⟩ := hF
    rw [hcur0] at hc0
    simp only [Option.some.injEq, Obj.cells.injEq, and_true] at hc0
    rw [hc0]; exact hs0
  have hnb : ∀ b ∈ bs, b ≠ w.heap.size := fun b hbm => by have := hf.2 b hbm; omega
  refine ⟨hb2, bss ++ [bs], hF.step hO hk hcs (hO.loc ho fun b hbm => hfar b (hnb b hbm)) (fun hm => hnb _ hm rfl) (fun hm => by have := hlt _ hm; omega) cur' hg' (by omega) ?_ hnew ?_, ?_, ?_⟩
  · intro c hc j hj
    rw [hcur0] at hc
    simp only [Option.some.injEq, Obj.cells.injEq, and_true] at hc
    rw [← hc]; exact hold j hj
  · intro b hbm
    have := hlt b hbm
    rw [hfar b (by omega)]
    exact h1.block b (hF.lt hO b hbm)
  · rw [List.flatten_append, List.flatten_singleton, List.nodup_append]
    refine ⟨hn, hf.1, fun a ha b hb2 => ?_⟩
    have h3 := hF.lt hO a ha
    have h4 := hf.2 b hb2
    omega
  · intro b hbm
    rw [List.flatten_append, List.flatten_singleton, List.mem_append] at hbm
    rcases hbm with hbm | hbm
    · exact hlt b hbm
    · have := hf.2 b hbm; omega
end
theorem Fresh.nil (w : World) : Fresh w [] := ⟨List.nodup_nil, fun b hb => by cases hb⟩
theorem set_get {cur : Array Value} {i j : Nat} {u : Value} (hi : i < cur.size) : (cur.setIfInBounds i u)[j]? = if i = j then some u else cur[j]? := by
  rw [Array.getElem?_setIfInBounds]
  split
  · rfl
  · rfl

/-! ### A run of stores into one block -/
def sets (w : World) (g : Nat) : Nat → List Value → World
  | _, [] => w
  | o, v :: vs => sets (w.setCell ⟨g, o, none⟩ v) g (o + 1) vs
def setsA (cur : Array Value) : Nat → List Value → Array Value
  | _, [] => cur
  | o, v :: vs => setsA (cur.setIfInBounds o v) (o + 1) vs
theorem sets_far {g b : Nat} (h : b ≠ g) : ∀ (vs : List Value) (w : World) (o : Nat), (sets w g o vs).heap[b]? = w.heap[b]?
  | [], _, _ => rfl
  | v :: vs, w, o => (sets_far h vs _ _).trans (blk_far w ⟨g, o, none⟩ h v)
theorem sets_blk {g : Nat} {e : TypeId} : ∀ (vs : List Value) (w : World) (o : Nat) (cur : Array Value), w.heap[g]? = some (.cells cur e (0, 0)) → (sets w g o vs).heap[g]? = some (.cells (setsA cur o vs) e (0, 0))
  | [], _, _, _, h => h
  | v :: vs, w, o, cur, h => sets_blk vs _ _ _ (blk_set h o v)
theorem setsA_size : ∀ (vs : List Value) (cur : Array Value) (o : Nat), (setsA cur o vs).size = cur.size
  | [], _, _ => rfl
  | v :: vs, cur, o => (setsA_size vs _ _).trans (by simp)
theorem setsA_low : ∀ (vs : List Value) (cur : Array Value) (o j : Nat), j < o → (setsA cur o vs)[j]? = cur[j]?
  | [], _, _, _, _ => rfl
  | v :: vs, cur, o, j, h => (setsA_low vs _ _ j (by omega)).trans (by rw [Array.getElem?_setIfInBounds, if_neg (by omega)])
theorem setsA_get : ∀ (vs : List Value) (cur : Array Value) (o j : Nat) (u : Value), o + vs.length ≤ cur.size → vs[j]? = some u → (setsA cur o vs)[o + j]? = some u
  | [], _, _, _, _, _, h => by simp at h
  | v :: vs, cur, o, 0, u, hs, h => by
    simp only [List.length_cons] at hs
    rw [setsA, setsA_low _ _ _ _ (by omega), set_get (by omega), if_pos (by omega)]
    simpa using h
  | v :: vs, cur, o, j + 1, u, hs, h => by
    simp only [List.length_cons] at hs
    have := setsA_get vs (cur.setIfInBounds o v) (o + 1) j u (by simp; omega) (by simpa using h)
    rw [setsA, show o + (j + 1) = o + 1 + j from by omega]
    exact this
theorem setsA_high : ∀ (vs : List Value) (cur : Array Value) (o j : Nat), o + vs.length ≤ j → (setsA cur o vs)[j]? = cur[j]?
  | [], _, _, _, _ => rfl
  | v :: vs, cur, o, j, h => by
    simp only [List.length_cons] at h
    rw [setsA, setsA_high vs _ _ j (by omega), Array.getElem?_setIfInBounds, if_neg (by omega)]
theorem sets_below {B g : Nat} (h : B ≤ g) : ∀ (vs : List Value) (w w1 : World) (o : Nat), Below B w w1 → Below B w (sets w1 g o vs)
  | [], _, _, _, hb => hb
  | v :: vs, w, w1, o, hb => sets_below h vs w _ _ (hb.setCell (p := ⟨g, o, none⟩) h v)
theorem sets_size : ∀ (vs : List Value) (w : World) (g o : Nat), (sets w g o vs).heap.size = w.heap.size
  | [], _, _, _ => rfl
  | v :: vs, w, g, o => (sets_size vs _ _ _).trans (size_set w _ v)
section
variable {α : Type} {e size n k : Nat} {O : OR α} {w w1 wr : World} {l : List α}
theorem FillInv.stores (hO : OLoc O) (h : FillInv e size O w n l k wr) (hl : l.length = n) (hk : k < n) (h1 : Below wr.heap.size wr w1) {cs : List Value} (hcs : cs.length = size) {bs : List Nat} (ho : ∀ h, O w1 cs (l[k]'h) bs) (hf : Fresh wr bs) :
    FillInv e size O w n l (k + 1) (sets w1 w.heap.size (k * size) cs) := by
  obtain ⟨cur, hg, hs⟩ := h.cur
  have hg1 : w1.heap[w.heap.size]? = some (.cells cur e (0, 0)) := (h1.block _ (blk_lt hg)).trans hg
  have hle : (k + 1) * size ≤ n * size := Nat.mul_le_mul_right _ (by omega)
  rw [Nat.succ_mul] at hle
  exact h.step hO (by omega) h1 hcs (ho _) hf hg1 (sets_blk cs _ _ _ hg1) (setsA_size _ _ _) (fun j hj => setsA_low _ _ _ _ hj) (fun j u hj => setsA_get _ _ _ _ _ (by omega) hj) (fun b hb => sets_far hb _ _ _)
    (sets_below (Nat.le_refl _) _ _ _ _ (h.1.trans (h1.mono h.1.size)))
end
end Go.Proofs.Ytjobgnioehkomaa
