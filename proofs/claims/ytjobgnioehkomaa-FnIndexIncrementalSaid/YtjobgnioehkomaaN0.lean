/-
  ROWS OF ROWS OF THE CALL's OWN: a row of headers each of which leads to a row of its own ('NRow'), all blocks apart.
-/
import Derived.WalkKit
import Derived.WalkSpells
import Derived.WalkLawsBesides
import Derived.Lib.Hide
import Derived.Handy
import Derived.Deep.RegionHeld3
import Derived.Test.YtjobgnioehkomaaLib
import Derived.Test.YtjobgnioehkomaaOwn
import Derived.Test.YtjobgnioehkomaaRow
namespace Go.Proofs.Ytjobgnioehkomaa
open Go.RowKit
set_option linter.unusedVariables false

theorem Chg.frozen {bs : List Nat} {w w' : World} (h : Chg bs w w') {a : Addr} (hb : a.block < w.heap.size) (hn : a.block ∉ bs) : w'.frozen? a = w.frozen? a := by
  unfold World.frozen?; rw [h.block _ hb hn]
theorem hp_new {w : World} {o : Obj} {i : Nat} (h : i = w.heap.size) : (w.alloc o).heap[i]? = some o := by subst h; exact heap_alloc_new w o
theorem hp_old {w : World} {o : Obj} {i : Nat} (h : i < w.heap.size) : (w.alloc o).heap[i]? = w.heap[i]? := Below.heap_alloc w o i h
theorem Chg.keepb {bs : List Nat} {w w' : World} (h : Chg bs w w') {g : Nat} {o : Obj} (hg : w.heap[g]? = some o) (hn : g ∉ bs) : w'.heap[g]? = some o := (h.block g (blk_lt hg) hn).trans hg
theorem below_keep {w w' : World} (h : Below w.heap.size w w') {g : Nat} {o : Obj} (hg : w.heap[g]? = some o) : w'.heap[g]? = some o := (h.block g (blk_lt hg)).trans hg
/-- known blocks -/
def HasB (w : World) (l : List (Nat × Array Value × TypeId)) : Prop := ∀ x ∈ l, w.heap[x.1]? = some (.cells x.2.1 x.2.2 (0, 0))
theorem HasB.chg {bs : List Nat} {w w' : World} {l : List (Nat × Array Value × TypeId)} (h : HasB w l) (hc : Chg bs w w') (hn : ∀ x ∈ l, x.1 ∉ bs) : HasB w' l := fun x hx => hc.keepb (h x hx) (hn x hx)
theorem HasB.below {w w' : World} {l : List (Nat × Array Value × TypeId)} (h : HasB w l) (hb : Below w.heap.size w w') : HasB w' l := fun x hx => below_keep hb (h x hx)
theorem held_at2 {L : List Oper} {i : Nat} {oi : Oper} {tl : List Oper} (hd : L.drop i = oi :: tl) : L.toArray[i]? = some oi := by
  have : (L.drop i)[0]? = some oi := by rw [hd]; rfl
  simpa [List.getElem?_drop] using this
/-- two steps may come up: each is tried -/
theorem held_two {P : Program} {L : List Oper} {Q : Exit → Act → World → Prop} {md : Region.Mode} {S : World → Prop} (i j : Nat) {o o2 : Oper} {tl tl2 : List Oper} {fuel : Nat} {listed : Array Bool} {a : Act} {w : World} (hr : Region.ready md L.toArray listed = [i, j]) (hd : L.drop i = o :: tl) (hd2 : L.drop j = o2 :: tl2)
    (h : ∀ K' : Act → World → Prop, Shut (∀ a w, S w → (S w → wpAnyH P md L.toArray Q S fuel (listed.setIfInBounds i true) a w) → K' a w) → if Region.wanted o (yielded L.toArray a.tmps) = true then Oper.wp P o a w K' Q else K' (a.put o.dst undef) w)
    (h2 : ∀ K' : Act → World → Prop, Shut (∀ a w, S w → (S w → wpAnyH P md L.toArray Q S fuel (listed.setIfInBounds j true) a w) → K' a w) → if Region.wanted o2 (yielded L.toArray a.tmps) = true then Oper.wp P o2 a w K' Q else K' (a.put o2.dst undef) w) :
    wpAnyH P md L.toArray Q S (fuel + 1) listed a w :=
  wpAnyH_ready hr (by simp) (AllReadyH.cons (held_at2 hd) h (AllReadyH.cons (held_at2 hd2) h2 AllReadyH.nil))
/-- the kinds: the headers' type, size and cells; where a header leads; the inner elements' type, size and cells -/
structure NK (H β : Type) where
  e : TypeId
  size : Nat
  enc : H → List Value
  A : H → Option Addr
  n : H → Nat
  c : H → Nat
  e2 : TypeId
  size2 : Nat
  enc2 : β → List Value
theorem rowBs_nd (A : Option Addr) (c : Nat) : (rowBs A c).Nodup := by
  unfold rowBs; split
  · simp
  · split <;> simp
section
variable {H β : Type}
def NK.bs (K : NK H β) (h : H) : List Nat := rowBs (K.A h) (K.c h)
def NK.inner (K : NK H β) (w : World) (B : Nat) (x : H × List β) : Prop := FRow K.e2 K.size2 K.enc2 w B (K.A x.1) (K.n x.1) (K.c x.1) x.2
def NK.all (K : NK H β) (l : List (H × List β)) : List Nat := l.flatMap fun x => K.bs x.1
def NRow (K : NK H β) (w : World) (B : Nat) (A : Option Addr) (n c : Nat) (l : List (H × List β)) : Prop :=
  FRow K.e K.size K.enc w B A n c (l.map (·.1)) ∧ (∀ x ∈ l, K.inner w B x) ∧ (rowBs A c ++ K.all l).Nodup
variable {K : NK H β} {w w' w1 w2 : World} {B n c n' c' : Nat} {A A' : Option Addr} {l l' : List (H × List β)}
theorem NK.all_mem {b : Nat} : b ∈ K.all l ↔ ∃ x ∈ l, b ∈ K.bs x.1 := List.mem_flatMap
theorem NRow.len (h : NRow K w B A n c l) : l.length = n := by have := h.1.len; simpa using this
theorem NRow.le (h : NRow K w B A n c l) : n ≤ c := h.1.le
theorem NRow.any0 (K : NK H β) (w : World) (B : Nat) (A : Option Addr) : NRow K w B A 0 0 [] := ⟨FRow.any0 _ _ _ _ _ _, (fun x hx => absurd hx (by simp)), by simp [rowBs_zero, NK.all]⟩
theorem NRow.allb (h : NRow K w B A n c l) : ∀ b ∈ K.all l, B ≤ b ∧ b < w.heap.size := fun b hb => by
  obtain ⟨x, hx, hbx⟩ := NK.all_mem.1 hb
  exact (h.2.1 x hx).base b hbx
theorem NRow.base (h : NRow K w B A n c l) : ∀ b ∈ rowBs A c ++ K.all l, B ≤ b ∧ b < w.heap.size := fun b hb => by
  rcases List.mem_append.1 hb with hb | hb
  · exact h.1.base b hb
  · exact h.allb b hb
theorem NRow.loc (h : NRow K w B A n c l) (hb : ∀ b ∈ rowBs A c ++ K.all l, w'.heap[b]? = w.heap[b]?) : NRow K w' B A n c l :=
  ⟨h.1.loc fun b hm => hb b (List.mem_append_left _ hm), fun x hx => (h.2.1 x hx).loc fun b hm => hb b (List.mem_append_right _ (NK.all_mem.2 ⟨x, hx, hm⟩)), h.2.2⟩
theorem NRow.chg {bs : List Nat} (h : NRow K w B A n c l) (hc : Chg bs w w') (hd : ∀ b ∈ rowBs A c ++ K.all l, b ∉ bs) : NRow K w' B A n c l :=
  h.loc fun b hb => hc.block b (h.base b hb).2 (hd b hb)
theorem NRow.below (h : NRow K w B A n c l) (hb : Below w.heap.size w w') : NRow K w' B A n c l := h.loc fun b hm => hb.block b (h.base b hm).2
theorem NRow.re {B' : Nat} (h : NRow K w B A n c l) (hB : ∀ b ∈ rowBs A c ++ K.all l, B' ≤ b) : NRow K w B' A n c l :=
  ⟨h.1.re fun b hm => hB b (List.mem_append_left _ hm), fun x hx => (h.2.1 x hx).re fun b hm => hB b (List.mem_append_right _ (NK.all_mem.2 ⟨x, hx, hm⟩)), h.2.2⟩
theorem NRow.lower {B' : Nat} (h : NRow K w B A n c l) (hB : B' ≤ B) : NRow K w B' A n c l := h.re fun b hb => Nat.le_trans hB (h.base b hb).1
/-- the row of headers is another one now: it lies where the old one lay, or in new memory -/
theorem NRow.turn (h1 : FRow K.e K.size K.enc w' B A' n' c' (l'.map (·.1))) (hc : Chg (rowBs A c) w w') (hx : ∀ b ∈ rowBs A' c', b ∈ rowBs A c ∨ w.heap.size ≤ b) (hi : ∀ x ∈ l', K.inner w B x) (hd : (rowBs A c ++ K.all l').Nodup) : NRow K w' B A' n' c' l' := by
  rw [List.nodup_append] at hd
  obtain ⟨d1, d2, d3⟩ := hd
  refine ⟨h1, fun x hm => FRow.chg (hi x hm) hc fun b hb hb2 => d3 b hb2 b (NK.all_mem.2 ⟨x, hm, hb⟩) rfl, ?_⟩
  rw [List.nodup_append]
  refine ⟨rowBs_nd _ _, d2, fun a ha b hb e => ?_⟩
  subst e
  rcases hx a ha with h | h
  · exact d3 a h a hb rfl
  · obtain ⟨x, hm, hbx⟩ := NK.all_mem.1 hb
    have := ((hi x hm).base a hbx).2
    omega
/-- a header with its row is put behind -/
theorem NRow.push {x : H × List β} (h : NRow K w B A n c l) (hx : K.inner w B x) (hap : ∀ b ∈ K.bs x.1, b ∉ rowBs A c ++ K.all l) :
    (∀ y ∈ l ++ [x], K.inner w B y) ∧ (rowBs A c ++ K.all (l ++ [x])).Nodup := by
  refine ⟨fun y hy => ?_, ?_⟩
  · rcases List.mem_append.1 hy with hy | hy
    · exact h.2.1 y hy
    · obtain rfl : y = x := by simpa using hy
      exact hx
  · have e : rowBs A c ++ K.all (l ++ [x]) = (rowBs A c ++ K.all l) ++ K.bs x.1 := by simp [NK.all]
    rw [e, List.nodup_append]
    exact ⟨h.2.2, rowBs_nd _ _, fun a ha b hb e => hap b hb (e ▸ ha)⟩
theorem NRow.perm {l2 : List (H × List β)} (hp : l2.Perm l') (hd : (rowBs A c ++ K.all l').Nodup) : (rowBs A c ++ K.all l2).Nodup :=
  (List.Perm.append_left _ (hp.flatMap_right _)).nodup_iff.2 hd
theorem flatMap_sublist {α γ : Type} (f : α → List γ) : ∀ {a b : List α}, a.Sublist b → (a.flatMap f).Sublist (b.flatMap f)
  | _, _, .slnil => by simp
  | _, _, .cons x h => (flatMap_sublist f h).trans (by rw [List.flatMap_cons]; exact List.sublist_append_right _ _)
  | _, _, .cons_cons x h => by rw [List.flatMap_cons, List.flatMap_cons]; exact (flatMap_sublist f h).append_left _
theorem NRow.sub {l2 : List (H × List β)} (hp : l2.Sublist l') (hd : (rowBs A c ++ K.all l').Nodup) : (rowBs A c ++ K.all l2).Nodup :=
  List.Nodup.sublist ((flatMap_sublist _ hp).append_left _) hd
/-- the inner row of element i has become another one, and the header says so -/
theorem NRow.set_ (h : NRow K w B A n c l) {i : Nat} (hi : i < l.length) {x' : H × List β} (hr : K.inner w1 B x') (hc : Chg (K.bs l[i].1) w w1)
    (hx : ∀ b ∈ K.bs x'.1, b ∈ K.bs l[i].1 ∨ w.heap.size ≤ b) (ho : FRow K.e K.size K.enc w2 B A n c ((l.set i x').map (·.1))) (hc2 : Chg (rowBs A c) w1 w2) : NRow K w2 B A n c (l.set i x') := by
  obtain ⟨h1, h2, h3⟩ := h
  have hil : l[i] ∈ l := List.getElem_mem hi
  have hsp : l = l.take i ++ l[i] :: l.drop (i + 1) := by simp
  have hst : l.set i x' = l.take i ++ x' :: l.drop (i + 1) := by rw [List.set_eq_take_append_cons_drop, if_pos hi]
  have hp1 : (l[i] :: (l.take i ++ l.drop (i + 1))).Perm l := by
    refine List.Perm.trans List.perm_middle.symm ?_
    rw [← hsp]
  have hp2 : (l.set i x').Perm (x' :: (l.take i ++ l.drop (i + 1))) := by rw [hst]; exact List.perm_middle
  have hnd := NRow.perm hp1 h3
  have hall : K.all (l[i] :: (l.take i ++ l.drop (i + 1))) = K.bs l[i].1 ++ K.all (l.take i ++ l.drop (i + 1)) := by simp [NK.all]
  have hall' : K.all (x' :: (l.take i ++ l.drop (i + 1))) = K.bs x'.1 ++ K.all (l.take i ++ l.drop (i + 1)) := by simp [NK.all]
  rw [hall, List.nodup_append, List.nodup_append] at hnd
  obtain ⟨d1, ⟨d2, d3, d4⟩, d5⟩ := hnd
  have hrest : ∀ y ∈ l.take i ++ l.drop (i + 1), y ∈ l := fun y hy => by
    rcases List.mem_append.1 hy with hy | hy
    · exact List.mem_of_mem_take hy
    · exact List.mem_of_mem_drop hy
  have hinn : ∀ y ∈ l.set i x', K.inner w1 B y := fun y hy => by
    rcases List.mem_cons.1 (hp2.mem_iff.1 hy) with rfl | hy
    · exact hr
    · refine FRow.chg (h2 y (hrest y hy)) hc fun b hb hb2 => d4 b hb2 b (NK.all_mem.2 ⟨y, hy, hb⟩) rfl
  have hndup : (rowBs A c ++ K.all (l.set i x')).Nodup := by
    refine NRow.perm hp2 ?_
    rw [hall', List.nodup_append, List.nodup_append]
    refine ⟨d1, ⟨rowBs_nd _ _, d3, fun a ha b hb e => ?_⟩, fun a ha b hb e => ?_⟩
    · subst e
      obtain ⟨y, hy, hby⟩ := NK.all_mem.1 hb
      rcases hx a ha with hh | hh
      · exact d4 a hh a hb rfl
      · have := ((h2 y (hrest y hy)).base a hby).2; omega
    · subst e
      rcases List.mem_append.1 hb with hb | hb
      · rcases hx a hb with hh | hh
        · exact d5 a ha a (List.mem_append_left _ hh) rfl
        · have := (h1.base a ha).2; omega
      · exact d5 a ha a (List.mem_append_right _ hb) rfl
  exact NRow.turn ho hc2 (fun b hb => .inl hb) hinn hndup
/-- the header of element i is another one, that leads to the same row -/
theorem NRow.head (h : NRow K w B A n c l) {i : Nat} (hi : i < l.length) {h' : H} (hA : K.A h' = K.A l[i].1) (hn : K.n h' = K.n l[i].1) (hcc : K.c h' = K.c l[i].1)
    (ho : FRow K.e K.size K.enc w2 B A n c ((l.set i (h', l[i].2)).map (·.1))) (hc2 : Chg (rowBs A c) w w2) : NRow K w2 B A n c (l.set i (h', l[i].2)) := by
  refine h.set_ hi ?_ (Chg.refl _ _) ?_ ho hc2
  · have := h.2.1 l[i] (List.getElem_mem hi)
    unfold NK.inner at this ⊢
    simp only
    rw [hA, hn, hcc]; exact this
  · intro b hb
    left
    unfold NK.bs at hb ⊢
    simp only at hb
    rwa [hA, hcc] at hb
/-- what is owned so is owned as the claims read it -/
theorem NRow.osl {γ : Type} {O : OR γ} {f : H × List β → γ} (hE : Enc K.size K.enc) (h : NRow K w B A n c l) (hO : ∀ x ∈ l, O w (K.enc x.1) (f x) (if K.n x.1 = 0 then [] else K.bs x.1)) :
    ∃ bs, OSl K.e K.size O w A n (l.map f) bs ∧ bs.Nodup ∧ ∀ b ∈ bs, B ≤ b := by
  have hlen := h.len
  rcases Nat.eq_zero_or_pos n with rfl | hn
  · exact ⟨[], OSl.zero (by simpa using hlen), List.nodup_nil, fun b hb => by cases hb⟩
  · obtain ⟨g, hA, hB, hg, hr, cur, hcur, hs, ht⟩ := h.1.row (by have := h.1.le; omega)
    have hnd := h.2.2
    have hbase := h.base
    rw [hr] at hnd hbase
    have hsub : (l.map fun x => if K.n x.1 = 0 then [] else K.bs x.1).flatten.Sublist (K.all l) := by
      unfold NK.all
      rw [List.flatMap_def]
      clear hbase hnd hcur hr hA hlen hO h ht
      induction l with
      | nil => simp
      | cons x l ih =>
        simp only [List.map_cons, List.flatten_cons]
        refine List.Sublist.append ?_ ih
        split
        · exact List.nil_sublist _
        · exact List.Sublist.refl _
    refine ⟨g :: (l.map fun x => if K.n x.1 = 0 then [] else K.bs x.1).flatten, ⟨by simpa using hlen, .inr ⟨g, _, hA, ⟨cur, hcur, by rw [hs]; exact Nat.mul_le_mul_right _ h.1.le, by simpa using hlen, by simp [hlen], fun i hi hik => ⟨K.enc (l[i]'(by simpa using hi)).1, hE.len _, fun j u hj => ?_, ?_⟩⟩, rfl⟩⟩, ?_, fun b hb => ?_⟩
    · have hi' : i < l.length := by simpa using hi
      have hj' : j < K.size := by rw [← hE.len l[i].1]; exact (List.getElem?_eq_some_iff.1 hj).1
      have := h.1.curget hE ht (i := i) (j := j) (by simpa using hi') hj'
      rw [this]
      simpa using hj
    · have hi' : i < l.length := by simpa using hi
      have e : ((l.map fun x => if K.n x.1 = 0 then [] else K.bs x.1).getD i []) = if K.n l[i].1 = 0 then [] else K.bs l[i].1 := by
        rw [List.getD_eq_getElem?_getD, List.getElem?_map, List.getElem?_eq_getElem hi']; rfl
      rw [e]
      have := hO l[i] (List.getElem_mem hi')
      simpa using this
    · exact List.Nodup.sublist (hsub.cons_cons g) hnd
    · exact (hbase b (by
        rcases List.mem_cons.1 hb with rfl | hb
        · simp
        · simp [hsub.subset hb])).1
theorem NRow.fil (h : NRow K w B A n c l) (i : Nat) (hi : i < l.length) : K.inner w B l[i] := h.2.1 _ (List.getElem_mem hi)
/-- a part of the elements, in place -/
theorem NRow.part (h : NRow K w B A n c l) (hp : l'.Sublist l) (h1 : FRow K.e K.size K.enc w' B A' n' c' (l'.map (·.1))) (hc : Chg (rowBs A c) w w') (hx : ∀ b ∈ rowBs A' c', b ∈ rowBs A c ∨ w.heap.size ≤ b) : NRow K w' B A' n' c' l' :=
  NRow.turn h1 hc hx (fun x hm => h.2.1 x (hp.subset hm)) (NRow.sub hp h.2.2)
end
end Go.Proofs.Ytjobgnioehkomaa
