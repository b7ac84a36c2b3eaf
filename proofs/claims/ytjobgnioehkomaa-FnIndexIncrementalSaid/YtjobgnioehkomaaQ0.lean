/-
  PLAIN: what an index becomes when a file is put into it or taken out of it.
-/
import Derived.WalkKit
import Derived.Lib.Hide
import Derived.Test.YtjobgnioehkomaaLib
import Derived.Test.YtjobgnioehkomaaOwn
import Derived.Test.YtjobgnioehkomaaRow
import Derived.Test.YtjobgnioehkomaaC1
import Derived.Test.YtjobgnioehkomaaC2
import Derived.Test.YtjobgnioehkomaaC3
import Derived.Test.YtjobgnioehkomaaD1
import Derived.Test.YtjobgnioehkomaaD3
import Derived.Test.YtjobgnioehkomaaH1
import Derived.Test.YtjobgnioehkomaaD7
import Derived.Test.YtjobgnioehkomaaM2
import Derived.Test.YtjobgnioehkomaaSz
import Derived.Test.YtjobgnioehkomaaRows
namespace Go.Proofs.Ytjobgnioehkomaa
open Go.RowKit
set_option linter.unusedVariables false
/-! ### taken out -/
def dropId (id : Int) (l : List Int) : List Int := l.filter fun x => !(x == id)
def dropP (nm : ByteArray) (v : Vl) (id : Int) (p : Pst) : Pst := if isPst nm v p then ⟨p.name, p.val, dropId id p.ids⟩ else p
def someIds (p : Pst) : Bool := !(p.ids.length == 0)
def stepR (id : Int) (l : List Pst) (a : Atr) : List Pst := (l.map (dropP a.name a.val id)).filter someIds
def remX (l : List Pst) (f : Fil) : List Pst := f.attrs.foldl (stepR f.id) l
def mapR (id : Int) (l : List Pst) (ys : List Atr) : List Pst := ys.foldl (fun l a => l.map (dropP a.name a.val id)) l
theorem dropP_none {nm : ByteArray} {v : Vl} {id : Int} {p : Pst} (h : someIds p = false) : someIds (dropP nm v id p) = false := by
  unfold dropP; split
  · have h0 : p.ids = [] := by simpa [someIds] using h
    simp [someIds, dropId, h0]
  · exact h
theorem map_some (nm : ByteArray) (v : Vl) (id : Int) : ∀ l : List Pst, ((l.filter someIds).map (dropP nm v id)).filter someIds = (l.map (dropP nm v id)).filter someIds
  | [] => rfl
  | p :: l => by
    have ih := map_some nm v id l
    cases h : someIds p with
    | true => simp only [List.filter_cons, List.map_cons, h, if_true, ih]
    | false =>
      have h2 := dropP_none (nm := nm) (v := v) (id := id) h
      simp only [List.filter_cons, List.map_cons, h, h2, Bool.false_eq_true, if_false, ih]
theorem stepR_some (id : Int) (ys : List Atr) : ∀ l : List Pst, ys.foldl (stepR id) (l.filter someIds) = (mapR id l ys).filter someIds := by
  induction ys with
  | nil => intro l; rfl
  | cons a ys ih =>
    intro l
    show ys.foldl (stepR id) (stepR id (l.filter someIds) a) = (mapR id (l.map (dropP a.name a.val id)) ys).filter someIds
    rw [← ih]
    unfold stepR
    rw [map_some]
theorem remX_eq (l : List Pst) (f : Fil) : remX l f = if f.attrs.length = 0 then l else (mapR f.id l f.attrs).filter someIds := by
  unfold remX
  split
  · rename_i h
    rw [List.eq_nil_of_length_eq_zero h]; rfl
  · rename_i h
    obtain ⟨a, ys, e⟩ : ∃ a ys, f.attrs = a :: ys := by
      cases hh : f.attrs with
      | nil => rw [hh] at h; exact absurd rfl h
      | cons a ys => exact ⟨a, ys, rfl⟩
    rw [e]
    show ys.foldl (stepR f.id) (stepR f.id l a) = _
    unfold stepR
    rw [show (List.foldl (fun l a => List.filter someIds (List.map (dropP a.name a.val f.id) l)) = List.foldl (stepR f.id)) from rfl, stepR_some]
    rfl
theorem dropP_ok {nm : ByteArray} {v : Vl} {id : Int} {p : Pst} {M : Nat} (h : p.ok M) : (dropP nm v id p).ok M := by
  unfold dropP; split
  · exact ⟨h.1, h.2.1, Nat.le_trans (List.length_filter_le _ _) h.2.2⟩
  · exact h
theorem dropP_cnt (nm : ByteArray) (v : Vl) (id : Int) (p : Pst) : (dropP nm v id p).cnt ≤ p.cnt := by
  unfold dropP; split
  · exact List.length_filter_le _ _
  · exact Nat.le_refl _
theorem sum_sub3 : ∀ {a b : List Nat}, a.Sublist b → a.sum ≤ b.sum
  | _, _, .slnil => Nat.le_refl _
  | _, _, .cons x h => by have := sum_sub3 h; simp only [List.sum_cons]; omega
  | _, _, .cons_cons x h => by have := sum_sub3 h; simp only [List.sum_cons]; omega
theorem sum_map_le {α : Type} {f g : α → Nat} (h : ∀ x, f x ≤ g x) : ∀ l : List α, (l.map f).sum ≤ (l.map g).sum
  | [] => Nat.le_refl _
  | x :: l => by have := sum_map_le h l; have := h x; simp only [List.map_cons, List.sum_cons]; omega
theorem stepR_cnt (id : Int) (a : Atr) (l : List Pst) : ((stepR id l a).map (·.cnt)).sum ≤ (l.map (·.cnt)).sum := by
  refine Nat.le_trans (sum_sub3 ((List.filter_sublist).map _)) ?_
  rw [List.map_map]
  exact sum_map_le (fun p => dropP_cnt _ _ _ p) l
theorem foldR_ind {C : List Pst → Prop} {id : Int} (h : ∀ l a, C l → C (stepR id l a)) : ∀ (ys : List Atr) (l : List Pst), C l → C (ys.foldl (stepR id) l)
  | [], l, hl => hl
  | a :: ys, l, hl => foldR_ind h ys _ (h l a hl)
theorem remX_cnt (l : List Pst) (f : Fil) : ((remX l f).map (·.cnt)).sum ≤ (l.map (·.cnt)).sum :=
  foldR_ind (C := fun m => (m.map (·.cnt)).sum ≤ (l.map (·.cnt)).sum) (fun m a hm => Nat.le_trans (stepR_cnt _ a m) hm) f.attrs l (Nat.le_refl _)
theorem stepR_len (id : Int) (a : Atr) (l : List Pst) : (stepR id l a).length ≤ l.length := Nat.le_trans (List.length_filter_le _ _) (by simp)
theorem remX_len (l : List Pst) (f : Fil) : (remX l f).length ≤ l.length :=
  foldR_ind (C := fun m => m.length ≤ l.length) (fun m a hm => Nat.le_trans (stepR_len _ a m) hm) f.attrs l (Nat.le_refl _)
theorem stepR_ok {id : Int} {a : Atr} {l : List Pst} {M : Nat} (h : ∀ p ∈ l, p.ok M) : ∀ p ∈ stepR id l a, p.ok M := fun p hp => by
  obtain ⟨q, hq, rfl⟩ := List.mem_map.1 (List.mem_filter.1 hp).1
  exact dropP_ok (h q hq)
theorem remX_ok {l : List Pst} {f : Fil} {M : Nat} (h : ∀ p ∈ l, p.ok M) : ∀ p ∈ remX l f, p.ok M :=
  foldR_ind (C := fun m => ∀ p ∈ m, p.ok M) (fun m a hm => stepR_ok hm) f.attrs l h
/-! ### put in -/
def geI (n x : Int) : Bool := decide (n ≤ x)
def putI (l : List Int) (n : Int) : List Int := if l[l.findIdx (geI n)]? = some n then l else insL l n (l.findIdx (geI n))
def gtP (nm : ByteArray) (v : Vl) (p : Pst) : Bool := Op.bytesLess nm.toList p.name.toList || (eqS p.name nm && decide (0 < cmpV p.val v))
def addA (id : Int) (l : List Pst) (a : Atr) : List Pst :=
  if h : l.findIdx (isPst a.name a.val) < l.length then l.set (l.findIdx (isPst a.name a.val)) ⟨(l[l.findIdx (isPst a.name a.val)]).name, (l[l.findIdx (isPst a.name a.val)]).val, putI (l[l.findIdx (isPst a.name a.val)]).ids id⟩
  else insL l ⟨a.name, a.val, [id]⟩ (l.findIdx (gtP a.name a.val))
def addX (l : List Pst) (f : Fil) : List Pst := f.attrs.foldl (addA f.id) l
def bldX (s : Sto) : List Pst := s.files.foldl addX []
theorem putI_len (l : List Int) (n : Int) : (putI l n).length ≤ l.length + 1 := by
  unfold putI; split
  · omega
  · rw [insL_len]; omega
/-- no list is longer than M -/
def Wide (M : Nat) (l : List Pst) : Prop := l.length ≤ M ∧ (∀ p ∈ l, p.ids.length ≤ M) ∧ (l.map (·.cnt)).sum ≤ M
theorem sum_set_le2 : ∀ (l : List Nat) (i x : Nat) (h : i < l.length), (l.set i x).sum + l[i] = l.sum + x
  | a :: l, 0, x, _ => by simp only [List.set_cons_zero, List.sum_cons, List.getElem_cons_zero]; omega
  | a :: l, i + 1, x, h => by
    have := sum_set_le2 l i x (by simpa using h)
    simp only [List.set_cons_succ, List.sum_cons, List.getElem_cons_succ]; omega
theorem insL_mem {α : Type} {l : List α} {x y : α} {k : Nat} (h : y ∈ insL l x k) : y ∈ l ∨ y = x := by
  unfold insL at h
  rcases List.mem_append.1 h with h | h
  · exact .inl (List.mem_of_mem_take h)
  · rcases List.mem_cons.1 h with h | h
    · exact .inr h
    · exact .inl (List.mem_of_mem_drop h)
theorem insL_sum {α : Type} (f : α → Nat) (l : List α) (x : α) (k : Nat) : ((insL l x k).map f).sum = (l.map f).sum + f x := by
  unfold insL
  have e : l.map f = (l.take k).map f ++ (l.drop k).map f := by rw [← List.map_append, List.take_append_drop]
  rw [List.map_append, List.map_cons, e, List.sum_append, List.sum_append, List.sum_cons]; omega
theorem addA_wide {M : Nat} {id : Int} {l : List Pst} {a : Atr} (h : Wide M l) : Wide (M + 1) (addA id l a) := by
  obtain ⟨h1, h2, h3⟩ := h
  unfold addA
  split
  · rename_i hi
    have hl := putI_len (l[l.findIdx (isPst a.name a.val)]).ids id
    have hm := h2 _ (List.getElem_mem hi)
    refine ⟨by rw [List.length_set]; omega, fun p hp => ?_, ?_⟩
    · rcases List.mem_or_eq_of_mem_set hp with hp | rfl
      · have := h2 p hp; omega
      · show (putI _ id).length ≤ _
        omega
    · rw [List.map_set]
      have := sum_set_le2 (l.map (·.cnt)) (l.findIdx (isPst a.name a.val)) (putI (l[l.findIdx (isPst a.name a.val)]).ids id).length (by simpa using hi)
      rw [List.getElem_map] at this
      have e : (l[l.findIdx (isPst a.name a.val)]).cnt = (l[l.findIdx (isPst a.name a.val)]).ids.length := rfl
      have e2 : ∀ (nm : ByteArray) (v : Vl) (x : List Int), (Pst.mk nm v x).cnt = x.length := fun _ _ _ => rfl
      rw [e2]
      omega
  · refine ⟨by rw [insL_len]; omega, fun p hp => ?_, ?_⟩
    · rcases insL_mem hp with hp | rfl
      · have := h2 p hp; omega
      · show 1 ≤ _
        omega
    · rw [insL_sum]
      have e2 : ∀ (nm : ByteArray) (v : Vl) (x : List Int), (Pst.mk nm v x).cnt = x.length := fun _ _ _ => rfl
      rw [e2]
      simp only [List.length_cons, List.length_nil]
      omega
theorem foldA_wide {id : Int} : ∀ (ys : List Atr) (M : Nat) (l : List Pst), Wide M l → Wide (M + ys.length) (ys.foldl (addA id) l)
  | [], M, l, h => h
  | a :: ys, M, l, h => by
    have := foldA_wide (id := id) ys (M + 1) _ (addA_wide (id := id) (a := a) h)
    rw [List.length_cons, show M + (ys.length + 1) = M + 1 + ys.length by omega]
    exact this
theorem addX_wide {M : Nat} {l : List Pst} {f : Fil} (h : Wide M l) : Wide (M + f.attrs.length) (addX l f) := foldA_wide f.attrs M l h
theorem Wide.le {M M' : Nat} {l : List Pst} (h : Wide M l) (hM : M ≤ M') : Wide M' l := ⟨Nat.le_trans h.1 hM, fun p hp => Nat.le_trans (h.2.1 p hp) hM, Nat.le_trans h.2.2 hM⟩
theorem foldX_wide : ∀ (fs : List Fil) (M : Nat) (l : List Pst), Wide M l → Wide (M + (fs.map (·.attrs.length)).sum) (fs.foldl addX l)
  | [], M, l, h => h
  | f :: fs, M, l, h => by
    have := foldX_wide fs _ _ (addX_wide (f := f) h)
    rw [List.map_cons, List.sum_cons, ← Nat.add_assoc]
    exact this
theorem bldX_wide (s : Sto) : Wide (s.files.map (·.attrs.length)).sum (bldX s) := by
  have := foldX_wide s.files 0 [] ⟨Nat.le_refl _, fun p hp => absurd hp (by simp), Nat.le_refl _⟩
  rw [Nat.zero_add] at this
  exact this
/-- names and texts stay short -/
def Nms (M : Nat) (l : List Pst) : Prop := ∀ p ∈ l, p.name.size ≤ M ∧ p.val.str.size ≤ M
theorem addA_nms {M : Nat} {id : Int} {l : List Pst} {a : Atr} (h : Nms M l) (ha : a.ok M) : Nms M (addA id l a) := fun p hp => by
  unfold addA at hp
  split at hp
  · rename_i hi
    rcases List.mem_or_eq_of_mem_set hp with hp | e
    · exact h p hp
    · have h9 := h _ (List.getElem_mem hi)
      rw [e]; exact h9
  · rcases insL_mem hp with hp | rfl
    · exact h p hp
    · exact ha
theorem foldA_nms {M : Nat} {id : Int} : ∀ (ys : List Atr) (l : List Pst), Nms M l → (∀ a ∈ ys, a.ok M) → Nms M (ys.foldl (addA id) l)
  | [], l, h, _ => h
  | a :: ys, l, h, ha => foldA_nms ys _ (addA_nms h (ha a (by simp))) fun b hb => ha b (by simp [hb])
theorem addX_nms {M : Nat} {l : List Pst} {f : Fil} (h : Nms M l) (hf : f.ok M) : Nms M (addX l f) := foldA_nms f.attrs l h hf.2
theorem foldX_nms {M : Nat} : ∀ (fs : List Fil) (l : List Pst), Nms M l → (∀ f ∈ fs, f.ok M) → Nms M (fs.foldl addX l)
  | [], l, h, _ => h
  | f :: fs, l, h, hf => foldX_nms fs _ (addX_nms h (hf f (by simp))) fun b hb => hf b (by simp [hb])
theorem psts_ok {M : Nat} {l : List Pst} (h : Wide M l) (hn : Nms M l) : ∀ p ∈ l, p.ok M := fun p hp => ⟨(hn p hp).1, (hn p hp).2, h.2.1 p hp⟩
theorem psts_nms {M : Nat} {l : List Pst} (h : ∀ p ∈ l, p.ok M) : Nms M l := fun p hp => ⟨(h p hp).1, (h p hp).2.1⟩
end Go.Proofs.Ytjobgnioehkomaa
