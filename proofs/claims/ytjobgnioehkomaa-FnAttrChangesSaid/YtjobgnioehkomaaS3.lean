/-
  PLAIN: the attribute that was set, and the others.
-/
import Derived.WalkKit
import Derived.Lib.Hide
import Derived.Test.YtjobgnioehkomaaLib
import Derived.Test.YtjobgnioehkomaaC1
import Derived.Test.YtjobgnioehkomaaC2
import Derived.Test.YtjobgnioehkomaaC4
import Derived.Test.YtjobgnioehkomaaT2
import Derived.Test.YtjobgnioehkomaaD7
import Derived.Test.YtjobgnioehkomaaD8
namespace Go.Proofs.Ytjobgnioehkomaa
set_option linter.unusedVariables false
theorem getA_drop (l : List Atr) (nm : ByteArray) : getA (dropA l nm) nm = Vl.zero := by
  unfold getA dropA
  rw [List.find?_eq_none.2 (by intro x hx; have := (List.mem_filter.1 hx).2; simpa using this)]; rfl
theorem getA_drop_ne (l : List Atr) {nm k : ByteArray} (h : eqS k nm = false) : getA (dropA l nm) k = getA l k := by
  unfold getA dropA
  congr 2
  induction l with
  | nil => rfl
  | cons a l ih =>
    by_cases ha : eqS a.name nm = true
    · have hk : eqS a.name k = false := by
        cases hq : eqS a.name k with
        | false => rfl
        | true => rw [eqS_iff] at ha hq; subst ha; subst hq; rw [eqS_self] at h; cases h
      simp [ha, hk, ih]
    · have ha' : eqS a.name nm = false := by simpa using ha
      simp [ha', List.find?_cons, ih]
theorem getA_app {l r : List Atr} {k : ByteArray} (h : ∀ a ∈ l, eqS a.name k = false) : getA (l ++ r) k = getA r k := by
  unfold getA
  rw [List.find?_append, List.find?_eq_none.2 (by intro x hx; simp [h x hx])]; rfl
theorem drop_ne (l : List Atr) (nm : ByteArray) : ∀ a ∈ dropA l nm, eqS a.name nm = false := by
  intro a ha
  have := (List.mem_filter.1 ha).2
  simpa using this
theorem getA_ins_self (r : List Atr) (nm : ByteArray) (v : Vl) (i : Nat) (h : ∀ a ∈ r, eqS a.name nm = false) : getA (insL r ⟨nm, v⟩ i) nm = v := by
  unfold insL
  rw [getA_app (fun a ha => h a (List.mem_of_mem_take ha))]
  unfold getA; rw [List.find?_cons_of_pos (by exact eqS_self _)]; rfl
theorem getA_ins_ne (r : List Atr) {nm k : ByteArray} (v : Vl) (i : Nat) (h : eqS nm k = false) : getA (insL r ⟨nm, v⟩ i) k = getA r k := by
  unfold insL getA
  congr 2
  conv => rhs; rw [← List.take_append_drop i r]
  rw [List.find?_append, List.find?_append, List.find?_cons_of_neg (by simp [h])]
theorem eqS_comm (a b : ByteArray) : eqS a b = eqS b a := by
  cases h : eqS b a with
  | true => rw [eqS_iff] at h ⊢; exact h.symm
  | false => cases h2 : eqS a b with
    | false => rfl
    | true => rw [eqS_iff] at h2; subst h2; rw [eqS_self] at h; cases h
theorem setL_self (l : List Atr) (nm : ByteArray) (v : Vl) : getA (setL l nm v) nm = if v.kind == 0 then Vl.zero else v := by
  unfold setL
  split
  · exact getA_drop _ _
  · exact getA_ins_self _ _ _ _ (drop_ne _ _)
theorem setL_other (l : List Atr) {nm k : ByteArray} (v : Vl) (h : eqS k nm = false) : getA (setL l nm v) k = getA l k := by
  unfold setL
  split
  · exact getA_drop_ne _ h
  · rw [getA_ins_ne _ _ _ (by rw [eqS_comm]; exact h), getA_drop_ne _ h]
end Go.Proofs.Ytjobgnioehkomaa
