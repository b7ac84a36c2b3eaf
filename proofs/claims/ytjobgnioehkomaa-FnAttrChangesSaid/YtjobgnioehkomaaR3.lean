/-
  PLAIN: the attributes that differ: whichever file comes first; an attribute set.
-/
import Derived.WalkKit
import Derived.Lib.Hide
import Derived.Lib.SlicesCompact
import Derived.Test.YtjobgnioehkomaaLib
import Derived.Test.YtjobgnioehkomaaOwn
import Derived.Test.YtjobgnioehkomaaRow
import Derived.Test.YtjobgnioehkomaaC1
import Derived.Test.YtjobgnioehkomaaC2
import Derived.Test.YtjobgnioehkomaaC3
import Derived.Test.YtjobgnioehkomaaC4
import Derived.Test.YtjobgnioehkomaaD1
import Derived.Test.YtjobgnioehkomaaD7
import Derived.Test.YtjobgnioehkomaaD8
import Derived.Test.YtjobgnioehkomaaQ5
import Derived.Test.YtjobgnioehkomaaP4
import Derived.Test.YtjobgnioehkomaaR0
import Derived.Test.YtjobgnioehkomaaR1
import Derived.Test.YtjobgnioehkomaaR2
import Derived.Test.YtjobgnioehkomaaT2
import Derived.Test.YtjobgnioehkomaaS3
import Derived.Test.YtjobgnioehkomaaRows
namespace Go.Proofs.Ytjobgnioehkomaa
open Go.RowKit
set_option linter.unusedVariables false
theorem ascS_nil : AscS [] := List.Pairwise.nil
theorem ascS_one (x : ByteArray) : AscS [x] := List.pairwise_singleton _ _
theorem chg_asc (a b : Fil) : AscS (chgL a b) := (putAll_ok _ [] ascS_nil).1
theorem chg_mem {a b : Fil} {x : ByteArray} : x ∈ chgL a b ↔ x ∈ allN a b ∧ difA a.attrs b.attrs x = true := by
  unfold chgL
  rw [(putAll_ok _ [] ascS_nil).2]
  simp [List.mem_filter]
theorem ascS_ext {l m : List ByteArray} (h1 : AscS l) (h2 : AscS m) (h : ∀ x, x ∈ l ↔ x ∈ m) : l = m := by
  have e : l.map keyB = m.map keyB := asc_ext _ _ h1 h2 fun x => by
    simp only [List.mem_map]
    constructor
    · rintro ⟨y, hy, rfl⟩; exact ⟨y, (h y).1 hy, rfl⟩
    · rintro ⟨y, hy, rfl⟩; exact ⟨y, (h y).2 hy, rfl⟩
  clear h1 h2 h
  induction l generalizing m with
  | nil => cases m with
    | nil => rfl
    | cons y m => simp at e
  | cons x l ih => cases m with
    | nil => simp at e
    | cons y m =>
      simp only [List.map_cons, List.cons.injEq] at e
      rw [key_inj e.1, ih e.2]
theorem difA_comm (a b : List Atr) (x : ByteArray) : difA a b x = difA b a x := by
  unfold difA
  congr 1
  rw [Bool.eq_iff_iff, Vl.eqb_iff, Vl.eqb_iff]
  exact eq_comm
theorem chg_comm (a b : Fil) : chgL a b = chgL b a := ascS_ext (chg_asc a b) (chg_asc b a) fun x => by
  rw [chg_mem, chg_mem, difA_comm]
  unfold allN
  simp only [List.mem_append]
  rw [or_comm]
theorem chg_self (a : Fil) : chgL a a = [] := ascS_ext (chg_asc a a) ascS_nil fun x => by
  rw [chg_mem]
  constructor
  · rintro ⟨_, h⟩
    unfold difA at h
    rw [Vl.eqb_iff.2 rfl] at h
    cases h
  · intro h; cases h
theorem getA_out {l : List Atr} {nm : ByteArray} (h : nm ∉ l.map (·.name)) : getA l nm = Vl.zero := by
  unfold getA
  rw [List.find?_eq_none.2 fun a ha he => h (List.mem_map.2 ⟨a, ha, eqS_iff.1 he⟩)]
  rfl
theorem chg_set (f : Fil) (nm : ByteArray) (v : Vl) : chgL f (setA f nm v) = if difA f.attrs (setA f nm v).attrs nm = true then [nm] else [] := by
  have hother : ∀ x, x ≠ nm → difA f.attrs (setA f nm v).attrs x = false := fun x hx => by
    have he : eqS x nm = false := by
      cases h : eqS x nm with
      | false => rfl
      | true => exact absurd (eqS_iff.1 h) hx
    unfold difA
    rw [show getA (setA f nm v).attrs x = getA f.attrs x from setL_other _ _ he, Vl.eqb_iff.2 rfl]
    rfl
  split
  · rename_i hd
    refine ascS_ext (chg_asc _ _) (ascS_one nm) fun x => ?_
    rw [chg_mem, List.mem_singleton]
    constructor
    · rintro ⟨_, h⟩
      by_cases hx : x = nm
      · exact hx
      · rw [hother x hx] at h; cases h
    · rintro rfl
      refine ⟨?_, hd⟩
      unfold allN
      by_cases h1 : x ∈ f.attrs.map (·.name)
      · exact List.mem_append_left _ h1
      · by_cases h2 : x ∈ (setA f x v).attrs.map (·.name)
        · exact List.mem_append_right _ h2
        · unfold difA at hd
          rw [getA_out h1, getA_out h2, Vl.eqb_iff.2 rfl] at hd
          cases hd
  · rename_i hd
    refine ascS_ext (chg_asc _ _) ascS_nil fun x => ?_
    rw [chg_mem]
    constructor
    · rintro ⟨_, h⟩
      by_cases hx : x = nm
      · subst hx; exact absurd h hd
      · rw [hother x hx] at h; cases h
    · intro h; cases h
end Go.Proofs.Ytjobgnioehkomaa
