/-
  WHAT A SIZE THAT FITS SAYS OF THE PARTS: plain lemmas.
-/
import Derived.WalkKit
import Derived.Lib.Hide
import Derived.Test.YtkjhfblipmagoaaLib
import Derived.Test.YtkjhfblipmagoaaOwn
import Derived.Test.YtkjhfblipmagoaaC1
import Derived.Test.YtkjhfblipmagoaaC2
import Derived.Test.YtkjhfblipmagoaaT1
import Derived.Test.YtkjhfblipmagoaaT2
import Derived.Test.YtkjhfblipmagoaaT3
import Derived.Test.YtkjhfblipmagoaaT4
import Derived.Test.YtkjhfblipmagoaaT5
import Derived.Test.YtkjhfblipmagoaaRows
namespace Go.Proofs.Ytkjhfblipmagoaa
open Go.RowKit
set_option linter.unusedVariables false
/-- marks the condition that a region's rounds carry -/
def Tok (_ : World) : Prop := True
theorem szS_len_le {α : Type} {f : α → Int} {l : List α} (h0 : ∀ x, 0 ≤ f x) : (l.length : Int) ≤ szS f l := by
  have h1 := sumTo_mono (l := l) h0 l.length 0 (by omega)
  rw [sumTo_zero, Nat.zero_add] at h1
  unfold szS; omega
theorem szS_mem {α : Type} {f : α → Int} {l : List α} (h0 : ∀ x, 0 ≤ f x) {y : α} (hy : y ∈ l) : f y ≤ szS f l := by
  obtain ⟨i, hi, rfl⟩ := List.getElem_of_mem hy
  have h1 := sumTo_succ f hi
  have h2 := sumTo_mono (l := l) h0 i 0 (by omega)
  have h3 := sumTo_mono (l := l) h0 (l.length - (i + 1)) (i + 1) (by omega)
  rw [sumTo_zero, Nat.zero_add] at h2
  rw [show i + 1 + (l.length - (i + 1)) = l.length from by omega] at h3
  unfold szS; omega
theorem Vl.okB {v : Vl} (h : v.sz ≤ 1048576) : v.str.size ≤ 1073741824 := by unfold Vl.sz at h; omega
theorem Fld.okB {f : Fld} (h : f.sz ≤ 1048576) : f.ok 1073741824 := by unfold Fld.sz at h; unfold Fld.ok; omega
theorem flds_okB {l : List Fld} (h : szS Fld.sz l ≤ 1048576) : l.length ≤ 1048576 ∧ ∀ y ∈ l, y.ok 1073741824 :=
  ⟨by have := szS_len_le (l := l) Fld.sz_nn; omega, fun y hy => Fld.okB (by have := szS_mem Fld.sz_nn hy; omega)⟩
theorem Atr.okB {a : Atr} (h : a.sz ≤ 1048576) : a.ok 1073741824 := by unfold Atr.sz at h; exact ⟨by omega, by omega⟩
theorem atrs_okB {l : List Atr} (h : szS Atr.sz l ≤ 1048576) : l.length ≤ 1048576 ∧ ∀ y ∈ l, y.ok 1073741824 :=
  ⟨by have := szS_len_le (l := l) Atr.sz_nn; omega, fun y hy => Atr.okB (by have := szS_mem Atr.sz_nn hy; omega)⟩
theorem Fil.okB {f : Fil} (h : f.sz ≤ 1048576) : f.ok 1073741824 ∧ f.attrs.length ≤ 1048576 := by
  obtain ⟨h1, h2⟩ := atrs_okB (show szS Atr.sz f.attrs ≤ 1048576 from h)
  exact ⟨⟨by omega, h2⟩, h1⟩
theorem fils_okB {l : List Fil} (h : szS Fil.sz l ≤ 1048576) : l.length ≤ 1048576 ∧ ∀ y ∈ l, y.ok 1073741824 :=
  ⟨by have := szS_len_le (l := l) Fil.sz_nn; omega, fun y hy => (Fil.okB (by have := szS_mem Fil.sz_nn hy; omega)).1⟩
theorem Sto.sz_nn (s : Sto) : 0 ≤ s.sz := by
  have h1 := szS_nn Fld.sz_nn s.schema
  have h2 := szS_nn Fil.sz_nn s.files
  unfold Sto.sz; omega
theorem Sto.okB {s : Sto} (h : s.sz ≤ 1048576) : s.ok 1073741824 ∧ s.schema.length ≤ 1048576 ∧ s.files.length ≤ 1048576 := by
  have n1 := szS_nn Fld.sz_nn s.schema
  have n2 := szS_nn Fil.sz_nn s.files
  unfold Sto.sz at h
  obtain ⟨h1, h2⟩ := flds_okB (show szS Fld.sz s.schema ≤ 1048576 by omega)
  obtain ⟨h3, h4⟩ := fils_okB (show szS Fil.sz s.files ≤ 1048576 by omega)
  exact ⟨⟨by omega, h2, by omega, h4⟩, h1, h3⟩
theorem cnt_szS {α : Type} {f : α → Int} {c : α → Nat} (h0 : ∀ x, 0 ≤ f x) (hc : ∀ x, (c x : Int) ≤ f x) (l : List α) : ((l.map c).sum : Int) ≤ szS f l := by
  have key : ∀ k, k ≤ l.length → (((l.take k).map c).sum : Int) ≤ sumTo f l k := by
    intro k
    induction k with
    | zero => intro _; simp [sumTo_zero]
    | succ k ih =>
      intro hk
      rw [List.take_succ_eq_append_getElem (by omega), List.map_append, List.sum_append, sumTo_succ f (by omega)]
      have := ih (by omega)
      have := hc l[k]
      simp only [List.map_cons, List.map_nil, List.sum_cons, List.sum_nil]
      omega
  have := key l.length (Nat.le_refl _)
  rw [List.take_length] at this
  unfold szS; omega
theorem fils_cntB {l : List Fil} (h : szS Fil.sz l ≤ 1048576) : (l.map (·.attrs.length)).sum ≤ 1048576 := by
  have := cnt_szS (c := fun f : Fil => f.attrs.length) Fil.sz_nn (fun f => by
    have := szS_len_le (l := f.attrs) Atr.sz_nn
    unfold Fil.sz; omega) l
  omega
theorem Sto.cntB {s : Sto} (h : s.sz ≤ 1048576) : (s.files.map (·.attrs.length)).sum ≤ 1048576 := by
  have n1 := szS_nn Fld.sz_nn s.schema
  unfold Sto.sz at h
  exact fils_cntB (by omega)
theorem psts_cntB {l : List Pst} (h : szS Pst.sz l ≤ 1048576) : (l.map (·.ids.length)).sum ≤ 1048576 := by
  have := cnt_szS (c := fun p : Pst => p.ids.length) Pst.sz_nn (fun p => by unfold Pst.sz; omega) l
  omega
theorem Pst.okB {p : Pst} (h : p.sz ≤ 1048576) : p.ok 1073741824 := by unfold Pst.sz at h; exact ⟨by omega, by omega, by omega⟩
theorem psts_okB {l : List Pst} (h : szS Pst.sz l ≤ 1048576) : l.length ≤ 1048576 ∧ ∀ y ∈ l, y.ok 1073741824 :=
  ⟨by have := szS_len_le (l := l) Pst.sz_nn; omega, fun y hy => Pst.okB (by have := szS_mem Pst.sz_nn hy; omega)⟩
end Go.Proofs.Ytkjhfblipmagoaa
