/-
  CONTRACTS: AddField.
-/
import Derived.WalkKit
import Derived.WalkSpells
import Derived.WalkLawsBesides
import Derived.Lib.Hide
import Derived.Handy
import Derived.StillTailTactics
import Derived.Deep.Light
import Derived.Deep.QuietTactic
import Derived.BigQuiet
import Derived.Deep.RegionHeld3
import Derived.Deep.RegionLaw
import Derived.Sort.Walk0
import Derived.Test.YtjobgnioehkomaaLib
import Derived.Test.YtjobgnioehkomaaOwn
import Derived.Test.YtjobgnioehkomaaRow
import Derived.Test.YtjobgnioehkomaaRaw
import Derived.Test.YtjobgnioehkomaaHld
import Derived.Test.YtjobgnioehkomaaM0
import Derived.Test.YtjobgnioehkomaaC1
import Derived.Test.YtjobgnioehkomaaC2
import Derived.Test.YtjobgnioehkomaaT1
import Derived.Test.YtjobgnioehkomaaT2
import Derived.Test.YtjobgnioehkomaaT3
import Derived.Test.YtjobgnioehkomaaT4
import Derived.Test.YtjobgnioehkomaaC3
import Derived.Test.YtjobgnioehkomaaC4
import Derived.Test.YtjobgnioehkomaaC5
import Derived.Test.YtjobgnioehkomaaD1
import Derived.Test.YtjobgnioehkomaaD3
import Derived.Test.YtjobgnioehkomaaD4
import Derived.Test.YtjobgnioehkomaaH1
import Derived.Test.YtjobgnioehkomaaI1
import Derived.Test.YtjobgnioehkomaaRows
namespace Go.Proofs.Ytjobgnioehkomaa
open Go.RowKit
set_option linter.unusedVariables false
set_option maxRecDepth 100000
theorem bless_trans {x y z : List UInt8} (h1 : Op.bytesLess x y = true) (h2 : Op.bytesLess y z = true) : Op.bytesLess x z = true := by
  rw [bytesLess_eq, decide_eq_true_eq] at *
  exact List.lt_trans h1 h2
theorem Src.take {α : Type} {size m k : Nat} {enc : α → List Value} {w : World} {A : Option Addr} {l : List α} (hE : Enc size enc) (h : Src size enc w A m l) (hk : k ≤ m) : Src size enc w A k (l.take k) := by
  refine ⟨by rw [List.length_take, h.1]; omega, fun hp => ?_⟩
  obtain ⟨a, hA, hlt, hc⟩ := h.2 (by omega)
  refine ⟨a, hA, hlt, fun j u hu => hc j u ?_⟩
  rw [← flat_take hE] at hu
  have hj := (List.getElem?_eq_some_iff.1 hu).1
  rw [List.length_take] at hj
  rwa [List.getElem?_take_of_lt (by omega)] at hu
def insL {α : Type} (l : List α) (x : α) (k : Nat) : List α := l.take k ++ x :: l.drop k
theorem insL_len {α : Type} (l : List α) (x : α) (k : Nat) : (insL l x k).length = l.length + 1 := by
  unfold insL; simp; omega
/-- the place: the first element that is not less -/
noncomputable def addAt (l : List Fld) (f : Fld) : Nat := l.findIdx fun x => !Op.bytesLess x.name.toList f.name.toList
theorem addAt_le (l : List Fld) (f : Fld) : addAt l f ≤ l.length := List.findIdx_le_length
noncomputable def addOk (l : List Fld) (f : Fld) : Bool := okSchema l && okSchema (insL l f (addAt l f))
noncomputable def addF (l : List Fld) (f : Fld) : List Fld := if addOk l f then insL l f (addAt l f) else l
theorem addF_len (l : List Fld) (f : Fld) : (addF l f).length ≤ l.length + 1 := by
  unfold addF; split
  · rw [insL_len]; exact Nat.le_refl _
  · omega
theorem okSchema_asc {l : List Fld} (h : okSchema l = true) {i : Nat} (hi : i + 1 < l.length) : Op.bytesLess l[i].name.toList l[i + 1].name.toList = true := by
  unfold okSchema at h
  split at h
  · rename_i hall
    have hb := hall (i + 1) hi
    rw [badAt_succ hi] at hb
    cases hq : Op.bytesLess l[i].name.toList l[i + 1].name.toList with
    | true => rfl
    | false => rw [hq] at hb; simp at hb
  · cases h
theorem okSchema_lt {l : List Fld} (h : okSchema l = true) {i j : Nat} (hij : i < j) (hj : j < l.length) : Op.bytesLess (l[i]'(by omega)).name.toList l[j].name.toList = true := by
  induction j with
  | zero => omega
  | succ j ih =>
    rcases Nat.lt_or_ge i j with hlt | hge
    · exact bless_trans (ih hlt (by omega)) (okSchema_asc h hj)
    · obtain rfl : i = j := by omega
      exact okSchema_asc h hj
/-- a name that is there already: the longer list is no schema -/
theorem addOk_any {l : List Fld} {f : Fld} (hv : okSchema l = true) (ha : (l.any fun x => eqS x.name f.name) = true) : addOk l f = false := by
  obtain ⟨y, hy, he⟩ := List.any_eq_true.1 ha
  obtain ⟨j, hj, rfl⟩ := List.getElem_of_mem hy
  have hn : l[j].name.toList = f.name.toList := by unfold eqS at he; simpa using he
  have hle : addAt l f ≤ j := by
    refine Nat.le_of_not_lt fun hlt => ?_
    have := List.not_of_lt_findIdx (p := fun x : Fld => !Op.bytesLess x.name.toList f.name.toList) (xs := l) hlt
    simp only [hn, bless_irrefl] at this
    simp at this
  unfold addOk
  rw [hv, Bool.true_and]
  cases hq : okSchema (insL l f (addAt l f)) with
  | false => rfl
  | true =>
    have hk : addAt l f < l.length := by omega
    have h1 := okSchema_asc hq (i := addAt l f) (by rw [insL_len]; omega)
    have e0 : (insL l f (addAt l f))[addAt l f]'(by rw [insL_len]; omega) = f := by
      simp [insL, List.length_take, Nat.min_eq_left (Nat.le_of_lt hk)]
    have e1 : (insL l f (addAt l f))[addAt l f + 1]'(by rw [insL_len]; omega) = l[addAt l f] := by
      simp [insL, List.length_take, Nat.min_eq_left (Nat.le_of_lt hk)]
    rw [e0, e1] at h1
    exfalso
    rcases Nat.lt_or_ge (addAt l f) j with hlt | hge
    · have h2 := bless_trans h1 (okSchema_lt hv hlt hj)
      rw [hn, bless_irrefl] at h2; cases h2
    · have hjj : addAt l f = j := by omega
      simp only [hjj, hn, bless_irrefl] at h1
      cases h1
noncomputable def gtF (f x : Fld) : Bool := Op.bytesLess f.name.toList x.name.toList
theorem findIdx_same {α : Type} {p q : α → Bool} : ∀ {l : List α}, (∀ x ∈ l, p x = q x) → l.findIdx p = l.findIdx q
  | [], _ => rfl
  | a :: l, h => by
    rw [List.findIdx_cons, List.findIdx_cons, h a (by simp), findIdx_same (l := l) fun x hx => h x (by simp [hx])]
theorem addAt_gt {l : List Fld} {f : Fld} (ha : (l.any fun x => eqS x.name f.name) = false) : addAt l f = l.findIdx (gtF f) := by
  unfold addAt
  refine findIdx_same fun x hx => ?_
  have h1 := List.any_eq_false.1 ha x hx
  unfold gtF
  rw [bless_gt x.name.toList f.name.toList]
  have : (x.name.toList == f.name.toList) = false := by unfold eqS at h1; simpa using h1
  rw [this, Bool.or_false]
theorem idxI_place {α : Type} (p : α → Bool) (l : List α) : (idxI p l < 0 ∧ l.findIdx p = l.length) ∨ (idxI p l = (l.findIdx p : Int) ∧ l.findIdx p < l.length) := by
  unfold idxI
  cases h : l.findIdx? p with
  | none => left; exact ⟨by simp, List.findIdx_eq_length.2 (fun x hx => by simpa using List.findIdx?_eq_none_iff.1 h x hx)⟩
  | some i =>
    right
    obtain ⟨hi, hp, hn⟩ := List.findIdx?_eq_some_iff_getElem.1 h
    have : l.findIdx p = i := (List.findIdx_eq hi).2 ⟨hp, fun j hj => by simpa using hn j hj⟩
    rw [this]
    exact ⟨rfl, hi⟩
end Go.Proofs.Ytjobgnioehkomaa
