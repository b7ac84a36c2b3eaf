/-
  A REGION THAT DRAWS ITS ORDER, TAKEN BY HAND IN THE TEXT'S ORDER: a step that yields (taken first), a step whose guard says no (passed over), the one step that may come up.
-/
import Derived.WalkKit
import Derived.WalkSpells
import Derived.WalkLawsBesides
import Derived.Lib.Hide
import Derived.Handy
import Derived.Deep.RegionHeld3
import Derived.Test.YtjobgnioehkomaaLib
namespace Go.Proofs.Ytjobgnioehkomaa
open Go.RowKit
variable {P : Program} {L : List Oper} {Q : Exit → Act → World → Prop} {md : Region.Mode} {S : World → Prop}
theorem held_at {i : Nat} {oi : Oper} {tl : List Oper} (hd : L.drop i = oi :: tl) : L.toArray[i]? = some oi := by
  have : (L.drop i)[0]? = some oi := by rw [hd]; rfl
  simpa [List.getElem?_drop] using this
theorem held_take (i : Nat) {oi : Oper} {tl : List Oper} {v : Value} {fuel : Nat} {listed : Array Bool} {a : Act} {w : World} (hd : L.drop i = oi :: tl)
    (hs : Region.noSelect L.toArray = true) (hf : Region.free md L.toArray listed i = true) (hr : (Region.ready md L.toArray listed).contains i = true)
    (hw : Region.wanted oi (yielded L.toArray a.tmps) = true) (hQ : ∀ c a w, Q (.panic c) (a.put oi.dst v) w → Q (.panic c) a w) (hS : S w)
    (hy : ∀ w, S w → (execOp a.eval oi).run P w = .ok (.value v) w)
    (h : wpAnyH P md L.toArray Q S fuel (listed.setIfInBounds i true) (a.put oi.dst v) w) : wpAnyH P md L.toArray Q S (fuel + 1) listed a w :=
  wpAnyH_take (held_at hd) hs hf hr hQ (Or.inl ⟨hw, hy⟩) hS h
theorem held_skip (i : Nat) {oi : Oper} {tl : List Oper} {fuel : Nat} {listed : Array Bool} {a : Act} {w : World} (hd : L.drop i = oi :: tl)
    (hs : Region.noSelect L.toArray = true) (hf : Region.free md L.toArray listed i = true) (hr : (Region.ready md L.toArray listed).contains i = true)
    (hw : Region.wanted oi (yielded L.toArray a.tmps) = false) (hQ : ∀ c a w, Q (.panic c) (a.put oi.dst undef) w → Q (.panic c) a w) (hS : S w)
    (h : wpAnyH P md L.toArray Q S fuel (listed.setIfInBounds i true) (a.put oi.dst undef) w) : wpAnyH P md L.toArray Q S (fuel + 1) listed a w :=
  wpAnyH_take (held_at hd) hs hf hr hQ (Or.inr ⟨hw, rfl⟩) hS h
theorem held_one (i : Nat) {o : Oper} {tl : List Oper} {fuel : Nat} {listed : Array Bool} {a : Act} {w : World} (hr : Region.ready md L.toArray listed = [i]) (hd : L.drop i = o :: tl)
    (h : ∀ K' : Act → World → Prop, Shut (∀ a w, S w → (S w → wpAnyH P md L.toArray Q S fuel (listed.setIfInBounds i true) a w) → K' a w) → if Region.wanted o (yielded L.toArray a.tmps) = true then Oper.wp P o a w K' Q else K' (a.put o.dst undef) w) :
    wpAnyH P md L.toArray Q S (fuel + 1) listed a w :=
  wpAnyH_ready hr (by simp) (AllReadyH.cons (held_at hd) h AllReadyH.nil)
end Go.Proofs.Ytjobgnioehkomaa
