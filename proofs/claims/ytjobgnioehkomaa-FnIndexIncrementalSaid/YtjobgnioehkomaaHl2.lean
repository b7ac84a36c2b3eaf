/-
  A REGION THAT DRAWS ITS ORDER, TAKEN BY HAND, whose last operations (the set F) write what its loads read: behind those nothing need be held, for they wait for every load.
-/
import Derived.WalkKit
import Derived.WalkSpells
import Derived.WalkLawsBesides
import Derived.Lib.Hide
import Derived.Handy
import Derived.Deep.RegionHeld3
import Derived.Test.YtjobgnioehkomaaLib
import Derived.Test.YtjobgnioehkomaaHld
namespace Go.Proofs.Ytjobgnioehkomaa
open Go.RowKit
variable {P : Program} {ops : Array Oper} {Q : Exit → Act → World → Prop} {md : Region.Mode} {S : World → Prop} {F : List Nat}
/-- whatever order is picked: S holds behind each operation that is not in F -/
def anyF (P : Program) (md : Region.Mode) (ops : Array Oper) (Q : Exit → Act → World → Prop) (S : World → Prop) (F : List Nat) : Nat → Array Bool → Act → World → Prop
  | 0, listed, a, w => Region.ready md ops listed = [] ∧ Q .normal a w
  | fuel + 1, listed, a, w => (Region.ready md ops listed = [] → Q .normal a w) ∧
    ∀ i ∈ Region.ready md ops listed, wpOp P ops Q i (fun a' w' => (F.contains i = false → S w') ∧ anyF P md ops Q S F fuel (listed.setIfInBounds i true) a' w') a w
theorem any_of_F : ∀ (fuel : Nat) (listed : Array Bool) (a : Act) (w : World), anyF P md ops Q S F fuel listed a w → wpAny P md ops Q fuel listed a w
  | 0, _, _, _, h => h
  | fuel + 1, _, _, _, h => ⟨h.1, fun i hi => wpOp_mono (fun a' w' h' => any_of_F fuel _ a' w' h'.2) (h.2 i hi)⟩
/-- each operation of F waits for i -/
def waits (md : Region.Mode) (ops : Array Oper) (F : List Nat) (i : Nat) : Bool := F.all fun j => match ops[j]? with | some o => o.after.any fun e => Region.binds md e && e.on == i | none => false
theorem waits_out {i j : Nat} {o : Oper} (h : waits md ops F i = true) (hj : F.contains j = true) (ho : ops[j]? = some o) : ∃ e ∈ o.after, Region.binds md e = true ∧ e.on = i := by
  have h1 := List.all_eq_true.1 h j (by simpa using hj)
  rw [ho] at h1
  simp only [Array.any_eq_true, Bool.and_eq_true, beq_iff_eq] at h1
  obtain ⟨k, hk, hb, he⟩ := h1
  exact ⟨_, Array.getElem_mem hk, hb, he⟩
theorem listed_off {i : Nat} {listed : Array Bool} (h : listed.getD i true = false) : listed.getD i false = false := by
  rcases Nat.lt_or_ge i listed.size with hlt | hge
  · simp [Array.getD, hlt] at h ⊢; exact h
  · simp [Array.getD, Nat.not_lt.2 hge] at h
theorem anyF_first {i : Nat} {oi : Oper} {v : Value} (hi : ops[i]? = some oi) (hsel : ∀ (j : Nat) (o : Oper) cs b, ops[j]? = some o → o.op ≠ .select cs b)
    (hQ : ∀ c a w, Q (.panic c) (a.put oi.dst v) w → Q (.panic c) a w) (hF : waits md ops F i = true) :
    ∀ (fuel : Nat) (listed : Array Bool) (a : Act) (w : World),
      (∀ j oj, ops[j]? = some oj → j ≠ i → listed.getD j true = false → (∀ e ∈ oj.after, Region.binds md e = true → e.on ≠ i) → oi.apart ops oj = true) →
      i ∈ Region.ready md ops listed → YieldsIf P ops S oi v a → S w → F.contains i = false →
      anyF P md ops Q S F fuel (listed.setIfInBounds i true) (a.put oi.dst v) w → anyF P md ops Q S F (fuel + 1) listed a w := by
  intro fuel
  induction fuel with
  | zero =>
    intro listed a w _ hr hy hS hiF H
    refine ⟨fun h => (by rw [h] at hr; cases hr), fun j hj => ?_⟩
    by_cases hji : j = i
    · subst hji; exact hy.wpOp hi hS ⟨fun _ => hS, H⟩
    · have h9 := ready_mono hj hji
      rw [H.1] at h9
      cases h9
  | succ fuel ih =>
    intro listed a w hfree hr hy hS hiF H
    refine ⟨fun h => (by rw [h] at hr; cases hr), fun j hj => ?_⟩
    by_cases hji : j = i
    · subst hji; exact hy.wpOp hi hS ⟨fun _ => hS, H⟩
    · obtain ⟨hjun, oj, hoj, hall⟩ := mem_ready.1 hj
      have hnot : ∀ e ∈ oj.after, Region.binds md e = true → e.on ≠ i := fun e he hb heq => by
        have h1 := hall e he hb
        rw [heq, listed_off (mem_ready.1 hr).1] at h1
        cases h1
      by_cases hFj : F.contains j = true
      · obtain ⟨e, he, hb, heq⟩ := waits_out hF hFj hoj
        exact absurd heq (hnot e he hb)
      · have hFn : F.contains j = false := by simpa using hFj
        have hfree' : ∀ k ok, ops[k]? = some ok → k ≠ i → (listed.setIfInBounds j true).getD k true = false → (∀ e ∈ ok.after, Region.binds md e = true → e.on ≠ i) → oi.apart ops ok = true := fun k ok hk hki hun hno => by
          refine hfree k ok hk hki ?_ hno
          by_cases hjk : j = k
          · subst hjk; exact hjun
          · rw [getD_set_ne true hjk] at hun; exact hun
        have h2 := wpOp_putIf hoj (hfree j oj hoj hji hjun hnot) (fun cs b => hsel i oi cs b hi) (fun cs b => hsel j oj cs b hoj) hQ hy (H.2 j (ready_mono hj hji))
        exact wpOp_mono (fun a' w' h3 => ⟨h3.2.1, ih (listed.setIfInBounds j true) a' w' hfree' (ready_mono hr (Ne.symm hji)) h3.1 (h3.2.1 hFn) hiF (by
          rw [Array.setIfInBounds_comm _ _ hji]
          exact h3.2.2)⟩) h2
section
variable {L : List Oper}
theorem heldF_take (i : Nat) {oi : Oper} {tl : List Oper} {v : Value} {fuel : Nat} {listed : Array Bool} {a : Act} {w : World} (hd : L.drop i = oi :: tl)
    (hs : Region.noSelect L.toArray = true) (hf : Region.free md L.toArray listed i = true) (hr : (Region.ready md L.toArray listed).contains i = true) (hF : waits md L.toArray F i = true) (hiF : F.contains i = false)
    (hw : Region.wanted oi (yielded L.toArray a.tmps) = true) (hQ : ∀ c a w, Q (.panic c) (a.put oi.dst v) w → Q (.panic c) a w) (hS : S w)
    (hy : ∀ w, S w → (execOp a.eval oi).run P w = .ok (.value v) w)
    (h : anyF P md L.toArray Q S F fuel (listed.setIfInBounds i true) (a.put oi.dst v) w) : anyF P md L.toArray Q S F (fuel + 1) listed a w :=
  anyF_first (held_at hd) (Region.noSelect_spec hs) hQ hF fuel listed a w (Region.free_spec (held_at hd) hf) (by simpa using hr) (Or.inl ⟨hw, hy⟩) hS hiF h
theorem heldF_one (i : Nat) {o : Oper} {tl : List Oper} {fuel : Nat} {listed : Array Bool} {a : Act} {w : World} (hr : Region.ready md L.toArray listed = [i]) (hd : L.drop i = o :: tl)
    (h : ∀ K' : Act → World → Prop, Shut (∀ a w, (F.contains i = false → S w) → ((F.contains i = false → S w) → anyF P md L.toArray Q S F fuel (listed.setIfInBounds i true) a w) → K' a w) → if Region.wanted o (yielded L.toArray a.tmps) = true then Oper.wp P o a w K' Q else K' (a.put o.dst undef) w) :
    anyF P md L.toArray Q S F (fuel + 1) listed a w := by
  refine ⟨fun h0 => (by rw [hr] at h0; cases h0), fun j hj => ?_⟩
  rw [hr] at hj
  obtain rfl : j = i := by simpa using hj
  exact wpOp_step (held_at hd) (fun K' hK => h K' (fun a w hS hW => hK a w ⟨hS, hW hS⟩))
theorem anyF_done {listed : Array Bool} {a : Act} {w : World} (hr : Region.ready md ops listed = []) (h : Q .normal a w) : ∀ fuel, anyF P md ops Q S F fuel listed a w
  | 0 => ⟨hr, h⟩
  | _ + 1 => ⟨fun _ => h, by rw [hr]; simp⟩
theorem region_F {id : Nat} {a : Act} {w : World} (F : List Nat) (hm : P.follows .mixedOrders = true) (hS : S w.drew) (h : S w.drew → anyF P .any ops Q S F ops.size (Array.replicate ops.size false) a w.drew) : (Code.region id ops true).wp P Q a w :=
  wp_region_any hm (any_of_F _ _ _ _ (h hS))
end
end Go.Proofs.Ytjobgnioehkomaa
