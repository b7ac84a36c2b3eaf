/-
  PLAIN: the comparison of values is a total order.
-/
import Derived.WalkKit
import Derived.Lib.Hide
import Derived.Test.YtjobgnioehkomaaLib
import Derived.Test.YtjobgnioehkomaaC2
namespace Go.Proofs.Ytjobgnioehkomaa
open Go.RowKit
set_option linter.unusedVariables false
theorem bless_trans : ∀ x y z : List UInt8, Op.bytesLess x y = true → Op.bytesLess y z = true → Op.bytesLess x z = true
  | [], [], _, h, _ => by simp [Op.bytesLess] at h
  | [], _ :: _, [], _, h => by simp [Op.bytesLess] at h
  | [], _ :: _, _ :: _, _, _ => by simp [Op.bytesLess]
  | _ :: _, [], _, h, _ => by simp [Op.bytesLess] at h
  | _ :: _, _ :: _, [], _, h => by simp [Op.bytesLess] at h
  | a :: x, b :: y, c :: z, h1, h2 => by
    have ih := bless_trans x y z
    simp only [Op.bytesLess, Bool.or_eq_true, Bool.and_eq_true, decide_eq_true_eq, beq_iff_eq] at h1 h2 ⊢
    rcases h1 with h1 | ⟨rfl, h1⟩
    · rcases h2 with h2 | ⟨rfl, h2⟩
      · exact .inl (UInt8.lt_trans h1 h2)
      · exact .inl h1
    · rcases h2 with h2 | ⟨rfl, h2⟩
      · exact .inl h2
      · exact .inr ⟨rfl, ih h1 h2⟩
/-- a comparison in three ways that orders -/
structure Cmp {α : Type} (f : α → α → Int) : Prop where
  anti : ∀ a b, f b a = -f a b
  zero : ∀ a b, f a b = 0 ↔ a = b
  trans : ∀ a b c, f a b ≤ 0 → f b c ≤ 0 → f a c ≤ 0
theorem cmpI_ok : Cmp cmpI := by
  refine ⟨fun a b => ?_, fun a b => ?_, fun a b c => ?_⟩ <;> unfold cmpI <;> (repeat' split) <;> omega
theorem cmpS_le (a b : ByteArray) : cmpS a b ≤ 0 ↔ Op.bytesLess b.toList a.toList = false := by
  unfold cmpS
  constructor
  · intro h
    split at h
    · rename_i hl
      rw [bless_gt, hl]; rfl
    · split at h
      · omega
      · rename_i h2; simpa using h2
  · intro h
    rw [h]
    split <;> simp
theorem cmpS_ok : Cmp cmpS := by
  refine ⟨fun a b => ?_, fun a b => ?_, fun a b c h1 h2 => ?_⟩
  · unfold cmpS
    cases h1 : Op.bytesLess a.toList b.toList <;> cases h2 : Op.bytesLess b.toList a.toList <;> simp
    have := bless_gt a.toList b.toList
    rw [h1, h2] at this
    simp at this
  · unfold cmpS
    constructor
    · intro h
      cases h1 : Op.bytesLess a.toList b.toList with
      | true => rw [h1] at h; simp at h
      | false =>
        cases h2 : Op.bytesLess b.toList a.toList with
        | true => rw [h1, h2] at h; simp at h
        | false =>
          have := bless_gt a.toList b.toList
          rw [h1, h2] at this
          simp at this
          exact toList_inj this
    · rintro rfl
      rw [bless_irrefl]; rfl
  · rw [cmpS_le] at h1 h2 ⊢
    cases h3 : Op.bytesLess c.toList a.toList with
    | false => rfl
    | true =>
      exfalso
      by_cases hab : a.toList = b.toList
      · rw [hab] at h3; rw [h3] at h2; cases h2
      · have hlt : Op.bytesLess a.toList b.toList = true := by
          have := bless_gt a.toList b.toList
          rw [h1] at this
          have hn : (a.toList == b.toList) = false := by simpa using hab
          rw [hn] at this
          simpa using this
        have := bless_trans _ _ _ h3 hlt
        rw [this] at h2; cases h2
theorem Cmp.lt_le {α : Type} {f : α → α → Int} (h : Cmp f) {a b c : α} (h1 : f a b < 0) (h2 : f b c ≤ 0) : f a c < 0 := by
  have h3 := h.trans a b c (by omega) h2
  by_cases e : f a c = 0
  · obtain rfl := (h.zero a c).1 e
    have := h.anti a b
    omega
  · omega
theorem Cmp.le_lt {α : Type} {f : α → α → Int} (h : Cmp f) {a b c : α} (h1 : f a b ≤ 0) (h2 : f b c < 0) : f a c < 0 := by
  have h3 := h.trans a b c h1 (by omega)
  by_cases e : f a c = 0
  · obtain rfl := (h.zero a c).1 e
    have := h.anti a b
    omega
  · omega
theorem Cmp.lex {α β γ : Type} {f : α → α → Int} {g : β → β → Int} (hf : Cmp f) (hg : Cmp g) (p : γ → α) (q : γ → β) (hi : ∀ a b, p a = p b → q a = q b → a = b) : Cmp (fun a b : γ => orI (f (p a) (p b)) (g (q a) (q b))) := by
  refine ⟨fun a b => ?_, fun a b => ?_, fun a b c => ?_⟩
  · have h1 := hf.anti (p a) (p b)
    have h2 := hg.anti (q a) (q b)
    simp only [orI]
    split <;> split <;> omega
  · simp only [orI]
    constructor
    · intro h
      split at h
      · rename_i h0
        exact hi a b ((hf.zero _ _).1 h0) ((hg.zero _ _).1 h)
      · rename_i h0; exact absurd h h0
    · rintro rfl
      rw [if_pos ((hf.zero _ _).2 rfl)]
      exact (hg.zero _ _).2 rfl
  · simp only [orI]
    intro h1 h2
    by_cases e1 : f (p a) (p b) = 0
    · rw [if_pos e1] at h1
      have e := (hf.zero _ _).1 e1
      rw [e]
      by_cases e2 : f (p b) (p c) = 0
      · rw [if_pos e2] at h2 ⊢
        exact hg.trans _ _ _ h1 h2
      · rw [if_neg e2] at h2 ⊢
        exact h2
    · rw [if_neg e1] at h1
      by_cases e2 : f (p b) (p c) = 0
      · have e := (hf.zero _ _).1 e2
        rw [← e, if_neg e1]
        exact h1
      · rw [if_neg e2] at h2
        have := hf.lt_le (a := p a) (b := p b) (c := p c) (by omega) h2
        rw [if_neg (by omega)]
        omega
theorem cmpV_ok : Cmp cmpV :=
  Cmp.lex (γ := Vl) cmpI_ok (Cmp.lex (γ := Int × ByteArray) cmpI_ok cmpS_ok (·.1) (·.2) (fun a b h1 h2 => Prod.ext h1 h2)) (·.kind) (fun v => (v.int, v.str)) (fun a b h1 h2 => by
    cases a; cases b
    simp only [Prod.mk.injEq] at h1 h2
    obtain ⟨h2, h3⟩ := h2
    subst h1; subst h2; subst h3; rfl)
theorem cmpV_first : cmpV ⟨0, 0, ByteArray.empty⟩ ⟨1, 0, ByteArray.empty⟩ = -1 := by
  unfold cmpV orI cmpI
  simp
end Go.Proofs.Ytjobgnioehkomaa
