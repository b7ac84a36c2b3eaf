/-
  CONTRACTS: copies of files, of stores.
-/
import Derived.WalkKit
import Derived.WalkSpells
import Derived.WalkLawsBesides
import Derived.Lib.Hide
import Derived.Handy
import Derived.StillTailTactics
import Derived.Deep.Light
import Derived.Deep.QuietTactic
import Derived.BigQuiet
import Derived.Deep.RegionHeld3
import Derived.Deep.RegionLaw
import Derived.Sort.Walk0
import Derived.Deep.DeepCutAuto
import Derived.Test.YtkjhfblipmagoaaLib
import Derived.Test.YtkjhfblipmagoaaOwn
import Derived.Test.YtkjhfblipmagoaaRow
import Derived.Test.YtkjhfblipmagoaaN0
import Derived.Test.YtkjhfblipmagoaaRaw
import Derived.Test.YtkjhfblipmagoaaHld
import Derived.Test.YtkjhfblipmagoaaM0
import Derived.Test.YtkjhfblipmagoaaC1
import Derived.Test.YtkjhfblipmagoaaC2
import Derived.Test.YtkjhfblipmagoaaT1
import Derived.Test.YtkjhfblipmagoaaT2
import Derived.Test.YtkjhfblipmagoaaT3
import Derived.Test.YtkjhfblipmagoaaT4
import Derived.Test.YtkjhfblipmagoaaC3
import Derived.Test.YtkjhfblipmagoaaC4
import Derived.Test.YtkjhfblipmagoaaC5
import Derived.Test.YtkjhfblipmagoaaD1
import Derived.Test.YtkjhfblipmagoaaD3
import Derived.Test.YtkjhfblipmagoaaD5
import Derived.Test.YtkjhfblipmagoaaH1
import Derived.Test.YtkjhfblipmagoaaE4
import Derived.Test.YtkjhfblipmagoaaRows
namespace Go.Proofs.Ytkjhfblipmagoaa
open Go.RowKit
set_option linter.unusedVariables false
set_option maxRecDepth 100000
/-- an element and its row are put behind, the headers' row being appended to -/
theorem NRow.add {H β : Type} {K : NK H β} {W0 W1 W2 : World} {B n c c' : Nat} {A A' : Option Addr} {L : List (H × List β)} {x : H × List β} (h : NRow K W0 B A n c L) (hb : Below W0.heap.size W0 W1) (hx : K.inner W1 B x) (hnew : ∀ b ∈ K.bs x.1, W0.heap.size ≤ b)
    (hr : FRow K.e K.size K.enc W2 B A' (n + 1) c' (L.map (·.1) ++ [x.1])) (hc : Chg (rowBs A c) W1 W2) (hx5 : ∀ b ∈ rowBs A' c', b ∈ rowBs A c ∨ W1.heap.size ≤ b) : NRow K W2 B A' (n + 1) c' (L ++ [x]) := by
  have h1 := h.below hb
  obtain ⟨p1, p2⟩ := h1.push hx (fun b hb2 hm => by have h2 := (h.base b hm).2; have h3 := hnew b hb2; omega)
  exact NRow.turn (by simpa using hr) hc hx5 p1 p2
abbrev KFil (eF ea : Nat) : NK Fh Atr := ⟨eF, 5, eFh, (·.A), (·.n), (·.c), ea, 4, eAtr⟩
def mkF (x : Fh × List Atr) : Fil := ⟨x.1.id, x.1.owner, x.1.shared, x.1.link, x.2⟩
/-- files of the call's own -/
def FRows (eF ea : Nat) (w : World) (B : Nat) (A : Option Addr) (n c : Nat) (l : List Fil) : Prop := ∃ L, NRow (KFil eF ea) w B A n c L ∧ L.map mkF = l
def NewFils (eF ea : Nat) (w : World) (l : List Fil) (en : Ending) (w' : World) : Prop :=
  ∃ A c, en = .returned (.slice A l.length c) ∧ FRows eF ea w' w.heap.size A l.length c l ∧ Below w.heap.size w w'
theorem FRows.osl {eF ea : Nat} {w : World} {B n c : Nat} {A : Option Addr} {l : List Fil} (h : FRows eF ea w B A n c l) : ∃ bs, OSl eF 5 (OFil ea) w A n l bs ∧ bs.Nodup ∧ ∀ b ∈ bs, B ≤ b := by
  obtain ⟨L, h1, rfl⟩ := h
  refine NRow.osl (f := mkF) (K := KFil eF ea) encFh h1 fun x hx => ?_
  have hi := h1.2.1 x hx
  have ho := hi.osl (O := OAtr) encAtr (fun _ => ⟨rfl, rfl⟩)
  exact ⟨x.1.A, x.1.n, x.1.c, rfl, hi.le, ho⟩
theorem FRows.sl {eF ea : Nat} {w : World} {B n c : Nat} {A : Option Addr} {l : List Fil} (h : FRows eF ea w B A n c l) : Sl 5 RFil w A n l := by
  obtain ⟨bs, h1, _⟩ := h.osl
  exact h1.sl fun h => h.r
theorem FRows.below {eF ea : Nat} {w w' : World} {B n c : Nat} {A : Option Addr} {l : List Fil} (h : FRows eF ea w B A n c l) (hb : Below w.heap.size w w') : FRows eF ea w' B A n c l := by
  obtain ⟨L, h1, h2⟩ := h; exact ⟨L, h1.below hb, h2⟩
theorem FRows.lower {eF ea : Nat} {w : World} {B B' n c : Nat} {A : Option Addr} {l : List Fil} (h : FRows eF ea w B A n c l) (hb : B' ≤ B) : FRows eF ea w B' A n c l := by
  obtain ⟨L, h1, h2⟩ := h; exact ⟨L, h1.lower hb, h2⟩
theorem FRows.len {eF ea : Nat} {w : World} {B n c : Nat} {A : Option Addr} {l : List Fil} (h : FRows eF ea w B A n c l) : l.length = n := by
  obtain ⟨L, h1, rfl⟩ := h; simpa using h1.len
theorem FRows.any0 (eF ea : Nat) (w : World) (B : Nat) (A : Option Addr) : FRows eF ea w B A 0 0 [] := ⟨[], NRow.any0 _ _ _ _, rfl⟩
/-- a loop's relation -/
def FApp (eF ea : Nat) (w : World) (B k : Nat) (l : List Fil) (v : Value) (wr : World) : Prop := ∃ A c, v = .slice A k c ∧ FRows eF ea wr B A k c l ∧ Below w.heap.size w wr
/-- a store of the call's own: the schema's row lies below X, the files' rows from X on -/
def NewStoR (f : Value → Value) (ef eF ea : Nat) (w : World) (s : Sto) (en : Ending) (w' : World) : Prop :=
  ∃ A c B d X, en = .returned (f (s.v A s.schema.length c B s.files.length d)) ∧ FRow ef 2 eFld w' w.heap.size A s.schema.length c s.schema ∧ (∀ b ∈ rowBs A c, b < X) ∧ w.heap.size ≤ X ∧ X ≤ w'.heap.size ∧ FRows eF ea w' X B s.files.length d s.files ∧ Below w.heap.size w w'
theorem NewStoR.v {f : Value → Value} {ef eF ea : Nat} {w w' : World} {s : Sto} {en : Ending} (h : NewStoR f ef eF ea w s en w') : NewStoV f ef eF ea w s en w' := by
  obtain ⟨A, c, B, d, X, h1, h2, h3, h4, h4b, h5, h6⟩ := h
  obtain ⟨bt, k1, k2, k3⟩ := h5.osl
  have hbs : ∀ b ∈ (if s.schema.length = 0 then [] else rowBs A c), b ∈ rowBs A c := fun b hb => by
    split at hb
    · cases hb
    · exact hb
  refine ⟨A, c, B, d, _, bt, h1, h2.osl (O := OFld) encFld (fun _ => ⟨rfl, rfl⟩), k1, ⟨?_, fun b hb => ?_⟩, h6⟩
  · rw [List.nodup_append]
    refine ⟨?_, k2, fun a ha b hb e => ?_⟩
    · split
      · exact List.nodup_nil
      · exact rowBs_nd _ _
    · subst e
      have e1 := h3 a (hbs a ha)
      have e2 := k3 a hb
      omega
  · rcases List.mem_append.1 hb with hb | hb
    · exact (h2.base b (hbs b hb)).1
    · exact Nat.le_trans h4 (k3 b hb)
theorem meet_set {α : Type} {T e size : Nat} {enc : α → List Value} {W0 Wa w6 : World} {g n c6 : Nat} {A6 : Option Addr} {l : List α} {zs : Array Value} (vs : List Value) (hg : Wa.heap[g]? = some (.cells zs T (0, 0))) (hG : W0.heap.size ≤ g) (hF : FRow e size enc w6 W0.heap.size A6 n c6 l) (hC : Chg [] Wa w6)
    (hX : ∀ b ∈ rowBs A6 c6, b ∈ ([] : List Nat) ∨ Wa.heap.size ≤ b) (hB : Below W0.heap.size W0 w6) :
    (sets w6 g 0 vs).heap[g]? = some (.cells (setsA zs 0 vs) T (0, 0)) ∧ FRow e size enc (sets w6 g 0 vs) W0.heap.size A6 n c6 l ∧ g ∉ rowBs A6 c6 ∧ Below W0.heap.size W0 (sets w6 g 0 vs) := by
  have hlt := blk_lt hg
  have hn : g ∉ rowBs A6 c6 := fun h => by
    rcases hX _ h with h | h
    · cases h
    · omega
  have hch : Chg [g] w6 (sets w6 g 0 vs) := sets_chg (bs := [g]) (g := g) (w := w6) (w1 := w6) (by simp) _ _ 0 (Chg.refl _ _)
  exact ⟨sets_blk _ _ _ _ (hC.keepb hg (by simp)), hF.chg hch (fun b hb h => by simp only [List.mem_singleton] at h; subst h; exact hn hb), hn, Below.mark hB hch hB.size (by simp only [List.mem_singleton]; intro b hb; subst hb; exact hG)⟩
end Go.Proofs.Ytkjhfblipmagoaa
