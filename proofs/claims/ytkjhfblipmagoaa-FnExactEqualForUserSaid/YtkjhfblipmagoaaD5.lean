/-
  CONTRACTS: NewStore, LookupIndex.
-/
import Derived.WalkKit
import Derived.WalkSpells
import Derived.WalkLawsBesides
import Derived.Lib.Hide
import Derived.Handy
import Derived.StillTailTactics
import Derived.Deep.Light
import Derived.Deep.QuietTactic
import Derived.BigQuiet
import Derived.Deep.RegionHeld3
import Derived.Test.YtkjhfblipmagoaaLib
import Derived.Test.YtkjhfblipmagoaaOwn
import Derived.Test.YtkjhfblipmagoaaRow
import Derived.Test.YtkjhfblipmagoaaHld
import Derived.Test.YtkjhfblipmagoaaM0
import Derived.Test.YtkjhfblipmagoaaC1
import Derived.Test.YtkjhfblipmagoaaC2
import Derived.Test.YtkjhfblipmagoaaT1
import Derived.Test.YtkjhfblipmagoaaT2
import Derived.Test.YtkjhfblipmagoaaT3
import Derived.Test.YtkjhfblipmagoaaT4
import Derived.Test.YtkjhfblipmagoaaC3
import Derived.Test.YtkjhfblipmagoaaC4
import Derived.Test.YtkjhfblipmagoaaC5
import Derived.Test.YtkjhfblipmagoaaD1
import Derived.Test.YtkjhfblipmagoaaRows
namespace Go.Proofs.Ytkjhfblipmagoaa
open Go.RowKit
set_option linter.unusedVariables false
set_option maxRecDepth 100000
/-- a store in new memory, inside f; to be read alone -/
def NewStoV (f : Value → Value) (ef eF ea : Nat) (w : World) (s : Sto) (en : Ending) (w' : World) : Prop :=
  ∃ A c B d bs bt, en = .returned (f (.agg #[.slice A s.schema.length c, .slice B s.files.length d, .int .i64 s.next])) ∧ OSl ef 2 OFld w' A s.schema.length s.schema bs ∧ OSl eF 5 (OFil ea) w' B s.files.length s.files bt ∧ Fresh w (bs ++ bt) ∧ Below w.heap.size w w'
def ReadStoV (f : Value → Value) (w : World) (s : Sto) (en : Ending) (w' : World) : Prop :=
  ∃ A c B d, en = .returned (f (.agg #[.slice A s.schema.length c, .slice B s.files.length d, .int .i64 s.next])) ∧ Sl 2 RFld w' A s.schema.length s.schema ∧ Sl 5 RFil w' B s.files.length s.files ∧ Below w.heap.size w w'
theorem NewStoV.read {f : Value → Value} {ef eF ea : Nat} {w w' : World} {s : Sto} {en : Ending} (h : NewStoV f ef eF ea w s en w') : ReadStoV f w s en w' := by
  obtain ⟨A, c, B, d, bs, bt, h1, h2, h3, _, h5⟩ := h
  exact ⟨A, c, B, d, h1, h2.sl fun h => h.1, h3.sl fun h => h.r, h5⟩
/-- a file in new memory, inside f -/
def NewFilV (f : Value → Value) (ea : Nat) (w : World) (x : Fil) (en : Ending) (w' : World) : Prop :=
  ∃ A c bs, en = .returned (f (.agg #[.int .i64 x.id, .int .i64 x.owner, .bool x.shared, .int .i64 x.link, .slice A x.attrs.length c])) ∧ OSl ea 4 OAtr w' A x.attrs.length x.attrs bs ∧ Fresh w bs ∧ Below w.heap.size w w'
def ReadFilV (f : Value → Value) (w : World) (x : Fil) (en : Ending) (w' : World) : Prop :=
  ∃ A c, en = .returned (f (.agg #[.int .i64 x.id, .int .i64 x.owner, .bool x.shared, .int .i64 x.link, .slice A x.attrs.length c])) ∧ Sl 4 RAtr w' A x.attrs.length x.attrs ∧ Below w.heap.size w w'
theorem rowBs_nodup (A : Option Addr) (c : Nat) : (rowBs A c).Nodup := by
  unfold rowBs; split
  · simp
  · split <;> simp
/-- the blocks of a row that a call has made are new to it -/
theorem FRow.fresh {α : Type} {e size n c : Nat} {enc : α → List Value} {w w0 : World} {B : Nat} {A : Option Addr} {l : List α} (h : FRow e size enc w B A n c l) (hB : w0.heap.size ≤ B) : Fresh w0 (if n = 0 then [] else rowBs A c) := by
  split
  · exact Fresh.nil _
  · exact ⟨rowBs_nodup _ _, fun b hb => Nat.le_trans hB (h.base b hb).1⟩
def newSto (l : List Fld) : Sto := ⟨l, [], 1⟩
end Go.Proofs.Ytkjhfblipmagoaa
