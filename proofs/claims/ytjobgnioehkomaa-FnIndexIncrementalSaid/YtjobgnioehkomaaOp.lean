/-
  HOW THE ARGUMENTS OF THE STATEMENTS READ: each of the statements' own types, opened into this library's plain data.
-/
import Derived.WalkKit
import Derived.ProofKit
import Derived.OpenShut
import Derived.Test.YtjobgnioehkomaaLib
import Derived.Test.YtjobgnioehkomaaRows
namespace Go.Proofs.Ytjobgnioehkomaa
open Go.RowKit Go.ChangeShapes Go.WideShapes Go.ChangeAt Go.Deep
set_option linter.unusedVariables false

theorem own : ownKnob Try.prog.godebug = none := by kernel_rfl
theorem laidOut' : laidOutB Try.prog = true := by kernel_rfl
theorem list2 {α : Type} {l : List α} (h : l.length = 2) : ∃ a b, l = [a, b] := by
  match l, h with | [a, b], _ => exact ⟨a, b, rfl⟩
theorem list3 {α : Type} {l : List α} (h : l.length = 3) : ∃ a b c, l = [a, b, c] := by
  match l, h with | [a, b, c], _ => exact ⟨a, b, c, rfl⟩
theorem list4 {α : Type} {l : List α} (h : l.length = 4) : ∃ a b c d, l = [a, b, c, d] := by
  match l, h with | [a, b, c, d], _ => exact ⟨a, b, c, d, rfl⟩
theorem list5 {α : Type} {l : List α} (h : l.length = 5) : ∃ a b c d e, l = [a, b, c, d, e] := by
  match l, h with | [a, b, c, d, e], _ => exact ⟨a, b, c, d, e, rfl⟩
theorem list7 {α : Type} {l : List α} (h : l.length = 7) : ∃ a b c d e f g, l = [a, b, c, d, e, f, g] := by
  match l, h with | [a, b, c, d, e, f, g], _ => exact ⟨a, b, c, d, e, f, g, rfl⟩
section
variable {H : Type} {enc : TypeId × Value → H} {w : World} {base : Nat} {spare : Nat → Bool} {held : Bool}
theorem cells_int : Try.prog.cellsOf 3 = 1 := by kernel_rfl
theorem Op_int : Opens enc Try.prog w base spare held 3 1 RInt (fun x => (Lit.int .i64 x).wf = true) := by
  refine ⟨cells_int, fun fuel cs x h => ?_⟩
  obtain ⟨n, rfl, hw⟩ := trod_i64 Try.underlying3 h
  exact ⟨n, rfl, hw⟩
theorem cells_str : Try.prog.cellsOf 9 = 1 := by kernel_rfl
theorem Op_str : Opens enc Try.prog w base spare held 9 1 RStr (fun s => s.size ≤ maxLen) := by
  refine ⟨cells_str, fun fuel cs x h => ?_⟩
  obtain ⟨s, rfl, hs⟩ := trod_str Try.underlying9 h
  exact ⟨s, rfl, hs⟩
theorem cells_u8 : Try.prog.cellsOf 5 = 1 := by kernel_rfl
theorem Op_byt : Opens enc Try.prog w base spare held 5 1 RByt (fun x => 0 ≤ x ∧ x ≤ 255) := by
  refine ⟨cells_u8, fun fuel cs x h => ?_⟩
  obtain ⟨n, rfl, hw⟩ := trod_u8 Try.underlying5 h
  exact ⟨n, rfl, hw⟩
theorem cells_bool : Try.prog.cellsOf 4 = 1 := by kernel_rfl
def RSto (w : World) (cs : List Value) (s : Sto) : Prop :=
  ∃ A n c B m d, cs = [.slice A n c, .slice B m d, .int .i64 s.next] ∧ Sl 2 RFld w A n s.schema ∧ Sl 5 RFil w B m s.files
theorem mSto : RMono RSto := ⟨fun hb ⟨A, n, c, B, m, d, e, h, k⟩ => ⟨A, n, c, B, m, d, e, h.mono mFld hb, k.mono mFil hb⟩⟩
theorem cells_intS : Try.prog.cellsOf 24 = 1 := by kernel_rfl
end
/-- a struct argument comes as its cells -/
theorem agg_of {P : Program} {w : World} {r : Reach} {base : Nat} {t : TypeId} {v : Value} {fs : Array Field} (ht : P.underlying t = some (.struct fs)) (h : Value.okWide P w r base t v) : v = .agg v.cells := by
  obtain ⟨cs, rfl, _⟩ := okWide_struct ht h
  rfl
theorem one_of {v : Value} {x : Value} (h : v.cells.toList = [x]) (hx : x.cells = #[x]) (hv : ∀ cs, v = .agg cs → cs.size = 1 → False) : v = x := by
  cases v <;> simp [Value.cells] at h <;> first | exact h | (rename_i cs; exact absurd (by simpa using congrArg List.length h) (fun e => hv cs rfl e))
end Go.Proofs.Ytjobgnioehkomaa
