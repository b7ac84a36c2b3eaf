/-
  HOW THE ARGUMENTS OF THE STATEMENTS READ: each of the statements' own types, opened into this library's plain data.
-/
import Derived.WalkKit
import Derived.ProofKit
import Derived.OpenShut
import Derived.Test.YtkjhfblipmagoaaLib
import Derived.Test.YtkjhfblipmagoaaRows
namespace Go.Proofs.Ytkjhfblipmagoaa
open Go.RowKit Go.ChangeShapes Go.WideShapes Go.ChangeAt Go.Deep
set_option linter.unusedVariables false

theorem own : ownKnob Try.prog.godebug = none := by kernel_rfl
theorem laidOut' : laidOutB Try.prog = true := by kernel_rfl
theorem list2 {α : Type} {l : List α} (h : l.length = 2) : ∃ a b, l = [a, b] := by
  match l, h with | [a, b], _ => exact ⟨a, b, rfl⟩
theorem list3 {α : Type} {l : List α} (h : l.length = 3) : ∃ a b c, l = [a, b, c] := by
  match l, h with | [a, b, c], _ => exact ⟨a, b, c, rfl⟩
theorem list4 {α : Type} {l : List α} (h : l.length = 4) : ∃ a b c d, l = [a, b, c, d] := by
  match l, h with | [a, b, c, d], _ => exact ⟨a, b, c, d, rfl⟩
theorem list5 {α : Type} {l : List α} (h : l.length = 5) : ∃ a b c d e, l = [a, b, c, d, e] := by
  match l, h with | [a, b, c, d, e], _ => exact ⟨a, b, c, d, e, rfl⟩
theorem list7 {α : Type} {l : List α} (h : l.length = 7) : ∃ a b c d e f g, l = [a, b, c, d, e, f, g] := by
  match l, h with | [a, b, c, d, e, f, g], _ => exact ⟨a, b, c, d, e, f, g, rfl⟩
section
variable {H : Type} {enc : TypeId × Value → H} {w : World} {base : Nat} {spare : Nat → Bool} {held : Bool}
theorem cells_int : Try.prog.cellsOf 3 = 1 := by kernel_rfl
theorem Op_int : Opens enc Try.prog w base spare held 3 1 RInt (fun x => (Lit.int .i64 x).wf = true) := by
  refine ⟨cells_int, fun fuel cs x h => ?_⟩
  obtain ⟨n, rfl, hw⟩ := trod_i64 Try.underlying3 h
  exact ⟨n, rfl, hw⟩
theorem cells_str : Try.prog.cellsOf 9 = 1 := by kernel_rfl
theorem Op_str : Opens enc Try.prog w base spare held 9 1 RStr (fun s => s.size ≤ maxLen) := by
  refine ⟨cells_str, fun fuel cs x h => ?_⟩
  obtain ⟨s, rfl, hs⟩ := trod_str Try.underlying9 h
  exact ⟨s, rfl, hs⟩
theorem cells_u8 : Try.prog.cellsOf 5 = 1 := by kernel_rfl
theorem Op_byt : Opens enc Try.prog w base spare held 5 1 RByt (fun x => 0 ≤ x ∧ x ≤ 255) := by
  refine ⟨cells_u8, fun fuel cs x h => ?_⟩
  obtain ⟨n, rfl, hw⟩ := trod_u8 Try.underlying5 h
  exact ⟨n, rfl, hw⟩
def RVl (_ : World) (cs : List Value) (v : Vl) : Prop := cs = [.int .i64 v.kind, .int .i64 v.int, .string v.str]
theorem cells_lValue : Try.prog.cellsOf 82 = 3 := by kernel_rfl
theorem Op_Value : Opens enc Try.prog w base spare held 82 3 RVl (Vl.ok maxLen) := by
  refine ⟨cells_lValue, fun fuel cs x h => ?_⟩
  obtain ⟨hl, hp⟩ := trod_parts Try.underlying82 h
  rw [cells_lValue] at hl
  obtain ⟨c0, c1, c2, rfl⟩ := list3 hl
  obtain ⟨_, _, h0⟩ := hp 0 _ rfl
  obtain ⟨_, _, h1⟩ := hp 1 _ rfl
  obtain ⟨_, _, h2⟩ := hp 2 _ rfl
  obtain ⟨n0, e0, _⟩ := trod_i64 Try.underlying3 h0
  obtain ⟨n1, e1, _⟩ := trod_i64 Try.underlying3 h1
  obtain ⟨s, e2, hs⟩ := trod_str Try.underlying9 h2
  simp [cells_int, cells_str] at e0 e1 e2
  subst e0 e1 e2
  exact ⟨⟨n0, n1, s⟩, rfl, hs⟩
theorem cells_lField : Try.prog.cellsOf 124 = 2 := by kernel_rfl
theorem Op_Field : Opens enc Try.prog w base spare held 124 2 RFld (Fld.ok maxLen) := by
  refine ⟨cells_lField, fun fuel cs x h => ?_⟩
  obtain ⟨hl, hp⟩ := trod_parts Try.underlying124 h
  rw [cells_lField] at hl
  obtain ⟨c0, c1, rfl⟩ := list2 hl
  obtain ⟨_, _, h0⟩ := hp 0 _ rfl
  obtain ⟨_, _, h1⟩ := hp 1 _ rfl
  obtain ⟨s, e0, hs⟩ := trod_str Try.underlying9 h0
  obtain ⟨n1, e1, _⟩ := trod_i64 Try.underlying3 h1
  simp [cells_str, cells_int] at e0 e1
  subst e0 e1
  exact ⟨⟨s, n1⟩, rfl, hs⟩
theorem cells_lAttr : Try.prog.cellsOf 133 = 4 := by kernel_rfl
theorem Op_Attr : Opens enc Try.prog w base spare held 133 4 RAtr (Atr.ok maxLen) := by
  refine ⟨cells_lAttr, fun fuel cs x h => ?_⟩
  obtain ⟨hl, hp⟩ := trod_parts Try.underlying133 h
  rw [cells_lAttr] at hl
  obtain ⟨c0, c1, c2, c3, rfl⟩ := list4 hl
  obtain ⟨_, _, h0⟩ := hp 0 _ rfl
  obtain ⟨_, _, h1⟩ := hp 1 _ rfl
  obtain ⟨s, e0, hs⟩ := trod_str Try.underlying9 h0
  obtain ⟨v, e1, hv⟩ := Op_Value.2 _ _ _ h1
  unfold RVl at e1
  simp [cells_str, cells_lValue] at e0 e1
  obtain ⟨e1, e2, e3⟩ := e1
  subst e0 e1 e2 e3
  exact ⟨⟨s, v⟩, rfl, hs, hv⟩
theorem cells_bool : Try.prog.cellsOf 4 = 1 := by kernel_rfl
theorem cells_lAttrS : Try.prog.cellsOf 36 = 1 := by kernel_rfl
theorem cells_lFile : Try.prog.cellsOf 38 = 5 := by kernel_rfl
theorem Op_File : Opens enc Try.prog w base spare held 38 5 RFil (Fil.ok maxLen) := by
  refine ⟨cells_lFile, fun fuel cs x h => ?_⟩
  obtain ⟨hl, hp⟩ := trod_parts Try.underlying38 h
  rw [cells_lFile] at hl
  obtain ⟨c0, c1, c2, c3, c4, rfl⟩ := list5 hl
  obtain ⟨_, _, h0⟩ := hp 0 _ rfl
  obtain ⟨_, _, h1⟩ := hp 1 _ rfl
  obtain ⟨_, _, h2⟩ := hp 2 _ rfl
  obtain ⟨_, _, h3⟩ := hp 3 _ rfl
  obtain ⟨_, _, h4⟩ := hp 4 _ rfl
  obtain ⟨n0, e0, _⟩ := trod_i64 Try.underlying3 h0
  obtain ⟨n1, e1, _⟩ := trod_i64 Try.underlying3 h1
  obtain ⟨b2, e2⟩ := trod_boolean Try.underlying4 h2
  obtain ⟨n3, e3, _⟩ := trod_i64 Try.underlying3 h3
  obtain ⟨A, n, c, l, e4, hn, _, hS, hok⟩ := opens_slice Try.underlying36 (by omega) Op_Attr h4
  simp [cells_int, cells_bool, cells_lAttrS] at e0 e1 e2 e3 e4
  subst e0 e1 e2 e3 e4
  exact ⟨⟨n0, n1, b2, n3, l⟩, ⟨A, n, c, rfl, hS⟩, by show l.length ≤ maxLen; rw [hS.len]; exact hn, hok⟩
theorem cells_lFileS : Try.prog.cellsOf 23 = 1 := by kernel_rfl
theorem cells_lFieldS : Try.prog.cellsOf 22 = 1 := by kernel_rfl
def RSto (w : World) (cs : List Value) (s : Sto) : Prop :=
  ∃ A n c B m d, cs = [.slice A n c, .slice B m d, .int .i64 s.next] ∧ Sl 2 RFld w A n s.schema ∧ Sl 5 RFil w B m s.files
theorem mSto : RMono RSto := ⟨fun hb ⟨A, n, c, B, m, d, e, h, k⟩ => ⟨A, n, c, B, m, d, e, h.mono mFld hb, k.mono mFil hb⟩⟩
theorem cells_lStore : Try.prog.cellsOf 25 = 3 := by kernel_rfl
theorem Op_Store : Opens enc Try.prog w base spare held 25 3 RSto (Sto.ok maxLen) := by
  refine ⟨cells_lStore, fun fuel cs x h => ?_⟩
  obtain ⟨hl, hp⟩ := trod_parts Try.underlying25 h
  rw [cells_lStore] at hl
  obtain ⟨c0, c1, c2, rfl⟩ := list3 hl
  obtain ⟨_, _, h0⟩ := hp 0 _ rfl
  obtain ⟨_, _, h1⟩ := hp 1 _ rfl
  obtain ⟨_, _, h2⟩ := hp 2 _ rfl
  obtain ⟨A, n, c, l, e0, hn, _, hS, hok⟩ := opens_slice Try.underlying22 (by omega) Op_Field h0
  obtain ⟨B, m, d, k, e1, hm, _, hT, hokT⟩ := opens_slice Try.underlying23 (by omega) Op_File h1
  obtain ⟨n2, e2, _⟩ := trod_i64 Try.underlying3 h2
  simp [cells_lFieldS, cells_lFileS, cells_int] at e0 e1 e2
  subst e0 e1 e2
  exact ⟨⟨l, k, n2⟩, ⟨A, n, c, B, m, d, rfl, hS, hT⟩, by show l.length ≤ maxLen; rw [hS.len]; exact hn, hok, by show k.length ≤ maxLen; rw [hT.len]; exact hm, hokT⟩
theorem cells_intS : Try.prog.cellsOf 61 = 1 := by kernel_rfl
theorem cells_lPosting : Try.prog.cellsOf 84 = 5 := by kernel_rfl
theorem Op_Posting : Opens enc Try.prog w base spare held 84 5 RPst (Pst.ok maxLen) := by
  refine ⟨cells_lPosting, fun fuel cs x h => ?_⟩
  obtain ⟨hl, hp⟩ := trod_parts Try.underlying84 h
  rw [cells_lPosting] at hl
  obtain ⟨c0, c1, c2, c3, c4, rfl⟩ := list5 hl
  obtain ⟨_, _, h0⟩ := hp 0 _ rfl
  obtain ⟨_, _, h1⟩ := hp 1 _ rfl
  obtain ⟨_, _, h2⟩ := hp 2 _ rfl
  obtain ⟨s, e0, hs⟩ := trod_str Try.underlying9 h0
  obtain ⟨v, e1, hv⟩ := Op_Value.2 _ _ _ h1
  obtain ⟨A, n, c, l, e2, hn, _, hS, _⟩ := opens_slice Try.underlying61 (by omega) Op_int h2
  unfold RVl at e1
  simp [cells_str, cells_lValue, cells_intS] at e0 e1 e2
  obtain ⟨e1, e3, e4⟩ := e1
  subst e0 e1 e2 e3 e4
  exact ⟨⟨s, v, l⟩, ⟨A, n, c, rfl, hS⟩, hs, hv, by show l.length ≤ maxLen; rw [hS.len]; exact hn⟩
end
/-- a struct argument comes as its cells -/
theorem agg_of {P : Program} {w : World} {r : Reach} {base : Nat} {t : TypeId} {v : Value} {fs : Array Field} (ht : P.underlying t = some (.struct fs)) (h : Value.okWide P w r base t v) : v = .agg v.cells := by
  obtain ⟨cs, rfl, _⟩ := okWide_struct ht h
  rfl
theorem one_of {v : Value} {x : Value} (h : v.cells.toList = [x]) (hx : x.cells = #[x]) (hv : ∀ cs, v = .agg cs → cs.size = 1 → False) : v = x := by
  cases v <;> simp [Value.cells] at h <;> first | exact h | (rename_i cs; exact absurd (by simpa using congrArg List.length h) (fun e => hv cs rfl e))
end Go.Proofs.Ytkjhfblipmagoaa
