/-
  CONTRACTS: NewStore, LookupIndex.
-/
import Derived.WalkKit
import Derived.WalkSpells
import Derived.WalkLawsBesides
import Derived.Lib.Hide
import Derived.Handy
import Derived.StillTailTactics
import Derived.Deep.Light
import Derived.Deep.QuietTactic
import Derived.BigQuiet
import Derived.Deep.RegionHeld3
import Derived.Test.YtjobgnioehkomaaLib
import Derived.Test.YtjobgnioehkomaaOwn
import Derived.Test.YtjobgnioehkomaaRow
import Derived.Test.YtjobgnioehkomaaHld
import Derived.Test.YtjobgnioehkomaaM0
import Derived.Test.YtjobgnioehkomaaC1
import Derived.Test.YtjobgnioehkomaaC2
import Derived.Test.YtjobgnioehkomaaT1
import Derived.Test.YtjobgnioehkomaaT2
import Derived.Test.YtjobgnioehkomaaT3
import Derived.Test.YtjobgnioehkomaaT4
import Derived.Test.YtjobgnioehkomaaC3
import Derived.Test.YtjobgnioehkomaaC4
import Derived.Test.YtjobgnioehkomaaC5
import Derived.Test.YtjobgnioehkomaaD1
import Derived.Test.YtjobgnioehkomaaRows
namespace Go.Proofs.Ytjobgnioehkomaa
open Go.RowKit
set_option linter.unusedVariables false
set_option maxRecDepth 100000
/-- a store in new memory, inside f; to be read alone -/
def NewStoV (f : Value → Value) (ef eF ea : Nat) (w : World) (s : Sto) (en : Ending) (w' : World) : Prop :=
  ∃ A c B d bs bt, en = .returned (f (.agg #[.slice A s.schema.length c, .slice B s.files.length d, .int .i64 s.next])) ∧ OSl ef 2 OFld w' A s.schema.length s.schema bs ∧ OSl eF 5 (OFil ea) w' B s.files.length s.files bt ∧ Fresh w (bs ++ bt) ∧ Below w.heap.size w w'
def ReadStoV (f : Value → Value) (w : World) (s : Sto) (en : Ending) (w' : World) : Prop :=
  ∃ A c B d, en = .returned (f (.agg #[.slice A s.schema.length c, .slice B s.files.length d, .int .i64 s.next])) ∧ Sl 2 RFld w' A s.schema.length s.schema ∧ Sl 5 RFil w' B s.files.length s.files ∧ Below w.heap.size w w'
theorem NewStoV.read {f : Value → Value} {ef eF ea : Nat} {w w' : World} {s : Sto} {en : Ending} (h : NewStoV f ef eF ea w s en w') : ReadStoV f w s en w' := by
  obtain ⟨A, c, B, d, bs, bt, h1, h2, h3, _, h5⟩ := h
  exact ⟨A, c, B, d, h1, h2.sl fun h => h.1, h3.sl fun h => h.r, h5⟩
/-- a file in new memory, inside f -/
def NewFilV (f : Value → Value) (ea : Nat) (w : World) (x : Fil) (en : Ending) (w' : World) : Prop :=
  ∃ A c bs, en = .returned (f (.agg #[.int .i64 x.id, .int .i64 x.owner, .bool x.shared, .int .i64 x.link, .slice A x.attrs.length c])) ∧ OSl ea 4 OAtr w' A x.attrs.length x.attrs bs ∧ Fresh w bs ∧ Below w.heap.size w w'
def ReadFilV (f : Value → Value) (w : World) (x : Fil) (en : Ending) (w' : World) : Prop :=
  ∃ A c, en = .returned (f (.agg #[.int .i64 x.id, .int .i64 x.owner, .bool x.shared, .int .i64 x.link, .slice A x.attrs.length c])) ∧ Sl 4 RAtr w' A x.attrs.length x.attrs ∧ Below w.heap.size w w'
theorem rowBs_nodup (A : Option Addr) (c : Nat) : (rowBs A c).Nodup := by
  unfold rowBs; split
  · simp
  · split <;> simp
/-- the blocks of a row that a call has made are new to it -/
theorem FRow.fresh {α : Type} {e size n c : Nat} {enc : α → List Value} {w w0 : World} {B : Nat} {A : Option Addr} {l : List α} (h : FRow e size enc w B A n c l) (hB : w0.heap.size ≤ B) : Fresh w0 (if n = 0 then [] else rowBs A c) := by
  split
  · exact Fresh.nil _
  · exact ⟨rowBs_nodup _ _, fun b hb => Nat.le_trans hB (h.base b hb).1⟩
def newSto (l : List Fld) : Sto := ⟨l, [], 1⟩
theorem spec_NewStore (A : Option Addr) (n c : Nat) (l : List Fld) (w : World) (hS : Sl 2 RFld w A n l) (hn : n ≤ 1073741824) :
    Calls Try.prog 140 #[.slice A n c] w (ReadStoV id w (newSto l)) := by
  obtain rfl : l.length = n := hS.len
  have HS := Lib.hid hS
  clear hS
  obtain ⟨ii, hi, hi0, hi1, hi2⟩ := info_parts info_Field
  go_enter Try.func140, Try.ntmps140
  go_wp2_with (at_builtin; refine wpList_append_row rfl _ _ _ rfl encFld Try.underlying37 hi hi0 hi1 hi2 rfl rfl rfl (FRow.any0 _ _ _ _ _ _) (Src.of_sl (R := RFld) encFld (fun h => h) (HS.out.mono mFld (by go_grown))) (by unfold maxLen; omega) (by omega) (show w.heap.size + 1 ≤ _ by simp) ?_; intro A2 c2 w2 hr2 hc2 hx2; have hb2 := Chg.blow hc2; obtain ⟨hcc2, hff2⟩ := bcell hb2; have hz2 : w.heap.size < w2.heap.size := (by have := hb2.size; simp at this; omega); have HR := Lib.hid hr2; clear hr2)
  have hB2 := ex_trans (w := w) (by go_grown) hb2
  have y0 : w2.cell? ⟨w.heap.size, 0, none⟩ = some (.slice none 0 0) := keep_cell hb2 (by go_simp)
  have y1 : w2.cell? ⟨w.heap.size, 1, none⟩ = some (.slice none 0 0) := keep_cell hb2 (by go_simp)
  have y2 : w2.cell? ⟨w.heap.size, 2, none⟩ = some (.int .i64 0) := keep_cell hb2 (by go_simp)
  refine bodyPost_ret (v := .agg #[.slice A2 l.length c2, .slice none 0 0, .int .i64 1]) (by simp [results, Try.results140, go_sem, y0, y1, y2]) rfl ?_
  have hr2 : FRow 138 2 eFld w2 (w.heap.size + 1) A2 l.length c2 l := by simpa using HR.out
  have hch : Chg [w.heap.size] w2 (sets w2 w.heap.size 0 [.slice A2 l.length c2, .slice none 0 0, .int .i64 1]) := sets_chg (bs := [w.heap.size]) (g := w.heap.size) (w := w2) (w1 := w2) (by simp) _ w2 0 (Chg.refl _ _)
  exact ⟨A2, c2, none, 0, rfl, (hr2.chg hch fun b hb h => by have := (hr2.base b hb).1; simp at h; omega).sl encFld (fun _ => rfl), Sl.nil, Below.mark hB2 hch hB2.size (by simp)⟩
end Go.Proofs.Ytjobgnioehkomaa
