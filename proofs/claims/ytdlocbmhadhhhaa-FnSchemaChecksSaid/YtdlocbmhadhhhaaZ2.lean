/-
  CONTRACTS: drawn schemas, handed out.
-/
import Derived.WalkKit
import Derived.WalkSpells
import Derived.WalkLawsBesides
import Derived.Lib.Hide
import Derived.Handy
import Derived.StillTailTactics
import Derived.Deep.Light
import Derived.Deep.QuietTactic
import Derived.BigQuiet
import Derived.Deep.RegionHeld3
import Derived.Deep.DeepCutAuto
import Derived.Test.YtdlocbmhadhhhaaLib
import Derived.Test.YtdlocbmhadhhhaaOwn
import Derived.Test.YtdlocbmhadhhhaaRow
import Derived.Test.YtdlocbmhadhhhaaN0
import Derived.Test.YtdlocbmhadhhhaaHld
import Derived.Test.YtdlocbmhadhhhaaSz
import Derived.Test.YtdlocbmhadhhhaaC1
import Derived.Test.YtdlocbmhadhhhaaC2
import Derived.Test.YtdlocbmhadhhhaaC3
import Derived.Test.YtdlocbmhadhhhaaC4
import Derived.Test.YtdlocbmhadhhhaaD1
import Derived.Test.YtdlocbmhadhhhaaY1
import Derived.Test.YtdlocbmhadhhhaaY2
import Derived.Test.YtdlocbmhadhhhaaZ1
import Derived.Test.YtdlocbmhadhhhaaRows
namespace Go.Proofs.Ytdlocbmhadhhhaa
open Go.RowKit
set_option linter.unusedVariables false
set_option maxRecDepth 100000
theorem spec_DrawIsValidAttrName (A : Option Addr) (n c : Nat) (l : List Int) (w : World) (hS : Sl 1 RByt w A n l) (hn : n ≤ 1048576) (hl : ∀ y ∈ l, 0 ≤ y ∧ y ≤ 255) :
    Calls Try.prog 22 #[.slice A n c] w fun e w' => ∃ s : ByteArray, e = .returned (.string s) ∧ s.size ≤ 1 ∧ Below w.heap.size w w' := by
  have HN := Lib.hid (spec_l01New A n c l w hS hn hl)
  clear hS hl
  go_enter Try.func22, Try.ntmps22
  go_wp2_with fail
  refine HN.out.mono ?_; rintro e w1 ⟨g, rfl, hC⟩
  have HC := Lib.hid hC
  clear hC
  go_wp2_with fail
  refine (spec_l03Name _ _ g HC.out).mono ?_; rintro e w2 ⟨s, rfl, hs, hc2, hg2⟩
  have HB := Lib.hid (cur_w hc2).2
  clear hc2 hg2
  go_wp2_with fail
  go_returns
  exact ⟨s, rfl, hs, HB.out⟩
/-- a drawn schema, of memory new -/
def NewSch (w : World) (e : Ending) (w' : World) : Prop := ∃ (A : Option Addr) (n c : Nat) (l : List Fld), e = .returned (.slice A n c) ∧ Sl 2 RFld w' A n l ∧ n ≤ 6 ∧ (∀ f ∈ l, f.name.size ≤ 1) ∧ Below w.heap.size w w'
theorem spec_DrawIsValidSchema (A : Option Addr) (n c : Nat) (l : List Int) (w : World) (hS : Sl 1 RByt w A n l) (hn : n ≤ 1048576) (hl : ∀ y ∈ l, 0 ≤ y ∧ y ≤ 255) :
    Calls Try.prog 21 #[.slice A n c] w (NewSch w) := by
  have HN := Lib.hid (spec_l01New A n c l w hS hn hl)
  clear hS hl
  go_enter Try.func21, Try.ntmps21
  go_wp2_with fail
  refine HN.out.mono ?_; rintro e w1 ⟨g, rfl, hC⟩
  have HC := Lib.hid hC
  clear hC
  go_wp2_with fail
  refine (spec_l03Any _ _ g HC.out).mono ?_; rintro e w2 ⟨A', n', c', l', rfl, hR, hn', hsm, hc2, hg2⟩
  have HF := Lib.hid (And.intro (hR.sl encFld (fun x => rfl) : Sl 2 RFld w2 A' n' l') (And.intro hsm (cur_w hc2).2))
  clear hR hsm hc2 hg2
  go_wp2_with fail
  go_returns
  exact ⟨A', n', c', l', rfl, HF.out.1, hn', HF.out.2.1, HF.out.2.2⟩
set_option maxHeartbeats 1600000 in
theorem spec_DrawMatchesSchema (A : Option Addr) (n c : Nat) (l : List Int) (w : World) (hS : Sl 1 RByt w A n l) (hn : n ≤ 1048576) (hl : ∀ y ∈ l, 0 ≤ y ∧ y ≤ 255) :
    Calls Try.prog 20 #[.slice A n c] w fun e w' => ∃ (A' : Option Addr) (n' c' : Nat) (l' : List Fld) (s : ByteArray) (v : Vl), e = .returned (.tuple #[.slice A' n' c', .string s, v.v]) ∧ Sl 2 RFld w' A' n' l' ∧ n' ≤ 6 ∧ (∀ f ∈ l', f.name.size ≤ 1) ∧ s.size ≤ 1 ∧ v.small ∧ Below w.heap.size w w' := by
  have HN := Lib.hid fun w' (hb : Below w.heap.size w w') => spec_l01New A n c l w' (hS.mono mByt hb) hn hl
  clear hS hl
  go_enter Try.func20, Try.ntmps20
  go_wp2_with fail
  refine (HN.out _ (ex_alloc (Below.refl _ _) _)).mono ?_; rintro e w1 ⟨g, rfl, hC⟩
  have hr1 := below_keep (cur_w hC).2 (hp_new rfl)
  have HR1 := Lib.hid hr1
  have hz1 := blk_lt hr1
  have hgw := (cur_w hC).1
  have hgl := cur_lt hC
  have HC1 := Lib.hid hC
  have HB1 := Lib.hid (ex_trans (ex_alloc (Below.refl w.heap.size w) _) (cur_w hC).2)
  have hne : g ≠ w.heap.size := by simp at hgw; omega
  clear hr1 hC
  go_wp2_with fail
  refine (spec_l03Any _ _ g HC1.out).mono ?_; rintro e w2 ⟨A', n', c', l', rfl, hR, hn', hsm, hc2, hg2⟩
  have HR2 := Lib.hid (hg2.keepb HR1.out (by simp only [List.mem_singleton]; omega))
  have HB2 := Lib.hid (Below.mark HB1.out hg2 HB1.out.size (by simp only [List.mem_singleton]; intro b hb; simp at hgw; omega))
  have HF2 := Lib.hid hR
  have HC2 := Lib.hid hc2
  have HS := Lib.hid hsm
  have hz2 := blk_lt HR2.out
  clear hR hsm hc2 hg2
  go_wp2_with fail
  refine (spec_l03Name _ _ g HC2.out).mono ?_; rintro e w3 ⟨s, rfl, hs, hc3, hg3⟩
  have HR3 := Lib.hid (hg3.keepb HR2.out (by simp only [List.mem_singleton]; omega))
  have HB3 := Lib.hid (Below.mark HB2.out hg3 HB2.out.size (by simp only [List.mem_singleton]; intro b hb; simp at hgw; omega))
  have HF3 := Lib.hid (row_draw HF2.out hgl hg3)
  have HC3 := Lib.hid hc3
  have hz3 := blk_lt HR3.out
  clear hc3 hg3
  go_wp2_with fail
  refine (spec_l02Any _ _ g HC3.out).mono ?_; rintro e w4 ⟨v, rfl, hv, hc4, hb4, hg4⟩
  have HR4 := Lib.hid (hg4.keepb HR3.out (by simp only [List.mem_singleton]; omega))
  have HB4 := Lib.hid (Below.mark HB3.out hg4 HB3.out.size (by simp only [List.mem_singleton]; intro b hb; simp at hgw; omega))
  have HF4 := Lib.hid (row_draw HF3.out hgl hg4)
  have HV := Lib.hid hv
  clear hv hc4 hb4 hg4
  have ur := blk_cell? HR4.out
  have r0 := blk_cell? HR4.out 0
  have r1 := blk_cell? HR4.out 1
  have r2 := blk_cell? HR4.out 2
  have rf := blk_free HR4.out
  simp only [List.getElem?_toArray, List.getElem?_cons_zero, List.getElem?_cons_succ] at r0 r1 r2
  go_wp2_with fail
  refine bodyPost_ret (v := .tuple #[.slice A' n' c', .string s, v.v]) (by simp [results, Try.results20, go_sem, ur]) rfl ?_
  have hsets : Chg [w.heap.size] w4 (sets w4 w.heap.size 0 [.int .i64 v.kind, .int .i64 v.int, .string v.str]) := (((Chg.refl [w.heap.size] w4).set (by simp) _).set (by simp) _).set (by simp) _
  have hrow := HF4.out.chg hsets (fun b hb h => by have := (HF4.out.base b hb).1; simp only [List.mem_singleton] at h; omega)
  exact ⟨A', n', c', l', s, v, rfl, hrow.sl encFld (fun x => rfl), hn', HS.out, hs, HV.out, sets_below (Nat.le_refl _) [.int .i64 v.kind, .int .i64 v.int, .string v.str] w w4 0 HB4.out⟩
end Go.Proofs.Ytdlocbmhadhhhaa
