/-
  CONTRACTS: the draws of files.
-/
import Derived.WalkKit
import Derived.WalkSpells
import Derived.WalkLawsBesides
import Derived.Lib.Hide
import Derived.Handy
import Derived.StillTailTactics
import Derived.Deep.Light
import Derived.Deep.QuietTactic
import Derived.BigQuiet
import Derived.Deep.RegionHeld3
import Derived.Deep.DeepCutAuto
import Derived.Test.YtjobgnioehkomaaLib
import Derived.Test.YtjobgnioehkomaaOwn
import Derived.Test.YtjobgnioehkomaaRow
import Derived.Test.YtjobgnioehkomaaN0
import Derived.Test.YtjobgnioehkomaaRaw
import Derived.Test.YtjobgnioehkomaaHld
import Derived.Test.YtjobgnioehkomaaHl2
import Derived.Test.YtjobgnioehkomaaSz
import Derived.Test.YtjobgnioehkomaaC1
import Derived.Test.YtjobgnioehkomaaC2
import Derived.Test.YtjobgnioehkomaaT1
import Derived.Test.YtjobgnioehkomaaT2
import Derived.Test.YtjobgnioehkomaaT3
import Derived.Test.YtjobgnioehkomaaT4
import Derived.Test.YtjobgnioehkomaaC3
import Derived.Test.YtjobgnioehkomaaC4
import Derived.Test.YtjobgnioehkomaaC5
import Derived.Test.YtjobgnioehkomaaD1
import Derived.Test.YtjobgnioehkomaaD3
import Derived.Test.YtjobgnioehkomaaD4
import Derived.Test.YtjobgnioehkomaaD5
import Derived.Test.YtjobgnioehkomaaH1
import Derived.Test.YtjobgnioehkomaaE4
import Derived.Test.YtjobgnioehkomaaI1
import Derived.Test.YtjobgnioehkomaaI2
import Derived.Test.YtjobgnioehkomaaD7
import Derived.Test.YtjobgnioehkomaaD8
import Derived.Test.YtjobgnioehkomaaY1
import Derived.Test.YtjobgnioehkomaaY2
import Derived.Test.YtjobgnioehkomaaZ1
import Derived.Test.YtjobgnioehkomaaZ3
import Derived.Test.YtjobgnioehkomaaZ4
import Derived.Test.YtjobgnioehkomaaZ5
import Derived.Test.YtjobgnioehkomaaRows
namespace Go.Proofs.Ytjobgnioehkomaa
open Go.RowKit
set_option linter.unusedVariables false
set_option maxRecDepth 100000
set_option linter.unusedSimpArgs false
set_option maxHeartbeats 3200000 in
theorem spec_DrawIsValidFile (A : Option Addr) (n c : Nat) (l : List Int) (w : World) (hS : Sl 1 RByt w A n l) (hn : n ≤ 1048576) (hl : ∀ y ∈ l, 0 ≤ y ∧ y ≤ 255) :
    Calls Try.prog 25 #[.slice A n c] w fun e w' => ∃ (A2 : Option Addr) (n2 c2 : Nat) (l2 : List Fld) (f : Fil) (A' : Option Addr) (n' c' : Nat), e = .returned (.tuple #[.slice A2 n2 c2, .agg #[.int .i64 f.id, .int .i64 f.owner, .bool f.shared, .int .i64 f.link, .slice A' n' c']]) ∧ Sl 2 RFld w' A2 n2 l2 ∧ (n2 ≤ 6 ∧ ∀ f ∈ l2, f.name.size ≤ 1) ∧ Sl 4 RAtr w' A' n' f.attrs ∧ n' ≤ 5 ∧ smallA f.attrs ∧ Below w.heap.size w w' := by
  have HN := Lib.hid fun w' (hb : Below w.heap.size w w') => spec_l01New A n c l w' (hS.mono mByt hb) hn hl
  clear hS hl
  go_enter Try.func25, Try.ntmps25
  go_wp2_with fail
  refine (HN.out _ (by go_grown)).mono ?_; rintro e w1 ⟨g, rfl, hC⟩
  have hgw := (cur_w hC).1
  have hk := (cur_w hC).2
  have HR1 := Lib.hid (below_keep hk (hp_new rfl))
  have HB1 := Lib.hid (ex_trans (ex_alloc (Below.refl w.heap.size w) _) hk)
  have hgl := cur_lt hC
  have HC1 := Lib.hid hC
  simp at hgw
  clear hC hk
  go_wp2_with fail
  refine (spec_l01Once _ _ g 4 (by omega) (by omega) HC1.out).mono ?_; rintro e w2 ⟨q, rfl, hc2, hg2⟩
  have HR2 := Lib.hid (hg2.keepb HR1.out (by simp only [List.mem_singleton]; omega))
  have HB2 := Lib.hid (Below.mark HB1.out hg2 HB1.out.size (by simp only [List.mem_singleton]; intro b hb; omega))
  have HC2 := Lib.hid hc2
  have hz2 := HB1.out.size
  have hg3l := cur_lt hc2
  have hw2 := HB2.out.size
  have hzr := blk_lt HR2.out
  clear hc2 hg2
  cases q with
  | true =>
    go_wp2_with fail
    refine (spec_l03Any _ _ g HC2.out).mono ?_; rintro e w3 ⟨A3, n3, c3, l3, rfl, hF, hn3, hsm3, hc3, hg3⟩
    have HR3 := Lib.hid (hg3.keepb HR2.out (by simp only [List.mem_singleton]; omega))
    have HB3 := Lib.hid (Below.mark HB2.out hg3 HB2.out.size (by simp only [List.mem_singleton]; intro b hb; omega))
    have HF3 := Lib.hid hF
    have HC3 := Lib.hid hc3
    have HS3 := Lib.hid hsm3
    clear hF hsm3 hc3 hg3
    go_wp2_with fail
    refine (spec_l04Any _ _ g HC3.out).mono ?_; rintro e w4 ⟨f, A', n', c', rfl, hR, hn', hsm, hc4, hg4⟩
    have HR4 := Lib.hid (hg4.keepb HR3.out (by simp only [List.mem_singleton]; omega))
    have HB4 := Lib.hid (Below.mark HB3.out hg4 HB3.out.size (by simp only [List.mem_singleton]; intro b hb; omega))
    have HF4 := Lib.hid (row_draw HF3.out hg3l hg4)
    have HA4 := Lib.hid hR
    have HS := Lib.hid hsm
    have hz4 := blk_lt HR3.out
    clear hR hsm hc4 hg4
    have r0 := blk_cell? HR4.out 0
    have r1 := blk_cell? HR4.out 1
    have r2 := blk_cell? HR4.out 2
    have r3 := blk_cell? HR4.out 3
    have r4 := blk_cell? HR4.out 4
    have rf := blk_free HR4.out
    simp only [List.getElem?_toArray, List.getElem?_cons_zero, List.getElem?_cons_succ] at r0 r1 r2 r3 r4
    go_wp2_with fail
    refine bodyPost_ret (v := .tuple #[.slice A3 n3 c3, .agg #[.int .i64 f.id, .int .i64 f.owner, .bool f.shared, .int .i64 f.link, .slice A' n' c']]) (by simp [results, Try.results25, go_sem, r0, r1, r2, r3, r4]) rfl ?_
    have hc : Chg [w.heap.size] w4 _ := ((((((Chg.refl [w.heap.size] w4).set (a := ⟨w.heap.size, 0, none⟩) (by simp) (.int .i64 f.id)).set (a := ⟨w.heap.size, 1, none⟩) (by simp) (.int .i64 f.owner)).set (a := ⟨w.heap.size, 2, none⟩) (by simp) (.bool f.shared)).set (a := ⟨w.heap.size, 3, none⟩) (by simp) (.int .i64 f.link)).set (a := ⟨w.heap.size, 4, none⟩) (by simp) (.slice A' n' c'))
    exact ⟨A3, n3, c3, l3, f, A', n', c', rfl, (HF4.out.chg hc (fun b hb h => by have := (HF4.out.base b hb).1; simp only [List.mem_singleton] at h; omega)).sl (R := RFld) encFld (fun _ => rfl), ⟨hn3, HS3.out⟩, (HA4.out.chg hc (fun b hb h => by have := (HA4.out.base b hb).1; simp only [List.mem_singleton] at h; omega)).sl (R := RAtr) encAtr (fun _ => rfl), hn', HS.out, Below.mark HB4.out hc HB4.out.size (fun b hb => by simp only [List.mem_singleton] at hb; omega)⟩
  | false =>
    go_wp2_with fail
    refine (spec_l03Usual _).mono ?_; rintro e w3 ⟨A3, rfl, hF, hb3⟩
    have HR3 := Lib.hid (below_keep hb3 HR2.out)
    have HB3 := Lib.hid (ex_trans HB2.out hb3)
    have HF3 := Lib.hid hF
    have HC3 := Lib.hid (HC2.out.below hb3)
    clear hF hb3
    go_wp2_with fail
    refine (spec_l04Any _ _ g HC3.out).mono ?_; rintro e w4 ⟨f, A', n', c', rfl, hR, hn', hsm, hc4, hg4⟩
    have HR4 := Lib.hid (hg4.keepb HR3.out (by simp only [List.mem_singleton]; omega))
    have HB4 := Lib.hid (Below.mark HB3.out hg4 HB3.out.size (by simp only [List.mem_singleton]; intro b hb; omega))
    have HF4 := Lib.hid (row_draw HF3.out hg3l hg4)
    have HA4 := Lib.hid hR
    have HS := Lib.hid hsm
    have hz4 := blk_lt HR3.out
    clear hR hsm hc4 hg4
    have r0 := blk_cell? HR4.out 0
    have r1 := blk_cell? HR4.out 1
    have r2 := blk_cell? HR4.out 2
    have r3 := blk_cell? HR4.out 3
    have r4 := blk_cell? HR4.out 4
    have rf := blk_free HR4.out
    simp only [List.getElem?_toArray, List.getElem?_cons_zero, List.getElem?_cons_succ] at r0 r1 r2 r3 r4
    go_wp2_with fail
    refine bodyPost_ret (v := .tuple #[.slice A3 4 4, .agg #[.int .i64 f.id, .int .i64 f.owner, .bool f.shared, .int .i64 f.link, .slice A' n' c']]) (by simp [results, Try.results25, go_sem, r0, r1, r2, r3, r4]) rfl ?_
    have hc : Chg [w.heap.size] w4 _ := ((((((Chg.refl [w.heap.size] w4).set (a := ⟨w.heap.size, 0, none⟩) (by simp) (.int .i64 f.id)).set (a := ⟨w.heap.size, 1, none⟩) (by simp) (.int .i64 f.owner)).set (a := ⟨w.heap.size, 2, none⟩) (by simp) (.bool f.shared)).set (a := ⟨w.heap.size, 3, none⟩) (by simp) (.int .i64 f.link)).set (a := ⟨w.heap.size, 4, none⟩) (by simp) (.slice A' n' c'))
    exact ⟨A3, 4, 4, usualL, f, A', n', c', rfl, (HF4.out.chg hc (fun b hb h => by have := (HF4.out.base b hb).1; simp only [List.mem_singleton] at h; omega)).sl (R := RFld) encFld (fun _ => rfl), ⟨by omega, usual_small⟩, (HA4.out.chg hc (fun b hb h => by have := (HA4.out.base b hb).1; simp only [List.mem_singleton] at h; omega)).sl (R := RAtr) encAtr (fun _ => rfl), hn', HS.out, Below.mark HB4.out hc HB4.out.size (fun b hb => by simp only [List.mem_singleton] at hb; omega)⟩
end Go.Proofs.Ytjobgnioehkomaa
