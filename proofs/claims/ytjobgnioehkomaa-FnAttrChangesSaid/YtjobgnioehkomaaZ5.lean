/-
  CONTRACTS: the draws of files.
-/
import Derived.WalkKit
import Derived.WalkSpells
import Derived.WalkLawsBesides
import Derived.Lib.Hide
import Derived.Handy
import Derived.StillTailTactics
import Derived.Deep.Light
import Derived.Deep.QuietTactic
import Derived.BigQuiet
import Derived.Deep.RegionHeld3
import Derived.Deep.DeepCutAuto
import Derived.Test.YtjobgnioehkomaaLib
import Derived.Test.YtjobgnioehkomaaOwn
import Derived.Test.YtjobgnioehkomaaRow
import Derived.Test.YtjobgnioehkomaaN0
import Derived.Test.YtjobgnioehkomaaRaw
import Derived.Test.YtjobgnioehkomaaHld
import Derived.Test.YtjobgnioehkomaaHl2
import Derived.Test.YtjobgnioehkomaaSz
import Derived.Test.YtjobgnioehkomaaC1
import Derived.Test.YtjobgnioehkomaaC2
import Derived.Test.YtjobgnioehkomaaT1
import Derived.Test.YtjobgnioehkomaaT2
import Derived.Test.YtjobgnioehkomaaT3
import Derived.Test.YtjobgnioehkomaaT4
import Derived.Test.YtjobgnioehkomaaC3
import Derived.Test.YtjobgnioehkomaaC4
import Derived.Test.YtjobgnioehkomaaC5
import Derived.Test.YtjobgnioehkomaaD1
import Derived.Test.YtjobgnioehkomaaD3
import Derived.Test.YtjobgnioehkomaaD4
import Derived.Test.YtjobgnioehkomaaD5
import Derived.Test.YtjobgnioehkomaaH1
import Derived.Test.YtjobgnioehkomaaE4
import Derived.Test.YtjobgnioehkomaaI1
import Derived.Test.YtjobgnioehkomaaI2
import Derived.Test.YtjobgnioehkomaaD7
import Derived.Test.YtjobgnioehkomaaD8
import Derived.Test.YtjobgnioehkomaaY1
import Derived.Test.YtjobgnioehkomaaY2
import Derived.Test.YtjobgnioehkomaaZ1
import Derived.Test.YtjobgnioehkomaaZ3
import Derived.Test.YtjobgnioehkomaaZ4
import Derived.Test.YtjobgnioehkomaaRows
namespace Go.Proofs.Ytjobgnioehkomaa
open Go.RowKit
set_option linter.unusedVariables false
set_option maxRecDepth 100000
set_option linter.unusedSimpArgs false
set_option maxHeartbeats 3200000 in
theorem spec_DrawSetAttr (A : Option Addr) (n c : Nat) (l : List Int) (w : World) (hS : Sl 1 RByt w A n l) (hn : n ≤ 1048576) (hl : ∀ y ∈ l, 0 ≤ y ∧ y ≤ 255) :
    Calls Try.prog 22 #[.slice A n c] w fun e w' => ∃ (f : Fil) (A' : Option Addr) (n' c' : Nat) (s : ByteArray) (v : Vl), e = .returned (.tuple #[.agg #[.int .i64 f.id, .int .i64 f.owner, .bool f.shared, .int .i64 f.link, .slice A' n' c'], .string s, v.v]) ∧ Sl 4 RAtr w' A' n' f.attrs ∧ n' ≤ 5 ∧ smallA f.attrs ∧ s.size ≤ 1 ∧ v.small ∧ Below w.heap.size w w' := by
  have HN := Lib.hid fun w' (hb : Below w.heap.size w w') => spec_l01New A n c l w' (hS.mono mByt hb) hn hl
  clear hS hl
  go_enter Try.func22, Try.ntmps22
  go_wp2_with fail
  refine (HN.out _ (by go_grown)).mono ?_; rintro e w1 ⟨g, rfl, hC⟩
  have hgw := (cur_w hC).1
  have hk := (cur_w hC).2
  have hr1 := below_keep hk (show (World.alloc (World.alloc w _) _).heap[w.heap.size]? = _ from (hp_old (by simp)).trans (hp_new rfl))
  have hq1 := below_keep hk (show (World.alloc (World.alloc w _) _).heap[w.heap.size + 1]? = _ from hp_new (by simp))
  have HR1 := Lib.hid (And.intro hr1 hq1)
  have hz1 := blk_lt hq1
  have hgl := cur_lt hC
  have HC1 := Lib.hid hC
  have HB1 := Lib.hid (ex_trans (show Below w.heap.size w (World.alloc (World.alloc w _) _) by go_grown) hk)
  simp at hgw
  clear hr1 hq1 hC hk
  go_wp2_with fail
  refine (spec_l04Any _ _ g HC1.out).mono ?_; rintro e w2 ⟨f, A', n', c', rfl, hR, hn', hsm, hc2, hg2⟩
  have HR2 := Lib.hid (And.intro (hg2.keepb HR1.out.1 (by simp only [List.mem_singleton]; omega)) (hg2.keepb HR1.out.2 (by simp only [List.mem_singleton]; omega)))
  have HB2 := Lib.hid (Below.mark HB1.out hg2 HB1.out.size (by simp only [List.mem_singleton]; intro b hb; omega))
  have HF2 := Lib.hid hR
  have HC2 := Lib.hid hc2
  have HS := Lib.hid hsm
  clear hR hsm hc2 hg2
  go_wp2_with fail
  refine (spec_l03Name _ _ g HC2.out).mono ?_; rintro e w3 ⟨s, rfl, hs, hc3, hg3⟩
  have HR3 := Lib.hid (And.intro (hg3.keepb HR2.out.1 (by simp only [List.mem_singleton]; omega)) (hg3.keepb HR2.out.2 (by simp only [List.mem_singleton]; omega)))
  have HB3 := Lib.hid (Below.mark HB2.out hg3 HB2.out.size (by simp only [List.mem_singleton]; intro b hb; omega))
  have HF3 := Lib.hid (row_draw HF2.out hgl hg3)
  have HC3 := Lib.hid hc3
  clear hc3 hg3
  go_wp2_with fail
  refine (spec_l02Any _ _ g HC3.out).mono ?_; rintro e w4 ⟨v, rfl, hv, hc4, hb4, hg4⟩
  have HR4 := Lib.hid (And.intro (hg4.keepb HR3.out.1 (by simp only [List.mem_singleton]; omega)) (hg4.keepb HR3.out.2 (by simp only [List.mem_singleton]; omega)))
  have HB4 := Lib.hid (Below.mark HB3.out hg4 HB3.out.size (by simp only [List.mem_singleton]; intro b hb; omega))
  have HF4 := Lib.hid (row_draw HF3.out hgl hg4)
  have HV := Lib.hid hv
  clear hv hc4 hb4 hg4
  have r0 := blk_cell? HR4.out.1 0
  have r1 := blk_cell? HR4.out.1 1
  have r2 := blk_cell? HR4.out.1 2
  have r3 := blk_cell? HR4.out.1 3
  have r4 := blk_cell? HR4.out.1 4
  have rf := blk_free HR4.out.1
  have q0 := blk_cell? HR4.out.2 0
  have q1 := blk_cell? HR4.out.2 1
  have q2 := blk_cell? HR4.out.2 2
  have qf := blk_free HR4.out.2
  simp only [List.getElem?_toArray, List.getElem?_cons_zero, List.getElem?_cons_succ] at r0 r1 r2 r3 r4 q0 q1 q2
  go_wp2_with fail
  refine bodyPost_ret (v := .tuple #[.agg #[.int .i64 f.id, .int .i64 f.owner, .bool f.shared, .int .i64 f.link, .slice A' n' c'], .string s, v.v]) (by simp [results, Try.results22, go_sem, r0, r1, r2, r3, r4, q0, q1, q2]) rfl ?_
  have hc : Chg [w.heap.size, w.heap.size + 1] w4 _ := (((((((((Chg.refl [w.heap.size, w.heap.size + 1] w4).set (a := ⟨w.heap.size, 0, none⟩) (by simp) (.int .i64 f.id)).set (a := ⟨w.heap.size, 1, none⟩) (by simp) (.int .i64 f.owner)).set (a := ⟨w.heap.size, 2, none⟩) (by simp) (.bool f.shared)).set (a := ⟨w.heap.size, 3, none⟩) (by simp) (.int .i64 f.link)).set (a := ⟨w.heap.size, 4, none⟩) (by simp) (.slice A' n' c')).set (a := ⟨w.heap.size + 1, 0, none⟩) (by simp) (.int .i64 v.kind)).set (a := ⟨w.heap.size + 1, 1, none⟩) (by simp) (.int .i64 v.int)).set (a := ⟨w.heap.size + 1, 2, none⟩) (by simp) (.string v.str))
  exact ⟨f, A', n', c', s, v, rfl, (HF4.out.chg hc (fun b hb h => by have := (HF4.out.base b hb).1; simp only [List.mem_cons, List.not_mem_nil, or_false] at h; omega)).sl (R := RAtr) encAtr (fun _ => rfl), hn', HS.out, hs, HV.out, Below.mark HB4.out hc HB4.out.size (fun b hb => by simp only [List.mem_cons, List.not_mem_nil, or_false] at hb; omega)⟩
end Go.Proofs.Ytjobgnioehkomaa
