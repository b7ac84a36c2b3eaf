/-
  CONTRACTS: drawn values.
-/
import Derived.WalkKit
import Derived.WalkSpells
import Derived.WalkLawsBesides
import Derived.Lib.Hide
import Derived.Handy
import Derived.StillTailTactics
import Derived.Deep.Light
import Derived.Deep.QuietTactic
import Derived.BigQuiet
import Derived.Deep.RegionHeld3
import Derived.Deep.DeepCutAuto
import Derived.Test.YtjobgnioehkomaaLib
import Derived.Test.YtjobgnioehkomaaOwn
import Derived.Test.YtjobgnioehkomaaRow
import Derived.Test.YtjobgnioehkomaaN0
import Derived.Test.YtjobgnioehkomaaHld
import Derived.Test.YtjobgnioehkomaaSz
import Derived.Test.YtjobgnioehkomaaC1
import Derived.Test.YtjobgnioehkomaaC2
import Derived.Test.YtjobgnioehkomaaC4
import Derived.Test.YtjobgnioehkomaaD1
import Derived.Test.YtjobgnioehkomaaY1
import Derived.Test.YtjobgnioehkomaaRows
namespace Go.Proofs.Ytjobgnioehkomaa
open Go.RowKit
set_option linter.unusedVariables false
set_option maxRecDepth 100000
def Vl.small (v : Vl) : Prop := v.str.size ≤ 16
def DrawV (W0 w : World) (g : Nat) (e : Ending) (w' : World) : Prop := ∃ v : Vl, e = .returned v.v ∧ v.small ∧ Cur W0 w' g ∧ Below W0.heap.size W0 w' ∧ Chg [g] w w'
theorem cur_w {W0 w : World} {g : Nat} (h : Cur W0 w g) : W0.heap.size ≤ g ∧ Below W0.heap.size W0 w := by
  obtain ⟨_, _, _, _, _, _, _, _, _, _, _, _, h1, h2⟩ := h
  exact ⟨h1, h2⟩
/-- a list of the call's own, laid out, whatever the cursor does -/
theorem lit_keeps {α : Type} {size : Nat} {enc : α → List Value} {R : World → List Value → α → Prop} (hE : Enc size enc) (hR : ∀ w x, R w (enc x) x) (w : World) (l : List α) (e : TypeId) {g n : Nat} (hg : g < w.heap.size) (hn : l.length = n) (hm : n ≤ maxLen) {cs : Array Value} (hcs : cs.toList = l.flatMap enc) :
    ∀ w', Chg [g] (w.alloc (.cells cs e)) w' → Sl size R w' (some ⟨w.heap.size, 0, none⟩) n l := fun w' hc => by
  subst hn
  refine ((FRow.lit (e := e) (B := w.heap.size) hE w hm (Nat.le_refl _) hcs).chg hc fun b hb h => ?_).sl hE (fun x => hR _ x)
  have h1 := (FRow.lit (e := e) (B := w.heap.size) hE w hm (Nat.le_refl _) hcs).base b hb
  simp only [List.mem_singleton] at h
  omega
theorem drawv_end {W0 w w1 : World} {g r : Nat} (hC : Cur W0 w1 g) (hG : Chg [g] w w1) (hr : w.heap.size ≤ r) (hW : W0.heap.size ≤ w.heap.size) (hgr : g ≠ r) (v : Vl) (hv : v.small) : DrawV W0 w g (.returned v.v) (sets w1 r 0 [.int .i64 v.kind, .int .i64 v.int, .string v.str]) := by
  have hs : Chg [r] w1 (sets w1 r 0 [.int .i64 v.kind, .int .i64 v.int, .string v.str]) := (((Chg.refl [r] w1).set (by simp) _).set (by simp) _).set (by simp) _
  have hb : ∀ b ∈ [r], W0.heap.size ≤ b := fun b hb => by simp only [List.mem_singleton] at hb; omega
  exact ⟨v, rfl, hv, hC.chg hs (by simp only [List.mem_singleton]; exact hgr) hb, Below.mark (cur_w hC).2 hs (cur_w hC).2.size hb, hG.step hs (fun b hb hlt => by simp only [List.mem_singleton] at hb; omega)⟩
set_option maxHeartbeats 3200000 in
theorem spec_l02Value (W0 w : World) (g : Nat) (hC : Cur W0 w g) : Calls Try.prog 131 #[.pointer (some ⟨g, 0, none⟩)] w (DrawV W0 w g) := by
  have HB := Lib.hid fun n h0 h1 w' (h : Cur W0 w' g) => spec_l01Below W0 w' g n h0 h1 h
  have HP := Lib.hid fun (A : Option Addr) (m c : Nat) ls w' h0 h1 hS (h : Cur W0 w' g) => spec_l01Pick W0 w' g A m c ls h0 h1 hS h
  have hgl := cur_lt hC
  have hgw := (cur_w hC).1
  have hww := (cur_w hC).2.size
  have HC0 := Lib.hid (hC.below (show Below w.heap.size w (w.alloc (.cells #[.int .i64 0, .int .i64 0, .string ByteArray.empty] 30)) from ex_alloc (Below.refl _ _) _))
  clear hC
  go_enter Try.func131, Try.ntmps131
  go_wp2_with fail
  refine (HB.out 5 (by omega) (by omega) _ HC0.out).mono ?_; rintro e w1 ⟨x, rfl, ⟨x0, x1⟩, hc1, hg1⟩
  have hr1 : w1.heap[w.heap.size]? = some (.cells #[.int .i64 0, .int .i64 0, .string ByteArray.empty] 30 (0, 0)) := hg1.keepb (hp_new rfl) (by simp only [List.mem_singleton]; omega)
  have HR1 := Lib.hid hr1
  have HC1 := Lib.hid hc1
  have HG1 := Lib.hid (show Chg [g] w w1 from (Chg.of_below [g] (ex_alloc (Below.refl _ _) _)).trans hg1)
  have hz1 := blk_lt hr1
  clear hr1 hc1 hg1
  by_cases hx0 : x = 0
  · subst hx0
    have q0 : ((0 : Int) == 0) = true := rfl
    have ur := blk_cell? HR1.out
    have r0 := blk_cell? HR1.out 0
    have r1 := blk_cell? HR1.out 1
    have r2 := blk_cell? HR1.out 2
    have rf := blk_free HR1.out
    simp only [List.getElem?_toArray, List.getElem?_cons_zero, List.getElem?_cons_succ] at r0 r1 r2
    go_wp2_with fail
    refine bodyPost_ret (v := Vl.zero.v) (by simp [results, Try.results131, go_sem, Vl.zero, ur]; rfl) rfl ?_
    exact drawv_end HC1.out HG1.out (Nat.le_refl _) hww (by omega) Vl.zero (by show ByteArray.empty.size ≤ 16; simp)
  · have q0 : (x == 0) = false := by simpa using hx0
    by_cases hx1 : x = 1 ∨ x = 2
    · have q12 : ((x == 1) = true) ∨ ((x == 1) = false ∧ (x == 2) = true) := by
        rcases hx1 with rfl | rfl
        · exact .inl rfl
        · exact .inr ⟨rfl, rfl⟩
      have hfin : ∀ (K : Prop), K → K := fun _ h => h
      rcases q12 with q1 | ⟨q1, q2⟩
      all_goals
        go_wp2_with fail
        refine (HB.out 5 (by omega) (by omega) _ HC1.out).mono ?_; rintro e w2 ⟨y, rfl, ⟨y0, y1⟩, hc2, hg2⟩
        have HR2 := Lib.hid (hg2.keepb HR1.out (by simp only [List.mem_singleton]; omega))
        have HC2 := Lib.hid hc2
        have HG2 := Lib.hid (HG1.out.trans hg2)
        have hz2 := blk_lt HR2.out
        clear hc2 hg2
        go_wp2_with fail
        refine (spec_IntValue y _).mono ?_; rintro e w3 ⟨rfl, hb3⟩
        have HR3 := Lib.hid (below_keep hb3 HR2.out)
        have HC3 := Lib.hid (HC2.out.below hb3)
        have HG3 := Lib.hid (HG2.out.trans (Chg.of_below [g] hb3))
        have hz3 := blk_lt HR3.out
        clear hb3
        have ur := blk_cell? HR3.out
        have r0 := blk_cell? HR3.out 0
        have r1 := blk_cell? HR3.out 1
        have r2 := blk_cell? HR3.out 2
        have rf := blk_free HR3.out
        simp only [List.getElem?_toArray, List.getElem?_cons_zero, List.getElem?_cons_succ] at r0 r1 r2
        go_wp2_with fail
        refine bodyPost_ret (v := (intV y).v) (by simp [results, Try.results131, go_sem, ur]) rfl ?_
        exact drawv_end HC3.out HG3.out (Nat.le_refl _) hww (by omega) (intV y) (by show ByteArray.empty.size ≤ 16; simp)
    · have q1 : (x == 1) = false := by simp; omega
      have q2 : (x == 2) = false := by simp; omega
      go_wp2_with fail
      refine (HP.out _ 3 3 [⟨#[114, 101, 100]⟩, ⟨#[98, 108, 117, 101]⟩, ⟨#[105, 110, 107]⟩] _ (by omega) (by omega) (lit_keeps (n := 3) encStr (fun _ _ => rfl) w1 [⟨#[114, 101, 100]⟩, ⟨#[98, 108, 117, 101]⟩, ⟨#[105, 110, 107]⟩] 9 (cur_lt HC1.out) rfl (by unfold maxLen; omega) rfl) (HC1.out.below (ex_alloc (Below.refl _ _) _))).mono ?_; rintro e w2 ⟨s, rfl, hs, hc2, hg2⟩
      have hs16 : s.size ≤ 16 := by
        simp only [List.mem_cons, List.not_mem_nil, or_false] at hs
        rcases hs with rfl | rfl | rfl <;> decide
      have HR2 := Lib.hid (hg2.keepb ((hp_old hz1).trans HR1.out) (by simp only [List.mem_singleton]; omega))
      have HC2 := Lib.hid hc2
      have HG2 := Lib.hid (HG1.out.trans ((Chg.of_below [g] (ex_alloc (Below.refl _ _) _)).trans hg2))
      have hz2 := blk_lt HR2.out
      clear hc2 hg2 hs
      go_wp2_with fail
      refine (spec_StringValue s _).mono ?_; rintro e w3 ⟨rfl, hb3⟩
      have HR3 := Lib.hid (below_keep hb3 HR2.out)
      have HC3 := Lib.hid (HC2.out.below hb3)
      have HG3 := Lib.hid (HG2.out.trans (Chg.of_below [g] hb3))
      have hz3 := blk_lt HR3.out
      clear hb3
      have ur := blk_cell? HR3.out
      have r0 := blk_cell? HR3.out 0
      have r1 := blk_cell? HR3.out 1
      have r2 := blk_cell? HR3.out 2
      have rf := blk_free HR3.out
      simp only [List.getElem?_toArray, List.getElem?_cons_zero, List.getElem?_cons_succ] at r0 r1 r2
      go_wp2_with fail
      refine bodyPost_ret (v := (strV s).v) (by simp [results, Try.results131, go_sem, ur]) rfl ?_
      exact drawv_end HC3.out HG3.out (Nat.le_refl _) hww (by omega) (strV s) hs16
set_option maxHeartbeats 6400000 in
theorem spec_l02Any (W0 w : World) (g : Nat) (hC : Cur W0 w g) : Calls Try.prog 77 #[.pointer (some ⟨g, 0, none⟩)] w (DrawV W0 w g) := by
  have HB := Lib.hid fun n h0 h1 w' (h : Cur W0 w' g) => spec_l01Below W0 w' g n h0 h1 h
  have HP := Lib.hid fun (A : Option Addr) (m c : Nat) ls w' h0 h1 hS (h : Cur W0 w' g) => spec_l01Pick W0 w' g A m c ls h0 h1 hS h
  have HPI := Lib.hid fun (A : Option Addr) (m c : Nat) ls w' h0 h1 hS (h : Cur W0 w' g) => spec_l01PickInt W0 w' g A m c ls h0 h1 hS h
  have hgl := cur_lt hC
  have hgw := (cur_w hC).1
  have hww := (cur_w hC).2.size
  have HC0 := Lib.hid (hC.below (show Below w.heap.size w (w.alloc (.cells #[.int .i64 0, .int .i64 0, .string ByteArray.empty] 30)) from ex_alloc (Below.refl _ _) _))
  clear hC
  go_enter Try.func77, Try.ntmps77
  go_wp2_with fail
  refine (spec_l02Value W0 _ g HC0.out).mono ?_; rintro e w1 ⟨v, rfl, hv, hc1, _, hg1⟩
  have hr1 : w1.heap[w.heap.size]? = some (.cells #[.int .i64 0, .int .i64 0, .string ByteArray.empty] 30 (0, 0)) := hg1.keepb (hp_new rfl) (by simp only [List.mem_singleton]; omega)
  have HR1 := Lib.hid hr1
  have HC1 := Lib.hid hc1
  have HG1 := Lib.hid (show Chg [g] w w1 from (Chg.of_below [g] (ex_alloc (Below.refl _ _) _)).trans hg1)
  have HV := Lib.hid hv
  have hz1 := blk_lt hr1
  have hgl1 := cur_lt hc1
  clear hr1 hc1 hg1 hv
  go_wp2_with fail
  refine (HB.out 10 (by omega) (by omega) _ (HC1.out.below (ex_alloc (Below.refl _ _) _))).mono ?_; rintro e w2 ⟨x, rfl, ⟨x0, x1⟩, hc2, hg2⟩
  have HVB2 := Lib.hid (show w2.heap[w1.heap.size]? = some (.cells #[.int .i64 v.kind, .int .i64 v.int, .string v.str] 30 (0, 0)) from hg2.keepb (hp_new rfl) (by simp only [List.mem_singleton]; omega))
  have HR2 := Lib.hid (hg2.keepb ((hp_old hz1).trans HR1.out) (by simp only [List.mem_singleton]; omega))
  have HC2 := Lib.hid hc2
  have HG2 := Lib.hid (HG1.out.trans ((Chg.of_below [g] (ex_alloc (Below.refl _ _) _)).trans hg2))
  have hz2 := blk_lt HR2.out
  have hv2 := blk_lt HVB2.out
  clear hc2 hg2
  by_cases hx0 : x = 0
  · have q0 : (x == 0) = true := by simpa using hx0
    go_wp2_with fail
    refine (HB.out 5 (by omega) (by omega) _ HC2.out).mono ?_; rintro e w3 ⟨y, rfl, ⟨yy0, yy1⟩, hc3, hg3⟩
    have HVB3 := Lib.hid (hg3.keepb HVB2.out (by simp only [List.mem_singleton]; omega))
    have HR3 := Lib.hid (hg3.keepb HR2.out (by simp only [List.mem_singleton]; omega))
    have HC3 := Lib.hid hc3
    have HG3 := Lib.hid (HG2.out.trans hg3)
    have hz3 := blk_lt HR3.out
    have hv3 := blk_lt HVB3.out
    clear hc3 hg3
    have y0 := blk_cell? HVB3.out 0
    have y1 := blk_cell? HVB3.out 1
    have y2 := blk_cell? HVB3.out 2
    have yf := blk_free HVB3.out
    simp only [List.getElem?_toArray, List.getElem?_cons_zero, List.getElem?_cons_succ] at y0 y1 y2
    have ur := blk_cell? HR3.out
    have r0 := blk_cell? HR3.out 0
    have r1 := blk_cell? HR3.out 1
    have r2 := blk_cell? HR3.out 2
    have rf := blk_free HR3.out
    simp only [List.getElem?_toArray, List.getElem?_cons_zero, List.getElem?_cons_succ] at r0 r1 r2
    go_wp2_with fail
    refine bodyPost_ret (v := (⟨y - 1, v.int, v.str⟩ : Vl).v) (by simp [results, Try.results77, go_sem, ur]) rfl ?_
    have hs : Chg [w1.heap.size] w3 (w3.setCell ⟨w1.heap.size, 0, none⟩ (.int .i64 (y - 1))) := (Chg.refl _ _).set (by simp) _
    exact drawv_end (W0 := W0) (HC3.out.chg hs (by simp only [List.mem_singleton]; omega) (by simp only [List.mem_singleton]; intro b hb; omega)) (HG3.out.step hs (by simp only [List.mem_singleton]; intro b hb hlt; omega)) (Nat.le_refl _) hww (by omega) (⟨y - 1, v.int, v.str⟩ : Vl) HV.out
  · have q0 : (x == 0) = false := by simpa using hx0
    by_cases hx1 : x = 1
    · have q1 : (x == 1) = true := by simpa using hx1
      go_wp2_with fail
      refine (HPI.out _ 5 5 [-1, 0, 999, 1000, 9223372036854775807] _ (by omega) (by omega) (lit_keeps (n := 5) encInt (fun _ _ => rfl) w2 [-1, 0, 999, 1000, 9223372036854775807] 3 (cur_lt HC2.out) rfl (by unfold maxLen; omega) rfl) (HC2.out.below (ex_alloc (Below.refl _ _) _))).mono ?_; rintro e w3 ⟨y, rfl, _, hc3, hg3⟩
      have HVB3 := Lib.hid (hg3.keepb ((hp_old hv2).trans HVB2.out) (by simp only [List.mem_singleton]; omega))
      have HR3 := Lib.hid (hg3.keepb ((hp_old hz2).trans HR2.out) (by simp only [List.mem_singleton]; omega))
      have HC3 := Lib.hid hc3
      have HG3 := Lib.hid (HG2.out.trans ((Chg.of_below [g] (ex_alloc (Below.refl _ _) _)).trans hg3))
      have hz3 := blk_lt HR3.out
      have hv3 := blk_lt HVB3.out
      clear hc3 hg3
      have y0 := blk_cell? HVB3.out 0
      have y1 := blk_cell? HVB3.out 1
      have y2 := blk_cell? HVB3.out 2
      have yf := blk_free HVB3.out
      simp only [List.getElem?_toArray, List.getElem?_cons_zero, List.getElem?_cons_succ] at y0 y1 y2
      have ur := blk_cell? HR3.out
      have r0 := blk_cell? HR3.out 0
      have r1 := blk_cell? HR3.out 1
      have r2 := blk_cell? HR3.out 2
      have rf := blk_free HR3.out
      simp only [List.getElem?_toArray, List.getElem?_cons_zero, List.getElem?_cons_succ] at r0 r1 r2
      go_wp2_with fail
      refine bodyPost_ret (v := (⟨v.kind, y, v.str⟩ : Vl).v) (by simp [results, Try.results77, go_sem, ur]) rfl ?_
      have hs : Chg [w1.heap.size] w3 (w3.setCell ⟨w1.heap.size, 1, none⟩ (.int .i64 y)) := (Chg.refl _ _).set (by simp) _
      exact drawv_end (W0 := W0) (HC3.out.chg hs (by simp only [List.mem_singleton]; omega) (by simp only [List.mem_singleton]; intro b hb; omega)) (HG3.out.step hs (by simp only [List.mem_singleton]; intro b hb hlt; omega)) (Nat.le_refl _) hww (by omega) (⟨v.kind, y, v.str⟩ : Vl) HV.out
    · have q1 : (x == 1) = false := by simpa using hx1
      by_cases hx2 : x = 2
      · have q2 : (x == 2) = true := by simpa using hx2
        go_wp2_with fail
        refine (HP.out _ 5 5 [⟨#[]⟩, ⟨#[65]⟩, ⟨#[97, 98, 99, 100, 101, 102, 103]⟩, ⟨#[97, 98, 99, 100, 101, 102]⟩, ⟨#[97, 32, 98]⟩] _ (by omega) (by omega) (lit_keeps (n := 5) encStr (fun _ _ => rfl) w2 [⟨#[]⟩, ⟨#[65]⟩, ⟨#[97, 98, 99, 100, 101, 102, 103]⟩, ⟨#[97, 98, 99, 100, 101, 102]⟩, ⟨#[97, 32, 98]⟩] 9 (cur_lt HC2.out) rfl (by unfold maxLen; omega) rfl) (HC2.out.below (ex_alloc (Below.refl _ _) _))).mono ?_; rintro e w3 ⟨y, rfl, hs, hc3, hg3⟩
        have HS16 := Lib.hid (show y.size ≤ 16 by
          simp only [List.mem_cons, List.not_mem_nil, or_false] at hs
          rcases hs with rfl | rfl | rfl | rfl | rfl <;> first | decide | simp)
        clear hs
        have HVB3 := Lib.hid (hg3.keepb ((hp_old hv2).trans HVB2.out) (by simp only [List.mem_singleton]; omega))
        have HR3 := Lib.hid (hg3.keepb ((hp_old hz2).trans HR2.out) (by simp only [List.mem_singleton]; omega))
        have HC3 := Lib.hid hc3
        have HG3 := Lib.hid (HG2.out.trans ((Chg.of_below [g] (ex_alloc (Below.refl _ _) _)).trans hg3))
        have hz3 := blk_lt HR3.out
        have hv3 := blk_lt HVB3.out
        clear hc3 hg3
        have y0 := blk_cell? HVB3.out 0
        have y1 := blk_cell? HVB3.out 1
        have y2 := blk_cell? HVB3.out 2
        have yf := blk_free HVB3.out
        simp only [List.getElem?_toArray, List.getElem?_cons_zero, List.getElem?_cons_succ] at y0 y1 y2
        have ur := blk_cell? HR3.out
        have r0 := blk_cell? HR3.out 0
        have r1 := blk_cell? HR3.out 1
        have r2 := blk_cell? HR3.out 2
        have rf := blk_free HR3.out
        simp only [List.getElem?_toArray, List.getElem?_cons_zero, List.getElem?_cons_succ] at r0 r1 r2
        go_wp2_with fail
        refine bodyPost_ret (v := (⟨v.kind, v.int, y⟩ : Vl).v) (by simp [results, Try.results77, go_sem, ur]) rfl ?_
        have hs : Chg [w1.heap.size] w3 (w3.setCell ⟨w1.heap.size, 2, none⟩ (.string y)) := (Chg.refl _ _).set (by simp) _
        exact drawv_end (W0 := W0) (HC3.out.chg hs (by simp only [List.mem_singleton]; omega) (by simp only [List.mem_singleton]; intro b hb; omega)) (HG3.out.step hs (by simp only [List.mem_singleton]; intro b hb hlt; omega)) (Nat.le_refl _) hww (by omega) (⟨v.kind, v.int, y⟩ : Vl) HS16.out
      · have q2 : (x == 2) = false := by simpa using hx2
        have y0 := blk_cell? HVB2.out 0
        have y1 := blk_cell? HVB2.out 1
        have y2 := blk_cell? HVB2.out 2
        have yf := blk_free HVB2.out
        simp only [List.getElem?_toArray, List.getElem?_cons_zero, List.getElem?_cons_succ] at y0 y1 y2
        have ur := blk_cell? HR2.out
        have r0 := blk_cell? HR2.out 0
        have r1 := blk_cell? HR2.out 1
        have r2 := blk_cell? HR2.out 2
        have rf := blk_free HR2.out
        simp only [List.getElem?_toArray, List.getElem?_cons_zero, List.getElem?_cons_succ] at r0 r1 r2
        go_wp2_with fail
        refine bodyPost_ret (v := v.v) (by simp [results, Try.results77, go_sem, ur]) rfl ?_
        exact drawv_end HC2.out HG2.out (Nat.le_refl _) hww (by omega) v HV.out
end Go.Proofs.Ytjobgnioehkomaa
