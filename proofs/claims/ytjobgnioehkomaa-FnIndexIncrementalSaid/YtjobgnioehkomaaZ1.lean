/-
  CONTRACTS: drawn schemas.
-/
import Derived.WalkKit
import Derived.WalkSpells
import Derived.WalkLawsBesides
import Derived.Lib.Hide
import Derived.Handy
import Derived.StillTailTactics
import Derived.Deep.Light
import Derived.Deep.QuietTactic
import Derived.BigQuiet
import Derived.Deep.RegionHeld3
import Derived.Deep.DeepCutAuto
import Derived.Test.YtjobgnioehkomaaLib
import Derived.Test.YtjobgnioehkomaaOwn
import Derived.Test.YtjobgnioehkomaaRow
import Derived.Test.YtjobgnioehkomaaN0
import Derived.Test.YtjobgnioehkomaaHld
import Derived.Test.YtjobgnioehkomaaSz
import Derived.Test.YtjobgnioehkomaaC1
import Derived.Test.YtjobgnioehkomaaC2
import Derived.Test.YtjobgnioehkomaaC3
import Derived.Test.YtjobgnioehkomaaC4
import Derived.Test.YtjobgnioehkomaaD1
import Derived.Test.YtjobgnioehkomaaY1
import Derived.Test.YtjobgnioehkomaaY2
import Derived.Test.YtjobgnioehkomaaRows
namespace Go.Proofs.Ytjobgnioehkomaa
open Go.RowKit
set_option linter.unusedVariables false
set_option maxRecDepth 100000
def fA : Fld := ⟨⟨#[97]⟩, 1⟩
def fBb : Fld := ⟨⟨#[98]⟩, 1⟩
def fN : Fld := ⟨⟨#[110]⟩, 2⟩
def fT : Fld := ⟨⟨#[116]⟩, 2⟩
def usualL : List Fld := [fA, fBb, fN, fT]
theorem spec_l03Usual (w : World) : Calls Try.prog 80 #[] w fun e w' => ∃ A, e = .returned (.slice A 4 4) ∧ FRow 138 2 eFld w' w.heap.size A 4 4 usualL ∧ Below w.heap.size w w' := by
  go_enter Try.func80, Try.ntmps80
  go_wp2_with fail
  go_returns
  exact ⟨_, rfl, FRow.lit (l := usualL) encFld w (by unfold maxLen; decide) (Nat.le_refl _) rfl, by go_grown⟩
theorem spec_l03Name (W0 w : World) (g : Nat) (hC : Cur W0 w g) : Calls Try.prog 76 #[.pointer (some ⟨g, 0, none⟩)] w (DrawS (fun s => s.size ≤ 1) W0 w g) := by
  have HP := Lib.hid fun (A : Option Addr) (m c : Nat) ls w' h0 h1 hS (h : Cur W0 w' g) => spec_l01Pick W0 w' g A m c ls h0 h1 hS h
  have HC := Lib.hid hC
  clear hC
  go_enter Try.func76, Try.ntmps76
  go_wp2_with fail
  refine (HP.out _ 10 10 [⟨#[97]⟩, ⟨#[98]⟩, ⟨#[110]⟩, ⟨#[116]⟩, ⟨#[97]⟩, ⟨#[98]⟩, ⟨#[116]⟩, ⟨#[122]⟩, ⟨#[65]⟩, ⟨#[]⟩] _ (by omega) (by omega) (lit_keeps (n := 10) encStr (fun _ _ => rfl) w [⟨#[97]⟩, ⟨#[98]⟩, ⟨#[110]⟩, ⟨#[116]⟩, ⟨#[97]⟩, ⟨#[98]⟩, ⟨#[116]⟩, ⟨#[122]⟩, ⟨#[65]⟩, ⟨#[]⟩] 9 (cur_lt HC.out) rfl (by unfold maxLen; omega) rfl) (HC.out.below (ex_alloc (Below.refl _ _) _))).mono ?_; rintro e w2 ⟨s, rfl, hs, hc2, hg2⟩
  have hs1 : s.size ≤ 1 := by
    simp only [List.mem_cons, List.not_mem_nil, or_false] at hs
    rcases hs with rfl | rfl | rfl | rfl | rfl | rfl | rfl | rfl | rfl | rfl <;> decide
  have HF := Lib.hid (And.intro hc2 hg2)
  clear hc2 hg2 hs
  go_wp2_with fail
  go_returns
  exact ⟨s, rfl, hs1, HF.out.1, (Chg.of_below [g] (ex_alloc (Below.refl _ _) _)).trans HF.out.2⟩
def DrawSch (W0 w : World) (g : Nat) (e : Ending) (w' : World) : Prop := ∃ (A : Option Addr) (n c : Nat) (l : List Fld), e = .returned (.slice A n c) ∧ FRow 138 2 eFld w' w.heap.size A n c l ∧ n ≤ 6 ∧ (∀ f ∈ l, f.name.size ≤ 1) ∧ Cur W0 w' g ∧ Chg [g] w w'
theorem row_draw {α : Type} {e size : Nat} {enc : α → List Value} {w1 w2 : World} {B n c g : Nat} {A : Option Addr} {l : List α} (h : FRow e size enc w1 B A n c l) (hg : g < B) (hc : Chg [g] w1 w2) : FRow e size enc w2 B A n c l :=
  h.chg hc (fun b hb hm => by have := (h.base b hb).1; simp only [List.mem_singleton] at hm; omega)
theorem usual_small : ∀ f ∈ usualL, f.name.size ≤ 1 := by decide
theorem set_small {l : List Fld} (h : ∀ f ∈ l, f.name.size ≤ 1) (k : Nat) (x : Fld) (hx : x.name.size ≤ 1) : ∀ f ∈ l.set k x, f.name.size ≤ 1 := fun f hf => by
  rcases List.mem_or_eq_of_mem_set hf with h1 | rfl
  · exact h f h1
  · exact hx
theorem srcLit {α : Type} {size : Nat} {enc : α → List Value} (hE : Enc size enc) (w : World) (l : List α) (e : TypeId) {g n : Nat} (hg : g = w.heap.size) (hn : l.length = n) (hm : n ≤ maxLen) {cs : Array Value} (hcs : cs.toList = l.flatMap enc) : Src size enc (w.alloc (.cells cs e)) (some ⟨g, 0, none⟩) n l := by
  subst hg; subst hn
  exact Src.of_row hE (FRow.lit (e := e) (B := 0) hE w hm (Nat.zero_le _) hcs)
set_option maxHeartbeats 3200000 in
theorem spec_l03Any (W0 w : World) (g : Nat) (hC : Cur W0 w g) : Calls Try.prog 79 #[.pointer (some ⟨g, 0, none⟩)] w (DrawSch W0 w g) := by
  obtain ⟨ii, hi, hi0, hi1, hi2⟩ := info_parts info_Field
  have HB := Lib.hid fun n h0 h1 w' (h : Cur W0 w' g) => spec_l01Below W0 w' g n h0 h1 h
  have HP := Lib.hid fun (A : Option Addr) (m c : Nat) ls w' h0 h1 hS (h : Cur W0 w' g) => spec_l01Pick W0 w' g A m c ls h0 h1 hS h
  have HNm := Lib.hid fun w' (h : Cur W0 w' g) => spec_l03Name W0 w' g h
  have hgl := cur_lt hC
  have hww := (cur_w hC).2.size
  have hgw := (cur_w hC).1
  have HC := Lib.hid hC
  clear hC
  go_enter Try.func79, Try.ntmps79
  go_wp2_with fail
  refine (spec_l03Usual _).mono ?_; rintro e w1 ⟨A1, rfl, hR1, hb1⟩
  have hc1 := HC.out.below hb1
  have hg1 : Chg [g] w w1 := Chg.of_below _ hb1
  have H1 := Lib.hid (And.intro hR1 (And.intro hc1 hg1))
  clear hR1 hb1 hc1 hg1
  go_wp2_with fail
  refine (HB.out 8 (by omega) (by omega) _ H1.out.2.1).mono ?_; rintro e w2 ⟨x, rfl, ⟨x0, x1⟩, hc2, hg2⟩
  have H2 := Lib.hid (And.intro (row_draw H1.out.1 hgl hg2) (And.intro hc2 (H1.out.2.2.trans hg2)))
  clear hc2 hg2
  have hx : x = 0 ∨ x = 1 ∨ x = 2 ∨ x = 3 ∨ x = 4 ∨ 5 ≤ x := by omega
  rcases hx with rfl | rfl | rfl | rfl | rfl | hx
  · go_wp2_with fail
    refine (HB.out 4 (by omega) (by omega) _ H2.out.2.1).mono ?_; rintro e w3 ⟨y, rfl, ⟨y0, y1⟩, hc3, hg3⟩
    have H3 := Lib.hid (And.intro (row_draw H2.out.1 hgl hg3) (And.intro hc3 (H2.out.2.2.trans hg3)))
    clear hc3 hg3
    obtain ⟨k, rfl⟩ : ∃ k : Nat, y = k := ⟨y.toNat, by omega⟩
    go_wp2_with fail
    go_returns
    exact ⟨A1, k, 4, usualL.take k, rfl, H3.out.1.cut encFld (by omega), by omega, fun f hf => usual_small f (List.mem_of_mem_take hf), H3.out.2.1, H3.out.2.2⟩
  · have q0 : ((1 : Int) == 0) = false := rfl
    go_wp2_with fail
    refine (HB.out 4 (by omega) (by omega) _ H2.out.2.1).mono ?_; rintro e w3 ⟨y, rfl, ⟨y0, y1⟩, hc3, hg3⟩
    have H3 := Lib.hid (And.intro (row_draw H2.out.1 hgl hg3) (And.intro hc3 (H2.out.2.2.trans hg3)))
    clear hc3 hg3
    obtain ⟨k, rfl⟩ : ∃ k : Nat, y = k := ⟨y.toNat, by omega⟩
    go_wp2_with fail
    refine (HB.out 5 (by omega) (by omega) _ H3.out.2.1).mono ?_; rintro e w4 ⟨z, rfl, ⟨z0, z1⟩, hc4, hg4⟩
    have H4 := Lib.hid (And.intro (row_draw H3.out.1 hgl hg4) (And.intro hc4 (H3.out.2.2.trans hg4)))
    clear hc4 hg4
    have hkl : k < usualL.length := by show k < 4; omega
    obtain ⟨gr, rfl, hgr, hgrl, hrb, hfz, hcl⟩ := H4.out.1.cell encFld (by omega)
    have p0 := hcl k hkl 1 _ rfl
    have f0 := hfz (k * 2 + 1)
    have HKS := Lib.hid (usual_small _ (List.getElem_mem hkl))
    have hne : g ≠ gr := by omega
    have HR := Lib.hid (fun u => H4.out.1.set1 encFld rfl hkl (j := 1) (by omega) (u := .int .i64 u) (x := ⟨usualL[k].name, u⟩) rfl)
    clear hcl hfz hrb
    generalize usualL[k] = fk at *
    go_wp2_with fail
    go_returns
    have hs : Chg [gr] w4 (w4.setCell ⟨gr, k * 2 + 1, none⟩ (.int .i64 (z - 1))) := (Chg.refl [gr] w4).set (by simp) _
    exact ⟨_, 4, 4, _, rfl, HR.out (z - 1), by omega, set_small usual_small k _ HKS.out, H4.out.2.1.chg hs (by simp only [List.mem_singleton]; exact hne) (fun b hb => by simp only [List.mem_singleton] at hb; omega), H4.out.2.2.step hs (fun b hb hlt => by simp only [List.mem_singleton] at hb; omega)⟩
  · have q0 : ((2 : Int) == 0) = false := rfl
    have q1 : ((2 : Int) == 1) = false := rfl
    go_wp2_with fail
    refine (HB.out 4 (by omega) (by omega) _ H2.out.2.1).mono ?_; rintro e w3 ⟨y, rfl, ⟨y0, y1⟩, hc3, hg3⟩
    have H3 := Lib.hid (And.intro (row_draw H2.out.1 hgl hg3) (And.intro hc3 (H2.out.2.2.trans hg3)))
    clear hc3 hg3
    obtain ⟨k, rfl⟩ : ∃ k : Nat, y = k := ⟨y.toNat, by omega⟩
    go_wp2_with fail
    refine (HNm.out _ H3.out.2.1).mono ?_; rintro e w4 ⟨s, rfl, hs1, hc4, hg4⟩
    have H4 := Lib.hid (And.intro (row_draw H3.out.1 hgl hg4) (And.intro hc4 (H3.out.2.2.trans hg4)))
    clear hc4 hg4
    have hkl : k < usualL.length := by show k < 4; omega
    obtain ⟨gr, rfl, hgr, hgrl, hrb, hfz, hcl⟩ := H4.out.1.cell encFld (by omega)
    have p0 := hcl k hkl 0 _ rfl
    rw [Nat.add_zero] at p0
    have f0 := hfz (k * 2)
    have hne : g ≠ gr := by omega
    have HR := Lib.hid (fun u => H4.out.1.set1 encFld rfl hkl (j := 0) (by omega) (u := .string u) (x := ⟨u, usualL[k].kind⟩) rfl)
    clear hcl hfz hrb
    generalize usualL[k] = fk at *
    go_wp2_with fail
    go_returns
    have hs : Chg [gr] w4 (w4.setCell ⟨gr, k * 2, none⟩ (.string s)) := (Chg.refl [gr] w4).set (by simp) _
    exact ⟨_, 4, 4, _, rfl, HR.out s, by omega, set_small usual_small k _ hs1, H4.out.2.1.chg hs (by simp only [List.mem_singleton]; exact hne) (fun b hb => by simp only [List.mem_singleton] at hb; omega), H4.out.2.2.step hs (fun b hb hlt => by simp only [List.mem_singleton] at hb; omega)⟩
  · go_wp2_with fail
    refine (HP.out _ 3 3 [⟨#[117]⟩, ⟨#[122]⟩, ⟨#[97]⟩] _ (by omega) (by omega) (lit_keeps (n := 3) encStr (fun _ _ => rfl) w2 [⟨#[117]⟩, ⟨#[122]⟩, ⟨#[97]⟩] 9 (cur_lt H2.out.2.1) rfl (by unfold maxLen; omega) rfl) (H2.out.2.1.below (ex_alloc (Below.refl _ _) _))).mono ?_; rintro e w3 ⟨s, rfl, hs, hc3, hg3⟩
    have hs1 : s.size ≤ 1 := by
      simp only [List.mem_cons, List.not_mem_nil, or_false] at hs
      rcases hs with rfl | rfl | rfl <;> decide
    have H3 := Lib.hid (And.intro (row_draw (H2.out.1.below (ex_alloc (Below.refl _ _) _)) hgl hg3) (And.intro hc3 (H2.out.2.2.trans ((Chg.of_below [g] (ex_alloc (Below.refl _ _) _)).trans hg3))))
    clear hc3 hg3 hs
    go_wp2_with (at_builtin; refine wpList_append_row rfl _ _ _ rfl encFld Try.underlying37 hi hi0 hi1 hi2 rfl rfl rfl (H3.out.1.below (ex_alloc (Below.refl _ _) _)) (src1 encFld _ ⟨s, 1⟩ _ (by simp) rfl) (by unfold maxLen; omega) (by omega) (by have := H3.out.2.2.size; simp; omega) ?_; intro A3 c3 w4 hr4 hc4 hx4)
    have hz4 := H3.out.2.2.size
    have hcu := (H3.out.2.1.below (ex_alloc (Below.refl _ _) _)).chg hc4 (fun h => by have h1 := (H3.out.1.base _ h).1; omega) (fun b hb => by have h1 := (H3.out.1.base _ hb).1; omega)
    have hgg := (H3.out.2.2.trans (Chg.of_below [g] (ex_alloc (Below.refl _ _) _))).step hc4 (fun b hb hlt => by have h1 := (H3.out.1.base _ hb).1; omega)
    have HF := Lib.hid (And.intro hr4 (And.intro hcu hgg))
    clear hr4 hc4 hcu hgg hx4
    go_wp2_with fail
    go_returns
    exact ⟨A3, 5, c3, usualL ++ [⟨s, 1⟩], rfl, HF.out.1, by omega, fun f hf => by
      rcases List.mem_append.1 hf with h | h
      · exact usual_small f h
      · obtain rfl : f = ⟨s, 1⟩ := by simpa using h
        exact hs1, HF.out.2.1, HF.out.2.2⟩
  · go_wp2_with (at_builtin; refine wpList_append_row rfl _ _ _ rfl encFld Try.underlying37 hi hi0 hi1 hi2 rfl rfl rfl (H2.out.1.below (ex_alloc (Below.refl _ _) _)) (srcLit encFld _ [⟨⟨#[117]⟩, 1⟩, ⟨⟨#[118]⟩, 2⟩] _ (n := 2) (by simp) rfl (by unfold maxLen; omega) rfl) (by unfold maxLen; omega) (by omega) (by have := H2.out.2.2.size; simp; omega) ?_; intro A3 c3 w4 hr4 hc4 hx4)
    have hz4 := H2.out.2.2.size
    have hcu := (H2.out.2.1.below (ex_alloc (Below.refl _ _) _)).chg hc4 (fun h => by have h1 := (H2.out.1.base _ h).1; omega) (fun b hb => by have h1 := (H2.out.1.base _ hb).1; omega)
    have hgg := (H2.out.2.2.trans (Chg.of_below [g] (ex_alloc (Below.refl _ _) _))).step hc4 (fun b hb hlt => by have h1 := (H2.out.1.base _ hb).1; omega)
    have HF := Lib.hid (And.intro hr4 (And.intro hcu hgg))
    clear hr4 hc4 hcu hgg hx4
    go_wp2_with fail
    go_returns
    exact ⟨A3, 6, c3, usualL ++ [⟨⟨#[117]⟩, 1⟩, ⟨⟨#[118]⟩, 2⟩], rfl, HF.out.1, by omega, by decide, HF.out.2.1, HF.out.2.2⟩
  · have q0 : (x == 0) = false := by simp; omega
    have q1 : (x == 1) = false := by simp; omega
    have q2 : (x == 2) = false := by simp; omega
    have q3 : (x == 3) = false := by simp; omega
    have q4 : (x == 4) = false := by simp; omega
    go_wp2_with fail
    go_returns
    exact ⟨A1, 4, 4, usualL, rfl, H2.out.1, by omega, usual_small, H2.out.2.1, H2.out.2.2⟩
end Go.Proofs.Ytjobgnioehkomaa
