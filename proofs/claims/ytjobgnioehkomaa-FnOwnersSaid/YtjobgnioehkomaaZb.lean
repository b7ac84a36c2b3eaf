/-
  CONTRACTS: the draw of any store.
-/
import Derived.WalkKit
import Derived.WalkSpells
import Derived.WalkLawsBesides
import Derived.Lib.Hide
import Derived.Handy
import Derived.StillTailTactics
import Derived.Deep.Light
import Derived.Deep.QuietTactic
import Derived.BigQuiet
import Derived.Deep.RegionHeld3
import Derived.Deep.DeepCutAuto
import Derived.Test.YtjobgnioehkomaaLib
import Derived.Test.YtjobgnioehkomaaOwn
import Derived.Test.YtjobgnioehkomaaRow
import Derived.Test.YtjobgnioehkomaaN0
import Derived.Test.YtjobgnioehkomaaRaw
import Derived.Test.YtjobgnioehkomaaHld
import Derived.Test.YtjobgnioehkomaaHl2
import Derived.Test.YtjobgnioehkomaaHl3
import Derived.Test.YtjobgnioehkomaaSz
import Derived.Test.YtjobgnioehkomaaC1
import Derived.Test.YtjobgnioehkomaaC2
import Derived.Test.YtjobgnioehkomaaT1
import Derived.Test.YtjobgnioehkomaaT2
import Derived.Test.YtjobgnioehkomaaT3
import Derived.Test.YtjobgnioehkomaaT4
import Derived.Test.YtjobgnioehkomaaC3
import Derived.Test.YtjobgnioehkomaaC4
import Derived.Test.YtjobgnioehkomaaC5
import Derived.Test.YtjobgnioehkomaaC8
import Derived.Test.YtjobgnioehkomaaD1
import Derived.Test.YtjobgnioehkomaaD3
import Derived.Test.YtjobgnioehkomaaD4
import Derived.Test.YtjobgnioehkomaaD5
import Derived.Test.YtjobgnioehkomaaH1
import Derived.Test.YtjobgnioehkomaaE3
import Derived.Test.YtjobgnioehkomaaE4
import Derived.Test.YtjobgnioehkomaaE5
import Derived.Test.YtjobgnioehkomaaE6
import Derived.Test.YtjobgnioehkomaaE7
import Derived.Test.YtjobgnioehkomaaE9
import Derived.Test.YtjobgnioehkomaaI1
import Derived.Test.YtjobgnioehkomaaI2
import Derived.Test.YtjobgnioehkomaaD7
import Derived.Test.YtjobgnioehkomaaD8
import Derived.Test.YtjobgnioehkomaaY1
import Derived.Test.YtjobgnioehkomaaY2
import Derived.Test.YtjobgnioehkomaaZ1
import Derived.Test.YtjobgnioehkomaaZ3
import Derived.Test.YtjobgnioehkomaaZ4
import Derived.Test.YtjobgnioehkomaaPZ
import Derived.Test.YtjobgnioehkomaaRows
namespace Go.Proofs.Ytjobgnioehkomaa
open Go.RowKit
set_option linter.unusedVariables false
set_option maxRecDepth 100000
theorem NRow.far {H β : Type} {K : NK H β} {w : World} {B n c : Nat} {A : Option Addr} {L : List (H × List β)} (h : NRow K w B A n c L) {g T : Nat} {cs : Array Value} (hg : w.heap[g]? = some (.cells cs T (0, 0))) (h1 : T ≠ K.e) (h2 : T ≠ K.e2) : g ∉ rowBs A c ++ K.all L := fun hm => by
  rcases List.mem_append.1 hm with hm | hm
  · exact h.1.far hg h1 hm
  · obtain ⟨x, hx, hb⟩ := NK.all_mem.1 hm
    exact (h.2.1 x hx).far hg h2 hb
theorem FRows.farChg {eF ea : Nat} {w w' : World} {B n c : Nat} {A : Option Addr} {l : List Fil} (h : FRows eF ea w B A n c l) {g T : Nat} {cs : Array Value} (hg : w.heap[g]? = some (.cells cs T (0, 0))) (h1 : T ≠ eF) (h2 : T ≠ ea) (hc : Chg [g] w w') : FRows eF ea w' B A n c l := by
  obtain ⟨L, hN, hL⟩ := h
  exact ⟨L, hN.chg hc (fun b hb hm => by obtain rfl := List.mem_singleton.1 hm; exact hN.far hg h1 h2 hb), hL⟩
theorem FRow.sep {α β : Type} {e e2 size size2 : Nat} {enc : α → List Value} {enc2 : β → List Value} {w : World} {B B2 n c n2 c2 : Nat} {A A2 : Option Addr} {l : List α} {l2 : List β} (h : FRow e size enc w B A n c l) (h2 : FRow e2 size2 enc2 w B2 A2 n2 c2 l2) (hne : e ≠ e2) : ∀ b ∈ rowBs A c, b ∉ rowBs A2 c2 := fun b hb => by
  have hc : 0 < c := by
    rcases Nat.eq_zero_or_pos c with rfl | h0
    · simp [rowBs_zero] at hb
    · exact h0
  obtain ⟨g', -, -, -, hr, cur, hcur, -⟩ := h.row hc
  rw [hr] at hb
  obtain rfl : b = g' := by simpa using hb
  exact h2.far hcur hne
/-- the box of the store under way, and the box of the result -/
def MidA (W0 w : World) (g b : Nat) (sc : List Fld) (n : Nat) (fs : List Fil) (nx : Int) (A : Option Addr) (c : Nat) (B : Option Addr) (m d : Nat) (w' : World) : Prop :=
  w'.heap[b]? = some (.cells #[.slice A n c, .slice B m d, .int .i64 nx] 40 (0, 0)) ∧ w'.heap[w.heap.size]? = some (.cells #[.slice none 0 0, .slice none 0 0, .int .i64 0] 40 (0, 0)) ∧ FRow 138 2 eFld w' (w.heap.size + 1) A n c sc ∧ FRows 28 84 w' (w.heap.size + 1) B m d fs ∧ Cur W0 w' g ∧ Chg [g] w w'
section
variable {W0 w w1 w2 : World} {g b n c m d : Nat} {sc : List Fld} {fs : List Fil} {nx : Int} {A B : Option Addr}
theorem MidA.step (h : MidA W0 w g b sc n fs nx A c B m d w1) (hg : g < w.heap.size) (hb : w.heap.size < b) (hC : Cur W0 w2 g) (hc : Chg [g] w1 w2) : MidA W0 w g b sc n fs nx A c B m d w2 :=
  ⟨hc.keepb h.1 (by simp only [List.mem_singleton]; omega), hc.keepb h.2.1 (by simp only [List.mem_singleton]; omega), row_draw h.2.2.1 (by omega) hc, h.2.2.2.1.draw (by omega) hc, hC, h.2.2.2.2.2.trans hc⟩
theorem MidA.below (h : MidA W0 w g b sc n fs nx A c B m d w1) (hg : g < w.heap.size) (hb : w.heap.size < b) (hB : Below w1.heap.size w1 w2) : MidA W0 w g b sc n fs nx A c B m d w2 :=
  h.step hg hb (h.2.2.2.2.1.below hB) (Chg.of_below _ hB)
theorem MidA.three (h : MidA W0 w g b sc n fs nx A c B m d w1) :
    w1.cell? ⟨b, 0, none⟩ = some (.slice A n c) ∧ w1.cell? ⟨b, 1, none⟩ = some (.slice B m d) ∧ w1.cell? ⟨b, 2, none⟩ = some (.int .i64 nx) :=
  ⟨blk_cell? h.1 0, blk_cell? h.1 1, blk_cell? h.1 2⟩
theorem MidA.cells (h : MidA W0 w g b sc n fs nx A c B m d w1) :
    w1.cell? ⟨b, 0, none⟩ = some (.slice A n c) ∧ w1.cell? ⟨b, 1, none⟩ = some (.slice B m d) ∧ w1.cell? ⟨b, 2, none⟩ = some (.int .i64 nx) ∧ MidA W0 w g b sc n fs nx A c B m d w1 :=
  ⟨blk_cell? h.1 0, blk_cell? h.1 1, blk_cell? h.1 2, h⟩
/-- the box is written: its new cells, the rows as they are there -/
theorem MidA.turn {sc' : List Fld} {n' c' m' d' : Nat} {fs' : List Fil} {nx' : Int} {A' B' : Option Addr} (h : MidA W0 w g b sc n fs nx A c B m d w1) (hg : g < w.heap.size) (hW : W0.heap.size ≤ w.heap.size) (hb : w.heap.size < b)
    (hr : FRow 138 2 eFld w1 (w.heap.size + 1) A' n' c' sc') (hf : FRows 28 84 w1 (w.heap.size + 1) B' m' d' fs') (hc : Chg [b] w1 w2) (hbk : w2.heap[b]? = some (.cells #[.slice A' n' c', .slice B' m' d', .int .i64 nx'] 40 (0, 0))) :
    MidA W0 w g b sc' n' fs' nx' A' c' B' m' d' w2 :=
  ⟨hbk, hc.keepb h.2.1 (by simp only [List.mem_singleton]; omega), hr.chg hc (fun x hx hm => by obtain rfl := List.mem_singleton.1 hm; exact hr.far h.1 (by decide) hx), hf.farChg h.1 (by decide) (by decide) hc, h.2.2.2.2.1.chg hc (by simp only [List.mem_singleton]; omega) (fun x hx => by simp only [List.mem_singleton] at hx; omega), h.2.2.2.2.2.step hc (fun x hx hlt => by simp only [List.mem_singleton] at hx; omega)⟩
theorem MidA.set0 {sc' : List Fld} {n' c' : Nat} {A' : Option Addr} (h : MidA W0 w g b sc n fs nx A c B m d w1) (hg : g < w.heap.size) (hW : W0.heap.size ≤ w.heap.size) (hb : w.heap.size < b) (hr : FRow 138 2 eFld w1 (w.heap.size + 1) A' n' c' sc') : MidA W0 w g b sc' n' fs nx A' c' B m d (World.setCell w1 ⟨b, 0, none⟩ (.slice A' n' c')) :=
  h.turn hg hW hb hr h.2.2.2.1 ((Chg.refl [b] w1).set (by simp) _) (by simpa using blk_set h.1 0 (.slice A' n' c'))
theorem MidA.set2 (h : MidA W0 w g b sc n fs nx A c B m d w1) (hg : g < w.heap.size) (hW : W0.heap.size ≤ w.heap.size) (hb : w.heap.size < b) (y : Int) : MidA W0 w g b sc n fs y A c B m d (World.setCell w1 ⟨b, 2, none⟩ (.int .i64 y)) :=
  h.turn hg hW hb h.2.2.1 h.2.2.2.1 ((Chg.refl [b] w1).set (by simp) _) (by simpa using blk_set h.1 2 (.int .i64 y))
theorem MidA.set1 {fs' : List Fil} {m' d' : Nat} {B' : Option Addr} (h : MidA W0 w g b sc n fs nx A c B m d w1) (hg : g < w.heap.size) (hW : W0.heap.size ≤ w.heap.size) (hb : w.heap.size < b) (hf : FRows 28 84 w1 (w.heap.size + 1) B' m' d' fs') : MidA W0 w g b sc n fs' nx A c B' m' d' (World.setCell w1 ⟨b, 1, none⟩ (.slice B' m' d')) :=
  h.turn hg hW hb h.2.2.1 hf ((Chg.refl [b] w1).set (by simp) _) (by simpa using blk_set h.1 1 (.slice B' m' d'))
theorem MidA.put {fs' : List Fil} {n' c' m' d' : Nat} {nx' : Int} {A' B' : Option Addr} {sc' : List Fld} (h : MidA W0 w g b sc n fs nx A c B m d w1) (hg : g < w.heap.size) (hW : W0.heap.size ≤ w.heap.size) (hb : w.heap.size < b) (hr : FRow 138 2 eFld w1 (w.heap.size + 1) A' n' c' sc') (hf : FRows 28 84 w1 (w.heap.size + 1) B' m' d' fs') :
    MidA W0 w g b sc' n' fs' nx' A' c' B' m' d' (World.setCell (World.setCell (World.setCell w1 ⟨b, 0, none⟩ (.slice A' n' c')) ⟨b, 1, none⟩ (.slice B' m' d')) ⟨b, 2, none⟩ (.int .i64 nx')) :=
  h.turn hg hW hb hr hf ((((Chg.refl [b] w1).set (by simp) _).set (by simp) _).set (by simp) _) (by simpa using blk_set (blk_set (blk_set h.1 0 (.slice A' n' c')) 1 (.slice B' m' d')) 2 (.int .i64 nx'))
/-- the headers' row is written anew: the box still holds the old slice -/
def MidP (W0 w : World) (g b : Nat) (sc : List Fld) (n : Nat) (nx : Int) (A : Option Addr) (c : Nat) (B : Option Addr) (m d : Nat) (w' : World) : Prop :=
  w'.heap[b]? = some (.cells #[.slice A n c, .slice B m d, .int .i64 nx] 40 (0, 0)) ∧ w'.heap[w.heap.size]? = some (.cells #[.slice none 0 0, .slice none 0 0, .int .i64 0] 40 (0, 0)) ∧ FRow 138 2 eFld w' (w.heap.size + 1) A n c sc ∧ Cur W0 w' g ∧ Chg [g] w w'
theorem MidA.app {L : List (Fh × List Atr)} (h : MidA W0 w g b sc n fs nx A c B m d w1) (hg : g < w.heap.size) (hW : W0.heap.size ≤ w.heap.size) (hb : w.heap.size < b) (hN : NRow (KFil 28 84) w1 (w.heap.size + 1) B m d L) (hc : Chg (rowBs B d) w1 w2) : MidP W0 w g b sc n nx A c B m d w2 := by
  refine ⟨hc.keepb h.1 (hN.1.far h.1 (by decide)), hc.keepb h.2.1 (hN.1.far h.2.1 (by decide)), h.2.2.1.chg hc (h.2.2.1.sep hN.1 (by decide)), h.2.2.2.2.1.chg hc (fun hm => ?_) (fun x hx => by have := (hN.1.base x hx).1; omega), h.2.2.2.2.2.step hc (fun x hx hlt => by have := (hN.1.base x hx).1; omega)⟩
  have := (hN.1.base g hm).1
  omega
theorem MidA.put1 {fs' : List Fil} {m' d' : Nat} {B' : Option Addr} (h : MidP W0 w g b sc n nx A c B m d w1) (hg : g < w.heap.size) (hW : W0.heap.size ≤ w.heap.size) (hb : w.heap.size < b) (hf : FRows 28 84 w1 (w.heap.size + 1) B' m' d' fs') : MidA W0 w g b sc n fs' nx A c B' m' d' (World.setCell w1 ⟨b, 1, none⟩ (.slice B' m' d')) := by
  have hc : Chg [b] w1 (World.setCell w1 ⟨b, 1, none⟩ (.slice B' m' d')) := (Chg.refl [b] w1).set (by simp) _
  exact ⟨by simpa using blk_set h.1 1 (.slice B' m' d'), hc.keepb h.2.1 (by simp only [List.mem_singleton]; omega), h.2.2.1.chg hc (fun x hx hm => by obtain rfl := List.mem_singleton.1 hm; exact h.2.2.1.far h.1 (by decide) hx), hf.farChg h.1 (by decide) (by decide) hc, h.2.2.2.1.chg hc (by simp only [List.mem_singleton]; omega) (fun x hx => by simp only [List.mem_singleton] at hx; omega), h.2.2.2.2.step hc (fun x hx hlt => by simp only [List.mem_singleton] at hx; omega)⟩
end
def lenAt (b : Nat) (wr : World) : Nat := match wr.cell? ⟨b, 1, none⟩ with | some (.slice _ m _) => m | _ => 0
/-- what any drawn store is known by -/
def StoA (sc : List Fld) (n : Nat) (fs : List Fil) (m : Nat) : Prop := sc.length = n ∧ n ≤ 6 ∧ (∀ f ∈ sc, f.name.size ≤ 1) ∧ fs.length = m ∧ m ≤ 13 ∧ ∀ f ∈ fs, OkF f
theorem StoA.ok {sc : List Fld} {n : Nat} {fs : List Fil} {m : Nat} (h : StoA sc n fs m) (nx : Int) : (⟨sc, fs, nx⟩ : Sto).ok 1073741824 :=
  ⟨by have h1 := h.1; have h2 := h.2.1; show sc.length ≤ _; omega, fun f hf => Nat.le_trans (h.2.2.1 f hf) (by omega), by have h1 := h.2.2.2.1; have h2 := h.2.2.2.2.1; show fs.length ≤ _; omega, fun f hf => (h.2.2.2.2.2 f hf).ok⟩
theorem StoG.any {fs : List Fil} {m : Nat} {nx : Int} (h : StoG fs m nx) : StoA usualL 4 fs m :=
  ⟨rfl, by omega, usual_small, h.1, by have := (validS_iff.1 h.2.1).2.2.1; simp only at this; have := h.1; omega, h.2.2.1⟩
/-- any drawn store, its rows the call's own -/
def DrawAny (W0 w : World) (g : Nat) (e : Ending) (w' : World) : Prop := ∃ (sc : List Fld) (n : Nat) (fs : List Fil) (nx : Int) (A : Option Addr) (c : Nat) (B : Option Addr) (m d : Nat), e = .returned (.agg #[.slice A n c, .slice B m d, .int .i64 nx]) ∧ FRow 138 2 eFld w' (w.heap.size + 1) A n c sc ∧ FRows 28 84 w' (w.heap.size + 1) B m d fs ∧ StoA sc n fs m ∧ Cur W0 w' g ∧ Chg [g] w w'
set_option maxHeartbeats 6400000 in
theorem spec_l05Any (W0 w : World) (g : Nat) (hC : Cur W0 w g) : Calls Try.prog 70 #[.pointer (some ⟨g, 0, none⟩)] w (DrawAny W0 w g) := by
  have HPI := Lib.hid fun (A : Option Addr) (m c : Nat) ls w' h0 h1 hS (h : Cur W0 w' g) => spec_l01PickInt W0 w' g A m c ls h0 h1 hS h
  obtain ⟨ii, hi, hi0, hi1, hi2⟩ := info_parts info_File
  have hgl := cur_lt hC
  have hgw := (cur_w hC).2.size
  have HC := Lib.hid hC
  clear hC
  go_enter Try.func70, Try.ntmps70
  go_wp2_with fail
  refine (spec_l05Store W0 _ g (HC.out.below (ex_alloc (Below.refl _ _) _))).mono ?_; rintro e w1 ⟨fs, nx, A, c, B, m, d, rfl, hr, hf, hG, hm1, hm7, hx8, hc1, hg1⟩
  have hz1 := hg1.size
  simp at hz1
  have HQ := Lib.hid (hg1.keepb (hp_new rfl) (by simp only [List.mem_singleton]; omega))
  have HX := Lib.hid (And.intro (show FRow 138 2 eFld w1 (w.heap.size + 1) A 4 c usualL by simpa using hr) (And.intro (show FRows 28 84 w1 (w.heap.size + 1) B m d fs by simpa using hf) (And.intro hc1 ((Chg.of_below [g] (ex_alloc (Below.refl w.heap.size w) _)).trans hg1))))
  have HG := Lib.hid hG
  clear hr hf hG hc1 hg1
  go_wp2_with fail
  have HM3 : Hid (MidA W0 w g w1.heap.size usualL 4 fs nx A c B m d (World.alloc w1 (.cells #[.slice A 4 c, .slice B m d, .int .i64 nx] 40))) := by
    have hba : Below w1.heap.size w1 (World.alloc w1 (.cells #[.slice A 4 c, .slice B m d, .int .i64 nx] 40)) := (Below.refl _ _).alloc (Nat.le_refl _) _
    exact Lib.hid ⟨hp_new rfl, below_keep hba HQ.out, HX.out.1.below hba, HX.out.2.1.below hba, HX.out.2.2.1.below hba, HX.out.2.2.2.trans (Chg.of_below _ hba)⟩
  generalize World.alloc w1 _ = w3 at *
  have hbl : w.heap.size < w1.heap.size := by omega
  clear HQ HX hz1
  generalize w1.heap.size = b at *
  have hn1 : ¬ (b = w.heap.size) := by omega
  have hn2 : ¬ (w.heap.size = b) := by omega
  refine (spec_l01Below W0 _ g 14 (by omega) (by omega) HM3.out.2.2.2.2.1).mono ?_; rintro e w4 ⟨y, rfl, ⟨y0, y1⟩, hc4, hg4⟩
  have HM := Lib.hid (HM3.out.step hgl hbl hc4 hg4)
  clear hc4 hg4 HM3
  have hy : y = 0 ∨ y = 1 ∨ y = 2 ∨ y = 3 ∨ 4 ≤ y := by omega
  rcases hy with rfl | rfl | rfl | rfl | hy
  · go_wp2_with fail
    refine (HPI.out _ 4 4 [0, 60, 61, 62] _ (by omega) (by omega) (lit_keeps (n := 4) encInt (fun _ _ => rfl) w4 [0, 60, 61, 62] 3 (cur_lt HM.out.2.2.2.2.1) rfl (by unfold maxLen; omega) rfl) (HM.out.2.2.2.2.1.below (ex_alloc (Below.refl _ _) _))).mono ?_; rintro e w5 ⟨z, rfl, hz, hc5, hg5⟩
    have HM5 := Lib.hid ((HM.out.below hgl hbl (ex_alloc (Below.refl _ _) _)).step hgl hbl hc5 hg5)
    clear hc5 hg5 hz
    obtain ⟨v0, v1, v2, -⟩ := HM5.out.cells
    have vf := blk_free HM5.out.1
    have HM6 := Lib.hid (HM5.out.set2 hgl hgw hbl z)
    go_upto_region 12 with fail
    generalize World.setCell w5 _ _ = w6 at *
    clear v0 v1 v2 vf HM HM5
    obtain ⟨u0, u1, u2, -⟩ := HM6.out.cells
    have uf := blk_free HM6.out.1
    have q0 := blk_cell? HM6.out.2.1 0
    have q1 := blk_cell? HM6.out.2.1 1
    have q2 := blk_cell? HM6.out.2.1 2
    have qf := blk_free HM6.out.2.1
    simp only [List.getElem?_toArray, List.getElem?_cons_zero, List.getElem?_cons_succ] at q0 q1 q2
    go_wp2_with fail
    refine bodyPost_ret (v := .agg #[.slice A 4 c, .slice B m d, .int .i64 z]) (by simp [results, Try.results70, go_sem, q0, q1, q2]) rfl ?_
    have hc : Chg [w.heap.size] w6 _ := ((((Chg.refl [w.heap.size] w6).set (a := ⟨w.heap.size, 0, none⟩) (by simp) (.slice A 4 c)).set (a := ⟨w.heap.size, 1, none⟩) (by simp) (.slice B m d)).set (a := ⟨w.heap.size, 2, none⟩) (by simp) (.int .i64 z))
    exact ⟨usualL, 4, fs, z, A, c, B, m, d, rfl, HM6.out.2.2.1.chg hc (fun x hx hm => by obtain rfl := List.mem_singleton.1 hm; exact HM6.out.2.2.1.far HM6.out.2.1 (by decide) hx), HM6.out.2.2.2.1.farChg HM6.out.2.1 (by decide) (by decide) hc, HG.out.any, HM6.out.2.2.2.2.1.chg hc (by simp only [List.mem_singleton]; omega) (fun x hx => by simp only [List.mem_singleton] at hx; omega), HM6.out.2.2.2.2.2.step hc (fun x hx hlt => by simp only [List.mem_singleton] at hx; omega)⟩
  · have e10 : ((1 : Int) == 0) = false := rfl
    go_upto_region 6 with fail
    refine region_F (S := (fun w' => w'.cell? ⟨b, 0, none⟩ = some (.slice A 4 c) ∧ w'.cell? ⟨b, 1, none⟩ = some (.slice B m d) ∧ w'.cell? ⟨b, 2, none⟩ = some (.int .i64 nx))) [7] (by kernel_rfl) (by (try dsimp only); exact (HM.out.below hgl hbl (Below.refl _ _).drew).three) (fun hHeld => ?_)
    have HMd := Lib.hid (HM.out.below hgl hbl (Below.refl _ _).drew)
    generalize World.drew w4 = Wd at *
    have hzd : w.heap.size + 1 ≤ Wd.heap.size := blk_lt HMd.out.2.1
    refine heldF_take 0 rfl (by kernel_rfl) (by kernel_rfl) (by kernel_rfl) (by kernel_rfl) (by kernel_rfl) (by rfl) (fun _ _ _ h => h) (by assumption) (by intro w hSw; (try dsimp only at hSw); go_simp; first | done | with_reducible rfl) ?_
    simp only [Act.put, List.setIfInBounds_toArray, List.set_cons_zero, List.set_cons_succ]
    refine heldF_take 1 rfl (by kernel_rfl) (by kernel_rfl) (by kernel_rfl) (by kernel_rfl) (by kernel_rfl) (by rfl) (fun _ _ _ h => h) (by assumption) (by intro w hSw; (try dsimp only at hSw); go_simp; first | done | with_reducible rfl) ?_
    simp only [Act.put, List.setIfInBounds_toArray, List.set_cons_zero, List.set_cons_succ]
    refine heldF_take 2 rfl (by kernel_rfl) (by kernel_rfl) (by kernel_rfl) (by kernel_rfl) (by kernel_rfl) (by rfl) (fun _ _ _ h => h) (by assumption) (by intro w hSw; (try dsimp only at hSw); go_simp; first | done | with_reducible rfl) ?_
    simp only [Act.put, List.setIfInBounds_toArray, List.set_cons_zero, List.set_cons_succ]
    obtain ⟨Ls, hNd, hLs⟩ := HMd.out.2.2.2.1
    have HNd := Lib.hid hNd
    have HLS := Lib.hid hLs
    clear hNd hLs
    refine heldF_one 3 (by kernel_rfl) rfl (fun K hK => ?_)
    go_simp
    go_at_call 75
    refine (spec_l04Any W0 _ g HMd.out.2.2.2.2.1).mono ?_; rintro e w5 ⟨f, P, q, r, rfl, hrf, hq, hsm, hc5, hg5⟩
    have HRF := Lib.hid hrf
    have HOF := Lib.hid (show OkF f from ⟨by have := hrf.len; omega, hsm⟩)
    have HN5 := Lib.hid (HNd.out.chg hg5 (fun b hb hm => by have := (HNd.out.base b hb).1; rw [List.mem_singleton] at hm; omega))
    have HM5 := Lib.hid (HMd.out.step hgl hbl hc5 hg5)
    go_wp2_with fail
    refine hK.out _ _ (fun _ => by (try dsimp only); exact HM5.out.three) (fun hNew => ?_)
    clear hK K hHeld
    have hHeld := hNew rfl
    clear hNew
    try simp only [Act.put, List.setIfInBounds_toArray, List.set_cons_zero, List.set_cons_succ]
    clear hc5 hg5 hrf hsm
    refine heldF_one 4 (by kernel_rfl) rfl (fun K hK => ?_)
    go_simp
    generalize hwa : World.alloc w5 _ = wa
    have hba : Below w5.heap.size w5 wa := by rw [← hwa]; exact (Below.refl _ _).alloc (Nat.le_refl _) _
    have hsa : w5.heap.size ≤ wa.heap.size := hba.size
    have HSR := Lib.hid (show Src 5 eFh wa (some ⟨w5.heap.size, 0, none⟩) 1 [(⟨f.id, f.owner, f.shared, f.link, P, q, r⟩ : Fh)] by rw [← hwa]; exact src1 encFh _ _ _ rfl rfl)
    have HNa := Lib.hid (HN5.out.below hba)
    have HRa := Lib.hid (HRF.out.below hba)
    have HMa := Lib.hid (HM5.out.below hgl hbl hba)
    refine hK.out _ _ (fun _ => by (try dsimp only); exact HMa.out.three) (fun hNew => ?_)
    clear hK K hHeld
    have hHeld := hNew rfl
    clear hNew
    try simp only [Act.put, List.setIfInBounds_toArray, List.set_cons_zero, List.set_cons_succ]
    clear hwa hba
    refine heldF_one 5 (by kernel_rfl) rfl (fun K hK => ?_)
    have hwz : w.heap.size + 1 ≤ wa.heap.size := blk_lt HMa.out.2.1
    refine step_append_row rfl (.tmp 17) (.tmp 20) _ rfl encFh Try.underlying38 hi hi0 hi1 hi2 rfl rfl rfl HNa.out.1 HSR.out (by unfold maxLen; omega) (by omega) hwz ?_; intro A3 c3 w6 hr6 hc6 hx6
    have HF6 := Lib.hid (show FRows 28 84 w6 (w.heap.size + 1) A3 (m + 1) c3 (fs ++ [f]) by
      obtain ⟨p1, p2⟩ := NRow.push (K := KFil 28 84) (x := ((⟨f.id, f.owner, f.shared, f.link, P, q, r⟩ : Fh), f.attrs)) HNa.out (HRa.out.low hzd) (fun b hb hm => by have h1 := (HRF.out.base b hb).1; have h2 := (HNd.out.base b hm).2; omega)
      exact ⟨Ls ++ [((⟨f.id, f.owner, f.shared, f.link, P, q, r⟩ : Fh), f.attrs)], NRow.turn (K := KFil 28 84) (by simpa using hr6) hc6 hx6 p1 p2, by rw [List.map_append, HLS.out]; rfl⟩)
    have HP6 := Lib.hid (MidA.app HMa.out hgl hgw hbl HNa.out hc6)
    have HS6 := Lib.hid (show StoA usualL 4 (fs ++ [f]) (m + 1) from ⟨rfl, by omega, usual_small, by have := HG.out.1; simp; omega, by omega, fun x hx => by
      rcases List.mem_append.1 hx with hx | hx
      · exact HG.out.2.2.1 x hx
      · rw [List.mem_singleton] at hx; subst hx; exact HOF.out⟩)
    clear hr6 hc6 hx6
    refine hK.out _ _ (fun _ => by (try dsimp only); exact ⟨blk_cell? HP6.out.1 0, blk_cell? HP6.out.1 1, blk_cell? HP6.out.1 2⟩) (fun hNew => ?_)
    clear hK K hHeld
    have hHeld := hNew rfl
    clear hNew
    try simp only [Act.put, List.setIfInBounds_toArray, List.set_cons_zero, List.set_cons_succ]
    have v0 := blk_cell? HP6.out.1 0
    have v1 := blk_cell? HP6.out.1 1
    have v2 := blk_cell? HP6.out.1 2
    have vf := blk_free HP6.out.1
    simp only [List.getElem?_toArray, List.getElem?_cons_zero, List.getElem?_cons_succ] at v0 v1 v2
    have HM7 := Lib.hid (MidA.put1 HP6.out hgl hgw hbl HF6.out)
    refine heldF_take 6 rfl (by kernel_rfl) (by kernel_rfl) (by kernel_rfl) (by kernel_rfl) (by kernel_rfl) (by rfl) (fun _ _ _ h => h) (by assumption) (by intro w hSw; (try dsimp only at hSw); go_simp; first | done | with_reducible rfl) ?_
    simp only [Act.put, List.setIfInBounds_toArray, List.set_cons_zero, List.set_cons_succ]
    refine heldF_one 7 (by kernel_rfl) rfl (fun K hK => ?_)
    go_simp
    refine hK.out _ _ (fun h => by cases (show true = false from h)) (fun _ => ?_)
    clear hK K
    try clear hHeld
    try simp only [Act.put, List.setIfInBounds_toArray, List.set_cons_zero, List.set_cons_succ]
    refine anyF_done (by kernel_rfl) ?_ _
    clear v0 v1 v2 vf HM HMd HM5 HMa HP6 HF6
    go_upto_region 12 with fail
    generalize World.setCell w6 _ _ = w7 at *
    obtain ⟨u0, u1, u2, -⟩ := HM7.out.cells
    have uf := blk_free HM7.out.1
    have q0 := blk_cell? HM7.out.2.1 0
    have q1 := blk_cell? HM7.out.2.1 1
    have q2 := blk_cell? HM7.out.2.1 2
    have qf := blk_free HM7.out.2.1
    simp only [List.getElem?_toArray, List.getElem?_cons_zero, List.getElem?_cons_succ] at q0 q1 q2
    go_wp2_with fail
    refine bodyPost_ret (v := .agg #[.slice A 4 c, .slice A3 (m + 1) c3, .int .i64 nx]) (by simp [results, Try.results70, go_sem, q0, q1, q2]) rfl ?_
    have hc : Chg [w.heap.size] w7 _ := ((((Chg.refl [w.heap.size] w7).set (a := ⟨w.heap.size, 0, none⟩) (by simp) (.slice A 4 c)).set (a := ⟨w.heap.size, 1, none⟩) (by simp) (.slice A3 (m + 1) c3)).set (a := ⟨w.heap.size, 2, none⟩) (by simp) (.int .i64 nx))
    exact ⟨usualL, 4, (fs ++ [f]), nx, A, c, A3, (m + 1), c3, rfl, HM7.out.2.2.1.chg hc (fun x hx hm => by obtain rfl := List.mem_singleton.1 hm; exact HM7.out.2.2.1.far HM7.out.2.1 (by decide) hx), HM7.out.2.2.2.1.farChg HM7.out.2.1 (by decide) (by decide) hc, HS6.out, HM7.out.2.2.2.2.1.chg hc (by simp only [List.mem_singleton]; omega) (fun x hx => by simp only [List.mem_singleton] at hx; omega), HM7.out.2.2.2.2.2.step hc (fun x hx hlt => by simp only [List.mem_singleton] at hx; omega)⟩
  · have e20 : ((2 : Int) == 0) = false := rfl
    have e21 : ((2 : Int) == 1) = false := rfl
    go_wp2_with fail
    refine (spec_l03Any W0 _ g HM.out.2.2.2.2.1).mono ?_; rintro e w5 ⟨A5, n5, c5, l5, rfl, hr5, hn5, hs5, hc5, hg5⟩
    have HM5 := Lib.hid (HM.out.step hgl hbl hc5 hg5)
    have HR5 := Lib.hid (show FRow 138 2 eFld w5 (w.heap.size + 1) A5 n5 c5 l5 from hr5.low (by have := HM.out.2.2.2.2.2.size; have h9 := blk_lt HM.out.1; omega))
    have hl5 := hr5.len
    have HS5 := Lib.hid (show StoA l5 n5 fs m from ⟨hl5, hn5, hs5, HG.out.any.2.2.2⟩)
    clear hc5 hg5 hr5 hs5 hl5
    obtain ⟨v0, v1, v2, -⟩ := HM5.out.cells
    have vf := blk_free HM5.out.1
    have HM6 := Lib.hid (HM5.out.set0 hgl hgw hbl HR5.out)
    go_upto_region 12 with fail
    generalize World.setCell w5 _ _ = w6 at *
    clear v0 v1 v2 vf HM HM5 HR5
    obtain ⟨u0, u1, u2, -⟩ := HM6.out.cells
    have uf := blk_free HM6.out.1
    have q0 := blk_cell? HM6.out.2.1 0
    have q1 := blk_cell? HM6.out.2.1 1
    have q2 := blk_cell? HM6.out.2.1 2
    have qf := blk_free HM6.out.2.1
    simp only [List.getElem?_toArray, List.getElem?_cons_zero, List.getElem?_cons_succ] at q0 q1 q2
    go_wp2_with fail
    refine bodyPost_ret (v := .agg #[.slice A5 n5 c5, .slice B m d, .int .i64 nx]) (by simp [results, Try.results70, go_sem, q0, q1, q2]) rfl ?_
    have hc : Chg [w.heap.size] w6 _ := ((((Chg.refl [w.heap.size] w6).set (a := ⟨w.heap.size, 0, none⟩) (by simp) (.slice A5 n5 c5)).set (a := ⟨w.heap.size, 1, none⟩) (by simp) (.slice B m d)).set (a := ⟨w.heap.size, 2, none⟩) (by simp) (.int .i64 nx))
    exact ⟨l5, n5, fs, nx, A5, c5, B, m, d, rfl, HM6.out.2.2.1.chg hc (fun x hx hm => by obtain rfl := List.mem_singleton.1 hm; exact HM6.out.2.2.1.far HM6.out.2.1 (by decide) hx), HM6.out.2.2.2.1.farChg HM6.out.2.1 (by decide) (by decide) hc, HS5.out, HM6.out.2.2.2.2.1.chg hc (by simp only [List.mem_singleton]; omega) (fun x hx => by simp only [List.mem_singleton] at hx; omega), HM6.out.2.2.2.2.2.step hc (fun x hx hlt => by simp only [List.mem_singleton] at hx; omega)⟩
  · have e30 : ((3 : Int) == 0) = false := rfl
    have e31 : ((3 : Int) == 1) = false := rfl
    have e32 : ((3 : Int) == 2) = false := rfl
    have HG0 := HG
    have HM0 := HM
    clear HG HM
    go_wp2_with fail
    go_loopw [] (fun wr => ∃ m : Nat, m ≤ 12 ∧ ∃ (fs : List Fil) (nx : Int) (A : Option Addr) (c : Nat) (B : Option Addr) (d : Nat), nx + (13 - m) ≤ 30 ∧ Hid (StoG fs m nx) ∧ Hid (MidA W0 w g b usualL 4 fs nx A c B m d wr)) (fun wr => 12 - lenAt b wr)
    case atStart => exact ⟨m, by omega, fs, nx, A, c, B, d, by omega, HG0, HM0⟩
    case round =>
      clear HG0 HM0 hm1 hm7 hx8
      obtain ⟨m, hm12, fs, nx, A, c, B, d, hx30, HG, HM⟩ := hrel
      obtain ⟨y0, y1, y2, -⟩ := HM.out.cells
      have HLA := Lib.hid (show lenAt b wr = m by unfold lenAt; rw [y1])
      by_cases hlt : m < 12
      · have i1 : (m : Int) < 12 := by omega
        have hxl : nx < 60 := by omega
        go_upto_region 11 with fail
        refine region_G (S := (fun w' => w'.cell? ⟨b, 0, none⟩ = some (.slice A 4 c) ∧ w'.cell? ⟨b, 1, none⟩ = some (.slice B m d) ∧ w'.cell? ⟨b, 2, none⟩ = some (.int .i64 nx) ∧ MidA W0 w g b usualL 4 fs nx A c B m d w')) [8] (by kernel_rfl) (by (try dsimp only); exact (HM.out.below hgl hbl (Below.refl _ _).drew).cells) (fun hHeld => ?_)
        generalize World.drew wr = Wd at *
        refine heldG_take 0 rfl (by kernel_rfl) (by kernel_rfl) (by kernel_rfl) (by kernel_rfl) (by kernel_rfl) (by kernel_rfl) (by rfl) (fun _ _ _ h => h) (by assumption) (by intro w hSw; (try dsimp only at hSw); go_simp; first | done | with_reducible rfl) ?_
        simp only [Act.put, List.setIfInBounds_toArray, List.set_cons_zero, List.set_cons_succ]
        refine heldG_take 1 rfl (by kernel_rfl) (by kernel_rfl) (by kernel_rfl) (by kernel_rfl) (by kernel_rfl) (by kernel_rfl) (by rfl) (fun _ _ _ h => h) (by assumption) (by intro w hSw; (try dsimp only at hSw); go_simp; first | done | with_reducible rfl) ?_
        simp only [Act.put, List.setIfInBounds_toArray, List.set_cons_zero, List.set_cons_succ]
        refine heldG_one 2 (by kernel_rfl) rfl (fun K hK => ?_)
        go_simp
        go_at_call 91
        refine (spec_l04FileG W0 _ g 1 hHeld.2.2.2.2.2.2.2.1).mono ?_; rintro e w4 ⟨f, P, q, r, rfl, hrf, hq, hgf, hc4, hg4⟩
        have HRF := Lib.hid hrf
        have HGF := Lib.hid hgf
        have hfl : f.attrs.length = q := hrf.len
        go_wp2_with fail
        refine hK.out _ _ (fun _ => by (try dsimp only); exact (hHeld.2.2.2.step hgl hbl hc4 hg4).cells) (fun hNew => ?_)
        clear hK K hHeld
        have hHeld := hNew (by kernel_rfl)
        clear hNew
        try simp only [Act.put, List.setIfInBounds_toArray, List.set_cons_zero, List.set_cons_succ]
        clear hc4 hg4 hrf hgf
        refine heldG_one 3 (by kernel_rfl) rfl (fun K hK => ?_)
        go_simp
        go_at_call 127
        have HX := Lib.hid (StoG.cre HG.out HGF.out (by omega) hlt hxl)
        refine (spec_CreateFile ⟨usualL, fs, nx⟩ A 4 c B m d f P q r _ (hHeld.2.2.2.2.2.1.sl (R := RFld) encFld (fun _ => rfl)) hHeld.2.2.2.2.2.2.1.sl (HRF.out.sl (R := RAtr) encAtr (fun _ => rfl)) HG.out.ok (show f.ok 1073741824 from OkF.ok ⟨by omega, HGF.out.1⟩)).mono ?_
        rw [HX.out.1]
        rintro e w5 ⟨A5, c5, B5, d5, X5, rfl, hr5, -, hx5, -, hf5, hb5⟩
        obtain ⟨fs5, hfs5⟩ : ∃ l, l = fs ++ [creF ⟨usualL, fs, nx⟩ f] := ⟨_, rfl⟩
        rw [← hfs5] at hf5 ⊢
        have hl5 : fs5.length = m + 1 := by rw [hfs5]; exact HX.out.2.1
        simp only [hl5, show usualL.length = 4 from rfl] at hr5 hf5 ⊢
        have hbw : w.heap.size < w4.heap.size := blk_lt hHeld.2.2.2.2.1
        have HR5 := Lib.hid (And.intro (show FRow 138 2 eFld w5 (w.heap.size + 1) A5 4 c5 usualL from hr5.low (by omega)) (hf5.lower (show w.heap.size + 1 ≤ X5 by omega)))
        have HG5 := Lib.hid (show StoG fs5 (m + 1) (nx + 1) by rw [hfs5]; exact HX.out.2)
        have HM5 := Lib.hid (hHeld.2.2.2.below hgl hbl hb5)
        clear hfs5 hl5 hr5 hf5 hx5 HX
        go_wp2_with fail
        refine hK.out _ _ (fun _ => by (try dsimp only); exact HM5.out.cells) (fun hNew => ?_)
        clear hK K hHeld
        have hHeld := hNew (by kernel_rfl)
        clear hNew
        try simp only [Act.put, List.setIfInBounds_toArray, List.set_cons_zero, List.set_cons_succ]
        clear hb5
        refine heldG_pure 4 rfl (by kernel_rfl) (by kernel_rfl) (by kernel_rfl) (by kernel_rfl) (by rfl) (fun _ _ _ h => h) (by assumption) (by intro w _; go_simp; first | done | with_reducible rfl) ?_
        simp only [Act.put, List.setIfInBounds_toArray, List.set_cons_zero, List.set_cons_succ]
        refine heldG_pure 5 rfl (by kernel_rfl) (by kernel_rfl) (by kernel_rfl) (by kernel_rfl) (by rfl) (fun _ _ _ h => h) (by assumption) (by intro w _; go_simp; first | done | with_reducible rfl) ?_
        simp only [Act.put, List.setIfInBounds_toArray, List.set_cons_zero, List.set_cons_succ]
        refine heldG_pure 6 rfl (by kernel_rfl) (by kernel_rfl) (by kernel_rfl) (by kernel_rfl) (by rfl) (fun _ _ _ h => h) (by assumption) (by intro w _; go_simp; first | done | with_reducible rfl) ?_
        simp only [Act.put, List.setIfInBounds_toArray, List.set_cons_zero, List.set_cons_succ]
        refine heldG_pure 7 rfl (by kernel_rfl) (by kernel_rfl) (by kernel_rfl) (by kernel_rfl) (by rfl) (fun _ _ _ h => h) (by assumption) (by intro w _; go_simp; first | done | with_reducible rfl) ?_
        simp only [Act.put, List.setIfInBounds_toArray, List.set_cons_zero, List.set_cons_succ]
        have u0 := blk_cell? HM5.out.1 0
        have u1 := blk_cell? HM5.out.1 1
        have u2 := blk_cell? HM5.out.1 2
        have uf := blk_free HM5.out.1
        refine heldG_last 8 (by kernel_rfl) rfl (by kernel_rfl) (fun K hK => ?_)
        go_simp
        refine hK.out _ _ ?_
        clear hK K
        try clear hHeld
        try simp only [Act.put, List.setIfInBounds_toArray, List.set_cons_zero, List.set_cons_succ]
        refine anyG_done (by kernel_rfl) ?_ _
        have HM6 := Lib.hid (HM5.out.put (nx' := nx + 1) hgl hgw hbl HR5.out.1 HR5.out.2)
        have HLB := Lib.hid (show lenAt b _ = m + 1 by unfold lenAt; rw [HM6.out.cells.2.1])
        clear u0 u1 u2 uf HM y0 y1 y2
        go_wp2_with fail
        go_roundw
        case rel => exact ⟨m + 1, by omega, fs5, nx + 1, A5, c5, B5, d5, by omega, HG5, HM6⟩
        case measure => rw [HLA.out, HLB.out]; omega
      · obtain rfl : m = 12 := by omega
        clear HLA y0 y1 y2
        obtain ⟨u0, u1, u2, -⟩ := HM.out.cells
        have uf := blk_free HM.out.1
        have q0 := blk_cell? HM.out.2.1 0
        have q1 := blk_cell? HM.out.2.1 1
        have q2 := blk_cell? HM.out.2.1 2
        have qf := blk_free HM.out.2.1
        simp only [List.getElem?_toArray, List.getElem?_cons_zero, List.getElem?_cons_succ] at q0 q1 q2
        go_wp2_with fail
        refine bodyPost_ret (v := .agg #[.slice A 4 c, .slice B 12 d, .int .i64 nx]) (by simp [results, Try.results70, go_sem, q0, q1, q2]) rfl ?_
        have hc : Chg [w.heap.size] wr _ := ((((Chg.refl [w.heap.size] wr).set (a := ⟨w.heap.size, 0, none⟩) (by simp) (.slice A 4 c)).set (a := ⟨w.heap.size, 1, none⟩) (by simp) (.slice B 12 d)).set (a := ⟨w.heap.size, 2, none⟩) (by simp) (.int .i64 nx))
        exact ⟨usualL, 4, fs, nx, A, c, B, 12, d, rfl, HM.out.2.2.1.chg hc (fun x hx hm => by obtain rfl := List.mem_singleton.1 hm; exact HM.out.2.2.1.far HM.out.2.1 (by decide) hx), HM.out.2.2.2.1.farChg HM.out.2.1 (by decide) (by decide) hc, HG.out.any, HM.out.2.2.2.2.1.chg hc (by simp only [List.mem_singleton]; omega) (fun x hx => by simp only [List.mem_singleton] at hx; omega), HM.out.2.2.2.2.2.step hc (fun x hx hlt => by simp only [List.mem_singleton] at hx; omega)⟩
  · have z0 : (y == 0) = false := by simp; omega
    have z1 : (y == 1) = false := by simp; omega
    have z2 : (y == 2) = false := by simp; omega
    have z3 : (y == 3) = false := by simp; omega
    obtain ⟨u0, u1, u2, -⟩ := HM.out.cells
    have uf := blk_free HM.out.1
    have q0 := blk_cell? HM.out.2.1 0
    have q1 := blk_cell? HM.out.2.1 1
    have q2 := blk_cell? HM.out.2.1 2
    have qf := blk_free HM.out.2.1
    simp only [List.getElem?_toArray, List.getElem?_cons_zero, List.getElem?_cons_succ] at q0 q1 q2
    go_wp2_with fail
    refine bodyPost_ret (v := .agg #[.slice A 4 c, .slice B m d, .int .i64 nx]) (by simp [results, Try.results70, go_sem, q0, q1, q2]) rfl ?_
    have hc : Chg [w.heap.size] w4 _ := ((((Chg.refl [w.heap.size] w4).set (a := ⟨w.heap.size, 0, none⟩) (by simp) (.slice A 4 c)).set (a := ⟨w.heap.size, 1, none⟩) (by simp) (.slice B m d)).set (a := ⟨w.heap.size, 2, none⟩) (by simp) (.int .i64 nx))
    exact ⟨usualL, 4, fs, nx, A, c, B, m, d, rfl, HM.out.2.2.1.chg hc (fun x hx hm => by obtain rfl := List.mem_singleton.1 hm; exact HM.out.2.2.1.far HM.out.2.1 (by decide) hx), HM.out.2.2.2.1.farChg HM.out.2.1 (by decide) (by decide) hc, HG.out.any, HM.out.2.2.2.2.1.chg hc (by simp only [List.mem_singleton]; omega) (fun x hx => by simp only [List.mem_singleton] at hx; omega), HM.out.2.2.2.2.2.step hc (fun x hx hlt => by simp only [List.mem_singleton] at hx; omega)⟩
set_option maxHeartbeats 3200000 in
theorem spec_DrawFileIDs (A0 : Option Addr) (n0 c0 : Nat) (l : List Int) (w : World) (hS : Sl 1 RByt w A0 n0 l) (hn : n0 ≤ 1048576) (hl : ∀ y ∈ l, 0 ≤ y ∧ y ≤ 255) :
    Calls Try.prog 16 #[.slice A0 n0 c0] w fun e w' => ∃ (sc : List Fld) (n : Nat) (fs : List Fil) (nx : Int) (A : Option Addr) (c : Nat) (B : Option Addr) (m d : Nat), e = .returned (.agg #[.slice A n c, .slice B m d, .int .i64 nx]) ∧ Sl 2 RFld w' A n sc ∧ Sl 5 RFil w' B m fs ∧ StoA sc n fs m ∧ Below w.heap.size w w' := by
  have HN := Lib.hid fun w' (hb : Below w.heap.size w w') => spec_l01New A0 n0 c0 l w' (hS.mono mByt hb) hn hl
  clear hS hl
  go_enter Try.func16, Try.ntmps16
  go_wp2_with fail
  refine (HN.out _ (by go_grown)).mono ?_; rintro e w1 ⟨g, rfl, hC⟩
  have hk := (cur_w hC).2
  have HR1 := Lib.hid (below_keep hk (hp_new rfl))
  have HB1 := Lib.hid (ex_trans (ex_alloc (Below.refl w.heap.size w) _) hk)
  have hgw := (cur_w hC).1
  have HC1 := Lib.hid hC
  simp at hgw
  clear hC hk
  go_wp2_with fail
  refine (spec_l05Any _ _ g HC1.out).mono ?_; rintro e w2 ⟨sc, n, fs, nx, A, c, B, m, d, rfl, hr, hf, hG, hc2, hg2⟩
  have HR2 := Lib.hid (hg2.keepb HR1.out (by simp only [List.mem_singleton]; omega))
  have HB2 := Lib.hid (Below.mark HB1.out hg2 HB1.out.size (by simp only [List.mem_singleton]; intro b hb; omega))
  have HF2 := Lib.hid (And.intro hr hf)
  have HG := Lib.hid hG
  have hzw : w.heap.size < w1.heap.size := blk_lt HR1.out
  clear hr hf hG hc2 hg2
  have r0 := blk_cell? HR2.out 0
  have r1 := blk_cell? HR2.out 1
  have r2 := blk_cell? HR2.out 2
  have rf := blk_free HR2.out
  simp only [List.getElem?_toArray, List.getElem?_cons_zero, List.getElem?_cons_succ] at r0 r1 r2
  go_wp2_with fail
  refine bodyPost_ret (v := .agg #[.slice A n c, .slice B m d, .int .i64 nx]) (by simp [results, Try.results16, go_sem, r0, r1, r2]) rfl ?_
  have hc : Chg [w.heap.size] w2 _ := ((((Chg.refl [w.heap.size] w2).set (a := ⟨w.heap.size, 0, none⟩) (by simp) (.slice A n c)).set (a := ⟨w.heap.size, 1, none⟩) (by simp) (.slice B m d)).set (a := ⟨w.heap.size, 2, none⟩) (by simp) (.int .i64 nx))
  exact ⟨sc, n, fs, nx, A, c, B, m, d, rfl, (HF2.out.1.chg hc (fun b hb h => by have := (HF2.out.1.base b hb).1; simp only [List.mem_singleton] at h; omega)).sl (R := RFld) encFld (fun _ => rfl), (HF2.out.2.draw (by omega) hc).sl, HG.out, Below.mark HB2.out hc HB2.out.size (fun b hb => by simp only [List.mem_singleton] at hb; omega)⟩
end Go.Proofs.Ytjobgnioehkomaa
