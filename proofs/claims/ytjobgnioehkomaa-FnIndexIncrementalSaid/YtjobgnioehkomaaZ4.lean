/-
  CONTRACTS: the draw of any file.
-/
import Derived.WalkKit
import Derived.WalkSpells
import Derived.WalkLawsBesides
import Derived.Lib.Hide
import Derived.Handy
import Derived.StillTailTactics
import Derived.Deep.Light
import Derived.Deep.QuietTactic
import Derived.BigQuiet
import Derived.Deep.RegionHeld3
import Derived.Deep.DeepCutAuto
import Derived.Test.YtjobgnioehkomaaLib
import Derived.Test.YtjobgnioehkomaaOwn
import Derived.Test.YtjobgnioehkomaaRow
import Derived.Test.YtjobgnioehkomaaN0
import Derived.Test.YtjobgnioehkomaaRaw
import Derived.Test.YtjobgnioehkomaaHld
import Derived.Test.YtjobgnioehkomaaHl2
import Derived.Test.YtjobgnioehkomaaSz
import Derived.Test.YtjobgnioehkomaaC1
import Derived.Test.YtjobgnioehkomaaC2
import Derived.Test.YtjobgnioehkomaaT1
import Derived.Test.YtjobgnioehkomaaT2
import Derived.Test.YtjobgnioehkomaaT3
import Derived.Test.YtjobgnioehkomaaT4
import Derived.Test.YtjobgnioehkomaaC3
import Derived.Test.YtjobgnioehkomaaC4
import Derived.Test.YtjobgnioehkomaaC5
import Derived.Test.YtjobgnioehkomaaD1
import Derived.Test.YtjobgnioehkomaaD3
import Derived.Test.YtjobgnioehkomaaD4
import Derived.Test.YtjobgnioehkomaaD5
import Derived.Test.YtjobgnioehkomaaH1
import Derived.Test.YtjobgnioehkomaaE4
import Derived.Test.YtjobgnioehkomaaI1
import Derived.Test.YtjobgnioehkomaaI2
import Derived.Test.YtjobgnioehkomaaD7
import Derived.Test.YtjobgnioehkomaaD8
import Derived.Test.YtjobgnioehkomaaY1
import Derived.Test.YtjobgnioehkomaaY2
import Derived.Test.YtjobgnioehkomaaZ1
import Derived.Test.YtjobgnioehkomaaZ3
import Derived.Test.YtjobgnioehkomaaRows
namespace Go.Proofs.Ytjobgnioehkomaa
open Go.RowKit
set_option linter.unusedVariables false
set_option maxRecDepth 100000
set_option linter.unusedSimpArgs false
theorem MidF.setId {W0 w w1 : World} {g b : Nat} {f : Fil} {A : Option Addr} {n c : Nat} (h : MidF W0 w g b f A n c w1) (hg : g < w.heap.size) (hW : W0.heap.size ≤ w.heap.size) (hb : w.heap.size < b) (y : Int) :
    MidF W0 w g b { f with id := y } A n c (World.setCell w1 ⟨b, 0, none⟩ (.int .i64 y)) := by
  have hc : Chg [b] w1 (World.setCell w1 ⟨b, 0, none⟩ (.int .i64 y)) := (Chg.refl [b] w1).set (by simp) _
  refine ⟨?_, hc.keepb h.2.1 (by simp only [List.mem_singleton]; omega), h.2.2.1.chg hc (fun x hx hm => ?_), h.2.2.2.1.chg hc (by simp only [List.mem_singleton]; omega) (fun x hx => by simp only [List.mem_singleton] at hx; omega), h.2.2.2.2.step hc (fun x hx hlt => by simp only [List.mem_singleton] at hx; omega)⟩
  · have h1 := blk_set h.1 0 (.int .i64 y)
    simpa using h1
  · obtain rfl := List.mem_singleton.1 hm
    exact h.2.2.1.far h.1 (by decide) hx
theorem MidF.setOwner {W0 w w1 : World} {g b : Nat} {f : Fil} {A : Option Addr} {n c : Nat} (h : MidF W0 w g b f A n c w1) (hg : g < w.heap.size) (hW : W0.heap.size ≤ w.heap.size) (hb : w.heap.size < b) (y : Int) :
    MidF W0 w g b { f with owner := y } A n c (World.setCell w1 ⟨b, 1, none⟩ (.int .i64 y)) := by
  have hc : Chg [b] w1 (World.setCell w1 ⟨b, 1, none⟩ (.int .i64 y)) := (Chg.refl [b] w1).set (by simp) _
  refine ⟨?_, hc.keepb h.2.1 (by simp only [List.mem_singleton]; omega), h.2.2.1.chg hc (fun x hx hm => ?_), h.2.2.2.1.chg hc (by simp only [List.mem_singleton]; omega) (fun x hx => by simp only [List.mem_singleton] at hx; omega), h.2.2.2.2.step hc (fun x hx hlt => by simp only [List.mem_singleton] at hx; omega)⟩
  · have h1 := blk_set h.1 1 (.int .i64 y)
    simpa using h1
  · obtain rfl := List.mem_singleton.1 hm
    exact h.2.2.1.far h.1 (by decide) hx
theorem MidF.app {W0 w w1 w2 : World} {g b : Nat} {f : Fil} {A A' : Option Addr} {n c n' c' : Nat} {l : List Atr} (h : MidF W0 w g b f A n c w1) (hg : g < w.heap.size) (hW : W0.heap.size ≤ w.heap.size) (hb : w.heap.size < b) (hc : Chg (rowBs A c) w1 w2) (hr : FRow 84 4 eAtr w2 w.heap.size A' n' c' l) :
    MidF W0 w g b { f with attrs := l } A' n' c' (World.setCell w2 ⟨b, 4, none⟩ (.slice A' n' c')) := by
  have hbb : ∀ x ∈ rowBs A c, w.heap.size ≤ x := fun x hx => (h.2.2.1.base x hx).1
  have k1 := hc.keepb h.1 (h.2.2.1.far h.1 (by decide))
  have k2 := hc.keepb h.2.1 (h.2.2.1.far h.2.1 (by decide))
  have k3 := h.2.2.2.1.chg hc (fun hm => by have := hbb _ hm; omega) (fun x hx => by have := hbb _ hx; omega)
  have k4 := h.2.2.2.2.step hc (fun x hx hlt => by have := hbb _ hx; omega)
  have hs : Chg [b] w2 (World.setCell w2 ⟨b, 4, none⟩ (.slice A' n' c')) := (Chg.refl [b] w2).set (by simp) _
  refine ⟨?_, hs.keepb k2 (by simp only [List.mem_singleton]; omega), hr.chg hs (fun x hx hm => ?_), k3.chg hs (by simp only [List.mem_singleton]; omega) (fun x hx => by simp only [List.mem_singleton] at hx; omega), k4.step hs (fun x hx hlt => by simp only [List.mem_singleton] at hx; omega)⟩
  · have h1 := blk_set k1 4 (.slice A' n' c')
    simpa using h1
  · obtain rfl := List.mem_singleton.1 hm
    exact hr.far k1 (by decide) hx
set_option maxHeartbeats 6400000 in
theorem spec_l04Any (W0 w : World) (g : Nat) (hC : Cur W0 w g) : Calls Try.prog 75 #[.pointer (some ⟨g, 0, none⟩)] w (DrawF 5 W0 w g) := by
  have HB := Lib.hid fun n h0 h1 w' (h : Cur W0 w' g) => spec_l01Below W0 w' g n h0 h1 h
  have HF := Lib.hid fun i w' (h : Cur W0 w' g) => spec_l04File W0 w' g i h
  have HPI := Lib.hid fun (A : Option Addr) (m c : Nat) ls w' h0 h1 hS (h : Cur W0 w' g) => spec_l01PickInt W0 w' g A m c ls h0 h1 hS h
  obtain ⟨ii, hi, hi0, hi1, hi2⟩ := info_parts info_Attr
  have hgl := cur_lt hC
  have hgw := (cur_w hC).2.size
  have HC := Lib.hid hC
  clear hC
  go_enter Try.func75, Try.ntmps75
  go_wp2_with fail
  refine (HB.out 7 (by omega) (by omega) _ (HC.out.below (ex_alloc (Below.refl _ _) _))).mono ?_; rintro e w1 ⟨x, rfl, ⟨x0, x1⟩, hc1, hg1⟩
  have H1 := Lib.hid (And.intro hc1 (And.intro ((Chg.of_below [g] (ex_alloc (Below.refl w.heap.size w) _)).trans hg1) (hg1.keepb (hp_new rfl) (by simp only [List.mem_singleton]; omega))))
  clear hc1 hg1
  go_wp2_with fail
  refine (HF.out (1 + x) _ H1.out.1).mono ?_; rintro e w2 ⟨f, A, n, c, rfl, hr, hn, hsm, hc2, hg2⟩
  have H2 := Lib.hid (And.intro hc2 (And.intro (H1.out.2.1.trans hg2) (And.intro (hg2.keepb H1.out.2.2 (by simp only [List.mem_singleton]; omega)) (hr.re (fun x hx => Nat.le_trans H1.out.2.1.size (hr.base x hx).1)))))
  have hz2 : w.heap.size < w2.heap.size := blk_lt H2.out.2.2.1
  have HSM := Lib.hid hsm
  clear hc2 hg2 H1 hr hsm
  go_wp2_with fail
  generalize hw3 : World.alloc w2 _ = w3
  have hm : MidF W0 w g w2.heap.size f A n c w3 := by
    have hba : Below w2.heap.size w2 w3 := by rw [← hw3]; exact (Below.refl _ _).alloc (Nat.le_refl _) _
    refine ⟨by rw [← hw3]; exact hp_new rfl, below_keep hba H2.out.2.2.1, H2.out.2.2.2.below hba, H2.out.1.below hba, H2.out.2.1.trans (Chg.of_below _ hba)⟩
  clear hw3 H2
  have hbl := hz2
  clear hz2 x0 x1
  generalize w2.heap.size = b at *
  have hn1 : ¬ (b = w.heap.size) := by omega
  have hn2 : ¬ (w.heap.size = b) := by omega
  refine (HB.out 14 (by omega) (by omega) _ hm.2.2.2.1).mono ?_; rintro e w4 ⟨y, rfl, ⟨y0, y1⟩, hc4, hg4⟩
  have HM := Lib.hid (hm.step hgl hbl hc4 hg4)
  clear hm hc4 hg4
  have hy : y = 0 ∨ y = 1 ∨ y = 2 ∨ y = 3 ∨ y = 4 ∨ 5 ≤ y := by omega
  rcases hy with rfl | rfl | rfl | rfl | rfl | hy
  · go_wp2_with fail
    refine (HPI.out _ 4 4 [0, 60, 61, -1] _ (by omega) (by omega) (lit_keeps (n := 4) encInt (fun _ _ => rfl) w4 [0, 60, 61, -1] 3 (cur_lt HM.out.2.2.2.1) rfl (by unfold maxLen; omega) rfl) (HM.out.2.2.2.1.below (ex_alloc (Below.refl _ _) _))).mono ?_; rintro e w5 ⟨z, rfl, hz, hc5, hg5⟩
    have HM5 := Lib.hid ((HM.out.below hgl hbl (ex_alloc (Below.refl _ _) _)).step hgl hbl hc5 hg5)
    clear hc5 hg5 hz
    obtain ⟨u0, u1, u2, u3, u4, -⟩ := HM5.out.cells
    have uf := blk_free HM5.out.1
    have q0 := blk_cell? HM5.out.2.1 0
    have q1 := blk_cell? HM5.out.2.1 1
    have q2 := blk_cell? HM5.out.2.1 2
    have q3 := blk_cell? HM5.out.2.1 3
    have q4 := blk_cell? HM5.out.2.1 4
    have qf := blk_free HM5.out.2.1
    simp only [List.getElem?_toArray, List.getElem?_cons_zero, List.getElem?_cons_succ] at q0 q1 q2 q3 q4
    have HM6 := Lib.hid (HM5.out.setId hgl hgw hbl z)
    go_wp2_with fail
    refine bodyPost_ret (v := .agg #[.int .i64 ({ f with id := z }).id, .int .i64 ({ f with id := z }).owner, .bool ({ f with id := z }).shared, .int .i64 ({ f with id := z }).link, .slice A n c]) (by simp [results, Try.results75, go_sem, q0, q1, q2, q3, q4, u0, u1, u2, u3, u4, hn1, hn2]) rfl ?_
    have hc : Chg [w.heap.size] (w5.setCell ⟨b, 0, none⟩ (.int .i64 z)) _ := ((((((Chg.refl [w.heap.size] _).set (a := ⟨w.heap.size, 0, none⟩) (by simp) (.int .i64 ({ f with id := z }).id)).set (a := ⟨w.heap.size, 1, none⟩) (by simp) (.int .i64 ({ f with id := z }).owner)).set (a := ⟨w.heap.size, 2, none⟩) (by simp) (.bool ({ f with id := z }).shared)).set (a := ⟨w.heap.size, 3, none⟩) (by simp) (.int .i64 ({ f with id := z }).link)).set (a := ⟨w.heap.size, 4, none⟩) (by simp) (.slice A n c))
    exact ⟨{ f with id := z }, A, n, c, rfl, HM6.out.2.2.1.chg hc (fun x hx hm => by obtain rfl := List.mem_singleton.1 hm; exact HM6.out.2.2.1.far HM6.out.2.1 (by decide) hx), by omega, HSM.out, HM6.out.2.2.2.1.chg hc (by simp only [List.mem_singleton]; omega) (fun x hx => by simp only [List.mem_singleton] at hx; omega), HM6.out.2.2.2.2.step hc (fun x hx hlt => by simp only [List.mem_singleton] at hx; omega)⟩
  · have e10 : ((1 : Int) == 0) = false := rfl
    go_wp2_with fail
    refine (HPI.out _ 3 3 [-1, 2, 3] _ (by omega) (by omega) (lit_keeps (n := 3) encInt (fun _ _ => rfl) w4 [-1, 2, 3] 3 (cur_lt HM.out.2.2.2.1) rfl (by unfold maxLen; omega) rfl) (HM.out.2.2.2.1.below (ex_alloc (Below.refl _ _) _))).mono ?_; rintro e w5 ⟨z, rfl, hz, hc5, hg5⟩
    have HM5 := Lib.hid ((HM.out.below hgl hbl (ex_alloc (Below.refl _ _) _)).step hgl hbl hc5 hg5)
    clear hc5 hg5 hz
    obtain ⟨u0, u1, u2, u3, u4, -⟩ := HM5.out.cells
    have uf := blk_free HM5.out.1
    have q0 := blk_cell? HM5.out.2.1 0
    have q1 := blk_cell? HM5.out.2.1 1
    have q2 := blk_cell? HM5.out.2.1 2
    have q3 := blk_cell? HM5.out.2.1 3
    have q4 := blk_cell? HM5.out.2.1 4
    have qf := blk_free HM5.out.2.1
    simp only [List.getElem?_toArray, List.getElem?_cons_zero, List.getElem?_cons_succ] at q0 q1 q2 q3 q4
    have HM6 := Lib.hid (HM5.out.setOwner hgl hgw hbl z)
    go_wp2_with fail
    refine bodyPost_ret (v := .agg #[.int .i64 ({ f with owner := z }).id, .int .i64 ({ f with owner := z }).owner, .bool ({ f with owner := z }).shared, .int .i64 ({ f with owner := z }).link, .slice A n c]) (by simp [results, Try.results75, go_sem, q0, q1, q2, q3, q4, u0, u1, u2, u3, u4, hn1, hn2]) rfl ?_
    have hc : Chg [w.heap.size] (w5.setCell ⟨b, 1, none⟩ (.int .i64 z)) _ := ((((((Chg.refl [w.heap.size] _).set (a := ⟨w.heap.size, 0, none⟩) (by simp) (.int .i64 ({ f with owner := z }).id)).set (a := ⟨w.heap.size, 1, none⟩) (by simp) (.int .i64 ({ f with owner := z }).owner)).set (a := ⟨w.heap.size, 2, none⟩) (by simp) (.bool ({ f with owner := z }).shared)).set (a := ⟨w.heap.size, 3, none⟩) (by simp) (.int .i64 ({ f with owner := z }).link)).set (a := ⟨w.heap.size, 4, none⟩) (by simp) (.slice A n c))
    exact ⟨{ f with owner := z }, A, n, c, rfl, HM6.out.2.2.1.chg hc (fun x hx hm => by obtain rfl := List.mem_singleton.1 hm; exact HM6.out.2.2.1.far HM6.out.2.1 (by decide) hx), by omega, HSM.out, HM6.out.2.2.2.1.chg hc (by simp only [List.mem_singleton]; omega) (fun x hx => by simp only [List.mem_singleton] at hx; omega), HM6.out.2.2.2.2.step hc (fun x hx hlt => by simp only [List.mem_singleton] at hx; omega)⟩
  · have e20 : ((2 : Int) == 0) = false := rfl
    have e21 : ((2 : Int) == 1) = false := rfl
    go_wp2_with fail
    refine (HPI.out _ 4 4 [-1, 60, 61, 9223372036854775807] _ (by omega) (by omega) (lit_keeps (n := 4) encInt (fun _ _ => rfl) w4 [-1, 60, 61, 9223372036854775807] 3 (cur_lt HM.out.2.2.2.1) rfl (by unfold maxLen; omega) rfl) (HM.out.2.2.2.1.below (ex_alloc (Below.refl _ _) _))).mono ?_; rintro e w5 ⟨z, rfl, hz, hc5, hg5⟩
    have HM5 := Lib.hid ((HM.out.below hgl hbl (ex_alloc (Below.refl _ _) _)).step hgl hbl hc5 hg5)
    clear hc5 hg5 hz
    obtain ⟨u0, u1, u2, u3, u4, -⟩ := HM5.out.cells
    have uf := blk_free HM5.out.1
    have q0 := blk_cell? HM5.out.2.1 0
    have q1 := blk_cell? HM5.out.2.1 1
    have q2 := blk_cell? HM5.out.2.1 2
    have q3 := blk_cell? HM5.out.2.1 3
    have q4 := blk_cell? HM5.out.2.1 4
    have qf := blk_free HM5.out.2.1
    simp only [List.getElem?_toArray, List.getElem?_cons_zero, List.getElem?_cons_succ] at q0 q1 q2 q3 q4
    have HM6 := Lib.hid (HM5.out.link hgl hgw hbl z)
    go_wp2_with fail
    refine bodyPost_ret (v := .agg #[.int .i64 ({ f with link := z }).id, .int .i64 ({ f with link := z }).owner, .bool ({ f with link := z }).shared, .int .i64 ({ f with link := z }).link, .slice A n c]) (by simp [results, Try.results75, go_sem, q0, q1, q2, q3, q4, u0, u1, u2, u3, u4, hn1, hn2]) rfl ?_
    have hc : Chg [w.heap.size] (w5.setCell ⟨b, 3, none⟩ (.int .i64 z)) _ := ((((((Chg.refl [w.heap.size] _).set (a := ⟨w.heap.size, 0, none⟩) (by simp) (.int .i64 ({ f with link := z }).id)).set (a := ⟨w.heap.size, 1, none⟩) (by simp) (.int .i64 ({ f with link := z }).owner)).set (a := ⟨w.heap.size, 2, none⟩) (by simp) (.bool ({ f with link := z }).shared)).set (a := ⟨w.heap.size, 3, none⟩) (by simp) (.int .i64 ({ f with link := z }).link)).set (a := ⟨w.heap.size, 4, none⟩) (by simp) (.slice A n c))
    exact ⟨{ f with link := z }, A, n, c, rfl, HM6.out.2.2.1.chg hc (fun x hx hm => by obtain rfl := List.mem_singleton.1 hm; exact HM6.out.2.2.1.far HM6.out.2.1 (by decide) hx), by omega, HSM.out, HM6.out.2.2.2.1.chg hc (by simp only [List.mem_singleton]; omega) (fun x hx => by simp only [List.mem_singleton] at hx; omega), HM6.out.2.2.2.2.step hc (fun x hx hlt => by simp only [List.mem_singleton] at hx; omega)⟩
  · have e30 : ((3 : Int) == 0) = false := rfl
    have e31 : ((3 : Int) == 1) = false := rfl
    have e32 : ((3 : Int) == 2) = false := rfl
    go_upto_region 10 with fail
    have HMd := Lib.hid (HM.out.step hgl hbl (HM.out.2.2.2.1.below (Below.refl _ _).drew) (Chg.of_below _ (Below.refl _ _).drew))
    refine region_F (S := (fun w' => w'.cell? ⟨b, 4, none⟩ = some (.slice A n c))) [10] (by kernel_rfl) (by (try dsimp only); exact HMd.out.cells.2.2.2.2.1) (fun hHeld => ?_)
    generalize World.drew w4 = Wd at *
    refine heldF_take 0 rfl (by kernel_rfl) (by kernel_rfl) (by kernel_rfl) (by kernel_rfl) (by kernel_rfl) (by rfl) (fun _ _ _ h => h) (by assumption) (by intro w hSw; (try dsimp only at hSw); go_simp; first | done | with_reducible rfl) ?_
    simp only [Act.put, List.setIfInBounds_toArray, List.set_cons_zero, List.set_cons_succ]
    refine heldF_take 1 rfl (by kernel_rfl) (by kernel_rfl) (by kernel_rfl) (by kernel_rfl) (by kernel_rfl) (by rfl) (fun _ _ _ h => h) (by assumption) (by intro w hSw; (try dsimp only at hSw); go_simp; first | done | with_reducible rfl) ?_
    simp only [Act.put, List.setIfInBounds_toArray, List.set_cons_zero, List.set_cons_succ]
    refine heldF_take 2 rfl (by kernel_rfl) (by kernel_rfl) (by kernel_rfl) (by kernel_rfl) (by kernel_rfl) (by rfl) (fun _ _ _ h => h) (by assumption) (by intro w hSw; (try dsimp only at hSw); go_simp; first | done | with_reducible rfl) ?_
    simp only [Act.put, List.setIfInBounds_toArray, List.set_cons_zero, List.set_cons_succ]
    refine heldF_take 4 rfl (by kernel_rfl) (by kernel_rfl) (by kernel_rfl) (by kernel_rfl) (by kernel_rfl) (by rfl) (fun _ _ _ h => h) (by assumption) (by intro w hSw; (try dsimp only at hSw); go_simp; first | done | with_reducible rfl) ?_
    simp only [Act.put, List.setIfInBounds_toArray, List.set_cons_zero, List.set_cons_succ]
    refine heldF_one 3 (by kernel_rfl) rfl (fun K hK => ?_)
    go_simp
    go_at_call 76
    refine (spec_l03Name W0 _ g HMd.out.2.2.2.1).mono ?_; rintro e w5 ⟨s, rfl, hs, hc5, hg5⟩
    have HM5 := Lib.hid (HMd.out.step hgl hbl hc5 hg5)
    clear hc5 hg5
    go_wp2_with fail
    refine hK.out _ _ (fun _ => by (try dsimp only); exact HM5.out.cells.2.2.2.2.1) (fun hNew => ?_)
    clear hK K hHeld
    have hHeld := hNew rfl
    clear hNew
    try simp only [Act.put, List.setIfInBounds_toArray, List.set_cons_zero, List.set_cons_succ]
    refine heldF_one 5 (by kernel_rfl) rfl (fun K hK => ?_)
    go_simp
    go_at_call 77
    refine (spec_l02Any W0 _ g HM5.out.2.2.2.1).mono ?_; rintro e w6 ⟨v, rfl, hv, hc6, -, hg6⟩
    have HM6 := Lib.hid (HM5.out.step hgl hbl hc6 hg6)
    clear hc6 hg6
    have hv2 : v.str.size ≤ 16 := hv
    clear hv
    go_wp2_with fail
    refine hK.out _ _ (fun _ => by (try dsimp only); exact HM6.out.cells.2.2.2.2.1) (fun hNew => ?_)
    clear hK K hHeld
    have hHeld := hNew rfl
    clear hNew
    try simp only [Act.put, List.setIfInBounds_toArray, List.set_cons_zero, List.set_cons_succ]
    refine heldF_take 6 rfl (by kernel_rfl) (by kernel_rfl) (by kernel_rfl) (by kernel_rfl) (by kernel_rfl) (by rfl) (fun _ _ _ h => h) (by assumption) (by intro w hSw; (try dsimp only at hSw); go_simp; first | done | with_reducible rfl) ?_
    simp only [Act.put, List.setIfInBounds_toArray, List.set_cons_zero, List.set_cons_succ]
    refine heldF_one 7 (by kernel_rfl) rfl (fun K hK => ?_)
    go_simp
    generalize hwa : World.alloc w6 _ = wa
    have hba : Below w6.heap.size w6 wa := by rw [← hwa]; exact (Below.refl _ _).alloc (Nat.le_refl _) _
    have HM7 := Lib.hid (HM6.out.below hgl hbl hba)
    have HD := Lib.hid (show wa.heap[w6.heap.size]? = some (.cells #[.string s, .int .i64 v.kind, .int .i64 v.int, .string v.str] 84 (0, 0)) by rw [← hwa]; exact hp_new rfl)
    refine hK.out _ _ (fun _ => by (try dsimp only); exact HM7.out.cells.2.2.2.2.1) (fun hNew => ?_)
    clear hK K hHeld
    have hHeld := hNew rfl
    clear hNew
    try simp only [Act.put, List.setIfInBounds_toArray, List.set_cons_zero, List.set_cons_succ]
    clear hwa hba
    refine heldF_one 8 (by kernel_rfl) rfl (fun K hK => ?_)
    refine step_append_row rfl (.tmp 32) (.tmp 38) _ rfl encAtr Try.underlying26 hi hi0 hi1 hi2 rfl rfl rfl HM7.out.2.2.1 (src_atr ⟨s, v⟩ (blk_cell? HD.out 0) (blk_cell? HD.out 1) (blk_cell? HD.out 2) (blk_cell? HD.out 3)) (by unfold maxLen; omega) (by omega) HM7.out.2.2.2.2.size ?_; intro A8 c8 w8 hr8 hc8 hx8
    have HR8 := Lib.hid hr8
    have HC8 := Lib.hid hc8
    have hb8 := hc8.keepb HM7.out.1 (HM7.out.2.2.1.far HM7.out.1 (by decide))
    have u4 := blk_cell? hb8 4
    have uf := blk_free hb8
    refine hK.out _ _ (fun _ => by (try dsimp only); exact u4) (fun hNew => ?_)
    clear hK K hHeld
    have hHeld := hNew rfl
    clear hNew
    try simp only [Act.put, List.setIfInBounds_toArray, List.set_cons_zero, List.set_cons_succ]
    clear hr8 hc8 hx8
    refine heldF_take 9 rfl (by kernel_rfl) (by kernel_rfl) (by kernel_rfl) (by kernel_rfl) (by kernel_rfl) (by rfl) (fun _ _ _ h => h) (by assumption) (by intro w hSw; (try dsimp only at hSw); go_simp; first | done | with_reducible rfl) ?_
    simp only [Act.put, List.setIfInBounds_toArray, List.set_cons_zero, List.set_cons_succ]
    refine heldF_one 10 (by kernel_rfl) rfl (fun K hK => ?_)
    go_simp
    refine hK.out _ _ (fun h => by cases (show true = false from h)) (fun _ => ?_)
    clear hK K
    try clear hHeld
    try simp only [Act.put, List.setIfInBounds_toArray, List.set_cons_zero, List.set_cons_succ]
    refine anyF_done (by kernel_rfl) ?_ _
    have HS5 : Hid (smallA (f.attrs ++ [⟨s, v⟩])) := Lib.hid (fun a ha => by
      rcases List.mem_append.1 ha with h9 | h9
      · exact HSM.out a h9
      · obtain rfl := List.mem_singleton.1 h9; exact ⟨Nat.le_trans hs (by omega), hv2⟩)
    have HM9 := Lib.hid (HM7.out.app hgl hgw hbl HC8.out HR8.out)
    clear u4 uf hb8
    generalize World.setCell w8 _ _ = w9 at *
    obtain ⟨u0, u1, u2, u3, u4, -⟩ := HM9.out.cells
    have uf := blk_free HM9.out.1
    have q0 := blk_cell? HM9.out.2.1 0
    have q1 := blk_cell? HM9.out.2.1 1
    have q2 := blk_cell? HM9.out.2.1 2
    have q3 := blk_cell? HM9.out.2.1 3
    have q4 := blk_cell? HM9.out.2.1 4
    have qf := blk_free HM9.out.2.1
    simp only [List.getElem?_toArray, List.getElem?_cons_zero, List.getElem?_cons_succ] at q0 q1 q2 q3 q4
    go_wp2_with fail
    refine bodyPost_ret (v := .agg #[.int .i64 ((⟨f.id, f.owner, f.shared, f.link, f.attrs ++ [⟨s, v⟩]⟩ : Fil)).id, .int .i64 ((⟨f.id, f.owner, f.shared, f.link, f.attrs ++ [⟨s, v⟩]⟩ : Fil)).owner, .bool ((⟨f.id, f.owner, f.shared, f.link, f.attrs ++ [⟨s, v⟩]⟩ : Fil)).shared, .int .i64 ((⟨f.id, f.owner, f.shared, f.link, f.attrs ++ [⟨s, v⟩]⟩ : Fil)).link, .slice A8 (n + 1) c8]) (by simp [results, Try.results75, go_sem, q0, q1, q2, q3, q4, u0, u1, u2, u3, u4, hn1, hn2]) rfl ?_
    have hc : Chg [w.heap.size] w9 _ := ((((((Chg.refl [w.heap.size] _).set (a := ⟨w.heap.size, 0, none⟩) (by simp) (.int .i64 ((⟨f.id, f.owner, f.shared, f.link, f.attrs ++ [⟨s, v⟩]⟩ : Fil)).id)).set (a := ⟨w.heap.size, 1, none⟩) (by simp) (.int .i64 ((⟨f.id, f.owner, f.shared, f.link, f.attrs ++ [⟨s, v⟩]⟩ : Fil)).owner)).set (a := ⟨w.heap.size, 2, none⟩) (by simp) (.bool ((⟨f.id, f.owner, f.shared, f.link, f.attrs ++ [⟨s, v⟩]⟩ : Fil)).shared)).set (a := ⟨w.heap.size, 3, none⟩) (by simp) (.int .i64 ((⟨f.id, f.owner, f.shared, f.link, f.attrs ++ [⟨s, v⟩]⟩ : Fil)).link)).set (a := ⟨w.heap.size, 4, none⟩) (by simp) (.slice A8 (n + 1) c8))
    exact ⟨(⟨f.id, f.owner, f.shared, f.link, f.attrs ++ [⟨s, v⟩]⟩ : Fil), A8, (n + 1), c8, rfl, HM9.out.2.2.1.chg hc (fun x hx hm => by obtain rfl := List.mem_singleton.1 hm; exact HM9.out.2.2.1.far HM9.out.2.1 (by decide) hx), by omega, HS5.out, HM9.out.2.2.2.1.chg hc (by simp only [List.mem_singleton]; omega) (fun x hx => by simp only [List.mem_singleton] at hx; omega), HM9.out.2.2.2.2.step hc (fun x hx hlt => by simp only [List.mem_singleton] at hx; omega)⟩
  · have e40 : ((4 : Int) == 0) = false := rfl
    have e41 : ((4 : Int) == 1) = false := rfl
    have e42 : ((4 : Int) == 2) = false := rfl
    have e43 : ((4 : Int) == 3) = false := rfl
    go_upto_region 12 with fail
    refine region_F (S := (fun w' => w'.cell? ⟨b, 0, none⟩ = some (.int .i64 f.id) ∧ w'.cell? ⟨b, 1, none⟩ = some (.int .i64 f.owner) ∧ w'.cell? ⟨b, 2, none⟩ = some (.bool f.shared) ∧ w'.cell? ⟨b, 3, none⟩ = some (.int .i64 f.link) ∧ w'.cell? ⟨b, 4, none⟩ = some (.slice A n c) ∧ MidF W0 w g b f A n c w')) [3] (by kernel_rfl) (by (try dsimp only); exact (HM.out.step hgl hbl (HM.out.2.2.2.1.below (Below.refl _ _).drew) (Chg.of_below _ (Below.refl _ _).drew)).cells) (fun hHeld => ?_)
    generalize World.drew w4 = Wd at *
    refine heldF_take 0 rfl (by kernel_rfl) (by kernel_rfl) (by kernel_rfl) (by kernel_rfl) (by kernel_rfl) (by rfl) (fun _ _ _ h => h) (by assumption) (by intro w hSw; (try dsimp only at hSw); go_simp; first | done | with_reducible rfl) ?_
    simp only [Act.put, List.setIfInBounds_toArray, List.set_cons_zero, List.set_cons_succ]
    refine heldF_one 1 (by kernel_rfl) rfl (fun K hK => ?_)
    go_simp
    go_at_call 129
    refine (spec_StringValue ⟨#[114, 101, 100]⟩ _).mono ?_; rintro e w5 ⟨rfl, hb5⟩
    go_wp2_with fail
    refine hK.out _ _ (fun _ => by (try dsimp only); exact (hHeld.2.2.2.2.2.below hgl hbl hb5).cells) (fun hNew => ?_)
    clear hK K hHeld
    have hHeld := hNew rfl
    clear hNew
    try simp only [Act.put, List.setIfInBounds_toArray, List.set_cons_zero, List.set_cons_succ]
    clear hb5
    refine heldF_one 2 (by kernel_rfl) rfl (fun K hK => ?_)
    go_simp
    go_at_call 23
    refine (spec_SetAttr f A n c ⟨#[97]⟩ (strV ⟨#[114, 101, 100]⟩) _ (hHeld.2.2.2.2.2.2.2.1.sl (R := RAtr) encAtr (fun _ => rfl)) (by omega)).mono ?_; rintro e w6 ⟨A5, c5, rfl, hr5, hb5⟩
    have HR5 := Lib.hid (hr5.re (fun x hx => Nat.le_trans hHeld.2.2.2.2.2.2.2.2.2.size (hr5.base x hx).1))
    have HM5 := Lib.hid (hHeld.2.2.2.2.2.below hgl hbl hb5)
    go_wp2_with fail
    refine hK.out _ _ (fun _ => by (try dsimp only); exact HM5.out.cells) (fun hNew => ?_)
    clear hK K hHeld
    have hHeld := hNew rfl
    clear hNew
    try simp only [Act.put, List.setIfInBounds_toArray, List.set_cons_zero, List.set_cons_succ]
    clear hr5 hb5
    have u0 := blk_cell? HM5.out.1 0
    have u1 := blk_cell? HM5.out.1 1
    have u2 := blk_cell? HM5.out.1 2
    have u3 := blk_cell? HM5.out.1 3
    have u4 := blk_cell? HM5.out.1 4
    have uf := blk_free HM5.out.1
    refine heldF_one 3 (by kernel_rfl) rfl (fun K hK => ?_)
    go_simp
    refine hK.out _ _ (fun h => by cases (show true = false from h)) (fun _ => ?_)
    clear hK K
    try clear hHeld
    try simp only [Act.put, List.setIfInBounds_toArray, List.set_cons_zero, List.set_cons_succ]
    refine anyF_done (by kernel_rfl) ?_ _
    have hl5 : (setA f ⟨#[97]⟩ (strV ⟨#[114, 101, 100]⟩)).attrs.length ≤ 5 := Nat.le_trans (setL_len f.attrs ⟨#[97]⟩ (strV ⟨#[114, 101, 100]⟩)) (by have h9 := HM5.out.2.2.1.len; omega)
    have HS5 := Lib.hid (HSM.out.set (nm := ⟨#[97]⟩) (v := strV ⟨#[114, 101, 100]⟩) (by decide) (by decide))
    have HM6 := Lib.hid (HM5.out.put (f' := (setA f ⟨#[97]⟩ (strV ⟨#[114, 101, 100]⟩))) hgl hgw hbl HR5.out)
    clear u0 u1 u2 u3 u4 uf
    generalize World.setCell (World.setCell (World.setCell (World.setCell (World.setCell w6 _ _) _ _) _ _) _ _) _ _ = w7 at *
    obtain ⟨u0, u1, u2, u3, u4, -⟩ := HM6.out.cells
    have uf := blk_free HM6.out.1
    have q0 := blk_cell? HM6.out.2.1 0
    have q1 := blk_cell? HM6.out.2.1 1
    have q2 := blk_cell? HM6.out.2.1 2
    have q3 := blk_cell? HM6.out.2.1 3
    have q4 := blk_cell? HM6.out.2.1 4
    have qf := blk_free HM6.out.2.1
    simp only [List.getElem?_toArray, List.getElem?_cons_zero, List.getElem?_cons_succ] at q0 q1 q2 q3 q4
    go_wp2_with fail
    refine bodyPost_ret (v := .agg #[.int .i64 ((setA f ⟨#[97]⟩ (strV ⟨#[114, 101, 100]⟩))).id, .int .i64 ((setA f ⟨#[97]⟩ (strV ⟨#[114, 101, 100]⟩))).owner, .bool ((setA f ⟨#[97]⟩ (strV ⟨#[114, 101, 100]⟩))).shared, .int .i64 ((setA f ⟨#[97]⟩ (strV ⟨#[114, 101, 100]⟩))).link, .slice A5 (setA f ⟨#[97]⟩ (strV ⟨#[114, 101, 100]⟩)).attrs.length c5]) (by simp [results, Try.results75, go_sem, q0, q1, q2, q3, q4, u0, u1, u2, u3, u4, hn1, hn2]) rfl ?_
    have hc : Chg [w.heap.size] w7 _ := ((((((Chg.refl [w.heap.size] _).set (a := ⟨w.heap.size, 0, none⟩) (by simp) (.int .i64 ((setA f ⟨#[97]⟩ (strV ⟨#[114, 101, 100]⟩))).id)).set (a := ⟨w.heap.size, 1, none⟩) (by simp) (.int .i64 ((setA f ⟨#[97]⟩ (strV ⟨#[114, 101, 100]⟩))).owner)).set (a := ⟨w.heap.size, 2, none⟩) (by simp) (.bool ((setA f ⟨#[97]⟩ (strV ⟨#[114, 101, 100]⟩))).shared)).set (a := ⟨w.heap.size, 3, none⟩) (by simp) (.int .i64 ((setA f ⟨#[97]⟩ (strV ⟨#[114, 101, 100]⟩))).link)).set (a := ⟨w.heap.size, 4, none⟩) (by simp) (.slice A5 (setA f ⟨#[97]⟩ (strV ⟨#[114, 101, 100]⟩)).attrs.length c5))
    exact ⟨(setA f ⟨#[97]⟩ (strV ⟨#[114, 101, 100]⟩)), A5, (setA f ⟨#[97]⟩ (strV ⟨#[114, 101, 100]⟩)).attrs.length, c5, rfl, HM6.out.2.2.1.chg hc (fun x hx hm => by obtain rfl := List.mem_singleton.1 hm; exact HM6.out.2.2.1.far HM6.out.2.1 (by decide) hx), by omega, HS5.out, HM6.out.2.2.2.1.chg hc (by simp only [List.mem_singleton]; omega) (fun x hx => by simp only [List.mem_singleton] at hx; omega), HM6.out.2.2.2.2.step hc (fun x hx hlt => by simp only [List.mem_singleton] at hx; omega)⟩
  · have e0 : (y == 0) = false := by simp; omega
    have e1 : (y == 1) = false := by simp; omega
    have e2 : (y == 2) = false := by simp; omega
    have e3 : (y == 3) = false := by simp; omega
    have e4 : (y == 4) = false := by simp; omega
    obtain ⟨u0, u1, u2, u3, u4, -⟩ := HM.out.cells
    have uf := blk_free HM.out.1
    have q0 := blk_cell? HM.out.2.1 0
    have q1 := blk_cell? HM.out.2.1 1
    have q2 := blk_cell? HM.out.2.1 2
    have q3 := blk_cell? HM.out.2.1 3
    have q4 := blk_cell? HM.out.2.1 4
    have qf := blk_free HM.out.2.1
    simp only [List.getElem?_toArray, List.getElem?_cons_zero, List.getElem?_cons_succ] at q0 q1 q2 q3 q4
    go_wp2_with fail
    refine bodyPost_ret (v := .agg #[.int .i64 (f).id, .int .i64 (f).owner, .bool (f).shared, .int .i64 (f).link, .slice A n c]) (by simp [results, Try.results75, go_sem, q0, q1, q2, q3, q4, u0, u1, u2, u3, u4, hn1, hn2]) rfl ?_
    have hc : Chg [w.heap.size] w4 _ := ((((((Chg.refl [w.heap.size] _).set (a := ⟨w.heap.size, 0, none⟩) (by simp) (.int .i64 (f).id)).set (a := ⟨w.heap.size, 1, none⟩) (by simp) (.int .i64 (f).owner)).set (a := ⟨w.heap.size, 2, none⟩) (by simp) (.bool (f).shared)).set (a := ⟨w.heap.size, 3, none⟩) (by simp) (.int .i64 (f).link)).set (a := ⟨w.heap.size, 4, none⟩) (by simp) (.slice A n c))
    exact ⟨f, A, n, c, rfl, HM.out.2.2.1.chg hc (fun x hx hm => by obtain rfl := List.mem_singleton.1 hm; exact HM.out.2.2.1.far HM.out.2.1 (by decide) hx), by omega, HSM.out, HM.out.2.2.2.1.chg hc (by simp only [List.mem_singleton]; omega) (fun x hx => by simp only [List.mem_singleton] at hx; omega), HM.out.2.2.2.2.step hc (fun x hx hlt => by simp only [List.mem_singleton] at hx; omega)⟩
end Go.Proofs.Ytjobgnioehkomaa
