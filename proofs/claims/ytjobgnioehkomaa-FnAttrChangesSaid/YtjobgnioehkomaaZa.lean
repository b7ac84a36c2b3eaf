/-
  CONTRACTS: the draw of two files.
-/
import Derived.WalkKit
import Derived.WalkSpells
import Derived.WalkLawsBesides
import Derived.Lib.Hide
import Derived.Handy
import Derived.StillTailTactics
import Derived.Deep.Light
import Derived.Deep.QuietTactic
import Derived.BigQuiet
import Derived.Deep.RegionHeld3
import Derived.Deep.DeepCutAuto
import Derived.Test.YtjobgnioehkomaaLib
import Derived.Test.YtjobgnioehkomaaOwn
import Derived.Test.YtjobgnioehkomaaRow
import Derived.Test.YtjobgnioehkomaaN0
import Derived.Test.YtjobgnioehkomaaRaw
import Derived.Test.YtjobgnioehkomaaHld
import Derived.Test.YtjobgnioehkomaaHl2
import Derived.Test.YtjobgnioehkomaaSz
import Derived.Test.YtjobgnioehkomaaC1
import Derived.Test.YtjobgnioehkomaaC2
import Derived.Test.YtjobgnioehkomaaT1
import Derived.Test.YtjobgnioehkomaaT2
import Derived.Test.YtjobgnioehkomaaT3
import Derived.Test.YtjobgnioehkomaaT4
import Derived.Test.YtjobgnioehkomaaC3
import Derived.Test.YtjobgnioehkomaaC4
import Derived.Test.YtjobgnioehkomaaC5
import Derived.Test.YtjobgnioehkomaaD1
import Derived.Test.YtjobgnioehkomaaD3
import Derived.Test.YtjobgnioehkomaaD4
import Derived.Test.YtjobgnioehkomaaD5
import Derived.Test.YtjobgnioehkomaaH1
import Derived.Test.YtjobgnioehkomaaE4
import Derived.Test.YtjobgnioehkomaaI1
import Derived.Test.YtjobgnioehkomaaI2
import Derived.Test.YtjobgnioehkomaaD7
import Derived.Test.YtjobgnioehkomaaD8
import Derived.Test.YtjobgnioehkomaaY1
import Derived.Test.YtjobgnioehkomaaY2
import Derived.Test.YtjobgnioehkomaaZ1
import Derived.Test.YtjobgnioehkomaaZ3
import Derived.Test.YtjobgnioehkomaaZ4
import Derived.Test.YtjobgnioehkomaaRows
namespace Go.Proofs.Ytjobgnioehkomaa
open Go.RowKit
set_option linter.unusedVariables false
set_option maxRecDepth 100000
theorem FRow.lowT {α : Type} {e size : Nat} {enc : α → List Value} {w : World} {B B' n c : Nat} {A : Option Addr} {l : List α} (h : FRow e size enc w B A n c l) (hB : B' ≤ B) : FRow e size enc w B' A n c l := h.re fun b hb => Nat.le_trans hB (h.base b hb).1
/-- the boxes of both results, and the box of the file -/
def MidT (W0 w1 : World) (g r b : Nat) (f : Fil) (A : Option Addr) (n c : Nat) (w' : World) : Prop :=
  w'.heap[b]? = some (.cells #[.int .i64 f.id, .int .i64 f.owner, .bool f.shared, .int .i64 f.link, .slice A n c] 28 (0, 0)) ∧ w'.heap[r]? = some (.cells #[.int .i64 0, .int .i64 0, .bool false, .int .i64 0, .slice none 0 0] 28 (0, 0)) ∧ w'.heap[r + 1]? = some (.cells #[.int .i64 0, .int .i64 0, .bool false, .int .i64 0, .slice none 0 0] 28 (0, 0)) ∧ FRow 84 4 eAtr w' w1.heap.size A n c f.attrs ∧ Cur W0 w' g ∧ Chg [g] w1 w'
theorem MidT.step {W0 w1 w2 w3 : World} {g r b n c : Nat} {f : Fil} {A : Option Addr} (h : MidT W0 w1 g r b f A n c w2) (hg : g < w1.heap.size) (hr : r + 1 < g) (hb : w1.heap.size ≤ b) (hC : Cur W0 w3 g) (hc : Chg [g] w2 w3) : MidT W0 w1 g r b f A n c w3 :=
  ⟨hc.keepb h.1 (by simp only [List.mem_singleton]; omega), hc.keepb h.2.1 (by simp only [List.mem_singleton]; omega), hc.keepb h.2.2.1 (by simp only [List.mem_singleton]; omega), row_draw h.2.2.2.1 hg hc, hC, h.2.2.2.2.2.trans hc⟩
theorem MidT.below {W0 w1 w2 w3 : World} {g r b n c : Nat} {f : Fil} {A : Option Addr} (h : MidT W0 w1 g r b f A n c w2) (hg : g < w1.heap.size) (hr : r + 1 < g) (hb : w1.heap.size ≤ b) (hB : Below w2.heap.size w2 w3) : MidT W0 w1 g r b f A n c w3 :=
  h.step hg hr hb (h.2.2.2.2.1.below hB) (Chg.of_below _ hB)
theorem MidT.five {W0 w1 w2 : World} {g r b n c : Nat} {f : Fil} {A : Option Addr} (h : MidT W0 w1 g r b f A n c w2) :
    w2.cell? ⟨b, 0, none⟩ = some (.int .i64 f.id) ∧ w2.cell? ⟨b, 1, none⟩ = some (.int .i64 f.owner) ∧ w2.cell? ⟨b, 2, none⟩ = some (.bool f.shared) ∧ w2.cell? ⟨b, 3, none⟩ = some (.int .i64 f.link) ∧ w2.cell? ⟨b, 4, none⟩ = some (.slice A n c) :=
  ⟨blk_cell? h.1 0, blk_cell? h.1 1, blk_cell? h.1 2, blk_cell? h.1 3, blk_cell? h.1 4⟩
theorem MidT.cells {W0 w1 w2 : World} {g r b n c : Nat} {f : Fil} {A : Option Addr} (h : MidT W0 w1 g r b f A n c w2) :
    w2.cell? ⟨b, 0, none⟩ = some (.int .i64 f.id) ∧ w2.cell? ⟨b, 1, none⟩ = some (.int .i64 f.owner) ∧ w2.cell? ⟨b, 2, none⟩ = some (.bool f.shared) ∧ w2.cell? ⟨b, 3, none⟩ = some (.int .i64 f.link) ∧ w2.cell? ⟨b, 4, none⟩ = some (.slice A n c) ∧ MidT W0 w1 g r b f A n c w2 :=
  ⟨blk_cell? h.1 0, blk_cell? h.1 1, blk_cell? h.1 2, blk_cell? h.1 3, blk_cell? h.1 4, h⟩
/-- five cells put into a box -/
abbrev put5 (w : World) (r : Nat) (f : Fil) (A : Option Addr) (n c : Nat) : World := World.setCell (World.setCell (World.setCell (World.setCell (World.setCell w ⟨r, 0, none⟩ (.int .i64 f.id)) ⟨r, 1, none⟩ (.int .i64 f.owner)) ⟨r, 2, none⟩ (.bool f.shared)) ⟨r, 3, none⟩ (.int .i64 f.link)) ⟨r, 4, none⟩ (.slice A n c)
theorem put5_chg (w : World) (r : Nat) (f : Fil) (A : Option Addr) (n c : Nat) : Chg [r] w (put5 w r f A n c) :=
  ((((((Chg.refl [r] w).set (by simp) _).set (by simp) _).set (by simp) _).set (by simp) _).set (by simp) _)
theorem put5_blk {w : World} {r : Nat} (h : w.heap[r]? = some (.cells #[.int .i64 0, .int .i64 0, .bool false, .int .i64 0, .slice none 0 0] 28 (0, 0))) (f : Fil) (A : Option Addr) (n c : Nat) : (put5 w r f A n c).heap[r]? = some (.cells #[.int .i64 f.id, .int .i64 f.owner, .bool f.shared, .int .i64 f.link, .slice A n c] 28 (0, 0)) := by
  have h1 := blk_set (blk_set (blk_set (blk_set (blk_set h 0 (.int .i64 f.id)) 1 (.int .i64 f.owner)) 2 (.bool f.shared)) 3 (.int .i64 f.link)) 4 (.slice A n c)
  simpa using h1
/-- two drawn files -/
def TwoF (B : Nat) (w : World) (e : Ending) (w' : World) : Prop := ∃ (f : Fil) (A : Option Addr) (n c : Nat) (f' : Fil) (A' : Option Addr) (n' c' : Nat), e = .returned (.tuple #[.agg #[.int .i64 f.id, .int .i64 f.owner, .bool f.shared, .int .i64 f.link, .slice A n c], .agg #[.int .i64 f'.id, .int .i64 f'.owner, .bool f'.shared, .int .i64 f'.link, .slice A' n' c']]) ∧ FRow 84 4 eAtr w' (w.heap.size + B) A n c f.attrs ∧ FRow 84 4 eAtr w' (w.heap.size + B) A' n' c' f'.attrs ∧ n ≤ 6 ∧ n' ≤ 6 ∧ smallA f.attrs ∧ smallA f'.attrs ∧ Below w.heap.size w w'
theorem Chg.trans' {a b : Nat} {w w1 w2 : World} (h : Chg [a] w w1) (k : Chg [b] w1 w2) : Chg [a, b] w w2 :=
  (h.mono (by intro x hx; simp only [List.mem_singleton] at hx; simp [hx])).trans (k.mono (by intro x hx; simp only [List.mem_singleton] at hx; simp [hx]))
set_option maxHeartbeats 1600000 in
theorem spec_l04Two (A0 : Option Addr) (n0 c0 : Nat) (l : List Int) (w : World) (hS : Sl 1 RByt w A0 n0 l) (hn : n0 ≤ 1048576) (hl : ∀ y ∈ l, 0 ≤ y ∧ y ≤ 255) : Calls Try.prog 85 #[.slice A0 n0 c0] w (TwoF 2 w) := by
  have HN := Lib.hid fun w' (hb : Below w.heap.size w w') => spec_l01New A0 n0 c0 l w' (hS.mono mByt hb) hn hl
  clear hS hl
  go_enter Try.func85, Try.ntmps85
  go_wp2_with fail
  refine (HN.out _ (by go_grown)).mono ?_; rintro e w1 ⟨g, rfl, hC⟩
  have hgw := (cur_w hC).1
  have hk := (cur_w hC).2
  have hr0 := below_keep hk (show (World.alloc (World.alloc w _) _).heap[w.heap.size]? = _ from (hp_old (by simp)).trans (hp_new rfl))
  have hr1 := below_keep hk (show (World.alloc (World.alloc w _) _).heap[w.heap.size + 1]? = _ from hp_new (by simp))
  have HR := Lib.hid (And.intro hr0 hr1)
  have hgl := cur_lt hC
  have HB1 := Lib.hid (ex_trans (show Below w.heap.size w (World.alloc (World.alloc w _) _) by go_grown) hk)
  simp at hgw
  have hrg : w.heap.size + 1 < g := by omega
  generalize hW0 : World.alloc (World.alloc w _) _ = W0 at *
  have HC1 := Lib.hid hC
  clear hC hk hr0 hr1 hW0
  go_wp2_with fail
  refine (spec_l04Any _ _ g HC1.out).mono ?_; rintro e w2 ⟨f, A, n, c, rfl, hF, hn5, hsm, hc2, hg2⟩
  have HSM := Lib.hid hsm
  have HX2 := Lib.hid (And.intro hF (And.intro hc2 hg2))
  have hg2z := hg2.size
  clear hF hc2 hg2 hsm
  go_wp2_with fail
  generalize hw3 : World.alloc w2 _ = w3
  have hm : MidT W0 w1 g w.heap.size w2.heap.size f A n c w3 := by
    have hba : Below w2.heap.size w2 w3 := by rw [← hw3]; exact (Below.refl _ _).alloc (Nat.le_refl _) _
    refine ⟨by rw [← hw3]; exact hp_new rfl, below_keep hba (HX2.out.2.2.keepb HR.out.1 (by simp only [List.mem_singleton]; omega)), below_keep hba (HX2.out.2.2.keepb HR.out.2 (by simp only [List.mem_singleton]; omega)), HX2.out.1.below hba, HX2.out.2.1.below hba, HX2.out.2.2.trans (Chg.of_below _ hba)⟩
  clear hw3 HX2 HR
  have hbl : w1.heap.size ≤ w2.heap.size := hg2z
  generalize w2.heap.size = b at *
  refine (spec_l01Once _ _ g 2 (by omega) (by omega) hm.2.2.2.2.1).mono ?_; rintro e w4 ⟨q, rfl, hc4, hg4⟩
  have HM := Lib.hid (hm.step hgl hrg hbl hc4 hg4)
  clear hm hc4 hg4
  cases q with
  | true =>
    go_upto_region 4 with fail
    refine wp_region_held_drew (S := (fun w' => w'.cell? ⟨b, 0, none⟩ = some (.int .i64 f.id) ∧ w'.cell? ⟨b, 1, none⟩ = some (.int .i64 f.owner) ∧ w'.cell? ⟨b, 2, none⟩ = some (.bool f.shared) ∧ w'.cell? ⟨b, 3, none⟩ = some (.int .i64 f.link) ∧ w'.cell? ⟨b, 4, none⟩ = some (.slice A n c))) (by kernel_rfl) (by (try dsimp only); exact (HM.out.below hgl hrg hbl (Below.refl _ _).drew).five) (fun hHeld => ?_)
    replace HM := Lib.hid (HM.out.below hgl hrg hbl (Below.refl _ _).drew)
    generalize World.drew w4 = Wd at *
    first | (refine held_take 0 rfl (by kernel_rfl) (by kernel_rfl) (by kernel_rfl) (by rfl) (fun _ _ _ h => h) (by assumption) (by intro w hSw; (try dsimp only at hSw); go_simp; first | done | with_reducible rfl) ?_) | (refine held_skip 0 rfl (by kernel_rfl) (by kernel_rfl) (by kernel_rfl) (by rfl) (fun _ _ _ h => h) (by assumption) ?_)
    simp only [Act.put, List.setIfInBounds_toArray, List.set_cons_zero, List.set_cons_succ]
    first | (refine held_take 1 rfl (by kernel_rfl) (by kernel_rfl) (by kernel_rfl) (by rfl) (fun _ _ _ h => h) (by assumption) (by intro w hSw; (try dsimp only at hSw); go_simp; first | done | with_reducible rfl) ?_) | (refine held_skip 1 rfl (by kernel_rfl) (by kernel_rfl) (by kernel_rfl) (by rfl) (fun _ _ _ h => h) (by assumption) ?_)
    simp only [Act.put, List.setIfInBounds_toArray, List.set_cons_zero, List.set_cons_succ]
    first | (refine held_take 2 rfl (by kernel_rfl) (by kernel_rfl) (by kernel_rfl) (by rfl) (fun _ _ _ h => h) (by assumption) (by intro w hSw; (try dsimp only at hSw); go_simp; first | done | with_reducible rfl) ?_) | (refine held_skip 2 rfl (by kernel_rfl) (by kernel_rfl) (by kernel_rfl) (by rfl) (fun _ _ _ h => h) (by assumption) ?_)
    simp only [Act.put, List.setIfInBounds_toArray, List.set_cons_zero, List.set_cons_succ]
    first | (refine held_take 4 rfl (by kernel_rfl) (by kernel_rfl) (by kernel_rfl) (by rfl) (fun _ _ _ h => h) (by assumption) (by intro w hSw; (try dsimp only at hSw); go_simp; first | done | with_reducible rfl) ?_) | (refine held_skip 4 rfl (by kernel_rfl) (by kernel_rfl) (by kernel_rfl) (by rfl) (fun _ _ _ h => h) (by assumption) ?_)
    simp only [Act.put, List.setIfInBounds_toArray, List.set_cons_zero, List.set_cons_succ]
    refine held_one 3 (by kernel_rfl) rfl (fun K hK => ?_)
    go_simp
    go_at_call 76
    refine (spec_l03Name _ _ g HM.out.2.2.2.2.1).mono ?_; rintro e w3 ⟨s, rfl, hs, hc3, hg3⟩
    go_wp2_with fail
    replace HM := Lib.hid (HM.out.step hgl hrg hbl hc3 hg3)
    refine hK.out _ _ (by (try dsimp only); exact HM.out.five) (fun hNew => ?_)
    clear hK K hHeld
    have hHeld := hNew
    clear hNew
    try simp only [Act.put, List.setIfInBounds_toArray, List.set_cons_zero, List.set_cons_succ]
    clear hc3 hg3
    refine held_one 5 (by kernel_rfl) rfl (fun K hK => ?_)
    go_simp
    go_at_call 131
    refine (spec_l02Value _ _ g HM.out.2.2.2.2.1).mono ?_; rintro e w6 ⟨v, rfl, hv, hc3, hb3, hg3⟩
    go_wp2_with fail
    replace HM := Lib.hid (HM.out.step hgl hrg hbl hc3 hg3)
    refine hK.out _ _ (by (try dsimp only); exact HM.out.five) (fun hNew => ?_)
    clear hK K hHeld
    have hHeld := hNew
    clear hNew
    try simp only [Act.put, List.setIfInBounds_toArray, List.set_cons_zero, List.set_cons_succ]
    clear hc3 hg3 hb3
    refine held_one 6 (by kernel_rfl) rfl (fun K hK => ?_)
    go_simp
    go_at_call 23
    refine (spec_SetAttr f A n c s v _ (HM.out.2.2.2.1.sl (R := RAtr) encAtr (fun _ => rfl)) (by omega)).mono ?_; rintro e w5 ⟨A5, c5, rfl, hr5, hb5⟩
    have HVS := Lib.hid (HSM.out.set (nm := s) (v := v) (by omega) hv)
    have hl5 : (setA f s v).attrs.length ≤ 6 := Nat.le_trans (setL_len f.attrs s v) (by have h9 := HM.out.2.2.2.1.len; omega)
    have HVS2 : Hid (smallA (setA f s v).attrs) := Lib.hid HVS.out
    obtain ⟨f5, hf5⟩ : ∃ f5, f5 = setA f s v := ⟨_, rfl⟩
    rw [← hf5] at hr5 hl5 HVS2 ⊢
    obtain ⟨n5, hn5e⟩ : ∃ n5, n5 = f5.attrs.length := ⟨_, rfl⟩
    rw [← hn5e] at hr5 hl5 ⊢
    clear hn5e hf5 HVS
    have HR5 := Lib.hid (hr5.re (fun x hx => Nat.le_trans HM.out.2.2.2.2.2.size (hr5.base x hx).1))
    have HM5 := Lib.hid (HM.out.below hgl hrg hbl hb5)
    go_wp2_with fail
    refine hK.out _ _ (by (try dsimp only); exact HM5.out.five) (fun hNew => ?_)
    clear hK K hHeld
    have hHeld := hNew
    clear hNew
    try simp only [Act.put, List.setIfInBounds_toArray, List.set_cons_zero, List.set_cons_succ]
    clear hr5 hb5 hv hs HM
    have u0 := blk_cell? HM5.out.2.1 0
    have u1 := blk_cell? HM5.out.2.1 1
    have u2 := blk_cell? HM5.out.2.1 2
    have u3 := blk_cell? HM5.out.2.1 3
    have u4 := blk_cell? HM5.out.2.1 4
    have uf := blk_free HM5.out.2.1
    simp only [List.getElem?_toArray, List.getElem?_cons_zero, List.getElem?_cons_succ] at u0 u1 u2 u3 u4
    have hc1 := put5_chg w5 w.heap.size f A n c
    have hv1 := put5_blk HM5.out.2.1 f A n c
    have hv2 := hc1.keepb HM5.out.2.2.1 (by simp only [List.mem_singleton]; omega)
    unfold put5 at hc1 hv1 hv2
    have hk1 := HM5.out.five
    have hk2 : ∀ j, (⟨b, j, none⟩ : Addr).block ∉ [w.heap.size] := fun j h => by have h1 := List.mem_singleton.1 h; simp only at h1; omega
    have hk3 : ∀ j, (⟨b, j, none⟩ : Addr).block ∉ [w.heap.size + 1] := fun j h => by have h1 := List.mem_singleton.1 h; simp only at h1; omega
    refine held_one 7 (by kernel_rfl) rfl (fun K hK => ?_)
    go_simp
    refine hK.out _ _ (by (try dsimp only); exact ⟨hc1.cell hk1.1 (hk2 _), hc1.cell hk1.2.1 (hk2 _), hc1.cell hk1.2.2.1 (hk2 _), hc1.cell hk1.2.2.2.1 (hk2 _), hc1.cell hk1.2.2.2.2 (hk2 _)⟩) (fun hNew => ?_)
    clear hK K hHeld
    have hHeld := hNew
    clear hNew
    try simp only [Act.put, List.setIfInBounds_toArray, List.set_cons_zero, List.set_cons_succ]
    clear u0 u1 u2 u3 u4 uf
    generalize World.setCell (World.setCell (World.setCell (World.setCell (World.setCell w5 _ _) _ _) _ _) _ _) _ _ = w6 at *
    have u0 := blk_cell? hv2 0
    have u1 := blk_cell? hv2 1
    have u2 := blk_cell? hv2 2
    have u3 := blk_cell? hv2 3
    have u4 := blk_cell? hv2 4
    have uf := blk_free hv2
    simp only [List.getElem?_toArray, List.getElem?_cons_zero, List.getElem?_cons_succ] at u0 u1 u2 u3 u4
    have hc2 := put5_chg w6 (w.heap.size + 1) f5 A5 n5 c5
    have hv3 := put5_blk hv2 f5 A5 n5 c5
    have hv4 := hc2.keepb hv1 (by simp only [List.mem_singleton]; omega)
    unfold put5 at hc2 hv3 hv4
    refine held_one 8 (by kernel_rfl) rfl (fun K hK => ?_)
    go_simp
    refine hK.out _ _ (by (try dsimp only); exact ⟨hc2.cell hHeld.1 (hk3 _), hc2.cell hHeld.2.1 (hk3 _), hc2.cell hHeld.2.2.1 (hk3 _), hc2.cell hHeld.2.2.2.1 (hk3 _), hc2.cell hHeld.2.2.2.2 (hk3 _)⟩) (fun hNew => ?_)
    clear hK K hHeld
    have hHeld := hNew
    clear hNew
    try simp only [Act.put, List.setIfInBounds_toArray, List.set_cons_zero, List.set_cons_succ]
    refine wpAnyH_done (by kernel_rfl) ?_ _
    clear hHeld hk1 hk2 hk3
    clear u0 u1 u2 u3 u4 uf
    generalize World.setCell (World.setCell (World.setCell (World.setCell (World.setCell w6 _ _) _ _) _ _) _ _) _ _ = w7 at *
    have q0 := blk_cell? hv4 0
    have q1 := blk_cell? hv4 1
    have q2 := blk_cell? hv4 2
    have q3 := blk_cell? hv4 3
    have q4 := blk_cell? hv4 4
    have t0 := blk_cell? hv3 0
    have t1 := blk_cell? hv3 1
    have t2 := blk_cell? hv3 2
    have t3 := blk_cell? hv3 3
    have t4 := blk_cell? hv3 4
    simp only [List.getElem?_toArray, List.getElem?_cons_zero, List.getElem?_cons_succ] at q0 q1 q2 q3 q4 t0 t1 t2 t3 t4
    have HC := Lib.hid (hc1.trans' hc2)
    have HU := Lib.hid (HM5.out.2.2.2.2.2)
    clear hv1 hv2 hv3 hv4 hc1 hc2
    go_wp2_with fail
    refine bodyPost_ret (v := .tuple #[.agg #[.int .i64 f.id, .int .i64 f.owner, .bool f.shared, .int .i64 f.link, .slice A n c], .agg #[.int .i64 f5.id, .int .i64 f5.owner, .bool f5.shared, .int .i64 f5.link, .slice A5 n5 c5]]) (by simp [results, Try.results85, go_sem, q0, q1, q2, q3, q4, t0, t1, t2, t3, t4]) rfl ?_
    exact ⟨f, A, n, c, f5, A5, n5, c5, rfl, (HM5.out.2.2.2.1.chg HC.out (fun x hx hm => by have := (HM5.out.2.2.2.1.base x hx).1; simp only [List.mem_cons, List.not_mem_nil, or_false] at hm; omega)).re (fun x hx => by have := (HM5.out.2.2.2.1.base x hx).1; omega), (HR5.out.chg HC.out (fun x hx hm => by have := (HR5.out.base x hx).1; simp only [List.mem_cons, List.not_mem_nil, or_false] at hm; omega)).re (fun x hx => by have := (HR5.out.base x hx).1; omega), by omega, by omega, HSM.out, HVS2.out, Below.mark (Below.mark HB1.out HU.out HB1.out.size (fun x hx => by simp only [List.mem_singleton] at hx; omega)) HC.out (by have := HB1.out.size; have := HU.out.size; omega) (fun x hx => by simp only [List.mem_cons, List.not_mem_nil, or_false] at hx; omega)⟩
  | false =>
    go_upto_region 5 with fail
    refine wp_region_held_drew (S := (fun w' => w'.cell? ⟨b, 0, none⟩ = some (.int .i64 f.id) ∧ w'.cell? ⟨b, 1, none⟩ = some (.int .i64 f.owner) ∧ w'.cell? ⟨b, 2, none⟩ = some (.bool f.shared) ∧ w'.cell? ⟨b, 3, none⟩ = some (.int .i64 f.link) ∧ w'.cell? ⟨b, 4, none⟩ = some (.slice A n c))) (by kernel_rfl) (by (try dsimp only); exact (HM.out.below hgl hrg hbl (Below.refl _ _).drew).five) (fun hHeld => ?_)
    replace HM := Lib.hid (HM.out.below hgl hrg hbl (Below.refl _ _).drew)
    generalize World.drew w4 = Wd at *
    first | (refine held_take 0 rfl (by kernel_rfl) (by kernel_rfl) (by kernel_rfl) (by rfl) (fun _ _ _ h => h) (by assumption) (by intro w hSw; (try dsimp only at hSw); go_simp; first | done | with_reducible rfl) ?_) | (refine held_skip 0 rfl (by kernel_rfl) (by kernel_rfl) (by kernel_rfl) (by rfl) (fun _ _ _ h => h) (by assumption) ?_)
    simp only [Act.put, List.setIfInBounds_toArray, List.set_cons_zero, List.set_cons_succ]
    first | (refine held_take 1 rfl (by kernel_rfl) (by kernel_rfl) (by kernel_rfl) (by rfl) (fun _ _ _ h => h) (by assumption) (by intro w hSw; (try dsimp only at hSw); go_simp; first | done | with_reducible rfl) ?_) | (refine held_skip 1 rfl (by kernel_rfl) (by kernel_rfl) (by kernel_rfl) (by rfl) (fun _ _ _ h => h) (by assumption) ?_)
    simp only [Act.put, List.setIfInBounds_toArray, List.set_cons_zero, List.set_cons_succ]
    refine held_one 2 (by kernel_rfl) rfl (fun K hK => ?_)
    go_simp
    go_at_call 75
    refine (spec_l04Any _ _ g HM.out.2.2.2.2.1).mono ?_; rintro e w5 ⟨f5, A5, n5, c5, rfl, hr5, hl5, hsm5, hc3, hg3⟩
    have HR5 := Lib.hid (hr5.re (fun x hx => Nat.le_trans HM.out.2.2.2.2.2.size (hr5.base x hx).1))
    have HVS2 := Lib.hid hsm5
    have HM5 := Lib.hid (HM.out.step hgl hrg hbl hc3 hg3)
    go_wp2_with fail
    refine hK.out _ _ (by (try dsimp only); exact HM5.out.five) (fun hNew => ?_)
    clear hK K hHeld
    have hHeld := hNew
    clear hNew
    try simp only [Act.put, List.setIfInBounds_toArray, List.set_cons_zero, List.set_cons_succ]
    clear hr5 hc3 hg3 hsm5 HM
    have u0 := blk_cell? HM5.out.2.1 0
    have u1 := blk_cell? HM5.out.2.1 1
    have u2 := blk_cell? HM5.out.2.1 2
    have u3 := blk_cell? HM5.out.2.1 3
    have u4 := blk_cell? HM5.out.2.1 4
    have uf := blk_free HM5.out.2.1
    simp only [List.getElem?_toArray, List.getElem?_cons_zero, List.getElem?_cons_succ] at u0 u1 u2 u3 u4
    have hc1 := put5_chg w5 w.heap.size f A n c
    have hv1 := put5_blk HM5.out.2.1 f A n c
    have hv2 := hc1.keepb HM5.out.2.2.1 (by simp only [List.mem_singleton]; omega)
    unfold put5 at hc1 hv1 hv2
    have hk1 := HM5.out.five
    have hk2 : ∀ j, (⟨b, j, none⟩ : Addr).block ∉ [w.heap.size] := fun j h => by have h1 := List.mem_singleton.1 h; simp only at h1; omega
    have hk3 : ∀ j, (⟨b, j, none⟩ : Addr).block ∉ [w.heap.size + 1] := fun j h => by have h1 := List.mem_singleton.1 h; simp only at h1; omega
    refine held_one 3 (by kernel_rfl) rfl (fun K hK => ?_)
    go_simp
    refine hK.out _ _ (by (try dsimp only); exact ⟨hc1.cell hk1.1 (hk2 _), hc1.cell hk1.2.1 (hk2 _), hc1.cell hk1.2.2.1 (hk2 _), hc1.cell hk1.2.2.2.1 (hk2 _), hc1.cell hk1.2.2.2.2 (hk2 _)⟩) (fun hNew => ?_)
    clear hK K hHeld
    have hHeld := hNew
    clear hNew
    try simp only [Act.put, List.setIfInBounds_toArray, List.set_cons_zero, List.set_cons_succ]
    clear u0 u1 u2 u3 u4 uf
    generalize World.setCell (World.setCell (World.setCell (World.setCell (World.setCell w5 _ _) _ _) _ _) _ _) _ _ = w6 at *
    have u0 := blk_cell? hv2 0
    have u1 := blk_cell? hv2 1
    have u2 := blk_cell? hv2 2
    have u3 := blk_cell? hv2 3
    have u4 := blk_cell? hv2 4
    have uf := blk_free hv2
    simp only [List.getElem?_toArray, List.getElem?_cons_zero, List.getElem?_cons_succ] at u0 u1 u2 u3 u4
    have hc2 := put5_chg w6 (w.heap.size + 1) f5 A5 n5 c5
    have hv3 := put5_blk hv2 f5 A5 n5 c5
    have hv4 := hc2.keepb hv1 (by simp only [List.mem_singleton]; omega)
    unfold put5 at hc2 hv3 hv4
    refine held_one 4 (by kernel_rfl) rfl (fun K hK => ?_)
    go_simp
    refine hK.out _ _ (by (try dsimp only); exact ⟨hc2.cell hHeld.1 (hk3 _), hc2.cell hHeld.2.1 (hk3 _), hc2.cell hHeld.2.2.1 (hk3 _), hc2.cell hHeld.2.2.2.1 (hk3 _), hc2.cell hHeld.2.2.2.2 (hk3 _)⟩) (fun hNew => ?_)
    clear hK K hHeld
    have hHeld := hNew
    clear hNew
    try simp only [Act.put, List.setIfInBounds_toArray, List.set_cons_zero, List.set_cons_succ]
    refine wpAnyH_done (by kernel_rfl) ?_ _
    clear hHeld hk1 hk2 hk3
    clear u0 u1 u2 u3 u4 uf
    generalize World.setCell (World.setCell (World.setCell (World.setCell (World.setCell w6 _ _) _ _) _ _) _ _) _ _ = w7 at *
    have q0 := blk_cell? hv4 0
    have q1 := blk_cell? hv4 1
    have q2 := blk_cell? hv4 2
    have q3 := blk_cell? hv4 3
    have q4 := blk_cell? hv4 4
    have t0 := blk_cell? hv3 0
    have t1 := blk_cell? hv3 1
    have t2 := blk_cell? hv3 2
    have t3 := blk_cell? hv3 3
    have t4 := blk_cell? hv3 4
    simp only [List.getElem?_toArray, List.getElem?_cons_zero, List.getElem?_cons_succ] at q0 q1 q2 q3 q4 t0 t1 t2 t3 t4
    have HC := Lib.hid (hc1.trans' hc2)
    have HU := Lib.hid (HM5.out.2.2.2.2.2)
    clear hv1 hv2 hv3 hv4 hc1 hc2
    go_wp2_with fail
    refine bodyPost_ret (v := .tuple #[.agg #[.int .i64 f.id, .int .i64 f.owner, .bool f.shared, .int .i64 f.link, .slice A n c], .agg #[.int .i64 f5.id, .int .i64 f5.owner, .bool f5.shared, .int .i64 f5.link, .slice A5 n5 c5]]) (by simp [results, Try.results85, go_sem, q0, q1, q2, q3, q4, t0, t1, t2, t3, t4]) rfl ?_
    exact ⟨f, A, n, c, f5, A5, n5, c5, rfl, (HM5.out.2.2.2.1.chg HC.out (fun x hx hm => by have := (HM5.out.2.2.2.1.base x hx).1; simp only [List.mem_cons, List.not_mem_nil, or_false] at hm; omega)).re (fun x hx => by have := (HM5.out.2.2.2.1.base x hx).1; omega), (HR5.out.chg HC.out (fun x hx hm => by have := (HR5.out.base x hx).1; simp only [List.mem_cons, List.not_mem_nil, or_false] at hm; omega)).re (fun x hx => by have := (HR5.out.base x hx).1; omega), by omega, by omega, HSM.out, HVS2.out, Below.mark (Below.mark HB1.out HU.out HB1.out.size (fun x hx => by simp only [List.mem_singleton] at hx; omega)) HC.out (by have := HB1.out.size; have := HU.out.size; omega) (fun x hx => by simp only [List.mem_cons, List.not_mem_nil, or_false] at hx; omega)⟩
set_option maxHeartbeats 3200000 in
theorem spec_DrawChangedAttrs (A0 : Option Addr) (n0 c0 : Nat) (l : List Int) (w : World) (hS : Sl 1 RByt w A0 n0 l) (hn : n0 ≤ 1048576) (hl : ∀ y ∈ l, 0 ≤ y ∧ y ≤ 255) : Calls Try.prog 28 #[.slice A0 n0 c0] w (TwoF 2 w) := by
  have HN := Lib.hid fun w' (hb : Below w.heap.size w w') => spec_l04Two A0 n0 c0 l w' (hS.mono mByt hb) hn hl
  clear hS hl
  go_enter Try.func28, Try.ntmps28
  go_wp2_with fail
  refine (HN.out _ (by go_grown)).mono ?_; rintro e w5 ⟨f, A, n, c, f5, A5, n5, c5, rfl, hr, hr5, hn6, hn56, hsm, hsm5, hb⟩
  have hq0 := below_keep hb (show (World.alloc (World.alloc w _) _).heap[w.heap.size]? = _ from (hp_old (by simp)).trans (hp_new rfl))
  have hq1 := below_keep hb (show (World.alloc (World.alloc w _) _).heap[w.heap.size + 1]? = _ from hp_new (by simp))
  have HB5 := Lib.hid (ex_trans (show Below w.heap.size w (World.alloc (World.alloc w _) _) by go_grown) hb)
  have HR := Lib.hid (hr.lowT (show w.heap.size + 2 ≤ _ by simp))
  have HR5 := Lib.hid (hr5.lowT (show w.heap.size + 2 ≤ _ by simp))
  have HSM := Lib.hid (And.intro hsm hsm5)
  obtain ⟨r, hrr⟩ : ∃ r, r = w.heap.size := ⟨_, rfl⟩
  clear hr hr5 hb hsm hsm5 HN
  have u0 := blk_cell? hq0 0
  have u1 := blk_cell? hq0 1
  have u2 := blk_cell? hq0 2
  have u3 := blk_cell? hq0 3
  have u4 := blk_cell? hq0 4
  have uf := blk_free hq0
  have v0 := blk_cell? hq1 0
  have v1 := blk_cell? hq1 1
  have v2 := blk_cell? hq1 2
  have v3 := blk_cell? hq1 3
  have v4 := blk_cell? hq1 4
  have vf := blk_free hq1
  simp only [List.getElem?_toArray, List.getElem?_cons_zero, List.getElem?_cons_succ] at u0 u1 u2 u3 u4 v0 v1 v2 v3 v4
  go_wp2_with fail
  refine bodyPost_ret (v := .tuple #[.agg #[.int .i64 f.id, .int .i64 f.owner, .bool f.shared, .int .i64 f.link, .slice A n c], .agg #[.int .i64 f5.id, .int .i64 f5.owner, .bool f5.shared, .int .i64 f5.link, .slice A5 n5 c5]]) (by simp [results, Try.results28, go_sem, u0, u1, u2, u3, u4, v0, v1, v2, v3, v4]) rfl ?_
  have hc : Chg [w.heap.size, w.heap.size + 1] w5 (put5 (put5 w5 w.heap.size f A n c) (w.heap.size + 1) f5 A5 n5 c5) := (put5_chg w5 w.heap.size f A n c).trans' (put5_chg _ (w.heap.size + 1) f5 A5 n5 c5)
  exact ⟨f, A, n, c, f5, A5, n5, c5, rfl, HR.out.chg hc (fun x hx hm => by have := (HR.out.base x hx).1; simp only [List.mem_cons, List.not_mem_nil, or_false] at hm; omega), HR5.out.chg hc (fun x hx hm => by have := (HR5.out.base x hx).1; simp only [List.mem_cons, List.not_mem_nil, or_false] at hm; omega), hn6, hn56, HSM.out.1, HSM.out.2, Below.mark HB5.out hc HB5.out.size (fun x hx => by simp only [List.mem_cons, List.not_mem_nil, or_false] at hx; omega)⟩
set_option maxHeartbeats 3200000 in
theorem spec_DrawEqualFiles (A0 : Option Addr) (n0 c0 : Nat) (l : List Int) (w : World) (hS : Sl 1 RByt w A0 n0 l) (hn : n0 ≤ 1048576) (hl : ∀ y ∈ l, 0 ≤ y ∧ y ≤ 255) : Calls Try.prog 30 #[.slice A0 n0 c0] w (TwoF 2 w) := by
  have HN := Lib.hid fun w' (hb : Below w.heap.size w w') => spec_l04Two A0 n0 c0 l w' (hS.mono mByt hb) hn hl
  clear hS hl
  go_enter Try.func30, Try.ntmps30
  go_wp2_with fail
  refine (HN.out _ (by go_grown)).mono ?_; rintro e w5 ⟨f, A, n, c, f5, A5, n5, c5, rfl, hr, hr5, hn6, hn56, hsm, hsm5, hb⟩
  have hq0 := below_keep hb (show (World.alloc (World.alloc w _) _).heap[w.heap.size]? = _ from (hp_old (by simp)).trans (hp_new rfl))
  have hq1 := below_keep hb (show (World.alloc (World.alloc w _) _).heap[w.heap.size + 1]? = _ from hp_new (by simp))
  have HB5 := Lib.hid (ex_trans (show Below w.heap.size w (World.alloc (World.alloc w _) _) by go_grown) hb)
  have HR := Lib.hid (hr.lowT (show w.heap.size + 2 ≤ _ by simp))
  have HR5 := Lib.hid (hr5.lowT (show w.heap.size + 2 ≤ _ by simp))
  have HSM := Lib.hid (And.intro hsm hsm5)
  obtain ⟨r, hrr⟩ : ∃ r, r = w.heap.size := ⟨_, rfl⟩
  clear hr hr5 hb hsm hsm5 HN
  have u0 := blk_cell? hq0 0
  have u1 := blk_cell? hq0 1
  have u2 := blk_cell? hq0 2
  have u3 := blk_cell? hq0 3
  have u4 := blk_cell? hq0 4
  have uf := blk_free hq0
  have v0 := blk_cell? hq1 0
  have v1 := blk_cell? hq1 1
  have v2 := blk_cell? hq1 2
  have v3 := blk_cell? hq1 3
  have v4 := blk_cell? hq1 4
  have vf := blk_free hq1
  simp only [List.getElem?_toArray, List.getElem?_cons_zero, List.getElem?_cons_succ] at u0 u1 u2 u3 u4 v0 v1 v2 v3 v4
  go_wp2_with fail
  refine bodyPost_ret (v := .tuple #[.agg #[.int .i64 f.id, .int .i64 f.owner, .bool f.shared, .int .i64 f.link, .slice A n c], .agg #[.int .i64 f5.id, .int .i64 f5.owner, .bool f5.shared, .int .i64 f5.link, .slice A5 n5 c5]]) (by simp [results, Try.results30, go_sem, u0, u1, u2, u3, u4, v0, v1, v2, v3, v4]) rfl ?_
  have hc : Chg [w.heap.size, w.heap.size + 1] w5 (put5 (put5 w5 w.heap.size f A n c) (w.heap.size + 1) f5 A5 n5 c5) := (put5_chg w5 w.heap.size f A n c).trans' (put5_chg _ (w.heap.size + 1) f5 A5 n5 c5)
  exact ⟨f, A, n, c, f5, A5, n5, c5, rfl, HR.out.chg hc (fun x hx hm => by have := (HR.out.base x hx).1; simp only [List.mem_cons, List.not_mem_nil, or_false] at hm; omega), HR5.out.chg hc (fun x hx hm => by have := (HR5.out.base x hx).1; simp only [List.mem_cons, List.not_mem_nil, or_false] at hm; omega), hn6, hn56, HSM.out.1, HSM.out.2, Below.mark HB5.out hc HB5.out.size (fun x hx => by simp only [List.mem_cons, List.not_mem_nil, or_false] at hx; omega)⟩
end Go.Proofs.Ytjobgnioehkomaa
