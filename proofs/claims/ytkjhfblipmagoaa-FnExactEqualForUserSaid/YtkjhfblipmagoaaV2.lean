/-
  CONTRACTS: two stores are the same for a user.
-/
import Derived.WalkKit
import Derived.WalkSpells
import Derived.WalkLawsBesides
import Derived.Lib.Hide
import Derived.Handy
import Derived.StillTailTactics
import Derived.Deep.Light
import Derived.Deep.QuietTactic
import Derived.BigQuiet
import Derived.Deep.RegionHeld3
import Derived.Deep.RegionLaw
import Derived.Sort.Walk0
import Derived.Deep.DeepCutAuto
import Derived.Test.YtkjhfblipmagoaaLib
import Derived.Test.YtkjhfblipmagoaaOwn
import Derived.Test.YtkjhfblipmagoaaRow
import Derived.Test.YtkjhfblipmagoaaN0
import Derived.Test.YtkjhfblipmagoaaRaw
import Derived.Test.YtkjhfblipmagoaaHld
import Derived.Test.YtkjhfblipmagoaaM0
import Derived.Test.YtkjhfblipmagoaaC1
import Derived.Test.YtkjhfblipmagoaaC2
import Derived.Test.YtkjhfblipmagoaaT1
import Derived.Test.YtkjhfblipmagoaaT2
import Derived.Test.YtkjhfblipmagoaaT3
import Derived.Test.YtkjhfblipmagoaaT4
import Derived.Test.YtkjhfblipmagoaaC3
import Derived.Test.YtkjhfblipmagoaaC4
import Derived.Test.YtkjhfblipmagoaaC5
import Derived.Test.YtkjhfblipmagoaaC6
import Derived.Test.YtkjhfblipmagoaaSz
import Derived.Test.YtkjhfblipmagoaaD1
import Derived.Test.YtkjhfblipmagoaaD3
import Derived.Test.YtkjhfblipmagoaaD5
import Derived.Test.YtkjhfblipmagoaaH1
import Derived.Test.YtkjhfblipmagoaaE2
import Derived.Test.YtkjhfblipmagoaaE4
import Derived.Test.YtkjhfblipmagoaaE5
import Derived.Test.YtkjhfblipmagoaaV1
import Derived.Test.YtkjhfblipmagoaaP3
import Derived.Test.YtkjhfblipmagoaaRows
namespace Go.Proofs.Ytkjhfblipmagoaa
open Go.RowKit
set_option linter.unusedVariables false
set_option maxRecDepth 100000
theorem held_three {P : Program} {L : List Oper} {Q : Exit → Act → World → Prop} {md : Region.Mode} {S : World → Prop} (i j k : Nat) {o o2 o3 : Oper} {tl tl2 tl3 : List Oper} {fuel : Nat} {listed : Array Bool} {a : Act} {w : World} (hr : Region.ready md L.toArray listed = [i, j, k]) (hd : L.drop i = o :: tl) (hd2 : L.drop j = o2 :: tl2) (hd3 : L.drop k = o3 :: tl3)
    (h : ∀ K' : Act → World → Prop, Shut (∀ a w, S w → (S w → wpAnyH P md L.toArray Q S fuel (listed.setIfInBounds i true) a w) → K' a w) → if Region.wanted o (yielded L.toArray a.tmps) = true then Oper.wp P o a w K' Q else K' (a.put o.dst undef) w)
    (h2 : ∀ K' : Act → World → Prop, Shut (∀ a w, S w → (S w → wpAnyH P md L.toArray Q S fuel (listed.setIfInBounds j true) a w) → K' a w) → if Region.wanted o2 (yielded L.toArray a.tmps) = true then Oper.wp P o2 a w K' Q else K' (a.put o2.dst undef) w)
    (h3 : ∀ K' : Act → World → Prop, Shut (∀ a w, S w → (S w → wpAnyH P md L.toArray Q S fuel (listed.setIfInBounds k true) a w) → K' a w) → if Region.wanted o3 (yielded L.toArray a.tmps) = true then Oper.wp P o3 a w K' Q else K' (a.put o3.dst undef) w) :
    wpAnyH P md L.toArray Q S (fuel + 1) listed a w :=
  wpAnyH_ready hr (by simp) (AllReadyH.cons (held_at hd) h (AllReadyH.cons (held_at hd2) h2 (AllReadyH.cons (held_at hd3) h3 AllReadyH.nil)))
/-- a store that a call has made is read wherever its blocks stand -/
theorem sto_reads {ef eF ea W X n c m d : Nat} {A B : Option Addr} {l : List Fld} {fs : List Fil} {w1 w' : World} (hF : FRow ef 2 eFld w1 W A n c l) (hR : FRows eF ea w1 X B m d fs) (hX : W ≤ X)
    (h : ∀ b, W ≤ b → b < w1.heap.size → w'.heap[b]? = w1.heap[b]?) : Sl 2 RFld w' A n l ∧ Sl 5 RFil w' B m fs := by
  refine ⟨(hF.loc fun b hb => h b (hF.base b hb).1 (hF.base b hb).2).sl (R := RFld) encFld (fun _ => rfl), ?_⟩
  obtain ⟨L, h1, h2⟩ := hR
  exact FRows.sl (eF := eF) (ea := ea) (B := X) (c := d) ⟨L, h1.loc fun b hb => h b (Nat.le_trans hX (h1.base b hb).1) (h1.base b hb).2, h2⟩
def noNext (s : Sto) : Sto := ⟨s.schema, s.files, 0⟩
noncomputable def eqFU (a b : Sto) (u : Int) : Bool := (noNext (visS a u)).eqb (noNext (visS b u))
set_option maxHeartbeats 3200000 in
theorem spec_EqualForUser (a b0 : Sto) (A : Option Addr) (n c : Nat) (B : Option Addr) (m d : Nat) (A' : Option Addr) (n' c' : Nat) (B' : Option Addr) (m' d' : Nat) (u : Int) (w : World)
    (hS : Sl 2 RFld w A n a.schema) (hT : Sl 5 RFil w B m a.files) (hS' : Sl 2 RFld w A' n' b0.schema) (hT' : Sl 5 RFil w B' m' b0.files) (ha : a.ok 1073741824) (hb : b0.ok 1073741824) :
    Calls Try.prog 12 #[a.v A n c B m d, b0.v A' n' c' B' m' d', .int .i64 u] w fun e w' => e = .returned (.bool (eqFU a b0 u)) ∧ Below w.heap.size w w' := by
  have HVa := Lib.hid fun w' (hbb : Below w.heap.size w w') => spec_VisibleStore a A n c B m d u w' (hS.mono mFld hbb) (hT.mono mFil hbb) ha
  have HVb := Lib.hid fun w' (hbb : Below w.heap.size w w') => spec_VisibleStore b0 A' n' c' B' m' d' u w' (hS'.mono mFld hbb) (hT'.mono mFil hbb) hb
  obtain ⟨x, hx⟩ : ∃ x, x = visS a u := ⟨_, rfl⟩
  obtain ⟨y, hy⟩ : ∃ y, y = visS b0 u := ⟨_, rfl⟩
  have HXok := Lib.hid (show x.ok 1073741824 by rw [hx]; exact visS_ok ha)
  have HYok := Lib.hid (show y.ok 1073741824 by rw [hy]; exact visS_ok hb)
  have HZ := Lib.hid (show eqFU a b0 u = (noNext x).eqb (noNext y) by rw [hx, hy]; rfl)
  rw [← hx] at HVa
  rw [← hy] at HVb
  clear hx hy hS hT hS' hT' ha hb
  go_enter Try.func12, Try.ntmps12
  go_wp2_with fail
  refine (HVa.out _ (by go_grown)).mono ?_; rintro e w1 ⟨A1, c1, B1, d1, X1, rfl, hF1, hX1, hX2, hX3, hR1, hb1⟩
  have HX1 := Lib.hid (And.intro hX1 (And.intro hX2 hX3))
  clear hX1 hX2 hX3
  have HSX := Lib.hid (And.intro hF1 hR1)
  have hk0 := below_keep hb1 (show (World.alloc (World.alloc w _) _).heap[w.heap.size + 1]? = _ from hp_new (by simp))
  have hB1 : Below w.heap.size w w1 := ex_trans (by go_grown) hb1
  have HK1 := Lib.hid hk0
  clear hF1 hR1 hk0 hb1
  have u0 := blk_cell? HK1.out 0
  have u1 := blk_cell? HK1.out 1
  have u2 := blk_cell? HK1.out 2
  have hz1 := blk_lt HK1.out
  simp only [List.getElem?_toArray, List.getElem?_cons_zero, List.getElem?_cons_succ] at u0 u1 u2
  go_wp2_with fail
  refine (HVb.out _ (ex_alloc hB1 _)).mono ?_; rintro e w2 ⟨A2, c2, B2, d2, X2, rfl, hF2, hX1, hX2, hX3, hR2, hb2⟩
  have HX2 := Lib.hid (And.intro hX1 (And.intro hX2 hX3))
  clear hX1 hX2 hX3
  have HSY := Lib.hid (And.intro hF2 hR2)
  have hk := below_keep hb2 (hp_new rfl)
  have hB12 : Below w1.heap.size w1 w2 := ex_trans (ex_alloc (Below.refl _ _) _) hb2
  have hB2 : Below w.heap.size w w2 := ex_trans hB1 hB12
  have HK2 := Lib.hid hk
  have HB12 := Lib.hid hB12
  clear hF2 hR2 hk hb2 hB12 u0 u1 u2
  have p0 := blk_cell? HK2.out 0
  have p1 := blk_cell? HK2.out 1
  have p2 := blk_cell? HK2.out 2
  have pf := blk_free HK2.out
  have hz2 := blk_lt HK2.out
  simp only [List.getElem?_toArray, List.getElem?_cons_zero, List.getElem?_cons_succ] at p0 p1 p2
  have hn12 : ¬ (w1.heap.size = w2.heap.size) := by omega
  go_wp2_with fail
  have hfar : ∀ b, b ≠ w1.heap.size → b < w2.heap.size → ((w2.setCell ⟨w1.heap.size, 2, none⟩ (.int .i64 0)).alloc (.cells #[.slice A2 y.schema.length c2, .slice B2 y.files.length d2, .int .i64 0] 31)).heap[b]? = w2.heap[b]? := fun b hb hlt => (hp_old (by rw [size_set]; exact hlt)).trans (blk_far w2 ⟨w1.heap.size, 2, none⟩ hb _)
  obtain ⟨hsx, htx⟩ := sto_reads HSX.out.1 HSX.out.2 HX1.out.2.1 (fun b h1 h2 => (hfar b (by omega) (by omega)).trans (HB12.out.block b h2))
  obtain ⟨hsy, hty⟩ := sto_reads HSY.out.1 HSY.out.2 HX2.out.2.1 (fun b h1 h2 => hfar b (by simp at h1; omega) h2)
  have hBf : Below w.heap.size w ((w2.setCell ⟨w1.heap.size, 2, none⟩ (.int .i64 0)).alloc (.cells #[.slice A2 y.schema.length c2, .slice B2 y.files.length d2, .int .i64 0] 31)) := ex_alloc (hB2.setCell (p := ⟨w1.heap.size, 2, none⟩) (by have := hB1.size; simpa using this) _) _
  have HR := Lib.hid (And.intro hsx (And.intro htx (And.intro hsy hty)))
  clear hsx htx hsy hty hfar
  refine (spec_EqualStores (noNext x) (noNext y) A1 _ c1 B1 _ d1 A2 _ c2 B2 _ d2 _ HR.out.1 HR.out.2.1 HR.out.2.2.1 HR.out.2.2.2 HXok.out HYok.out).mono ?_; rintro e w3 ⟨rfl, hb3⟩
  go_wp2_with fail
  go_returns
  exact ⟨ret_bool HZ.out.symm, ex_trans hBf hb3⟩
set_option maxHeartbeats 6400000 in
theorem impl_EqualForUser (a b0 : Sto) (A : Option Addr) (n c : Nat) (B : Option Addr) (m d : Nat) (A' : Option Addr) (n' c' : Nat) (B' : Option Addr) (m' d' : Nat) (u : Int) (w : World)
    (hS : Sl 2 RFld w A n a.schema) (hT : Sl 5 RFil w B m a.files) (hS' : Sl 2 RFld w A' n' b0.schema) (hT' : Sl 5 RFil w B' m' b0.files) (ha : a.ok 1073741824) (hb : b0.ok 1073741824) :
    Calls Try.prog 14 #[a.v A n c B m d, b0.v A' n' c' B' m' d', .int .i64 u] w fun e w' => e = .returned (.bool (eqFU a b0 u)) ∧ Below w.heap.size w w' := by
  have HVa := Lib.hid fun w' (hbb : Below w.heap.size w w') => impl_VisibleStore a A n c B m d u w' (hS.mono mFld hbb) (hT.mono mFil hbb) ha
  have HVb := Lib.hid fun w' (hbb : Below w.heap.size w w') => impl_VisibleStore b0 A' n' c' B' m' d' u w' (hS'.mono mFld hbb) (hT'.mono mFil hbb) hb
  obtain ⟨x, hx⟩ : ∃ x, x = visS a u := ⟨_, rfl⟩
  obtain ⟨y, hy⟩ : ∃ y, y = visS b0 u := ⟨_, rfl⟩
  have HXok := Lib.hid (show x.ok 1073741824 by rw [hx]; exact visS_ok ha)
  have HYok := Lib.hid (show y.ok 1073741824 by rw [hy]; exact visS_ok hb)
  have HZ := Lib.hid (show eqFU a b0 u = (eqL Fld.eqb x.schema y.schema && eqL Fil.eqb x.files y.files) by rw [hx, hy]; unfold eqFU noNext Sto.eqb; simp)
  rw [← hx] at HVa
  rw [← hy] at HVb
  clear hx hy hS hT hS' hT' ha hb
  go_enter Try.func14, Try.ntmps14
  go_upto_region 1 with fail
  generalize hW : World.alloc (World.alloc w _) _ = W0
  have hb0 : HasB W0 [(w.heap.size, #[.slice A n c, .slice B m d, .int .i64 a.next], 31), (w.heap.size + 1, #[.slice A' n' c', .slice B' m' d', .int .i64 b0.next], 31)] := by
    rw [← hW]; intro x hx
    simp only [List.mem_cons, List.not_mem_nil, or_false] at hx
    rcases hx with rfl | rfl
    all_goals (simp only; repeat first | exact hp_new (by simp) | rw [hp_old (by simp <;> omega)])
  have hB0 : Below w.heap.size w W0 := by rw [← hW]; go_grown
  have hs0 : w.heap.size + 1 + 1 = W0.heap.size := by rw [← hW]; simp
  clear hW
  have z0 : w.heap.size < W0.heap.size := by omega
  have z1 : w.heap.size + 1 < W0.heap.size := by omega
  have x0 := blk_cell? (hb0 _ (List.Mem.head _)) 0
  have x1 := blk_cell? (hb0 _ (List.Mem.head _)) 1
  have x2 := blk_cell? (hb0 _ (List.Mem.head _)) 2
  have y0 := blk_cell? (hb0 _ (List.Mem.tail _ (List.Mem.head _))) 0
  have y1 := blk_cell? (hb0 _ (List.Mem.tail _ (List.Mem.head _))) 1
  have y2 := blk_cell? (hb0 _ (List.Mem.tail _ (List.Mem.head _))) 2
  simp only [List.getElem?_toArray, List.getElem?_cons_zero, List.getElem?_cons_succ] at x0 x1 x2 y0 y1 y2
  have HHB0 := Lib.hid hB0
  clear hb0 hs0
  go_cut [7, 8] (fun s7 s8 w' => ∃ (g h : Nat) (A1 A2 B1 B2 : Option Addr) (c1 c2 d1 d2 : Nat), s7 = .pointer (some ⟨g, 0, none⟩) ∧ s8 = .pointer (some ⟨h, 0, none⟩) ∧
    w'.cell? ⟨g, 0, none⟩ = some (.slice A1 x.schema.length c1) ∧ w'.cell? ⟨g, 1, none⟩ = some (.slice B1 x.files.length d1) ∧ w'.cell? ⟨h, 0, none⟩ = some (.slice A2 y.schema.length c2) ∧ w'.cell? ⟨h, 1, none⟩ = some (.slice B2 y.files.length d2) ∧
    Sl 2 RFld w' A1 x.schema.length x.schema ∧ Sl 5 RFil w' B1 x.files.length x.files ∧ Sl 2 RFld w' A2 y.schema.length y.schema ∧ Sl 5 RFil w' B2 y.files.length y.files ∧ Below w.heap.size w w')
  case first =>
    refine wp_region_held_drew (S := (fun w' => w'.cell? ⟨w.heap.size, 0, none⟩ = some (.slice A n c) ∧ w'.cell? ⟨w.heap.size, 1, none⟩ = some (.slice B m d) ∧ w'.cell? ⟨w.heap.size, 2, none⟩ = some (.int .i64 a.next) ∧ w'.cell? ⟨w.heap.size + 1, 0, none⟩ = some (.slice A' n' c') ∧ w'.cell? ⟨w.heap.size + 1, 1, none⟩ = some (.slice B' m' d') ∧ w'.cell? ⟨w.heap.size + 1, 2, none⟩ = some (.int .i64 b0.next) ∧ Below W0.heap.size W0 w')) (by kernel_rfl) (by (try dsimp only); exact ⟨x0, x1, x2, y0, y1, y2, (Below.refl _ _).drew⟩) (fun hHeld => ?_)
    first | (refine held_take 0 rfl (by kernel_rfl) (by kernel_rfl) (by kernel_rfl) (by rfl) (fun _ _ _ h => h) (by assumption) (by intro w hSw; (try dsimp only at hSw); go_simp; first | done | with_reducible rfl) ?_) | (refine held_skip 0 rfl (by kernel_rfl) (by kernel_rfl) (by kernel_rfl) (by rfl) (fun _ _ _ h => h) (by assumption) ?_)
    simp only [Act.put, List.setIfInBounds_toArray, List.set_cons_zero, List.set_cons_succ]
    first | (refine held_take 1 rfl (by kernel_rfl) (by kernel_rfl) (by kernel_rfl) (by rfl) (fun _ _ _ h => h) (by assumption) (by intro w hSw; (try dsimp only at hSw); go_simp; first | done | with_reducible rfl) ?_) | (refine held_skip 1 rfl (by kernel_rfl) (by kernel_rfl) (by kernel_rfl) (by rfl) (fun _ _ _ h => h) (by assumption) ?_)
    simp only [Act.put, List.setIfInBounds_toArray, List.set_cons_zero, List.set_cons_succ]
    first | (refine held_take 3 rfl (by kernel_rfl) (by kernel_rfl) (by kernel_rfl) (by rfl) (fun _ _ _ h => h) (by assumption) (by intro w hSw; (try dsimp only at hSw); go_simp; first | done | with_reducible rfl) ?_) | (refine held_skip 3 rfl (by kernel_rfl) (by kernel_rfl) (by kernel_rfl) (by rfl) (fun _ _ _ h => h) (by assumption) ?_)
    simp only [Act.put, List.setIfInBounds_toArray, List.set_cons_zero, List.set_cons_succ]
    first | (refine held_take 4 rfl (by kernel_rfl) (by kernel_rfl) (by kernel_rfl) (by rfl) (fun _ _ _ h => h) (by assumption) (by intro w hSw; (try dsimp only at hSw); go_simp; first | done | with_reducible rfl) ?_) | (refine held_skip 4 rfl (by kernel_rfl) (by kernel_rfl) (by kernel_rfl) (by rfl) (fun _ _ _ h => h) (by assumption) ?_)
    simp only [Act.put, List.setIfInBounds_toArray, List.set_cons_zero, List.set_cons_succ]
    generalize hwd : World.drew W0 = Wd at *
    have hszd : W0.heap.size ≤ Wd.heap.size := hHeld.2.2.2.2.2.2.size
    clear hwd x0 x1 x2 y0 y1 y2
    refine held_three 2 6 7 (by kernel_rfl) rfl rfl rfl (fun K hK => ?_) (fun K hK => ?_) (fun K hK => ?_)
    · go_simp
      go_at_call 52
      refine (HVa.out _ (ex_trans HHB0.out hHeld.2.2.2.2.2.2)).mono ?_; rintro e w21 ⟨A1, c1, B1, d1, X1, rfl, hF, hXa, hXb, hXc, hR, hb1⟩
      have hsz_1 : Wd.heap.size ≤ w21.heap.size := hb1.size
      have HSx := Lib.hid (And.intro hF (And.intro hXb hR))
      have HBx := Lib.hid (Below.refl w21.heap.size w21)
      go_wp2_with fail
      refine hK.out _ _ (by (try dsimp only); exact ⟨keep_cell hb1 hHeld.1, keep_cell hb1 hHeld.2.1, keep_cell hb1 hHeld.2.2.1, keep_cell hb1 hHeld.2.2.2.1, keep_cell hb1 hHeld.2.2.2.2.1, keep_cell hb1 hHeld.2.2.2.2.2.1, ex_trans hHeld.2.2.2.2.2.2 hb1⟩) (fun hNew => ?_)
      clear hK K hHeld
      have hHeld := hNew
      clear hNew
      try simp only [Act.put, List.setIfInBounds_toArray, List.set_cons_zero, List.set_cons_succ]
      clear hF hXa hXb hXc hR hb1
      refine held_three 5 6 7 (by kernel_rfl) rfl rfl rfl (fun K hK => ?_) (fun K hK => ?_) (fun K hK => ?_)
      · go_simp
        go_at_call 52
        refine (HVb.out _ (ex_trans HHB0.out hHeld.2.2.2.2.2.2)).mono ?_; rintro e w22 ⟨A2, c2, B2, d2, X2, rfl, hF, hXa, hXb, hXc, hR, hb2⟩
        have hsz_2 : w21.heap.size ≤ w22.heap.size := hb2.size
        have HBx := Lib.hid (HBx.out.trans (hb2.mono HBx.out.size))
        have HSy := Lib.hid (And.intro hF (And.intro hXb hR))
        have HBy := Lib.hid (Below.refl w22.heap.size w22)
        go_wp2_with fail
        refine hK.out _ _ (by (try dsimp only); exact ⟨keep_cell hb2 hHeld.1, keep_cell hb2 hHeld.2.1, keep_cell hb2 hHeld.2.2.1, keep_cell hb2 hHeld.2.2.2.1, keep_cell hb2 hHeld.2.2.2.2.1, keep_cell hb2 hHeld.2.2.2.2.2.1, ex_trans hHeld.2.2.2.2.2.2 hb2⟩) (fun hNew => ?_)
        clear hK K hHeld
        have hHeld := hNew
        clear hNew
        try simp only [Act.put, List.setIfInBounds_toArray, List.set_cons_zero, List.set_cons_succ]
        clear hF hXa hXb hXc hR hb2
        refine held_two 6 7 (by kernel_rfl) rfl rfl (fun K hK => ?_) (fun K hK => ?_)
        · go_simp
          generalize hwa : World.alloc w22 _ = wa_3
          have hba : Below w22.heap.size w22 wa_3 := by rw [← hwa]; exact (Below.refl _ _).alloc (Nat.le_refl _) _
          have hsz_3 : wa_3.heap.size ≤ w22.heap.size + 1 := by rw [← hwa]; simp
          have hsz2_3 : w22.heap.size + 1 ≤ wa_3.heap.size := by rw [← hwa]; simp
          have HBx := Lib.hid (HBx.out.trans (hba.mono HBx.out.size))
          have HBy := Lib.hid (HBy.out.trans (hba.mono HBy.out.size))
          have HD7 := Lib.hid (show wa_3.heap[w22.heap.size]? = some (.cells #[.slice none 0 0, .slice none 0 0, .int .i64 0] 31 (0, 0)) by rw [← hwa]; exact hp_new rfl)
          refine hK.out _ _ (by (try dsimp only); exact ⟨keep_cell hba hHeld.1, keep_cell hba hHeld.2.1, keep_cell hba hHeld.2.2.1, keep_cell hba hHeld.2.2.2.1, keep_cell hba hHeld.2.2.2.2.1, keep_cell hba hHeld.2.2.2.2.2.1, ex_trans hHeld.2.2.2.2.2.2 hba⟩) (fun hNew => ?_)
          clear hK K hHeld
          have hHeld := hNew
          clear hNew
          try simp only [Act.put, List.setIfInBounds_toArray, List.set_cons_zero, List.set_cons_succ]
          clear hwa hba
          refine held_one 7 (by kernel_rfl) rfl (fun K hK => ?_)
          go_simp
          generalize hwa : World.alloc wa_3 _ = wa_4
          have hba : Below wa_3.heap.size wa_3 wa_4 := by rw [← hwa]; exact (Below.refl _ _).alloc (Nat.le_refl _) _
          have hsz_4 : wa_4.heap.size ≤ wa_3.heap.size + 1 := by rw [← hwa]; simp
          have hsz2_4 : wa_3.heap.size + 1 ≤ wa_4.heap.size := by rw [← hwa]; simp
          have HBx := Lib.hid (HBx.out.trans (hba.mono HBx.out.size))
          have HBy := Lib.hid (HBy.out.trans (hba.mono HBy.out.size))
          have HD7 := Lib.hid (below_keep hba HD7.out)
          have HD8 := Lib.hid (show wa_4.heap[wa_3.heap.size]? = some (.cells #[.slice none 0 0, .slice none 0 0, .int .i64 0] 31 (0, 0)) by rw [← hwa]; exact hp_new rfl)
          refine hK.out _ _ (by (try dsimp only); exact ⟨keep_cell hba hHeld.1, keep_cell hba hHeld.2.1, keep_cell hba hHeld.2.2.1, keep_cell hba hHeld.2.2.2.1, keep_cell hba hHeld.2.2.2.2.1, keep_cell hba hHeld.2.2.2.2.2.1, ex_trans hHeld.2.2.2.2.2.2 hba⟩) (fun hNew => ?_)
          clear hK K hHeld
          have hHeld := hNew
          clear hNew
          try simp only [Act.put, List.setIfInBounds_toArray, List.set_cons_zero, List.set_cons_succ]
          clear hwa hba
          have u0 := blk_cell? HD7.out 0
          have u1 := blk_cell? HD7.out 1
          have u2 := blk_cell? HD7.out 2
          have uf := blk_free HD7.out
          have ul := blk_lt HD7.out
          simp only [List.getElem?_toArray, List.getElem?_cons_zero, List.getElem?_cons_succ] at u0 u1 u2
          refine held_one 8 (by kernel_rfl) rfl (fun K hK => ?_)
          go_simp
          generalize hst : World.setCell (World.setCell (World.setCell wa_4 _ _) _ _) _ _ = wst_8
          have hc8 : Chg [w22.heap.size] wa_4 wst_8 := by rw [← hst]; exact (((Chg.of_below _ (Below.refl _ _)).set (by simp) _).set (by simp) _).set (by simp) _
          have v80 : wst_8.cell? ⟨w22.heap.size, 0, none⟩ = some (.slice A1 x.schema.length c1) := by subst hst; go_simp
          have v81 : wst_8.cell? ⟨w22.heap.size, 1, none⟩ = some (.slice B1 x.files.length d1) := by subst hst; go_simp
          refine hK.out _ _ (by (try dsimp only); exact ⟨hc8.cell hHeld.1 (fun h => by have h1 := List.mem_singleton.1 h; simp only at h1; omega), hc8.cell hHeld.2.1 (fun h => by have h1 := List.mem_singleton.1 h; simp only at h1; omega), hc8.cell hHeld.2.2.1 (fun h => by have h1 := List.mem_singleton.1 h; simp only at h1; omega), hc8.cell hHeld.2.2.2.1 (fun h => by have h1 := List.mem_singleton.1 h; simp only at h1; omega), hc8.cell hHeld.2.2.2.2.1 (fun h => by have h1 := List.mem_singleton.1 h; simp only at h1; omega), hc8.cell hHeld.2.2.2.2.2.1 (fun h => by have h1 := List.mem_singleton.1 h; simp only at h1; omega), Below.mark hHeld.2.2.2.2.2.2 hc8 hHeld.2.2.2.2.2.2.size (fun b hb => by obtain rfl := List.mem_singleton.1 hb; omega)⟩) (fun hNew => ?_)
          clear hK K hHeld
          have hHeld := hNew
          clear hNew
          try simp only [Act.put, List.setIfInBounds_toArray, List.set_cons_zero, List.set_cons_succ]
          clear hst u0 u1 u2 uf ul
          have HD8 := Lib.hid (hc8.keepb HD8.out (fun h => by have h1 := List.mem_singleton.1 h; omega))
          have u0 := blk_cell? HD8.out 0
          have u1 := blk_cell? HD8.out 1
          have u2 := blk_cell? HD8.out 2
          have uf := blk_free HD8.out
          have ul := blk_lt HD8.out
          simp only [List.getElem?_toArray, List.getElem?_cons_zero, List.getElem?_cons_succ] at u0 u1 u2
          refine held_one 9 (by kernel_rfl) rfl (fun K hK => ?_)
          go_simp
          generalize hst : World.setCell (World.setCell (World.setCell wst_8 _ _) _ _) _ _ = wst_9
          have hc9 : Chg [wa_3.heap.size] wst_8 wst_9 := by rw [← hst]; exact (((Chg.of_below _ (Below.refl _ _)).set (by simp) _).set (by simp) _).set (by simp) _
          have v90 : wst_9.cell? ⟨wa_3.heap.size, 0, none⟩ = some (.slice A2 y.schema.length c2) := by subst hst; go_simp
          have v91 : wst_9.cell? ⟨wa_3.heap.size, 1, none⟩ = some (.slice B2 y.files.length d2) := by subst hst; go_simp
          refine hK.out _ _ (by (try dsimp only); exact ⟨hc9.cell hHeld.1 (fun h => by have h1 := List.mem_singleton.1 h; simp only at h1; omega), hc9.cell hHeld.2.1 (fun h => by have h1 := List.mem_singleton.1 h; simp only at h1; omega), hc9.cell hHeld.2.2.1 (fun h => by have h1 := List.mem_singleton.1 h; simp only at h1; omega), hc9.cell hHeld.2.2.2.1 (fun h => by have h1 := List.mem_singleton.1 h; simp only at h1; omega), hc9.cell hHeld.2.2.2.2.1 (fun h => by have h1 := List.mem_singleton.1 h; simp only at h1; omega), hc9.cell hHeld.2.2.2.2.2.1 (fun h => by have h1 := List.mem_singleton.1 h; simp only at h1; omega), Below.mark hHeld.2.2.2.2.2.2 hc9 hHeld.2.2.2.2.2.2.size (fun b hb => by obtain rfl := List.mem_singleton.1 hb; omega)⟩) (fun hNew => ?_)
          clear hK K hHeld
          have hHeld := hNew
          clear hNew
          try simp only [Act.put, List.setIfInBounds_toArray, List.set_cons_zero, List.set_cons_succ]
          clear hst u0 u1 u2 uf ul
          refine wpAnyH_done (by kernel_rfl) ?_ _
          obtain ⟨hsx, htx⟩ := sto_reads (w' := wst_9) HSx.out.1 HSx.out.2.2 HSx.out.2.1 (fun b h1 h2 => by
            have h3 := HBx.out.size
            have h4 := hc8.size
            exact ((hc9.block b (by omega) (fun h => by have h1 := List.mem_singleton.1 h; omega)).trans (hc8.block b (by omega) (fun h => by have h1 := List.mem_singleton.1 h; omega))).trans (HBx.out.block b h2))
          obtain ⟨hsy, hty⟩ := sto_reads (w' := wst_9) HSy.out.1 HSy.out.2.2 HSy.out.2.1 (fun b h1 h2 => by
            have h3 := HBy.out.size
            have h4 := hc8.size
            exact ((hc9.block b (by omega) (fun h => by have h1 := List.mem_singleton.1 h; omega)).trans (hc8.block b (by omega) (fun h => by have h1 := List.mem_singleton.1 h; omega))).trans (HBy.out.block b h2))
          have v90' := hc9.cell v80 (fun h => by have h1 := List.mem_singleton.1 h; simp only at h1; omega)
          have v91' := hc9.cell v81 (fun h => by have h1 := List.mem_singleton.1 h; simp only at h1; omega)
          go_wp2_with fail
          go_meet
          exact ⟨_, _, A1, A2, B1, B2, c1, c2, d1, d2, rfl, rfl, v90', v91', v90, v91, hsx, htx, hsy, hty, ex_trans HHB0.out hHeld.2.2.2.2.2.2⟩
        · go_simp
          generalize hwa : World.alloc w22 _ = wa_5
          have hba : Below w22.heap.size w22 wa_5 := by rw [← hwa]; exact (Below.refl _ _).alloc (Nat.le_refl _) _
          have hsz_5 : wa_5.heap.size ≤ w22.heap.size + 1 := by rw [← hwa]; simp
          have hsz2_5 : w22.heap.size + 1 ≤ wa_5.heap.size := by rw [← hwa]; simp
          have HBx := Lib.hid (HBx.out.trans (hba.mono HBx.out.size))
          have HBy := Lib.hid (HBy.out.trans (hba.mono HBy.out.size))
          have HD8 := Lib.hid (show wa_5.heap[w22.heap.size]? = some (.cells #[.slice none 0 0, .slice none 0 0, .int .i64 0] 31 (0, 0)) by rw [← hwa]; exact hp_new rfl)
          refine hK.out _ _ (by (try dsimp only); exact ⟨keep_cell hba hHeld.1, keep_cell hba hHeld.2.1, keep_cell hba hHeld.2.2.1, keep_cell hba hHeld.2.2.2.1, keep_cell hba hHeld.2.2.2.2.1, keep_cell hba hHeld.2.2.2.2.2.1, ex_trans hHeld.2.2.2.2.2.2 hba⟩) (fun hNew => ?_)
          clear hK K hHeld
          have hHeld := hNew
          clear hNew
          try simp only [Act.put, List.setIfInBounds_toArray, List.set_cons_zero, List.set_cons_succ]
          clear hwa hba
          refine held_one 6 (by kernel_rfl) rfl (fun K hK => ?_)
          go_simp
          generalize hwa : World.alloc wa_5 _ = wa_6
          have hba : Below wa_5.heap.size wa_5 wa_6 := by rw [← hwa]; exact (Below.refl _ _).alloc (Nat.le_refl _) _
          have hsz_6 : wa_6.heap.size ≤ wa_5.heap.size + 1 := by rw [← hwa]; simp
          have hsz2_6 : wa_5.heap.size + 1 ≤ wa_6.heap.size := by rw [← hwa]; simp
          have HBx := Lib.hid (HBx.out.trans (hba.mono HBx.out.size))
          have HBy := Lib.hid (HBy.out.trans (hba.mono HBy.out.size))
          have HD8 := Lib.hid (below_keep hba HD8.out)
          have HD7 := Lib.hid (show wa_6.heap[wa_5.heap.size]? = some (.cells #[.slice none 0 0, .slice none 0 0, .int .i64 0] 31 (0, 0)) by rw [← hwa]; exact hp_new rfl)
          refine hK.out _ _ (by (try dsimp only); exact ⟨keep_cell hba hHeld.1, keep_cell hba hHeld.2.1, keep_cell hba hHeld.2.2.1, keep_cell hba hHeld.2.2.2.1, keep_cell hba hHeld.2.2.2.2.1, keep_cell hba hHeld.2.2.2.2.2.1, ex_trans hHeld.2.2.2.2.2.2 hba⟩) (fun hNew => ?_)
          clear hK K hHeld
          have hHeld := hNew
          clear hNew
          try simp only [Act.put, List.setIfInBounds_toArray, List.set_cons_zero, List.set_cons_succ]
          clear hwa hba
          have u0 := blk_cell? HD7.out 0
          have u1 := blk_cell? HD7.out 1
          have u2 := blk_cell? HD7.out 2
          have uf := blk_free HD7.out
          have ul := blk_lt HD7.out
          simp only [List.getElem?_toArray, List.getElem?_cons_zero, List.getElem?_cons_succ] at u0 u1 u2
          refine held_one 8 (by kernel_rfl) rfl (fun K hK => ?_)
          go_simp
          generalize hst : World.setCell (World.setCell (World.setCell wa_6 _ _) _ _) _ _ = wst_8
          have hc8 : Chg [wa_5.heap.size] wa_6 wst_8 := by rw [← hst]; exact (((Chg.of_below _ (Below.refl _ _)).set (by simp) _).set (by simp) _).set (by simp) _
          have v80 : wst_8.cell? ⟨wa_5.heap.size, 0, none⟩ = some (.slice A1 x.schema.length c1) := by subst hst; go_simp
          have v81 : wst_8.cell? ⟨wa_5.heap.size, 1, none⟩ = some (.slice B1 x.files.length d1) := by subst hst; go_simp
          refine hK.out _ _ (by (try dsimp only); exact ⟨hc8.cell hHeld.1 (fun h => by have h1 := List.mem_singleton.1 h; simp only at h1; omega), hc8.cell hHeld.2.1 (fun h => by have h1 := List.mem_singleton.1 h; simp only at h1; omega), hc8.cell hHeld.2.2.1 (fun h => by have h1 := List.mem_singleton.1 h; simp only at h1; omega), hc8.cell hHeld.2.2.2.1 (fun h => by have h1 := List.mem_singleton.1 h; simp only at h1; omega), hc8.cell hHeld.2.2.2.2.1 (fun h => by have h1 := List.mem_singleton.1 h; simp only at h1; omega), hc8.cell hHeld.2.2.2.2.2.1 (fun h => by have h1 := List.mem_singleton.1 h; simp only at h1; omega), Below.mark hHeld.2.2.2.2.2.2 hc8 hHeld.2.2.2.2.2.2.size (fun b hb => by obtain rfl := List.mem_singleton.1 hb; omega)⟩) (fun hNew => ?_)
          clear hK K hHeld
          have hHeld := hNew
          clear hNew
          try simp only [Act.put, List.setIfInBounds_toArray, List.set_cons_zero, List.set_cons_succ]
          clear hst u0 u1 u2 uf ul
          have HD8 := Lib.hid (hc8.keepb HD8.out (fun h => by have h1 := List.mem_singleton.1 h; omega))
          have u0 := blk_cell? HD8.out 0
          have u1 := blk_cell? HD8.out 1
          have u2 := blk_cell? HD8.out 2
          have uf := blk_free HD8.out
          have ul := blk_lt HD8.out
          simp only [List.getElem?_toArray, List.getElem?_cons_zero, List.getElem?_cons_succ] at u0 u1 u2
          refine held_one 9 (by kernel_rfl) rfl (fun K hK => ?_)
          go_simp
          generalize hst : World.setCell (World.setCell (World.setCell wst_8 _ _) _ _) _ _ = wst_9
          have hc9 : Chg [w22.heap.size] wst_8 wst_9 := by rw [← hst]; exact (((Chg.of_below _ (Below.refl _ _)).set (by simp) _).set (by simp) _).set (by simp) _
          have v90 : wst_9.cell? ⟨w22.heap.size, 0, none⟩ = some (.slice A2 y.schema.length c2) := by subst hst; go_simp
          have v91 : wst_9.cell? ⟨w22.heap.size, 1, none⟩ = some (.slice B2 y.files.length d2) := by subst hst; go_simp
          refine hK.out _ _ (by (try dsimp only); exact ⟨hc9.cell hHeld.1 (fun h => by have h1 := List.mem_singleton.1 h; simp only at h1; omega), hc9.cell hHeld.2.1 (fun h => by have h1 := List.mem_singleton.1 h; simp only at h1; omega), hc9.cell hHeld.2.2.1 (fun h => by have h1 := List.mem_singleton.1 h; simp only at h1; omega), hc9.cell hHeld.2.2.2.1 (fun h => by have h1 := List.mem_singleton.1 h; simp only at h1; omega), hc9.cell hHeld.2.2.2.2.1 (fun h => by have h1 := List.mem_singleton.1 h; simp only at h1; omega), hc9.cell hHeld.2.2.2.2.2.1 (fun h => by have h1 := List.mem_singleton.1 h; simp only at h1; omega), Below.mark hHeld.2.2.2.2.2.2 hc9 hHeld.2.2.2.2.2.2.size (fun b hb => by obtain rfl := List.mem_singleton.1 hb; omega)⟩) (fun hNew => ?_)
          clear hK K hHeld
          have hHeld := hNew
          clear hNew
          try simp only [Act.put, List.setIfInBounds_toArray, List.set_cons_zero, List.set_cons_succ]
          clear hst u0 u1 u2 uf ul
          refine wpAnyH_done (by kernel_rfl) ?_ _
          obtain ⟨hsx, htx⟩ := sto_reads (w' := wst_9) HSx.out.1 HSx.out.2.2 HSx.out.2.1 (fun b h1 h2 => by
            have h3 := HBx.out.size
            have h4 := hc8.size
            exact ((hc9.block b (by omega) (fun h => by have h1 := List.mem_singleton.1 h; omega)).trans (hc8.block b (by omega) (fun h => by have h1 := List.mem_singleton.1 h; omega))).trans (HBx.out.block b h2))
          obtain ⟨hsy, hty⟩ := sto_reads (w' := wst_9) HSy.out.1 HSy.out.2.2 HSy.out.2.1 (fun b h1 h2 => by
            have h3 := HBy.out.size
            have h4 := hc8.size
            exact ((hc9.block b (by omega) (fun h => by have h1 := List.mem_singleton.1 h; omega)).trans (hc8.block b (by omega) (fun h => by have h1 := List.mem_singleton.1 h; omega))).trans (HBy.out.block b h2))
          have v90' := hc9.cell v80 (fun h => by have h1 := List.mem_singleton.1 h; simp only at h1; omega)
          have v91' := hc9.cell v81 (fun h => by have h1 := List.mem_singleton.1 h; simp only at h1; omega)
          go_wp2_with fail
          go_meet
          exact ⟨_, _, A1, A2, B1, B2, c1, c2, d1, d2, rfl, rfl, v90', v91', v90, v91, hsx, htx, hsy, hty, ex_trans HHB0.out hHeld.2.2.2.2.2.2⟩
      · go_simp
        generalize hwa : World.alloc w21 _ = wa_7
        have hba : Below w21.heap.size w21 wa_7 := by rw [← hwa]; exact (Below.refl _ _).alloc (Nat.le_refl _) _
        have hsz_7 : wa_7.heap.size ≤ w21.heap.size + 1 := by rw [← hwa]; simp
        have hsz2_7 : w21.heap.size + 1 ≤ wa_7.heap.size := by rw [← hwa]; simp
        have HBx := Lib.hid (HBx.out.trans (hba.mono HBx.out.size))
        have HD7 := Lib.hid (show wa_7.heap[w21.heap.size]? = some (.cells #[.slice none 0 0, .slice none 0 0, .int .i64 0] 31 (0, 0)) by rw [← hwa]; exact hp_new rfl)
        refine hK.out _ _ (by (try dsimp only); exact ⟨keep_cell hba hHeld.1, keep_cell hba hHeld.2.1, keep_cell hba hHeld.2.2.1, keep_cell hba hHeld.2.2.2.1, keep_cell hba hHeld.2.2.2.2.1, keep_cell hba hHeld.2.2.2.2.2.1, ex_trans hHeld.2.2.2.2.2.2 hba⟩) (fun hNew => ?_)
        clear hK K hHeld
        have hHeld := hNew
        clear hNew
        try simp only [Act.put, List.setIfInBounds_toArray, List.set_cons_zero, List.set_cons_succ]
        clear hwa hba
        refine held_two 5 7 (by kernel_rfl) rfl rfl (fun K hK => ?_) (fun K hK => ?_)
        · go_simp
          go_at_call 52
          refine (HVb.out _ (ex_trans HHB0.out hHeld.2.2.2.2.2.2)).mono ?_; rintro e w28 ⟨A2, c2, B2, d2, X2, rfl, hF, hXa, hXb, hXc, hR, hb8⟩
          have hsz_8 : wa_7.heap.size ≤ w28.heap.size := hb8.size
          have HBx := Lib.hid (HBx.out.trans (hb8.mono HBx.out.size))
          have HD7 := Lib.hid (below_keep hb8 HD7.out)
          have HSy := Lib.hid (And.intro hF (And.intro hXb hR))
          have HBy := Lib.hid (Below.refl w28.heap.size w28)
          go_wp2_with fail
          refine hK.out _ _ (by (try dsimp only); exact ⟨keep_cell hb8 hHeld.1, keep_cell hb8 hHeld.2.1, keep_cell hb8 hHeld.2.2.1, keep_cell hb8 hHeld.2.2.2.1, keep_cell hb8 hHeld.2.2.2.2.1, keep_cell hb8 hHeld.2.2.2.2.2.1, ex_trans hHeld.2.2.2.2.2.2 hb8⟩) (fun hNew => ?_)
          clear hK K hHeld
          have hHeld := hNew
          clear hNew
          try simp only [Act.put, List.setIfInBounds_toArray, List.set_cons_zero, List.set_cons_succ]
          clear hF hXa hXb hXc hR hb8
          refine held_one 7 (by kernel_rfl) rfl (fun K hK => ?_)
          go_simp
          generalize hwa : World.alloc w28 _ = wa_9
          have hba : Below w28.heap.size w28 wa_9 := by rw [← hwa]; exact (Below.refl _ _).alloc (Nat.le_refl _) _
          have hsz_9 : wa_9.heap.size ≤ w28.heap.size + 1 := by rw [← hwa]; simp
          have hsz2_9 : w28.heap.size + 1 ≤ wa_9.heap.size := by rw [← hwa]; simp
          have HBx := Lib.hid (HBx.out.trans (hba.mono HBx.out.size))
          have HBy := Lib.hid (HBy.out.trans (hba.mono HBy.out.size))
          have HD7 := Lib.hid (below_keep hba HD7.out)
          have HD8 := Lib.hid (show wa_9.heap[w28.heap.size]? = some (.cells #[.slice none 0 0, .slice none 0 0, .int .i64 0] 31 (0, 0)) by rw [← hwa]; exact hp_new rfl)
          refine hK.out _ _ (by (try dsimp only); exact ⟨keep_cell hba hHeld.1, keep_cell hba hHeld.2.1, keep_cell hba hHeld.2.2.1, keep_cell hba hHeld.2.2.2.1, keep_cell hba hHeld.2.2.2.2.1, keep_cell hba hHeld.2.2.2.2.2.1, ex_trans hHeld.2.2.2.2.2.2 hba⟩) (fun hNew => ?_)
          clear hK K hHeld
          have hHeld := hNew
          clear hNew
          try simp only [Act.put, List.setIfInBounds_toArray, List.set_cons_zero, List.set_cons_succ]
          clear hwa hba
          have u0 := blk_cell? HD7.out 0
          have u1 := blk_cell? HD7.out 1
          have u2 := blk_cell? HD7.out 2
          have uf := blk_free HD7.out
          have ul := blk_lt HD7.out
          simp only [List.getElem?_toArray, List.getElem?_cons_zero, List.getElem?_cons_succ] at u0 u1 u2
          refine held_one 8 (by kernel_rfl) rfl (fun K hK => ?_)
          go_simp
          generalize hst : World.setCell (World.setCell (World.setCell wa_9 _ _) _ _) _ _ = wst_8
          have hc8 : Chg [w21.heap.size] wa_9 wst_8 := by rw [← hst]; exact (((Chg.of_below _ (Below.refl _ _)).set (by simp) _).set (by simp) _).set (by simp) _
          have v80 : wst_8.cell? ⟨w21.heap.size, 0, none⟩ = some (.slice A1 x.schema.length c1) := by subst hst; go_simp
          have v81 : wst_8.cell? ⟨w21.heap.size, 1, none⟩ = some (.slice B1 x.files.length d1) := by subst hst; go_simp
          refine hK.out _ _ (by (try dsimp only); exact ⟨hc8.cell hHeld.1 (fun h => by have h1 := List.mem_singleton.1 h; simp only at h1; omega), hc8.cell hHeld.2.1 (fun h => by have h1 := List.mem_singleton.1 h; simp only at h1; omega), hc8.cell hHeld.2.2.1 (fun h => by have h1 := List.mem_singleton.1 h; simp only at h1; omega), hc8.cell hHeld.2.2.2.1 (fun h => by have h1 := List.mem_singleton.1 h; simp only at h1; omega), hc8.cell hHeld.2.2.2.2.1 (fun h => by have h1 := List.mem_singleton.1 h; simp only at h1; omega), hc8.cell hHeld.2.2.2.2.2.1 (fun h => by have h1 := List.mem_singleton.1 h; simp only at h1; omega), Below.mark hHeld.2.2.2.2.2.2 hc8 hHeld.2.2.2.2.2.2.size (fun b hb => by obtain rfl := List.mem_singleton.1 hb; omega)⟩) (fun hNew => ?_)
          clear hK K hHeld
          have hHeld := hNew
          clear hNew
          try simp only [Act.put, List.setIfInBounds_toArray, List.set_cons_zero, List.set_cons_succ]
          clear hst u0 u1 u2 uf ul
          have HD8 := Lib.hid (hc8.keepb HD8.out (fun h => by have h1 := List.mem_singleton.1 h; omega))
          have u0 := blk_cell? HD8.out 0
          have u1 := blk_cell? HD8.out 1
          have u2 := blk_cell? HD8.out 2
          have uf := blk_free HD8.out
          have ul := blk_lt HD8.out
          simp only [List.getElem?_toArray, List.getElem?_cons_zero, List.getElem?_cons_succ] at u0 u1 u2
          refine held_one 9 (by kernel_rfl) rfl (fun K hK => ?_)
          go_simp
          generalize hst : World.setCell (World.setCell (World.setCell wst_8 _ _) _ _) _ _ = wst_9
          have hc9 : Chg [w28.heap.size] wst_8 wst_9 := by rw [← hst]; exact (((Chg.of_below _ (Below.refl _ _)).set (by simp) _).set (by simp) _).set (by simp) _
          have v90 : wst_9.cell? ⟨w28.heap.size, 0, none⟩ = some (.slice A2 y.schema.length c2) := by subst hst; go_simp
          have v91 : wst_9.cell? ⟨w28.heap.size, 1, none⟩ = some (.slice B2 y.files.length d2) := by subst hst; go_simp
          refine hK.out _ _ (by (try dsimp only); exact ⟨hc9.cell hHeld.1 (fun h => by have h1 := List.mem_singleton.1 h; simp only at h1; omega), hc9.cell hHeld.2.1 (fun h => by have h1 := List.mem_singleton.1 h; simp only at h1; omega), hc9.cell hHeld.2.2.1 (fun h => by have h1 := List.mem_singleton.1 h; simp only at h1; omega), hc9.cell hHeld.2.2.2.1 (fun h => by have h1 := List.mem_singleton.1 h; simp only at h1; omega), hc9.cell hHeld.2.2.2.2.1 (fun h => by have h1 := List.mem_singleton.1 h; simp only at h1; omega), hc9.cell hHeld.2.2.2.2.2.1 (fun h => by have h1 := List.mem_singleton.1 h; simp only at h1; omega), Below.mark hHeld.2.2.2.2.2.2 hc9 hHeld.2.2.2.2.2.2.size (fun b hb => by obtain rfl := List.mem_singleton.1 hb; omega)⟩) (fun hNew => ?_)
          clear hK K hHeld
          have hHeld := hNew
          clear hNew
          try simp only [Act.put, List.setIfInBounds_toArray, List.set_cons_zero, List.set_cons_succ]
          clear hst u0 u1 u2 uf ul
          refine wpAnyH_done (by kernel_rfl) ?_ _
          obtain ⟨hsx, htx⟩ := sto_reads (w' := wst_9) HSx.out.1 HSx.out.2.2 HSx.out.2.1 (fun b h1 h2 => by
            have h3 := HBx.out.size
            have h4 := hc8.size
            exact ((hc9.block b (by omega) (fun h => by have h1 := List.mem_singleton.1 h; omega)).trans (hc8.block b (by omega) (fun h => by have h1 := List.mem_singleton.1 h; omega))).trans (HBx.out.block b h2))
          obtain ⟨hsy, hty⟩ := sto_reads (w' := wst_9) HSy.out.1 HSy.out.2.2 HSy.out.2.1 (fun b h1 h2 => by
            have h3 := HBy.out.size
            have h4 := hc8.size
            exact ((hc9.block b (by omega) (fun h => by have h1 := List.mem_singleton.1 h; omega)).trans (hc8.block b (by omega) (fun h => by have h1 := List.mem_singleton.1 h; omega))).trans (HBy.out.block b h2))
          have v90' := hc9.cell v80 (fun h => by have h1 := List.mem_singleton.1 h; simp only at h1; omega)
          have v91' := hc9.cell v81 (fun h => by have h1 := List.mem_singleton.1 h; simp only at h1; omega)
          go_wp2_with fail
          go_meet
          exact ⟨_, _, A1, A2, B1, B2, c1, c2, d1, d2, rfl, rfl, v90', v91', v90, v91, hsx, htx, hsy, hty, ex_trans HHB0.out hHeld.2.2.2.2.2.2⟩
        · go_simp
          generalize hwa : World.alloc wa_7 _ = wa_10
          have hba : Below wa_7.heap.size wa_7 wa_10 := by rw [← hwa]; exact (Below.refl _ _).alloc (Nat.le_refl _) _
          have hsz_10 : wa_10.heap.size ≤ wa_7.heap.size + 1 := by rw [← hwa]; simp
          have hsz2_10 : wa_7.heap.size + 1 ≤ wa_10.heap.size := by rw [← hwa]; simp
          have HBx := Lib.hid (HBx.out.trans (hba.mono HBx.out.size))
          have HD7 := Lib.hid (below_keep hba HD7.out)
          have HD8 := Lib.hid (show wa_10.heap[wa_7.heap.size]? = some (.cells #[.slice none 0 0, .slice none 0 0, .int .i64 0] 31 (0, 0)) by rw [← hwa]; exact hp_new rfl)
          refine hK.out _ _ (by (try dsimp only); exact ⟨keep_cell hba hHeld.1, keep_cell hba hHeld.2.1, keep_cell hba hHeld.2.2.1, keep_cell hba hHeld.2.2.2.1, keep_cell hba hHeld.2.2.2.2.1, keep_cell hba hHeld.2.2.2.2.2.1, ex_trans hHeld.2.2.2.2.2.2 hba⟩) (fun hNew => ?_)
          clear hK K hHeld
          have hHeld := hNew
          clear hNew
          try simp only [Act.put, List.setIfInBounds_toArray, List.set_cons_zero, List.set_cons_succ]
          clear hwa hba
          refine held_one 5 (by kernel_rfl) rfl (fun K hK => ?_)
          go_simp
          go_at_call 52
          refine (HVb.out _ (ex_trans HHB0.out hHeld.2.2.2.2.2.2)).mono ?_; rintro e w31 ⟨A2, c2, B2, d2, X2, rfl, hF, hXa, hXb, hXc, hR, hb11⟩
          have hsz_11 : wa_10.heap.size ≤ w31.heap.size := hb11.size
          have HBx := Lib.hid (HBx.out.trans (hb11.mono HBx.out.size))
          have HD7 := Lib.hid (below_keep hb11 HD7.out)
          have HD8 := Lib.hid (below_keep hb11 HD8.out)
          have HSy := Lib.hid (And.intro hF (And.intro hXb hR))
          have HBy := Lib.hid (Below.refl w31.heap.size w31)
          go_wp2_with fail
          refine hK.out _ _ (by (try dsimp only); exact ⟨keep_cell hb11 hHeld.1, keep_cell hb11 hHeld.2.1, keep_cell hb11 hHeld.2.2.1, keep_cell hb11 hHeld.2.2.2.1, keep_cell hb11 hHeld.2.2.2.2.1, keep_cell hb11 hHeld.2.2.2.2.2.1, ex_trans hHeld.2.2.2.2.2.2 hb11⟩) (fun hNew => ?_)
          clear hK K hHeld
          have hHeld := hNew
          clear hNew
          try simp only [Act.put, List.setIfInBounds_toArray, List.set_cons_zero, List.set_cons_succ]
          clear hF hXa hXb hXc hR hb11
          have u0 := blk_cell? HD7.out 0
          have u1 := blk_cell? HD7.out 1
          have u2 := blk_cell? HD7.out 2
          have uf := blk_free HD7.out
          have ul := blk_lt HD7.out
          simp only [List.getElem?_toArray, List.getElem?_cons_zero, List.getElem?_cons_succ] at u0 u1 u2
          refine held_one 8 (by kernel_rfl) rfl (fun K hK => ?_)
          go_simp
          generalize hst : World.setCell (World.setCell (World.setCell w31 _ _) _ _) _ _ = wst_8
          have hc8 : Chg [w21.heap.size] w31 wst_8 := by rw [← hst]; exact (((Chg.of_below _ (Below.refl _ _)).set (by simp) _).set (by simp) _).set (by simp) _
          have v80 : wst_8.cell? ⟨w21.heap.size, 0, none⟩ = some (.slice A1 x.schema.length c1) := by subst hst; go_simp
          have v81 : wst_8.cell? ⟨w21.heap.size, 1, none⟩ = some (.slice B1 x.files.length d1) := by subst hst; go_simp
          refine hK.out _ _ (by (try dsimp only); exact ⟨hc8.cell hHeld.1 (fun h => by have h1 := List.mem_singleton.1 h; simp only at h1; omega), hc8.cell hHeld.2.1 (fun h => by have h1 := List.mem_singleton.1 h; simp only at h1; omega), hc8.cell hHeld.2.2.1 (fun h => by have h1 := List.mem_singleton.1 h; simp only at h1; omega), hc8.cell hHeld.2.2.2.1 (fun h => by have h1 := List.mem_singleton.1 h; simp only at h1; omega), hc8.cell hHeld.2.2.2.2.1 (fun h => by have h1 := List.mem_singleton.1 h; simp only at h1; omega), hc8.cell hHeld.2.2.2.2.2.1 (fun h => by have h1 := List.mem_singleton.1 h; simp only at h1; omega), Below.mark hHeld.2.2.2.2.2.2 hc8 hHeld.2.2.2.2.2.2.size (fun b hb => by obtain rfl := List.mem_singleton.1 hb; omega)⟩) (fun hNew => ?_)
          clear hK K hHeld
          have hHeld := hNew
          clear hNew
          try simp only [Act.put, List.setIfInBounds_toArray, List.set_cons_zero, List.set_cons_succ]
          clear hst u0 u1 u2 uf ul
          have HD8 := Lib.hid (hc8.keepb HD8.out (fun h => by have h1 := List.mem_singleton.1 h; omega))
          have u0 := blk_cell? HD8.out 0
          have u1 := blk_cell? HD8.out 1
          have u2 := blk_cell? HD8.out 2
          have uf := blk_free HD8.out
          have ul := blk_lt HD8.out
          simp only [List.getElem?_toArray, List.getElem?_cons_zero, List.getElem?_cons_succ] at u0 u1 u2
          refine held_one 9 (by kernel_rfl) rfl (fun K hK => ?_)
          go_simp
          generalize hst : World.setCell (World.setCell (World.setCell wst_8 _ _) _ _) _ _ = wst_9
          have hc9 : Chg [wa_7.heap.size] wst_8 wst_9 := by rw [← hst]; exact (((Chg.of_below _ (Below.refl _ _)).set (by simp) _).set (by simp) _).set (by simp) _
          have v90 : wst_9.cell? ⟨wa_7.heap.size, 0, none⟩ = some (.slice A2 y.schema.length c2) := by subst hst; go_simp
          have v91 : wst_9.cell? ⟨wa_7.heap.size, 1, none⟩ = some (.slice B2 y.files.length d2) := by subst hst; go_simp
          refine hK.out _ _ (by (try dsimp only); exact ⟨hc9.cell hHeld.1 (fun h => by have h1 := List.mem_singleton.1 h; simp only at h1; omega), hc9.cell hHeld.2.1 (fun h => by have h1 := List.mem_singleton.1 h; simp only at h1; omega), hc9.cell hHeld.2.2.1 (fun h => by have h1 := List.mem_singleton.1 h; simp only at h1; omega), hc9.cell hHeld.2.2.2.1 (fun h => by have h1 := List.mem_singleton.1 h; simp only at h1; omega), hc9.cell hHeld.2.2.2.2.1 (fun h => by have h1 := List.mem_singleton.1 h; simp only at h1; omega), hc9.cell hHeld.2.2.2.2.2.1 (fun h => by have h1 := List.mem_singleton.1 h; simp only at h1; omega), Below.mark hHeld.2.2.2.2.2.2 hc9 hHeld.2.2.2.2.2.2.size (fun b hb => by obtain rfl := List.mem_singleton.1 hb; omega)⟩) (fun hNew => ?_)
          clear hK K hHeld
          have hHeld := hNew
          clear hNew
          try simp only [Act.put, List.setIfInBounds_toArray, List.set_cons_zero, List.set_cons_succ]
          clear hst u0 u1 u2 uf ul
          refine wpAnyH_done (by kernel_rfl) ?_ _
          obtain ⟨hsx, htx⟩ := sto_reads (w' := wst_9) HSx.out.1 HSx.out.2.2 HSx.out.2.1 (fun b h1 h2 => by
            have h3 := HBx.out.size
            have h4 := hc8.size
            exact ((hc9.block b (by omega) (fun h => by have h1 := List.mem_singleton.1 h; omega)).trans (hc8.block b (by omega) (fun h => by have h1 := List.mem_singleton.1 h; omega))).trans (HBx.out.block b h2))
          obtain ⟨hsy, hty⟩ := sto_reads (w' := wst_9) HSy.out.1 HSy.out.2.2 HSy.out.2.1 (fun b h1 h2 => by
            have h3 := HBy.out.size
            have h4 := hc8.size
            exact ((hc9.block b (by omega) (fun h => by have h1 := List.mem_singleton.1 h; omega)).trans (hc8.block b (by omega) (fun h => by have h1 := List.mem_singleton.1 h; omega))).trans (HBy.out.block b h2))
          have v90' := hc9.cell v80 (fun h => by have h1 := List.mem_singleton.1 h; simp only at h1; omega)
          have v91' := hc9.cell v81 (fun h => by have h1 := List.mem_singleton.1 h; simp only at h1; omega)
          go_wp2_with fail
          go_meet
          exact ⟨_, _, A1, A2, B1, B2, c1, c2, d1, d2, rfl, rfl, v90', v91', v90, v91, hsx, htx, hsy, hty, ex_trans HHB0.out hHeld.2.2.2.2.2.2⟩
      · go_simp
        generalize hwa : World.alloc w21 _ = wa_12
        have hba : Below w21.heap.size w21 wa_12 := by rw [← hwa]; exact (Below.refl _ _).alloc (Nat.le_refl _) _
        have hsz_12 : wa_12.heap.size ≤ w21.heap.size + 1 := by rw [← hwa]; simp
        have hsz2_12 : w21.heap.size + 1 ≤ wa_12.heap.size := by rw [← hwa]; simp
        have HBx := Lib.hid (HBx.out.trans (hba.mono HBx.out.size))
        have HD8 := Lib.hid (show wa_12.heap[w21.heap.size]? = some (.cells #[.slice none 0 0, .slice none 0 0, .int .i64 0] 31 (0, 0)) by rw [← hwa]; exact hp_new rfl)
        refine hK.out _ _ (by (try dsimp only); exact ⟨keep_cell hba hHeld.1, keep_cell hba hHeld.2.1, keep_cell hba hHeld.2.2.1, keep_cell hba hHeld.2.2.2.1, keep_cell hba hHeld.2.2.2.2.1, keep_cell hba hHeld.2.2.2.2.2.1, ex_trans hHeld.2.2.2.2.2.2 hba⟩) (fun hNew => ?_)
        clear hK K hHeld
        have hHeld := hNew
        clear hNew
        try simp only [Act.put, List.setIfInBounds_toArray, List.set_cons_zero, List.set_cons_succ]
        clear hwa hba
        refine held_two 5 6 (by kernel_rfl) rfl rfl (fun K hK => ?_) (fun K hK => ?_)
        · go_simp
          go_at_call 52
          refine (HVb.out _ (ex_trans HHB0.out hHeld.2.2.2.2.2.2)).mono ?_; rintro e w33 ⟨A2, c2, B2, d2, X2, rfl, hF, hXa, hXb, hXc, hR, hb13⟩
          have hsz_13 : wa_12.heap.size ≤ w33.heap.size := hb13.size
          have HBx := Lib.hid (HBx.out.trans (hb13.mono HBx.out.size))
          have HD8 := Lib.hid (below_keep hb13 HD8.out)
          have HSy := Lib.hid (And.intro hF (And.intro hXb hR))
          have HBy := Lib.hid (Below.refl w33.heap.size w33)
          go_wp2_with fail
          refine hK.out _ _ (by (try dsimp only); exact ⟨keep_cell hb13 hHeld.1, keep_cell hb13 hHeld.2.1, keep_cell hb13 hHeld.2.2.1, keep_cell hb13 hHeld.2.2.2.1, keep_cell hb13 hHeld.2.2.2.2.1, keep_cell hb13 hHeld.2.2.2.2.2.1, ex_trans hHeld.2.2.2.2.2.2 hb13⟩) (fun hNew => ?_)
          clear hK K hHeld
          have hHeld := hNew
          clear hNew
          try simp only [Act.put, List.setIfInBounds_toArray, List.set_cons_zero, List.set_cons_succ]
          clear hF hXa hXb hXc hR hb13
          refine held_one 6 (by kernel_rfl) rfl (fun K hK => ?_)
          go_simp
          generalize hwa : World.alloc w33 _ = wa_14
          have hba : Below w33.heap.size w33 wa_14 := by rw [← hwa]; exact (Below.refl _ _).alloc (Nat.le_refl _) _
          have hsz_14 : wa_14.heap.size ≤ w33.heap.size + 1 := by rw [← hwa]; simp
          have hsz2_14 : w33.heap.size + 1 ≤ wa_14.heap.size := by rw [← hwa]; simp
          have HBx := Lib.hid (HBx.out.trans (hba.mono HBx.out.size))
          have HBy := Lib.hid (HBy.out.trans (hba.mono HBy.out.size))
          have HD8 := Lib.hid (below_keep hba HD8.out)
          have HD7 := Lib.hid (show wa_14.heap[w33.heap.size]? = some (.cells #[.slice none 0 0, .slice none 0 0, .int .i64 0] 31 (0, 0)) by rw [← hwa]; exact hp_new rfl)
          refine hK.out _ _ (by (try dsimp only); exact ⟨keep_cell hba hHeld.1, keep_cell hba hHeld.2.1, keep_cell hba hHeld.2.2.1, keep_cell hba hHeld.2.2.2.1, keep_cell hba hHeld.2.2.2.2.1, keep_cell hba hHeld.2.2.2.2.2.1, ex_trans hHeld.2.2.2.2.2.2 hba⟩) (fun hNew => ?_)
          clear hK K hHeld
          have hHeld := hNew
          clear hNew
          try simp only [Act.put, List.setIfInBounds_toArray, List.set_cons_zero, List.set_cons_succ]
          clear hwa hba
          have u0 := blk_cell? HD7.out 0
          have u1 := blk_cell? HD7.out 1
          have u2 := blk_cell? HD7.out 2
          have uf := blk_free HD7.out
          have ul := blk_lt HD7.out
          simp only [List.getElem?_toArray, List.getElem?_cons_zero, List.getElem?_cons_succ] at u0 u1 u2
          refine held_one 8 (by kernel_rfl) rfl (fun K hK => ?_)
          go_simp
          generalize hst : World.setCell (World.setCell (World.setCell wa_14 _ _) _ _) _ _ = wst_8
          have hc8 : Chg [w33.heap.size] wa_14 wst_8 := by rw [← hst]; exact (((Chg.of_below _ (Below.refl _ _)).set (by simp) _).set (by simp) _).set (by simp) _
          have v80 : wst_8.cell? ⟨w33.heap.size, 0, none⟩ = some (.slice A1 x.schema.length c1) := by subst hst; go_simp
          have v81 : wst_8.cell? ⟨w33.heap.size, 1, none⟩ = some (.slice B1 x.files.length d1) := by subst hst; go_simp
          refine hK.out _ _ (by (try dsimp only); exact ⟨hc8.cell hHeld.1 (fun h => by have h1 := List.mem_singleton.1 h; simp only at h1; omega), hc8.cell hHeld.2.1 (fun h => by have h1 := List.mem_singleton.1 h; simp only at h1; omega), hc8.cell hHeld.2.2.1 (fun h => by have h1 := List.mem_singleton.1 h; simp only at h1; omega), hc8.cell hHeld.2.2.2.1 (fun h => by have h1 := List.mem_singleton.1 h; simp only at h1; omega), hc8.cell hHeld.2.2.2.2.1 (fun h => by have h1 := List.mem_singleton.1 h; simp only at h1; omega), hc8.cell hHeld.2.2.2.2.2.1 (fun h => by have h1 := List.mem_singleton.1 h; simp only at h1; omega), Below.mark hHeld.2.2.2.2.2.2 hc8 hHeld.2.2.2.2.2.2.size (fun b hb => by obtain rfl := List.mem_singleton.1 hb; omega)⟩) (fun hNew => ?_)
          clear hK K hHeld
          have hHeld := hNew
          clear hNew
          try simp only [Act.put, List.setIfInBounds_toArray, List.set_cons_zero, List.set_cons_succ]
          clear hst u0 u1 u2 uf ul
          have HD8 := Lib.hid (hc8.keepb HD8.out (fun h => by have h1 := List.mem_singleton.1 h; omega))
          have u0 := blk_cell? HD8.out 0
          have u1 := blk_cell? HD8.out 1
          have u2 := blk_cell? HD8.out 2
          have uf := blk_free HD8.out
          have ul := blk_lt HD8.out
          simp only [List.getElem?_toArray, List.getElem?_cons_zero, List.getElem?_cons_succ] at u0 u1 u2
          refine held_one 9 (by kernel_rfl) rfl (fun K hK => ?_)
          go_simp
          generalize hst : World.setCell (World.setCell (World.setCell wst_8 _ _) _ _) _ _ = wst_9
          have hc9 : Chg [w21.heap.size] wst_8 wst_9 := by rw [← hst]; exact (((Chg.of_below _ (Below.refl _ _)).set (by simp) _).set (by simp) _).set (by simp) _
          have v90 : wst_9.cell? ⟨w21.heap.size, 0, none⟩ = some (.slice A2 y.schema.length c2) := by subst hst; go_simp
          have v91 : wst_9.cell? ⟨w21.heap.size, 1, none⟩ = some (.slice B2 y.files.length d2) := by subst hst; go_simp
          refine hK.out _ _ (by (try dsimp only); exact ⟨hc9.cell hHeld.1 (fun h => by have h1 := List.mem_singleton.1 h; simp only at h1; omega), hc9.cell hHeld.2.1 (fun h => by have h1 := List.mem_singleton.1 h; simp only at h1; omega), hc9.cell hHeld.2.2.1 (fun h => by have h1 := List.mem_singleton.1 h; simp only at h1; omega), hc9.cell hHeld.2.2.2.1 (fun h => by have h1 := List.mem_singleton.1 h; simp only at h1; omega), hc9.cell hHeld.2.2.2.2.1 (fun h => by have h1 := List.mem_singleton.1 h; simp only at h1; omega), hc9.cell hHeld.2.2.2.2.2.1 (fun h => by have h1 := List.mem_singleton.1 h; simp only at h1; omega), Below.mark hHeld.2.2.2.2.2.2 hc9 hHeld.2.2.2.2.2.2.size (fun b hb => by obtain rfl := List.mem_singleton.1 hb; omega)⟩) (fun hNew => ?_)
          clear hK K hHeld
          have hHeld := hNew
          clear hNew
          try simp only [Act.put, List.setIfInBounds_toArray, List.set_cons_zero, List.set_cons_succ]
          clear hst u0 u1 u2 uf ul
          refine wpAnyH_done (by kernel_rfl) ?_ _
          obtain ⟨hsx, htx⟩ := sto_reads (w' := wst_9) HSx.out.1 HSx.out.2.2 HSx.out.2.1 (fun b h1 h2 => by
            have h3 := HBx.out.size
            have h4 := hc8.size
            exact ((hc9.block b (by omega) (fun h => by have h1 := List.mem_singleton.1 h; omega)).trans (hc8.block b (by omega) (fun h => by have h1 := List.mem_singleton.1 h; omega))).trans (HBx.out.block b h2))
          obtain ⟨hsy, hty⟩ := sto_reads (w' := wst_9) HSy.out.1 HSy.out.2.2 HSy.out.2.1 (fun b h1 h2 => by
            have h3 := HBy.out.size
            have h4 := hc8.size
            exact ((hc9.block b (by omega) (fun h => by have h1 := List.mem_singleton.1 h; omega)).trans (hc8.block b (by omega) (fun h => by have h1 := List.mem_singleton.1 h; omega))).trans (HBy.out.block b h2))
          have v90' := hc9.cell v80 (fun h => by have h1 := List.mem_singleton.1 h; simp only at h1; omega)
          have v91' := hc9.cell v81 (fun h => by have h1 := List.mem_singleton.1 h; simp only at h1; omega)
          go_wp2_with fail
          go_meet
          exact ⟨_, _, A1, A2, B1, B2, c1, c2, d1, d2, rfl, rfl, v90', v91', v90, v91, hsx, htx, hsy, hty, ex_trans HHB0.out hHeld.2.2.2.2.2.2⟩
        · go_simp
          generalize hwa : World.alloc wa_12 _ = wa_15
          have hba : Below wa_12.heap.size wa_12 wa_15 := by rw [← hwa]; exact (Below.refl _ _).alloc (Nat.le_refl _) _
          have hsz_15 : wa_15.heap.size ≤ wa_12.heap.size + 1 := by rw [← hwa]; simp
          have hsz2_15 : wa_12.heap.size + 1 ≤ wa_15.heap.size := by rw [← hwa]; simp
          have HBx := Lib.hid (HBx.out.trans (hba.mono HBx.out.size))
          have HD8 := Lib.hid (below_keep hba HD8.out)
          have HD7 := Lib.hid (show wa_15.heap[wa_12.heap.size]? = some (.cells #[.slice none 0 0, .slice none 0 0, .int .i64 0] 31 (0, 0)) by rw [← hwa]; exact hp_new rfl)
          refine hK.out _ _ (by (try dsimp only); exact ⟨keep_cell hba hHeld.1, keep_cell hba hHeld.2.1, keep_cell hba hHeld.2.2.1, keep_cell hba hHeld.2.2.2.1, keep_cell hba hHeld.2.2.2.2.1, keep_cell hba hHeld.2.2.2.2.2.1, ex_trans hHeld.2.2.2.2.2.2 hba⟩) (fun hNew => ?_)
          clear hK K hHeld
          have hHeld := hNew
          clear hNew
          try simp only [Act.put, List.setIfInBounds_toArray, List.set_cons_zero, List.set_cons_succ]
          clear hwa hba
          refine held_one 5 (by kernel_rfl) rfl (fun K hK => ?_)
          go_simp
          go_at_call 52
          refine (HVb.out _ (ex_trans HHB0.out hHeld.2.2.2.2.2.2)).mono ?_; rintro e w36 ⟨A2, c2, B2, d2, X2, rfl, hF, hXa, hXb, hXc, hR, hb16⟩
          have hsz_16 : wa_15.heap.size ≤ w36.heap.size := hb16.size
          have HBx := Lib.hid (HBx.out.trans (hb16.mono HBx.out.size))
          have HD7 := Lib.hid (below_keep hb16 HD7.out)
          have HD8 := Lib.hid (below_keep hb16 HD8.out)
          have HSy := Lib.hid (And.intro hF (And.intro hXb hR))
          have HBy := Lib.hid (Below.refl w36.heap.size w36)
          go_wp2_with fail
          refine hK.out _ _ (by (try dsimp only); exact ⟨keep_cell hb16 hHeld.1, keep_cell hb16 hHeld.2.1, keep_cell hb16 hHeld.2.2.1, keep_cell hb16 hHeld.2.2.2.1, keep_cell hb16 hHeld.2.2.2.2.1, keep_cell hb16 hHeld.2.2.2.2.2.1, ex_trans hHeld.2.2.2.2.2.2 hb16⟩) (fun hNew => ?_)
          clear hK K hHeld
          have hHeld := hNew
          clear hNew
          try simp only [Act.put, List.setIfInBounds_toArray, List.set_cons_zero, List.set_cons_succ]
          clear hF hXa hXb hXc hR hb16
          have u0 := blk_cell? HD7.out 0
          have u1 := blk_cell? HD7.out 1
          have u2 := blk_cell? HD7.out 2
          have uf := blk_free HD7.out
          have ul := blk_lt HD7.out
          simp only [List.getElem?_toArray, List.getElem?_cons_zero, List.getElem?_cons_succ] at u0 u1 u2
          refine held_one 8 (by kernel_rfl) rfl (fun K hK => ?_)
          go_simp
          generalize hst : World.setCell (World.setCell (World.setCell w36 _ _) _ _) _ _ = wst_8
          have hc8 : Chg [wa_12.heap.size] w36 wst_8 := by rw [← hst]; exact (((Chg.of_below _ (Below.refl _ _)).set (by simp) _).set (by simp) _).set (by simp) _
          have v80 : wst_8.cell? ⟨wa_12.heap.size, 0, none⟩ = some (.slice A1 x.schema.length c1) := by subst hst; go_simp
          have v81 : wst_8.cell? ⟨wa_12.heap.size, 1, none⟩ = some (.slice B1 x.files.length d1) := by subst hst; go_simp
          refine hK.out _ _ (by (try dsimp only); exact ⟨hc8.cell hHeld.1 (fun h => by have h1 := List.mem_singleton.1 h; simp only at h1; omega), hc8.cell hHeld.2.1 (fun h => by have h1 := List.mem_singleton.1 h; simp only at h1; omega), hc8.cell hHeld.2.2.1 (fun h => by have h1 := List.mem_singleton.1 h; simp only at h1; omega), hc8.cell hHeld.2.2.2.1 (fun h => by have h1 := List.mem_singleton.1 h; simp only at h1; omega), hc8.cell hHeld.2.2.2.2.1 (fun h => by have h1 := List.mem_singleton.1 h; simp only at h1; omega), hc8.cell hHeld.2.2.2.2.2.1 (fun h => by have h1 := List.mem_singleton.1 h; simp only at h1; omega), Below.mark hHeld.2.2.2.2.2.2 hc8 hHeld.2.2.2.2.2.2.size (fun b hb => by obtain rfl := List.mem_singleton.1 hb; omega)⟩) (fun hNew => ?_)
          clear hK K hHeld
          have hHeld := hNew
          clear hNew
          try simp only [Act.put, List.setIfInBounds_toArray, List.set_cons_zero, List.set_cons_succ]
          clear hst u0 u1 u2 uf ul
          have HD8 := Lib.hid (hc8.keepb HD8.out (fun h => by have h1 := List.mem_singleton.1 h; omega))
          have u0 := blk_cell? HD8.out 0
          have u1 := blk_cell? HD8.out 1
          have u2 := blk_cell? HD8.out 2
          have uf := blk_free HD8.out
          have ul := blk_lt HD8.out
          simp only [List.getElem?_toArray, List.getElem?_cons_zero, List.getElem?_cons_succ] at u0 u1 u2
          refine held_one 9 (by kernel_rfl) rfl (fun K hK => ?_)
          go_simp
          generalize hst : World.setCell (World.setCell (World.setCell wst_8 _ _) _ _) _ _ = wst_9
          have hc9 : Chg [w21.heap.size] wst_8 wst_9 := by rw [← hst]; exact (((Chg.of_below _ (Below.refl _ _)).set (by simp) _).set (by simp) _).set (by simp) _
          have v90 : wst_9.cell? ⟨w21.heap.size, 0, none⟩ = some (.slice A2 y.schema.length c2) := by subst hst; go_simp
          have v91 : wst_9.cell? ⟨w21.heap.size, 1, none⟩ = some (.slice B2 y.files.length d2) := by subst hst; go_simp
          refine hK.out _ _ (by (try dsimp only); exact ⟨hc9.cell hHeld.1 (fun h => by have h1 := List.mem_singleton.1 h; simp only at h1; omega), hc9.cell hHeld.2.1 (fun h => by have h1 := List.mem_singleton.1 h; simp only at h1; omega), hc9.cell hHeld.2.2.1 (fun h => by have h1 := List.mem_singleton.1 h; simp only at h1; omega), hc9.cell hHeld.2.2.2.1 (fun h => by have h1 := List.mem_singleton.1 h; simp only at h1; omega), hc9.cell hHeld.2.2.2.2.1 (fun h => by have h1 := List.mem_singleton.1 h; simp only at h1; omega), hc9.cell hHeld.2.2.2.2.2.1 (fun h => by have h1 := List.mem_singleton.1 h; simp only at h1; omega), Below.mark hHeld.2.2.2.2.2.2 hc9 hHeld.2.2.2.2.2.2.size (fun b hb => by obtain rfl := List.mem_singleton.1 hb; omega)⟩) (fun hNew => ?_)
          clear hK K hHeld
          have hHeld := hNew
          clear hNew
          try simp only [Act.put, List.setIfInBounds_toArray, List.set_cons_zero, List.set_cons_succ]
          clear hst u0 u1 u2 uf ul
          refine wpAnyH_done (by kernel_rfl) ?_ _
          obtain ⟨hsx, htx⟩ := sto_reads (w' := wst_9) HSx.out.1 HSx.out.2.2 HSx.out.2.1 (fun b h1 h2 => by
            have h3 := HBx.out.size
            have h4 := hc8.size
            exact ((hc9.block b (by omega) (fun h => by have h1 := List.mem_singleton.1 h; omega)).trans (hc8.block b (by omega) (fun h => by have h1 := List.mem_singleton.1 h; omega))).trans (HBx.out.block b h2))
          obtain ⟨hsy, hty⟩ := sto_reads (w' := wst_9) HSy.out.1 HSy.out.2.2 HSy.out.2.1 (fun b h1 h2 => by
            have h3 := HBy.out.size
            have h4 := hc8.size
            exact ((hc9.block b (by omega) (fun h => by have h1 := List.mem_singleton.1 h; omega)).trans (hc8.block b (by omega) (fun h => by have h1 := List.mem_singleton.1 h; omega))).trans (HBy.out.block b h2))
          have v90' := hc9.cell v80 (fun h => by have h1 := List.mem_singleton.1 h; simp only at h1; omega)
          have v91' := hc9.cell v81 (fun h => by have h1 := List.mem_singleton.1 h; simp only at h1; omega)
          go_wp2_with fail
          go_meet
          exact ⟨_, _, A1, A2, B1, B2, c1, c2, d1, d2, rfl, rfl, v90', v91', v90, v91, hsx, htx, hsy, hty, ex_trans HHB0.out hHeld.2.2.2.2.2.2⟩
    · go_simp
      generalize hwa : World.alloc Wd _ = wa_17
      have hba : Below Wd.heap.size Wd wa_17 := by rw [← hwa]; exact (Below.refl _ _).alloc (Nat.le_refl _) _
      have hsz_17 : wa_17.heap.size ≤ Wd.heap.size + 1 := by rw [← hwa]; simp
      have hsz2_17 : Wd.heap.size + 1 ≤ wa_17.heap.size := by rw [← hwa]; simp
      have HD7 := Lib.hid (show wa_17.heap[Wd.heap.size]? = some (.cells #[.slice none 0 0, .slice none 0 0, .int .i64 0] 31 (0, 0)) by rw [← hwa]; exact hp_new rfl)
      refine hK.out _ _ (by (try dsimp only); exact ⟨keep_cell hba hHeld.1, keep_cell hba hHeld.2.1, keep_cell hba hHeld.2.2.1, keep_cell hba hHeld.2.2.2.1, keep_cell hba hHeld.2.2.2.2.1, keep_cell hba hHeld.2.2.2.2.2.1, ex_trans hHeld.2.2.2.2.2.2 hba⟩) (fun hNew => ?_)
      clear hK K hHeld
      have hHeld := hNew
      clear hNew
      try simp only [Act.put, List.setIfInBounds_toArray, List.set_cons_zero, List.set_cons_succ]
      clear hwa hba
      refine held_two 2 7 (by kernel_rfl) rfl rfl (fun K hK => ?_) (fun K hK => ?_)
      · go_simp
        go_at_call 52
        refine (HVa.out _ (ex_trans HHB0.out hHeld.2.2.2.2.2.2)).mono ?_; rintro e w38 ⟨A1, c1, B1, d1, X1, rfl, hF, hXa, hXb, hXc, hR, hb18⟩
        have hsz_18 : wa_17.heap.size ≤ w38.heap.size := hb18.size
        have HD7 := Lib.hid (below_keep hb18 HD7.out)
        have HSx := Lib.hid (And.intro hF (And.intro hXb hR))
        have HBx := Lib.hid (Below.refl w38.heap.size w38)
        go_wp2_with fail
        refine hK.out _ _ (by (try dsimp only); exact ⟨keep_cell hb18 hHeld.1, keep_cell hb18 hHeld.2.1, keep_cell hb18 hHeld.2.2.1, keep_cell hb18 hHeld.2.2.2.1, keep_cell hb18 hHeld.2.2.2.2.1, keep_cell hb18 hHeld.2.2.2.2.2.1, ex_trans hHeld.2.2.2.2.2.2 hb18⟩) (fun hNew => ?_)
        clear hK K hHeld
        have hHeld := hNew
        clear hNew
        try simp only [Act.put, List.setIfInBounds_toArray, List.set_cons_zero, List.set_cons_succ]
        clear hF hXa hXb hXc hR hb18
        refine held_two 5 7 (by kernel_rfl) rfl rfl (fun K hK => ?_) (fun K hK => ?_)
        · go_simp
          go_at_call 52
          refine (HVb.out _ (ex_trans HHB0.out hHeld.2.2.2.2.2.2)).mono ?_; rintro e w39 ⟨A2, c2, B2, d2, X2, rfl, hF, hXa, hXb, hXc, hR, hb19⟩
          have hsz_19 : w38.heap.size ≤ w39.heap.size := hb19.size
          have HBx := Lib.hid (HBx.out.trans (hb19.mono HBx.out.size))
          have HD7 := Lib.hid (below_keep hb19 HD7.out)
          have HSy := Lib.hid (And.intro hF (And.intro hXb hR))
          have HBy := Lib.hid (Below.refl w39.heap.size w39)
          go_wp2_with fail
          refine hK.out _ _ (by (try dsimp only); exact ⟨keep_cell hb19 hHeld.1, keep_cell hb19 hHeld.2.1, keep_cell hb19 hHeld.2.2.1, keep_cell hb19 hHeld.2.2.2.1, keep_cell hb19 hHeld.2.2.2.2.1, keep_cell hb19 hHeld.2.2.2.2.2.1, ex_trans hHeld.2.2.2.2.2.2 hb19⟩) (fun hNew => ?_)
          clear hK K hHeld
          have hHeld := hNew
          clear hNew
          try simp only [Act.put, List.setIfInBounds_toArray, List.set_cons_zero, List.set_cons_succ]
          clear hF hXa hXb hXc hR hb19
          refine held_one 7 (by kernel_rfl) rfl (fun K hK => ?_)
          go_simp
          generalize hwa : World.alloc w39 _ = wa_20
          have hba : Below w39.heap.size w39 wa_20 := by rw [← hwa]; exact (Below.refl _ _).alloc (Nat.le_refl _) _
          have hsz_20 : wa_20.heap.size ≤ w39.heap.size + 1 := by rw [← hwa]; simp
          have hsz2_20 : w39.heap.size + 1 ≤ wa_20.heap.size := by rw [← hwa]; simp
          have HBx := Lib.hid (HBx.out.trans (hba.mono HBx.out.size))
          have HBy := Lib.hid (HBy.out.trans (hba.mono HBy.out.size))
          have HD7 := Lib.hid (below_keep hba HD7.out)
          have HD8 := Lib.hid (show wa_20.heap[w39.heap.size]? = some (.cells #[.slice none 0 0, .slice none 0 0, .int .i64 0] 31 (0, 0)) by rw [← hwa]; exact hp_new rfl)
          refine hK.out _ _ (by (try dsimp only); exact ⟨keep_cell hba hHeld.1, keep_cell hba hHeld.2.1, keep_cell hba hHeld.2.2.1, keep_cell hba hHeld.2.2.2.1, keep_cell hba hHeld.2.2.2.2.1, keep_cell hba hHeld.2.2.2.2.2.1, ex_trans hHeld.2.2.2.2.2.2 hba⟩) (fun hNew => ?_)
          clear hK K hHeld
          have hHeld := hNew
          clear hNew
          try simp only [Act.put, List.setIfInBounds_toArray, List.set_cons_zero, List.set_cons_succ]
          clear hwa hba
          have u0 := blk_cell? HD7.out 0
          have u1 := blk_cell? HD7.out 1
          have u2 := blk_cell? HD7.out 2
          have uf := blk_free HD7.out
          have ul := blk_lt HD7.out
          simp only [List.getElem?_toArray, List.getElem?_cons_zero, List.getElem?_cons_succ] at u0 u1 u2
          refine held_one 8 (by kernel_rfl) rfl (fun K hK => ?_)
          go_simp
          generalize hst : World.setCell (World.setCell (World.setCell wa_20 _ _) _ _) _ _ = wst_8
          have hc8 : Chg [Wd.heap.size] wa_20 wst_8 := by rw [← hst]; exact (((Chg.of_below _ (Below.refl _ _)).set (by simp) _).set (by simp) _).set (by simp) _
          have v80 : wst_8.cell? ⟨Wd.heap.size, 0, none⟩ = some (.slice A1 x.schema.length c1) := by subst hst; go_simp
          have v81 : wst_8.cell? ⟨Wd.heap.size, 1, none⟩ = some (.slice B1 x.files.length d1) := by subst hst; go_simp
          refine hK.out _ _ (by (try dsimp only); exact ⟨hc8.cell hHeld.1 (fun h => by have h1 := List.mem_singleton.1 h; simp only at h1; omega), hc8.cell hHeld.2.1 (fun h => by have h1 := List.mem_singleton.1 h; simp only at h1; omega), hc8.cell hHeld.2.2.1 (fun h => by have h1 := List.mem_singleton.1 h; simp only at h1; omega), hc8.cell hHeld.2.2.2.1 (fun h => by have h1 := List.mem_singleton.1 h; simp only at h1; omega), hc8.cell hHeld.2.2.2.2.1 (fun h => by have h1 := List.mem_singleton.1 h; simp only at h1; omega), hc8.cell hHeld.2.2.2.2.2.1 (fun h => by have h1 := List.mem_singleton.1 h; simp only at h1; omega), Below.mark hHeld.2.2.2.2.2.2 hc8 hHeld.2.2.2.2.2.2.size (fun b hb => by obtain rfl := List.mem_singleton.1 hb; omega)⟩) (fun hNew => ?_)
          clear hK K hHeld
          have hHeld := hNew
          clear hNew
          try simp only [Act.put, List.setIfInBounds_toArray, List.set_cons_zero, List.set_cons_succ]
          clear hst u0 u1 u2 uf ul
          have HD8 := Lib.hid (hc8.keepb HD8.out (fun h => by have h1 := List.mem_singleton.1 h; omega))
          have u0 := blk_cell? HD8.out 0
          have u1 := blk_cell? HD8.out 1
          have u2 := blk_cell? HD8.out 2
          have uf := blk_free HD8.out
          have ul := blk_lt HD8.out
          simp only [List.getElem?_toArray, List.getElem?_cons_zero, List.getElem?_cons_succ] at u0 u1 u2
          refine held_one 9 (by kernel_rfl) rfl (fun K hK => ?_)
          go_simp
          generalize hst : World.setCell (World.setCell (World.setCell wst_8 _ _) _ _) _ _ = wst_9
          have hc9 : Chg [w39.heap.size] wst_8 wst_9 := by rw [← hst]; exact (((Chg.of_below _ (Below.refl _ _)).set (by simp) _).set (by simp) _).set (by simp) _
          have v90 : wst_9.cell? ⟨w39.heap.size, 0, none⟩ = some (.slice A2 y.schema.length c2) := by subst hst; go_simp
          have v91 : wst_9.cell? ⟨w39.heap.size, 1, none⟩ = some (.slice B2 y.files.length d2) := by subst hst; go_simp
          refine hK.out _ _ (by (try dsimp only); exact ⟨hc9.cell hHeld.1 (fun h => by have h1 := List.mem_singleton.1 h; simp only at h1; omega), hc9.cell hHeld.2.1 (fun h => by have h1 := List.mem_singleton.1 h; simp only at h1; omega), hc9.cell hHeld.2.2.1 (fun h => by have h1 := List.mem_singleton.1 h; simp only at h1; omega), hc9.cell hHeld.2.2.2.1 (fun h => by have h1 := List.mem_singleton.1 h; simp only at h1; omega), hc9.cell hHeld.2.2.2.2.1 (fun h => by have h1 := List.mem_singleton.1 h; simp only at h1; omega), hc9.cell hHeld.2.2.2.2.2.1 (fun h => by have h1 := List.mem_singleton.1 h; simp only at h1; omega), Below.mark hHeld.2.2.2.2.2.2 hc9 hHeld.2.2.2.2.2.2.size (fun b hb => by obtain rfl := List.mem_singleton.1 hb; omega)⟩) (fun hNew => ?_)
          clear hK K hHeld
          have hHeld := hNew
          clear hNew
          try simp only [Act.put, List.setIfInBounds_toArray, List.set_cons_zero, List.set_cons_succ]
          clear hst u0 u1 u2 uf ul
          refine wpAnyH_done (by kernel_rfl) ?_ _
          obtain ⟨hsx, htx⟩ := sto_reads (w' := wst_9) HSx.out.1 HSx.out.2.2 HSx.out.2.1 (fun b h1 h2 => by
            have h3 := HBx.out.size
            have h4 := hc8.size
            exact ((hc9.block b (by omega) (fun h => by have h1 := List.mem_singleton.1 h; omega)).trans (hc8.block b (by omega) (fun h => by have h1 := List.mem_singleton.1 h; omega))).trans (HBx.out.block b h2))
          obtain ⟨hsy, hty⟩ := sto_reads (w' := wst_9) HSy.out.1 HSy.out.2.2 HSy.out.2.1 (fun b h1 h2 => by
            have h3 := HBy.out.size
            have h4 := hc8.size
            exact ((hc9.block b (by omega) (fun h => by have h1 := List.mem_singleton.1 h; omega)).trans (hc8.block b (by omega) (fun h => by have h1 := List.mem_singleton.1 h; omega))).trans (HBy.out.block b h2))
          have v90' := hc9.cell v80 (fun h => by have h1 := List.mem_singleton.1 h; simp only at h1; omega)
          have v91' := hc9.cell v81 (fun h => by have h1 := List.mem_singleton.1 h; simp only at h1; omega)
          go_wp2_with fail
          go_meet
          exact ⟨_, _, A1, A2, B1, B2, c1, c2, d1, d2, rfl, rfl, v90', v91', v90, v91, hsx, htx, hsy, hty, ex_trans HHB0.out hHeld.2.2.2.2.2.2⟩
        · go_simp
          generalize hwa : World.alloc w38 _ = wa_21
          have hba : Below w38.heap.size w38 wa_21 := by rw [← hwa]; exact (Below.refl _ _).alloc (Nat.le_refl _) _
          have hsz_21 : wa_21.heap.size ≤ w38.heap.size + 1 := by rw [← hwa]; simp
          have hsz2_21 : w38.heap.size + 1 ≤ wa_21.heap.size := by rw [← hwa]; simp
          have HBx := Lib.hid (HBx.out.trans (hba.mono HBx.out.size))
          have HD7 := Lib.hid (below_keep hba HD7.out)
          have HD8 := Lib.hid (show wa_21.heap[w38.heap.size]? = some (.cells #[.slice none 0 0, .slice none 0 0, .int .i64 0] 31 (0, 0)) by rw [← hwa]; exact hp_new rfl)
          refine hK.out _ _ (by (try dsimp only); exact ⟨keep_cell hba hHeld.1, keep_cell hba hHeld.2.1, keep_cell hba hHeld.2.2.1, keep_cell hba hHeld.2.2.2.1, keep_cell hba hHeld.2.2.2.2.1, keep_cell hba hHeld.2.2.2.2.2.1, ex_trans hHeld.2.2.2.2.2.2 hba⟩) (fun hNew => ?_)
          clear hK K hHeld
          have hHeld := hNew
          clear hNew
          try simp only [Act.put, List.setIfInBounds_toArray, List.set_cons_zero, List.set_cons_succ]
          clear hwa hba
          refine held_one 5 (by kernel_rfl) rfl (fun K hK => ?_)
          go_simp
          go_at_call 52
          refine (HVb.out _ (ex_trans HHB0.out hHeld.2.2.2.2.2.2)).mono ?_; rintro e w42 ⟨A2, c2, B2, d2, X2, rfl, hF, hXa, hXb, hXc, hR, hb22⟩
          have hsz_22 : wa_21.heap.size ≤ w42.heap.size := hb22.size
          have HBx := Lib.hid (HBx.out.trans (hb22.mono HBx.out.size))
          have HD7 := Lib.hid (below_keep hb22 HD7.out)
          have HD8 := Lib.hid (below_keep hb22 HD8.out)
          have HSy := Lib.hid (And.intro hF (And.intro hXb hR))
          have HBy := Lib.hid (Below.refl w42.heap.size w42)
          go_wp2_with fail
          refine hK.out _ _ (by (try dsimp only); exact ⟨keep_cell hb22 hHeld.1, keep_cell hb22 hHeld.2.1, keep_cell hb22 hHeld.2.2.1, keep_cell hb22 hHeld.2.2.2.1, keep_cell hb22 hHeld.2.2.2.2.1, keep_cell hb22 hHeld.2.2.2.2.2.1, ex_trans hHeld.2.2.2.2.2.2 hb22⟩) (fun hNew => ?_)
          clear hK K hHeld
          have hHeld := hNew
          clear hNew
          try simp only [Act.put, List.setIfInBounds_toArray, List.set_cons_zero, List.set_cons_succ]
          clear hF hXa hXb hXc hR hb22
          have u0 := blk_cell? HD7.out 0
          have u1 := blk_cell? HD7.out 1
          have u2 := blk_cell? HD7.out 2
          have uf := blk_free HD7.out
          have ul := blk_lt HD7.out
          simp only [List.getElem?_toArray, List.getElem?_cons_zero, List.getElem?_cons_succ] at u0 u1 u2
          refine held_one 8 (by kernel_rfl) rfl (fun K hK => ?_)
          go_simp
          generalize hst : World.setCell (World.setCell (World.setCell w42 _ _) _ _) _ _ = wst_8
          have hc8 : Chg [Wd.heap.size] w42 wst_8 := by rw [← hst]; exact (((Chg.of_below _ (Below.refl _ _)).set (by simp) _).set (by simp) _).set (by simp) _
          have v80 : wst_8.cell? ⟨Wd.heap.size, 0, none⟩ = some (.slice A1 x.schema.length c1) := by subst hst; go_simp
          have v81 : wst_8.cell? ⟨Wd.heap.size, 1, none⟩ = some (.slice B1 x.files.length d1) := by subst hst; go_simp
          refine hK.out _ _ (by (try dsimp only); exact ⟨hc8.cell hHeld.1 (fun h => by have h1 := List.mem_singleton.1 h; simp only at h1; omega), hc8.cell hHeld.2.1 (fun h => by have h1 := List.mem_singleton.1 h; simp only at h1; omega), hc8.cell hHeld.2.2.1 (fun h => by have h1 := List.mem_singleton.1 h; simp only at h1; omega), hc8.cell hHeld.2.2.2.1 (fun h => by have h1 := List.mem_singleton.1 h; simp only at h1; omega), hc8.cell hHeld.2.2.2.2.1 (fun h => by have h1 := List.mem_singleton.1 h; simp only at h1; omega), hc8.cell hHeld.2.2.2.2.2.1 (fun h => by have h1 := List.mem_singleton.1 h; simp only at h1; omega), Below.mark hHeld.2.2.2.2.2.2 hc8 hHeld.2.2.2.2.2.2.size (fun b hb => by obtain rfl := List.mem_singleton.1 hb; omega)⟩) (fun hNew => ?_)
          clear hK K hHeld
          have hHeld := hNew
          clear hNew
          try simp only [Act.put, List.setIfInBounds_toArray, List.set_cons_zero, List.set_cons_succ]
          clear hst u0 u1 u2 uf ul
          have HD8 := Lib.hid (hc8.keepb HD8.out (fun h => by have h1 := List.mem_singleton.1 h; omega))
          have u0 := blk_cell? HD8.out 0
          have u1 := blk_cell? HD8.out 1
          have u2 := blk_cell? HD8.out 2
          have uf := blk_free HD8.out
          have ul := blk_lt HD8.out
          simp only [List.getElem?_toArray, List.getElem?_cons_zero, List.getElem?_cons_succ] at u0 u1 u2
          refine held_one 9 (by kernel_rfl) rfl (fun K hK => ?_)
          go_simp
          generalize hst : World.setCell (World.setCell (World.setCell wst_8 _ _) _ _) _ _ = wst_9
          have hc9 : Chg [w38.heap.size] wst_8 wst_9 := by rw [← hst]; exact (((Chg.of_below _ (Below.refl _ _)).set (by simp) _).set (by simp) _).set (by simp) _
          have v90 : wst_9.cell? ⟨w38.heap.size, 0, none⟩ = some (.slice A2 y.schema.length c2) := by subst hst; go_simp
          have v91 : wst_9.cell? ⟨w38.heap.size, 1, none⟩ = some (.slice B2 y.files.length d2) := by subst hst; go_simp
          refine hK.out _ _ (by (try dsimp only); exact ⟨hc9.cell hHeld.1 (fun h => by have h1 := List.mem_singleton.1 h; simp only at h1; omega), hc9.cell hHeld.2.1 (fun h => by have h1 := List.mem_singleton.1 h; simp only at h1; omega), hc9.cell hHeld.2.2.1 (fun h => by have h1 := List.mem_singleton.1 h; simp only at h1; omega), hc9.cell hHeld.2.2.2.1 (fun h => by have h1 := List.mem_singleton.1 h; simp only at h1; omega), hc9.cell hHeld.2.2.2.2.1 (fun h => by have h1 := List.mem_singleton.1 h; simp only at h1; omega), hc9.cell hHeld.2.2.2.2.2.1 (fun h => by have h1 := List.mem_singleton.1 h; simp only at h1; omega), Below.mark hHeld.2.2.2.2.2.2 hc9 hHeld.2.2.2.2.2.2.size (fun b hb => by obtain rfl := List.mem_singleton.1 hb; omega)⟩) (fun hNew => ?_)
          clear hK K hHeld
          have hHeld := hNew
          clear hNew
          try simp only [Act.put, List.setIfInBounds_toArray, List.set_cons_zero, List.set_cons_succ]
          clear hst u0 u1 u2 uf ul
          refine wpAnyH_done (by kernel_rfl) ?_ _
          obtain ⟨hsx, htx⟩ := sto_reads (w' := wst_9) HSx.out.1 HSx.out.2.2 HSx.out.2.1 (fun b h1 h2 => by
            have h3 := HBx.out.size
            have h4 := hc8.size
            exact ((hc9.block b (by omega) (fun h => by have h1 := List.mem_singleton.1 h; omega)).trans (hc8.block b (by omega) (fun h => by have h1 := List.mem_singleton.1 h; omega))).trans (HBx.out.block b h2))
          obtain ⟨hsy, hty⟩ := sto_reads (w' := wst_9) HSy.out.1 HSy.out.2.2 HSy.out.2.1 (fun b h1 h2 => by
            have h3 := HBy.out.size
            have h4 := hc8.size
            exact ((hc9.block b (by omega) (fun h => by have h1 := List.mem_singleton.1 h; omega)).trans (hc8.block b (by omega) (fun h => by have h1 := List.mem_singleton.1 h; omega))).trans (HBy.out.block b h2))
          have v90' := hc9.cell v80 (fun h => by have h1 := List.mem_singleton.1 h; simp only at h1; omega)
          have v91' := hc9.cell v81 (fun h => by have h1 := List.mem_singleton.1 h; simp only at h1; omega)
          go_wp2_with fail
          go_meet
          exact ⟨_, _, A1, A2, B1, B2, c1, c2, d1, d2, rfl, rfl, v90', v91', v90, v91, hsx, htx, hsy, hty, ex_trans HHB0.out hHeld.2.2.2.2.2.2⟩
      · go_simp
        generalize hwa : World.alloc wa_17 _ = wa_23
        have hba : Below wa_17.heap.size wa_17 wa_23 := by rw [← hwa]; exact (Below.refl _ _).alloc (Nat.le_refl _) _
        have hsz_23 : wa_23.heap.size ≤ wa_17.heap.size + 1 := by rw [← hwa]; simp
        have hsz2_23 : wa_17.heap.size + 1 ≤ wa_23.heap.size := by rw [← hwa]; simp
        have HD7 := Lib.hid (below_keep hba HD7.out)
        have HD8 := Lib.hid (show wa_23.heap[wa_17.heap.size]? = some (.cells #[.slice none 0 0, .slice none 0 0, .int .i64 0] 31 (0, 0)) by rw [← hwa]; exact hp_new rfl)
        refine hK.out _ _ (by (try dsimp only); exact ⟨keep_cell hba hHeld.1, keep_cell hba hHeld.2.1, keep_cell hba hHeld.2.2.1, keep_cell hba hHeld.2.2.2.1, keep_cell hba hHeld.2.2.2.2.1, keep_cell hba hHeld.2.2.2.2.2.1, ex_trans hHeld.2.2.2.2.2.2 hba⟩) (fun hNew => ?_)
        clear hK K hHeld
        have hHeld := hNew
        clear hNew
        try simp only [Act.put, List.setIfInBounds_toArray, List.set_cons_zero, List.set_cons_succ]
        clear hwa hba
        refine held_one 2 (by kernel_rfl) rfl (fun K hK => ?_)
        go_simp
        go_at_call 52
        refine (HVa.out _ (ex_trans HHB0.out hHeld.2.2.2.2.2.2)).mono ?_; rintro e w44 ⟨A1, c1, B1, d1, X1, rfl, hF, hXa, hXb, hXc, hR, hb24⟩
        have hsz_24 : wa_23.heap.size ≤ w44.heap.size := hb24.size
        have HD7 := Lib.hid (below_keep hb24 HD7.out)
        have HD8 := Lib.hid (below_keep hb24 HD8.out)
        have HSx := Lib.hid (And.intro hF (And.intro hXb hR))
        have HBx := Lib.hid (Below.refl w44.heap.size w44)
        go_wp2_with fail
        refine hK.out _ _ (by (try dsimp only); exact ⟨keep_cell hb24 hHeld.1, keep_cell hb24 hHeld.2.1, keep_cell hb24 hHeld.2.2.1, keep_cell hb24 hHeld.2.2.2.1, keep_cell hb24 hHeld.2.2.2.2.1, keep_cell hb24 hHeld.2.2.2.2.2.1, ex_trans hHeld.2.2.2.2.2.2 hb24⟩) (fun hNew => ?_)
        clear hK K hHeld
        have hHeld := hNew
        clear hNew
        try simp only [Act.put, List.setIfInBounds_toArray, List.set_cons_zero, List.set_cons_succ]
        clear hF hXa hXb hXc hR hb24
        refine held_one 5 (by kernel_rfl) rfl (fun K hK => ?_)
        go_simp
        go_at_call 52
        refine (HVb.out _ (ex_trans HHB0.out hHeld.2.2.2.2.2.2)).mono ?_; rintro e w45 ⟨A2, c2, B2, d2, X2, rfl, hF, hXa, hXb, hXc, hR, hb25⟩
        have hsz_25 : w44.heap.size ≤ w45.heap.size := hb25.size
        have HBx := Lib.hid (HBx.out.trans (hb25.mono HBx.out.size))
        have HD7 := Lib.hid (below_keep hb25 HD7.out)
        have HD8 := Lib.hid (below_keep hb25 HD8.out)
        have HSy := Lib.hid (And.intro hF (And.intro hXb hR))
        have HBy := Lib.hid (Below.refl w45.heap.size w45)
        go_wp2_with fail
        refine hK.out _ _ (by (try dsimp only); exact ⟨keep_cell hb25 hHeld.1, keep_cell hb25 hHeld.2.1, keep_cell hb25 hHeld.2.2.1, keep_cell hb25 hHeld.2.2.2.1, keep_cell hb25 hHeld.2.2.2.2.1, keep_cell hb25 hHeld.2.2.2.2.2.1, ex_trans hHeld.2.2.2.2.2.2 hb25⟩) (fun hNew => ?_)
        clear hK K hHeld
        have hHeld := hNew
        clear hNew
        try simp only [Act.put, List.setIfInBounds_toArray, List.set_cons_zero, List.set_cons_succ]
        clear hF hXa hXb hXc hR hb25
        have u0 := blk_cell? HD7.out 0
        have u1 := blk_cell? HD7.out 1
        have u2 := blk_cell? HD7.out 2
        have uf := blk_free HD7.out
        have ul := blk_lt HD7.out
        simp only [List.getElem?_toArray, List.getElem?_cons_zero, List.getElem?_cons_succ] at u0 u1 u2
        refine held_one 8 (by kernel_rfl) rfl (fun K hK => ?_)
        go_simp
        generalize hst : World.setCell (World.setCell (World.setCell w45 _ _) _ _) _ _ = wst_8
        have hc8 : Chg [Wd.heap.size] w45 wst_8 := by rw [← hst]; exact (((Chg.of_below _ (Below.refl _ _)).set (by simp) _).set (by simp) _).set (by simp) _
        have v80 : wst_8.cell? ⟨Wd.heap.size, 0, none⟩ = some (.slice A1 x.schema.length c1) := by subst hst; go_simp
        have v81 : wst_8.cell? ⟨Wd.heap.size, 1, none⟩ = some (.slice B1 x.files.length d1) := by subst hst; go_simp
        refine hK.out _ _ (by (try dsimp only); exact ⟨hc8.cell hHeld.1 (fun h => by have h1 := List.mem_singleton.1 h; simp only at h1; omega), hc8.cell hHeld.2.1 (fun h => by have h1 := List.mem_singleton.1 h; simp only at h1; omega), hc8.cell hHeld.2.2.1 (fun h => by have h1 := List.mem_singleton.1 h; simp only at h1; omega), hc8.cell hHeld.2.2.2.1 (fun h => by have h1 := List.mem_singleton.1 h; simp only at h1; omega), hc8.cell hHeld.2.2.2.2.1 (fun h => by have h1 := List.mem_singleton.1 h; simp only at h1; omega), hc8.cell hHeld.2.2.2.2.2.1 (fun h => by have h1 := List.mem_singleton.1 h; simp only at h1; omega), Below.mark hHeld.2.2.2.2.2.2 hc8 hHeld.2.2.2.2.2.2.size (fun b hb => by obtain rfl := List.mem_singleton.1 hb; omega)⟩) (fun hNew => ?_)
        clear hK K hHeld
        have hHeld := hNew
        clear hNew
        try simp only [Act.put, List.setIfInBounds_toArray, List.set_cons_zero, List.set_cons_succ]
        clear hst u0 u1 u2 uf ul
        have HD8 := Lib.hid (hc8.keepb HD8.out (fun h => by have h1 := List.mem_singleton.1 h; omega))
        have u0 := blk_cell? HD8.out 0
        have u1 := blk_cell? HD8.out 1
        have u2 := blk_cell? HD8.out 2
        have uf := blk_free HD8.out
        have ul := blk_lt HD8.out
        simp only [List.getElem?_toArray, List.getElem?_cons_zero, List.getElem?_cons_succ] at u0 u1 u2
        refine held_one 9 (by kernel_rfl) rfl (fun K hK => ?_)
        go_simp
        generalize hst : World.setCell (World.setCell (World.setCell wst_8 _ _) _ _) _ _ = wst_9
        have hc9 : Chg [wa_17.heap.size] wst_8 wst_9 := by rw [← hst]; exact (((Chg.of_below _ (Below.refl _ _)).set (by simp) _).set (by simp) _).set (by simp) _
        have v90 : wst_9.cell? ⟨wa_17.heap.size, 0, none⟩ = some (.slice A2 y.schema.length c2) := by subst hst; go_simp
        have v91 : wst_9.cell? ⟨wa_17.heap.size, 1, none⟩ = some (.slice B2 y.files.length d2) := by subst hst; go_simp
        refine hK.out _ _ (by (try dsimp only); exact ⟨hc9.cell hHeld.1 (fun h => by have h1 := List.mem_singleton.1 h; simp only at h1; omega), hc9.cell hHeld.2.1 (fun h => by have h1 := List.mem_singleton.1 h; simp only at h1; omega), hc9.cell hHeld.2.2.1 (fun h => by have h1 := List.mem_singleton.1 h; simp only at h1; omega), hc9.cell hHeld.2.2.2.1 (fun h => by have h1 := List.mem_singleton.1 h; simp only at h1; omega), hc9.cell hHeld.2.2.2.2.1 (fun h => by have h1 := List.mem_singleton.1 h; simp only at h1; omega), hc9.cell hHeld.2.2.2.2.2.1 (fun h => by have h1 := List.mem_singleton.1 h; simp only at h1; omega), Below.mark hHeld.2.2.2.2.2.2 hc9 hHeld.2.2.2.2.2.2.size (fun b hb => by obtain rfl := List.mem_singleton.1 hb; omega)⟩) (fun hNew => ?_)
        clear hK K hHeld
        have hHeld := hNew
        clear hNew
        try simp only [Act.put, List.setIfInBounds_toArray, List.set_cons_zero, List.set_cons_succ]
        clear hst u0 u1 u2 uf ul
        refine wpAnyH_done (by kernel_rfl) ?_ _
        obtain ⟨hsx, htx⟩ := sto_reads (w' := wst_9) HSx.out.1 HSx.out.2.2 HSx.out.2.1 (fun b h1 h2 => by
          have h3 := HBx.out.size
          have h4 := hc8.size
          exact ((hc9.block b (by omega) (fun h => by have h1 := List.mem_singleton.1 h; omega)).trans (hc8.block b (by omega) (fun h => by have h1 := List.mem_singleton.1 h; omega))).trans (HBx.out.block b h2))
        obtain ⟨hsy, hty⟩ := sto_reads (w' := wst_9) HSy.out.1 HSy.out.2.2 HSy.out.2.1 (fun b h1 h2 => by
          have h3 := HBy.out.size
          have h4 := hc8.size
          exact ((hc9.block b (by omega) (fun h => by have h1 := List.mem_singleton.1 h; omega)).trans (hc8.block b (by omega) (fun h => by have h1 := List.mem_singleton.1 h; omega))).trans (HBy.out.block b h2))
        have v90' := hc9.cell v80 (fun h => by have h1 := List.mem_singleton.1 h; simp only at h1; omega)
        have v91' := hc9.cell v81 (fun h => by have h1 := List.mem_singleton.1 h; simp only at h1; omega)
        go_wp2_with fail
        go_meet
        exact ⟨_, _, A1, A2, B1, B2, c1, c2, d1, d2, rfl, rfl, v90', v91', v90, v91, hsx, htx, hsy, hty, ex_trans HHB0.out hHeld.2.2.2.2.2.2⟩
    · go_simp
      generalize hwa : World.alloc Wd _ = wa_26
      have hba : Below Wd.heap.size Wd wa_26 := by rw [← hwa]; exact (Below.refl _ _).alloc (Nat.le_refl _) _
      have hsz_26 : wa_26.heap.size ≤ Wd.heap.size + 1 := by rw [← hwa]; simp
      have hsz2_26 : Wd.heap.size + 1 ≤ wa_26.heap.size := by rw [← hwa]; simp
      have HD8 := Lib.hid (show wa_26.heap[Wd.heap.size]? = some (.cells #[.slice none 0 0, .slice none 0 0, .int .i64 0] 31 (0, 0)) by rw [← hwa]; exact hp_new rfl)
      refine hK.out _ _ (by (try dsimp only); exact ⟨keep_cell hba hHeld.1, keep_cell hba hHeld.2.1, keep_cell hba hHeld.2.2.1, keep_cell hba hHeld.2.2.2.1, keep_cell hba hHeld.2.2.2.2.1, keep_cell hba hHeld.2.2.2.2.2.1, ex_trans hHeld.2.2.2.2.2.2 hba⟩) (fun hNew => ?_)
      clear hK K hHeld
      have hHeld := hNew
      clear hNew
      try simp only [Act.put, List.setIfInBounds_toArray, List.set_cons_zero, List.set_cons_succ]
      clear hwa hba
      refine held_two 2 6 (by kernel_rfl) rfl rfl (fun K hK => ?_) (fun K hK => ?_)
      · go_simp
        go_at_call 52
        refine (HVa.out _ (ex_trans HHB0.out hHeld.2.2.2.2.2.2)).mono ?_; rintro e w47 ⟨A1, c1, B1, d1, X1, rfl, hF, hXa, hXb, hXc, hR, hb27⟩
        have hsz_27 : wa_26.heap.size ≤ w47.heap.size := hb27.size
        have HD8 := Lib.hid (below_keep hb27 HD8.out)
        have HSx := Lib.hid (And.intro hF (And.intro hXb hR))
        have HBx := Lib.hid (Below.refl w47.heap.size w47)
        go_wp2_with fail
        refine hK.out _ _ (by (try dsimp only); exact ⟨keep_cell hb27 hHeld.1, keep_cell hb27 hHeld.2.1, keep_cell hb27 hHeld.2.2.1, keep_cell hb27 hHeld.2.2.2.1, keep_cell hb27 hHeld.2.2.2.2.1, keep_cell hb27 hHeld.2.2.2.2.2.1, ex_trans hHeld.2.2.2.2.2.2 hb27⟩) (fun hNew => ?_)
        clear hK K hHeld
        have hHeld := hNew
        clear hNew
        try simp only [Act.put, List.setIfInBounds_toArray, List.set_cons_zero, List.set_cons_succ]
        clear hF hXa hXb hXc hR hb27
        refine held_two 5 6 (by kernel_rfl) rfl rfl (fun K hK => ?_) (fun K hK => ?_)
        · go_simp
          go_at_call 52
          refine (HVb.out _ (ex_trans HHB0.out hHeld.2.2.2.2.2.2)).mono ?_; rintro e w48 ⟨A2, c2, B2, d2, X2, rfl, hF, hXa, hXb, hXc, hR, hb28⟩
          have hsz_28 : w47.heap.size ≤ w48.heap.size := hb28.size
          have HBx := Lib.hid (HBx.out.trans (hb28.mono HBx.out.size))
          have HD8 := Lib.hid (below_keep hb28 HD8.out)
          have HSy := Lib.hid (And.intro hF (And.intro hXb hR))
          have HBy := Lib.hid (Below.refl w48.heap.size w48)
          go_wp2_with fail
          refine hK.out _ _ (by (try dsimp only); exact ⟨keep_cell hb28 hHeld.1, keep_cell hb28 hHeld.2.1, keep_cell hb28 hHeld.2.2.1, keep_cell hb28 hHeld.2.2.2.1, keep_cell hb28 hHeld.2.2.2.2.1, keep_cell hb28 hHeld.2.2.2.2.2.1, ex_trans hHeld.2.2.2.2.2.2 hb28⟩) (fun hNew => ?_)
          clear hK K hHeld
          have hHeld := hNew
          clear hNew
          try simp only [Act.put, List.setIfInBounds_toArray, List.set_cons_zero, List.set_cons_succ]
          clear hF hXa hXb hXc hR hb28
          refine held_one 6 (by kernel_rfl) rfl (fun K hK => ?_)
          go_simp
          generalize hwa : World.alloc w48 _ = wa_29
          have hba : Below w48.heap.size w48 wa_29 := by rw [← hwa]; exact (Below.refl _ _).alloc (Nat.le_refl _) _
          have hsz_29 : wa_29.heap.size ≤ w48.heap.size + 1 := by rw [← hwa]; simp
          have hsz2_29 : w48.heap.size + 1 ≤ wa_29.heap.size := by rw [← hwa]; simp
          have HBx := Lib.hid (HBx.out.trans (hba.mono HBx.out.size))
          have HBy := Lib.hid (HBy.out.trans (hba.mono HBy.out.size))
          have HD8 := Lib.hid (below_keep hba HD8.out)
          have HD7 := Lib.hid (show wa_29.heap[w48.heap.size]? = some (.cells #[.slice none 0 0, .slice none 0 0, .int .i64 0] 31 (0, 0)) by rw [← hwa]; exact hp_new rfl)
          refine hK.out _ _ (by (try dsimp only); exact ⟨keep_cell hba hHeld.1, keep_cell hba hHeld.2.1, keep_cell hba hHeld.2.2.1, keep_cell hba hHeld.2.2.2.1, keep_cell hba hHeld.2.2.2.2.1, keep_cell hba hHeld.2.2.2.2.2.1, ex_trans hHeld.2.2.2.2.2.2 hba⟩) (fun hNew => ?_)
          clear hK K hHeld
          have hHeld := hNew
          clear hNew
          try simp only [Act.put, List.setIfInBounds_toArray, List.set_cons_zero, List.set_cons_succ]
          clear hwa hba
          have u0 := blk_cell? HD7.out 0
          have u1 := blk_cell? HD7.out 1
          have u2 := blk_cell? HD7.out 2
          have uf := blk_free HD7.out
          have ul := blk_lt HD7.out
          simp only [List.getElem?_toArray, List.getElem?_cons_zero, List.getElem?_cons_succ] at u0 u1 u2
          refine held_one 8 (by kernel_rfl) rfl (fun K hK => ?_)
          go_simp
          generalize hst : World.setCell (World.setCell (World.setCell wa_29 _ _) _ _) _ _ = wst_8
          have hc8 : Chg [w48.heap.size] wa_29 wst_8 := by rw [← hst]; exact (((Chg.of_below _ (Below.refl _ _)).set (by simp) _).set (by simp) _).set (by simp) _
          have v80 : wst_8.cell? ⟨w48.heap.size, 0, none⟩ = some (.slice A1 x.schema.length c1) := by subst hst; go_simp
          have v81 : wst_8.cell? ⟨w48.heap.size, 1, none⟩ = some (.slice B1 x.files.length d1) := by subst hst; go_simp
          refine hK.out _ _ (by (try dsimp only); exact ⟨hc8.cell hHeld.1 (fun h => by have h1 := List.mem_singleton.1 h; simp only at h1; omega), hc8.cell hHeld.2.1 (fun h => by have h1 := List.mem_singleton.1 h; simp only at h1; omega), hc8.cell hHeld.2.2.1 (fun h => by have h1 := List.mem_singleton.1 h; simp only at h1; omega), hc8.cell hHeld.2.2.2.1 (fun h => by have h1 := List.mem_singleton.1 h; simp only at h1; omega), hc8.cell hHeld.2.2.2.2.1 (fun h => by have h1 := List.mem_singleton.1 h; simp only at h1; omega), hc8.cell hHeld.2.2.2.2.2.1 (fun h => by have h1 := List.mem_singleton.1 h; simp only at h1; omega), Below.mark hHeld.2.2.2.2.2.2 hc8 hHeld.2.2.2.2.2.2.size (fun b hb => by obtain rfl := List.mem_singleton.1 hb; omega)⟩) (fun hNew => ?_)
          clear hK K hHeld
          have hHeld := hNew
          clear hNew
          try simp only [Act.put, List.setIfInBounds_toArray, List.set_cons_zero, List.set_cons_succ]
          clear hst u0 u1 u2 uf ul
          have HD8 := Lib.hid (hc8.keepb HD8.out (fun h => by have h1 := List.mem_singleton.1 h; omega))
          have u0 := blk_cell? HD8.out 0
          have u1 := blk_cell? HD8.out 1
          have u2 := blk_cell? HD8.out 2
          have uf := blk_free HD8.out
          have ul := blk_lt HD8.out
          simp only [List.getElem?_toArray, List.getElem?_cons_zero, List.getElem?_cons_succ] at u0 u1 u2
          refine held_one 9 (by kernel_rfl) rfl (fun K hK => ?_)
          go_simp
          generalize hst : World.setCell (World.setCell (World.setCell wst_8 _ _) _ _) _ _ = wst_9
          have hc9 : Chg [Wd.heap.size] wst_8 wst_9 := by rw [← hst]; exact (((Chg.of_below _ (Below.refl _ _)).set (by simp) _).set (by simp) _).set (by simp) _
          have v90 : wst_9.cell? ⟨Wd.heap.size, 0, none⟩ = some (.slice A2 y.schema.length c2) := by subst hst; go_simp
          have v91 : wst_9.cell? ⟨Wd.heap.size, 1, none⟩ = some (.slice B2 y.files.length d2) := by subst hst; go_simp
          refine hK.out _ _ (by (try dsimp only); exact ⟨hc9.cell hHeld.1 (fun h => by have h1 := List.mem_singleton.1 h; simp only at h1; omega), hc9.cell hHeld.2.1 (fun h => by have h1 := List.mem_singleton.1 h; simp only at h1; omega), hc9.cell hHeld.2.2.1 (fun h => by have h1 := List.mem_singleton.1 h; simp only at h1; omega), hc9.cell hHeld.2.2.2.1 (fun h => by have h1 := List.mem_singleton.1 h; simp only at h1; omega), hc9.cell hHeld.2.2.2.2.1 (fun h => by have h1 := List.mem_singleton.1 h; simp only at h1; omega), hc9.cell hHeld.2.2.2.2.2.1 (fun h => by have h1 := List.mem_singleton.1 h; simp only at h1; omega), Below.mark hHeld.2.2.2.2.2.2 hc9 hHeld.2.2.2.2.2.2.size (fun b hb => by obtain rfl := List.mem_singleton.1 hb; omega)⟩) (fun hNew => ?_)
          clear hK K hHeld
          have hHeld := hNew
          clear hNew
          try simp only [Act.put, List.setIfInBounds_toArray, List.set_cons_zero, List.set_cons_succ]
          clear hst u0 u1 u2 uf ul
          refine wpAnyH_done (by kernel_rfl) ?_ _
          obtain ⟨hsx, htx⟩ := sto_reads (w' := wst_9) HSx.out.1 HSx.out.2.2 HSx.out.2.1 (fun b h1 h2 => by
            have h3 := HBx.out.size
            have h4 := hc8.size
            exact ((hc9.block b (by omega) (fun h => by have h1 := List.mem_singleton.1 h; omega)).trans (hc8.block b (by omega) (fun h => by have h1 := List.mem_singleton.1 h; omega))).trans (HBx.out.block b h2))
          obtain ⟨hsy, hty⟩ := sto_reads (w' := wst_9) HSy.out.1 HSy.out.2.2 HSy.out.2.1 (fun b h1 h2 => by
            have h3 := HBy.out.size
            have h4 := hc8.size
            exact ((hc9.block b (by omega) (fun h => by have h1 := List.mem_singleton.1 h; omega)).trans (hc8.block b (by omega) (fun h => by have h1 := List.mem_singleton.1 h; omega))).trans (HBy.out.block b h2))
          have v90' := hc9.cell v80 (fun h => by have h1 := List.mem_singleton.1 h; simp only at h1; omega)
          have v91' := hc9.cell v81 (fun h => by have h1 := List.mem_singleton.1 h; simp only at h1; omega)
          go_wp2_with fail
          go_meet
          exact ⟨_, _, A1, A2, B1, B2, c1, c2, d1, d2, rfl, rfl, v90', v91', v90, v91, hsx, htx, hsy, hty, ex_trans HHB0.out hHeld.2.2.2.2.2.2⟩
        · go_simp
          generalize hwa : World.alloc w47 _ = wa_30
          have hba : Below w47.heap.size w47 wa_30 := by rw [← hwa]; exact (Below.refl _ _).alloc (Nat.le_refl _) _
          have hsz_30 : wa_30.heap.size ≤ w47.heap.size + 1 := by rw [← hwa]; simp
          have hsz2_30 : w47.heap.size + 1 ≤ wa_30.heap.size := by rw [← hwa]; simp
          have HBx := Lib.hid (HBx.out.trans (hba.mono HBx.out.size))
          have HD8 := Lib.hid (below_keep hba HD8.out)
          have HD7 := Lib.hid (show wa_30.heap[w47.heap.size]? = some (.cells #[.slice none 0 0, .slice none 0 0, .int .i64 0] 31 (0, 0)) by rw [← hwa]; exact hp_new rfl)
          refine hK.out _ _ (by (try dsimp only); exact ⟨keep_cell hba hHeld.1, keep_cell hba hHeld.2.1, keep_cell hba hHeld.2.2.1, keep_cell hba hHeld.2.2.2.1, keep_cell hba hHeld.2.2.2.2.1, keep_cell hba hHeld.2.2.2.2.2.1, ex_trans hHeld.2.2.2.2.2.2 hba⟩) (fun hNew => ?_)
          clear hK K hHeld
          have hHeld := hNew
          clear hNew
          try simp only [Act.put, List.setIfInBounds_toArray, List.set_cons_zero, List.set_cons_succ]
          clear hwa hba
          refine held_one 5 (by kernel_rfl) rfl (fun K hK => ?_)
          go_simp
          go_at_call 52
          refine (HVb.out _ (ex_trans HHB0.out hHeld.2.2.2.2.2.2)).mono ?_; rintro e w51 ⟨A2, c2, B2, d2, X2, rfl, hF, hXa, hXb, hXc, hR, hb31⟩
          have hsz_31 : wa_30.heap.size ≤ w51.heap.size := hb31.size
          have HBx := Lib.hid (HBx.out.trans (hb31.mono HBx.out.size))
          have HD7 := Lib.hid (below_keep hb31 HD7.out)
          have HD8 := Lib.hid (below_keep hb31 HD8.out)
          have HSy := Lib.hid (And.intro hF (And.intro hXb hR))
          have HBy := Lib.hid (Below.refl w51.heap.size w51)
          go_wp2_with fail
          refine hK.out _ _ (by (try dsimp only); exact ⟨keep_cell hb31 hHeld.1, keep_cell hb31 hHeld.2.1, keep_cell hb31 hHeld.2.2.1, keep_cell hb31 hHeld.2.2.2.1, keep_cell hb31 hHeld.2.2.2.2.1, keep_cell hb31 hHeld.2.2.2.2.2.1, ex_trans hHeld.2.2.2.2.2.2 hb31⟩) (fun hNew => ?_)
          clear hK K hHeld
          have hHeld := hNew
          clear hNew
          try simp only [Act.put, List.setIfInBounds_toArray, List.set_cons_zero, List.set_cons_succ]
          clear hF hXa hXb hXc hR hb31
          have u0 := blk_cell? HD7.out 0
          have u1 := blk_cell? HD7.out 1
          have u2 := blk_cell? HD7.out 2
          have uf := blk_free HD7.out
          have ul := blk_lt HD7.out
          simp only [List.getElem?_toArray, List.getElem?_cons_zero, List.getElem?_cons_succ] at u0 u1 u2
          refine held_one 8 (by kernel_rfl) rfl (fun K hK => ?_)
          go_simp
          generalize hst : World.setCell (World.setCell (World.setCell w51 _ _) _ _) _ _ = wst_8
          have hc8 : Chg [w47.heap.size] w51 wst_8 := by rw [← hst]; exact (((Chg.of_below _ (Below.refl _ _)).set (by simp) _).set (by simp) _).set (by simp) _
          have v80 : wst_8.cell? ⟨w47.heap.size, 0, none⟩ = some (.slice A1 x.schema.length c1) := by subst hst; go_simp
          have v81 : wst_8.cell? ⟨w47.heap.size, 1, none⟩ = some (.slice B1 x.files.length d1) := by subst hst; go_simp
          refine hK.out _ _ (by (try dsimp only); exact ⟨hc8.cell hHeld.1 (fun h => by have h1 := List.mem_singleton.1 h; simp only at h1; omega), hc8.cell hHeld.2.1 (fun h => by have h1 := List.mem_singleton.1 h; simp only at h1; omega), hc8.cell hHeld.2.2.1 (fun h => by have h1 := List.mem_singleton.1 h; simp only at h1; omega), hc8.cell hHeld.2.2.2.1 (fun h => by have h1 := List.mem_singleton.1 h; simp only at h1; omega), hc8.cell hHeld.2.2.2.2.1 (fun h => by have h1 := List.mem_singleton.1 h; simp only at h1; omega), hc8.cell hHeld.2.2.2.2.2.1 (fun h => by have h1 := List.mem_singleton.1 h; simp only at h1; omega), Below.mark hHeld.2.2.2.2.2.2 hc8 hHeld.2.2.2.2.2.2.size (fun b hb => by obtain rfl := List.mem_singleton.1 hb; omega)⟩) (fun hNew => ?_)
          clear hK K hHeld
          have hHeld := hNew
          clear hNew
          try simp only [Act.put, List.setIfInBounds_toArray, List.set_cons_zero, List.set_cons_succ]
          clear hst u0 u1 u2 uf ul
          have HD8 := Lib.hid (hc8.keepb HD8.out (fun h => by have h1 := List.mem_singleton.1 h; omega))
          have u0 := blk_cell? HD8.out 0
          have u1 := blk_cell? HD8.out 1
          have u2 := blk_cell? HD8.out 2
          have uf := blk_free HD8.out
          have ul := blk_lt HD8.out
          simp only [List.getElem?_toArray, List.getElem?_cons_zero, List.getElem?_cons_succ] at u0 u1 u2
          refine held_one 9 (by kernel_rfl) rfl (fun K hK => ?_)
          go_simp
          generalize hst : World.setCell (World.setCell (World.setCell wst_8 _ _) _ _) _ _ = wst_9
          have hc9 : Chg [Wd.heap.size] wst_8 wst_9 := by rw [← hst]; exact (((Chg.of_below _ (Below.refl _ _)).set (by simp) _).set (by simp) _).set (by simp) _
          have v90 : wst_9.cell? ⟨Wd.heap.size, 0, none⟩ = some (.slice A2 y.schema.length c2) := by subst hst; go_simp
          have v91 : wst_9.cell? ⟨Wd.heap.size, 1, none⟩ = some (.slice B2 y.files.length d2) := by subst hst; go_simp
          refine hK.out _ _ (by (try dsimp only); exact ⟨hc9.cell hHeld.1 (fun h => by have h1 := List.mem_singleton.1 h; simp only at h1; omega), hc9.cell hHeld.2.1 (fun h => by have h1 := List.mem_singleton.1 h; simp only at h1; omega), hc9.cell hHeld.2.2.1 (fun h => by have h1 := List.mem_singleton.1 h; simp only at h1; omega), hc9.cell hHeld.2.2.2.1 (fun h => by have h1 := List.mem_singleton.1 h; simp only at h1; omega), hc9.cell hHeld.2.2.2.2.1 (fun h => by have h1 := List.mem_singleton.1 h; simp only at h1; omega), hc9.cell hHeld.2.2.2.2.2.1 (fun h => by have h1 := List.mem_singleton.1 h; simp only at h1; omega), Below.mark hHeld.2.2.2.2.2.2 hc9 hHeld.2.2.2.2.2.2.size (fun b hb => by obtain rfl := List.mem_singleton.1 hb; omega)⟩) (fun hNew => ?_)
          clear hK K hHeld
          have hHeld := hNew
          clear hNew
          try simp only [Act.put, List.setIfInBounds_toArray, List.set_cons_zero, List.set_cons_succ]
          clear hst u0 u1 u2 uf ul
          refine wpAnyH_done (by kernel_rfl) ?_ _
          obtain ⟨hsx, htx⟩ := sto_reads (w' := wst_9) HSx.out.1 HSx.out.2.2 HSx.out.2.1 (fun b h1 h2 => by
            have h3 := HBx.out.size
            have h4 := hc8.size
            exact ((hc9.block b (by omega) (fun h => by have h1 := List.mem_singleton.1 h; omega)).trans (hc8.block b (by omega) (fun h => by have h1 := List.mem_singleton.1 h; omega))).trans (HBx.out.block b h2))
          obtain ⟨hsy, hty⟩ := sto_reads (w' := wst_9) HSy.out.1 HSy.out.2.2 HSy.out.2.1 (fun b h1 h2 => by
            have h3 := HBy.out.size
            have h4 := hc8.size
            exact ((hc9.block b (by omega) (fun h => by have h1 := List.mem_singleton.1 h; omega)).trans (hc8.block b (by omega) (fun h => by have h1 := List.mem_singleton.1 h; omega))).trans (HBy.out.block b h2))
          have v90' := hc9.cell v80 (fun h => by have h1 := List.mem_singleton.1 h; simp only at h1; omega)
          have v91' := hc9.cell v81 (fun h => by have h1 := List.mem_singleton.1 h; simp only at h1; omega)
          go_wp2_with fail
          go_meet
          exact ⟨_, _, A1, A2, B1, B2, c1, c2, d1, d2, rfl, rfl, v90', v91', v90, v91, hsx, htx, hsy, hty, ex_trans HHB0.out hHeld.2.2.2.2.2.2⟩
      · go_simp
        generalize hwa : World.alloc wa_26 _ = wa_32
        have hba : Below wa_26.heap.size wa_26 wa_32 := by rw [← hwa]; exact (Below.refl _ _).alloc (Nat.le_refl _) _
        have hsz_32 : wa_32.heap.size ≤ wa_26.heap.size + 1 := by rw [← hwa]; simp
        have hsz2_32 : wa_26.heap.size + 1 ≤ wa_32.heap.size := by rw [← hwa]; simp
        have HD8 := Lib.hid (below_keep hba HD8.out)
        have HD7 := Lib.hid (show wa_32.heap[wa_26.heap.size]? = some (.cells #[.slice none 0 0, .slice none 0 0, .int .i64 0] 31 (0, 0)) by rw [← hwa]; exact hp_new rfl)
        refine hK.out _ _ (by (try dsimp only); exact ⟨keep_cell hba hHeld.1, keep_cell hba hHeld.2.1, keep_cell hba hHeld.2.2.1, keep_cell hba hHeld.2.2.2.1, keep_cell hba hHeld.2.2.2.2.1, keep_cell hba hHeld.2.2.2.2.2.1, ex_trans hHeld.2.2.2.2.2.2 hba⟩) (fun hNew => ?_)
        clear hK K hHeld
        have hHeld := hNew
        clear hNew
        try simp only [Act.put, List.setIfInBounds_toArray, List.set_cons_zero, List.set_cons_succ]
        clear hwa hba
        refine held_one 2 (by kernel_rfl) rfl (fun K hK => ?_)
        go_simp
        go_at_call 52
        refine (HVa.out _ (ex_trans HHB0.out hHeld.2.2.2.2.2.2)).mono ?_; rintro e w53 ⟨A1, c1, B1, d1, X1, rfl, hF, hXa, hXb, hXc, hR, hb33⟩
        have hsz_33 : wa_32.heap.size ≤ w53.heap.size := hb33.size
        have HD7 := Lib.hid (below_keep hb33 HD7.out)
        have HD8 := Lib.hid (below_keep hb33 HD8.out)
        have HSx := Lib.hid (And.intro hF (And.intro hXb hR))
        have HBx := Lib.hid (Below.refl w53.heap.size w53)
        go_wp2_with fail
        refine hK.out _ _ (by (try dsimp only); exact ⟨keep_cell hb33 hHeld.1, keep_cell hb33 hHeld.2.1, keep_cell hb33 hHeld.2.2.1, keep_cell hb33 hHeld.2.2.2.1, keep_cell hb33 hHeld.2.2.2.2.1, keep_cell hb33 hHeld.2.2.2.2.2.1, ex_trans hHeld.2.2.2.2.2.2 hb33⟩) (fun hNew => ?_)
        clear hK K hHeld
        have hHeld := hNew
        clear hNew
        try simp only [Act.put, List.setIfInBounds_toArray, List.set_cons_zero, List.set_cons_succ]
        clear hF hXa hXb hXc hR hb33
        refine held_one 5 (by kernel_rfl) rfl (fun K hK => ?_)
        go_simp
        go_at_call 52
        refine (HVb.out _ (ex_trans HHB0.out hHeld.2.2.2.2.2.2)).mono ?_; rintro e w54 ⟨A2, c2, B2, d2, X2, rfl, hF, hXa, hXb, hXc, hR, hb34⟩
        have hsz_34 : w53.heap.size ≤ w54.heap.size := hb34.size
        have HBx := Lib.hid (HBx.out.trans (hb34.mono HBx.out.size))
        have HD7 := Lib.hid (below_keep hb34 HD7.out)
        have HD8 := Lib.hid (below_keep hb34 HD8.out)
        have HSy := Lib.hid (And.intro hF (And.intro hXb hR))
        have HBy := Lib.hid (Below.refl w54.heap.size w54)
        go_wp2_with fail
        refine hK.out _ _ (by (try dsimp only); exact ⟨keep_cell hb34 hHeld.1, keep_cell hb34 hHeld.2.1, keep_cell hb34 hHeld.2.2.1, keep_cell hb34 hHeld.2.2.2.1, keep_cell hb34 hHeld.2.2.2.2.1, keep_cell hb34 hHeld.2.2.2.2.2.1, ex_trans hHeld.2.2.2.2.2.2 hb34⟩) (fun hNew => ?_)
        clear hK K hHeld
        have hHeld := hNew
        clear hNew
        try simp only [Act.put, List.setIfInBounds_toArray, List.set_cons_zero, List.set_cons_succ]
        clear hF hXa hXb hXc hR hb34
        have u0 := blk_cell? HD7.out 0
        have u1 := blk_cell? HD7.out 1
        have u2 := blk_cell? HD7.out 2
        have uf := blk_free HD7.out
        have ul := blk_lt HD7.out
        simp only [List.getElem?_toArray, List.getElem?_cons_zero, List.getElem?_cons_succ] at u0 u1 u2
        refine held_one 8 (by kernel_rfl) rfl (fun K hK => ?_)
        go_simp
        generalize hst : World.setCell (World.setCell (World.setCell w54 _ _) _ _) _ _ = wst_8
        have hc8 : Chg [wa_26.heap.size] w54 wst_8 := by rw [← hst]; exact (((Chg.of_below _ (Below.refl _ _)).set (by simp) _).set (by simp) _).set (by simp) _
        have v80 : wst_8.cell? ⟨wa_26.heap.size, 0, none⟩ = some (.slice A1 x.schema.length c1) := by subst hst; go_simp
        have v81 : wst_8.cell? ⟨wa_26.heap.size, 1, none⟩ = some (.slice B1 x.files.length d1) := by subst hst; go_simp
        refine hK.out _ _ (by (try dsimp only); exact ⟨hc8.cell hHeld.1 (fun h => by have h1 := List.mem_singleton.1 h; simp only at h1; omega), hc8.cell hHeld.2.1 (fun h => by have h1 := List.mem_singleton.1 h; simp only at h1; omega), hc8.cell hHeld.2.2.1 (fun h => by have h1 := List.mem_singleton.1 h; simp only at h1; omega), hc8.cell hHeld.2.2.2.1 (fun h => by have h1 := List.mem_singleton.1 h; simp only at h1; omega), hc8.cell hHeld.2.2.2.2.1 (fun h => by have h1 := List.mem_singleton.1 h; simp only at h1; omega), hc8.cell hHeld.2.2.2.2.2.1 (fun h => by have h1 := List.mem_singleton.1 h; simp only at h1; omega), Below.mark hHeld.2.2.2.2.2.2 hc8 hHeld.2.2.2.2.2.2.size (fun b hb => by obtain rfl := List.mem_singleton.1 hb; omega)⟩) (fun hNew => ?_)
        clear hK K hHeld
        have hHeld := hNew
        clear hNew
        try simp only [Act.put, List.setIfInBounds_toArray, List.set_cons_zero, List.set_cons_succ]
        clear hst u0 u1 u2 uf ul
        have HD8 := Lib.hid (hc8.keepb HD8.out (fun h => by have h1 := List.mem_singleton.1 h; omega))
        have u0 := blk_cell? HD8.out 0
        have u1 := blk_cell? HD8.out 1
        have u2 := blk_cell? HD8.out 2
        have uf := blk_free HD8.out
        have ul := blk_lt HD8.out
        simp only [List.getElem?_toArray, List.getElem?_cons_zero, List.getElem?_cons_succ] at u0 u1 u2
        refine held_one 9 (by kernel_rfl) rfl (fun K hK => ?_)
        go_simp
        generalize hst : World.setCell (World.setCell (World.setCell wst_8 _ _) _ _) _ _ = wst_9
        have hc9 : Chg [Wd.heap.size] wst_8 wst_9 := by rw [← hst]; exact (((Chg.of_below _ (Below.refl _ _)).set (by simp) _).set (by simp) _).set (by simp) _
        have v90 : wst_9.cell? ⟨Wd.heap.size, 0, none⟩ = some (.slice A2 y.schema.length c2) := by subst hst; go_simp
        have v91 : wst_9.cell? ⟨Wd.heap.size, 1, none⟩ = some (.slice B2 y.files.length d2) := by subst hst; go_simp
        refine hK.out _ _ (by (try dsimp only); exact ⟨hc9.cell hHeld.1 (fun h => by have h1 := List.mem_singleton.1 h; simp only at h1; omega), hc9.cell hHeld.2.1 (fun h => by have h1 := List.mem_singleton.1 h; simp only at h1; omega), hc9.cell hHeld.2.2.1 (fun h => by have h1 := List.mem_singleton.1 h; simp only at h1; omega), hc9.cell hHeld.2.2.2.1 (fun h => by have h1 := List.mem_singleton.1 h; simp only at h1; omega), hc9.cell hHeld.2.2.2.2.1 (fun h => by have h1 := List.mem_singleton.1 h; simp only at h1; omega), hc9.cell hHeld.2.2.2.2.2.1 (fun h => by have h1 := List.mem_singleton.1 h; simp only at h1; omega), Below.mark hHeld.2.2.2.2.2.2 hc9 hHeld.2.2.2.2.2.2.size (fun b hb => by obtain rfl := List.mem_singleton.1 hb; omega)⟩) (fun hNew => ?_)
        clear hK K hHeld
        have hHeld := hNew
        clear hNew
        try simp only [Act.put, List.setIfInBounds_toArray, List.set_cons_zero, List.set_cons_succ]
        clear hst u0 u1 u2 uf ul
        refine wpAnyH_done (by kernel_rfl) ?_ _
        obtain ⟨hsx, htx⟩ := sto_reads (w' := wst_9) HSx.out.1 HSx.out.2.2 HSx.out.2.1 (fun b h1 h2 => by
          have h3 := HBx.out.size
          have h4 := hc8.size
          exact ((hc9.block b (by omega) (fun h => by have h1 := List.mem_singleton.1 h; omega)).trans (hc8.block b (by omega) (fun h => by have h1 := List.mem_singleton.1 h; omega))).trans (HBx.out.block b h2))
        obtain ⟨hsy, hty⟩ := sto_reads (w' := wst_9) HSy.out.1 HSy.out.2.2 HSy.out.2.1 (fun b h1 h2 => by
          have h3 := HBy.out.size
          have h4 := hc8.size
          exact ((hc9.block b (by omega) (fun h => by have h1 := List.mem_singleton.1 h; omega)).trans (hc8.block b (by omega) (fun h => by have h1 := List.mem_singleton.1 h; omega))).trans (HBy.out.block b h2))
        have v90' := hc9.cell v80 (fun h => by have h1 := List.mem_singleton.1 h; simp only at h1; omega)
        have v91' := hc9.cell v81 (fun h => by have h1 := List.mem_singleton.1 h; simp only at h1; omega)
        go_wp2_with fail
        go_meet
        exact ⟨_, _, A1, A2, B1, B2, c1, c2, d1, d2, rfl, rfl, v90', v91', v90, v91, hsx, htx, hsy, hty, ex_trans HHB0.out hHeld.2.2.2.2.2.2⟩
  case rest =>
    generalize wc = w8 at *
    obtain ⟨g, h, A1, A2, B1, B2, c1, c2, d1, d2, rfl, rfl, e0, e1, f0, f1, hsx, htx, hsy, hty, hB8⟩ := hcut
    have HB8 := Lib.hid hB8
    have HC1 := Lib.hid fun w' (hbb : Below w8.heap.size w8 w') => slices_Equal_Field A1 x.schema.length c1 x.schema A2 y.schema.length c2 y.schema w' (hsx.mono mFld hbb) (hsy.mono mFld hbb) HXok.out.1 HYok.out.1
    have HD1 := Lib.hid fun w' (hbb : Below w8.heap.size w8 w') => slices_EqualFunc_File B1 x.files.length d1 x.files B2 y.files.length d2 y.files w' (htx.mono mFil hbb) (hty.mono mFil hbb) HXok.out.2.2.1 HYok.out.2.2.1 HXok.out.2.2.2 HYok.out.2.2.2
    clear hsx htx hsy hty hB8 x0 x1 x2 y0 y1 y2
    go_wp2_with fail
    refine (HC1.out _ (Below.refl _ _)).mono ?_; rintro e w9 ⟨rfl, hb9⟩
    have HB9 := Lib.hid hb9
    have e1' := keep_cell hb9 e1
    have f1' := keep_cell hb9 f1
    clear hb9 e0 e1 f0 f1
    cases h1 : eqL Fld.eqb x.schema y.schema with
    | false =>
      have HZ2 := Lib.hid (show false = eqFU a b0 u by rw [HZ.out, h1]; rfl)
      clear h1
      go_wp2_with fail
      go_returns
      exact ⟨ret_bool HZ2.out, ex_trans HB8.out HB9.out⟩
    | true =>
      have HZ2 := Lib.hid (show eqL Fil.eqb x.files y.files = eqFU a b0 u by rw [HZ.out, h1]; rfl)
      clear h1
      go_wp2_with fail
      refine (HD1.out _ HB9.out).mono ?_; rintro e w10 ⟨rfl, hb10⟩
      go_wp2_with fail
      go_returns
      exact ⟨ret_bool HZ2.out, ex_trans (ex_trans HB8.out HB9.out) hb10⟩
end Go.Proofs.Ytkjhfblipmagoaa
