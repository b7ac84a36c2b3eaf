/-
  CONTRACTS: the draw of a file.
-/
import Derived.WalkKit
import Derived.WalkSpells
import Derived.WalkLawsBesides
import Derived.Lib.Hide
import Derived.Handy
import Derived.StillTailTactics
import Derived.Deep.Light
import Derived.Deep.QuietTactic
import Derived.BigQuiet
import Derived.Deep.RegionHeld3
import Derived.Deep.DeepCutAuto
import Derived.Test.YtjobgnioehkomaaLib
import Derived.Test.YtjobgnioehkomaaOwn
import Derived.Test.YtjobgnioehkomaaRow
import Derived.Test.YtjobgnioehkomaaN0
import Derived.Test.YtjobgnioehkomaaRaw
import Derived.Test.YtjobgnioehkomaaHld
import Derived.Test.YtjobgnioehkomaaHl2
import Derived.Test.YtjobgnioehkomaaSz
import Derived.Test.YtjobgnioehkomaaC1
import Derived.Test.YtjobgnioehkomaaC2
import Derived.Test.YtjobgnioehkomaaT1
import Derived.Test.YtjobgnioehkomaaT2
import Derived.Test.YtjobgnioehkomaaT3
import Derived.Test.YtjobgnioehkomaaT4
import Derived.Test.YtjobgnioehkomaaC3
import Derived.Test.YtjobgnioehkomaaC4
import Derived.Test.YtjobgnioehkomaaC5
import Derived.Test.YtjobgnioehkomaaD1
import Derived.Test.YtjobgnioehkomaaD3
import Derived.Test.YtjobgnioehkomaaD4
import Derived.Test.YtjobgnioehkomaaD5
import Derived.Test.YtjobgnioehkomaaH1
import Derived.Test.YtjobgnioehkomaaE4
import Derived.Test.YtjobgnioehkomaaI1
import Derived.Test.YtjobgnioehkomaaI2
import Derived.Test.YtjobgnioehkomaaD7
import Derived.Test.YtjobgnioehkomaaD8
import Derived.Test.YtjobgnioehkomaaY1
import Derived.Test.YtjobgnioehkomaaY2
import Derived.Test.YtjobgnioehkomaaZ1
import Derived.Test.YtjobgnioehkomaaRows
namespace Go.Proofs.Ytjobgnioehkomaa
open Go.RowKit
set_option linter.unusedVariables false
set_option maxRecDepth 100000
theorem FRow.far {α : Type} {e size : Nat} {enc : α → List Value} {w : World} {B n c : Nat} {A : Option Addr} {l : List α} (h : FRow e size enc w B A n c l) {g T : Nat} {cs : Array Value} (hg : w.heap[g]? = some (.cells cs T (0, 0))) (hne : T ≠ e) : g ∉ rowBs A c := fun hm => by
  have hc : 0 < c := by
    rcases Nat.eq_zero_or_pos c with rfl | h0
    · simp [rowBs_zero] at hm
    · exact h0
  obtain ⟨g', -, -, -, hr, cur, hcur, -⟩ := h.row hc
  rw [hr] at hm
  obtain rfl : g = g' := by simpa using hm
  rw [hg] at hcur
  simp only [Option.some.injEq, Obj.cells.injEq] at hcur
  exact hne hcur.2.1
def smallA (l : List Atr) : Prop := ∀ a ∈ l, a.name.size ≤ 16 ∧ a.val.str.size ≤ 16
theorem smallA.set {l : List Atr} (h : smallA l) {nm : ByteArray} {v : Vl} (h1 : nm.size ≤ 16) (h2 : v.str.size ≤ 16) : smallA (setL l nm v) := fun a ha => by
  have hd : ∀ a ∈ dropA l nm, a.name.size ≤ 16 ∧ a.val.str.size ≤ 16 := fun a ha => h a (List.mem_filter.1 ha).1
  unfold setL at ha
  split at ha
  · exact hd a ha
  · unfold insL at ha
    rcases List.mem_append.1 ha with h9 | h9
    · exact hd a (List.mem_of_mem_take h9)
    · rcases List.mem_cons.1 h9 with rfl | h9
      · exact ⟨h1, h2⟩
      · exact hd a (List.mem_of_mem_drop h9)
/-- a drawn file, its row the call's own -/
def DrawF (m : Nat) (W0 w : World) (g : Nat) (e : Ending) (w' : World) : Prop := ∃ (f : Fil) (A : Option Addr) (n c : Nat), e = .returned (.agg #[.int .i64 f.id, .int .i64 f.owner, .bool f.shared, .int .i64 f.link, .slice A n c]) ∧ FRow 84 4 eAtr w' w.heap.size A n c f.attrs ∧ n ≤ m ∧ smallA f.attrs ∧ Cur W0 w' g ∧ Chg [g] w w'
/-- the box of the file under way, and the box of the result -/
def MidF (W0 w : World) (g b : Nat) (f : Fil) (A : Option Addr) (n c : Nat) (w' : World) : Prop :=
  w'.heap[b]? = some (.cells #[.int .i64 f.id, .int .i64 f.owner, .bool f.shared, .int .i64 f.link, .slice A n c] 28 (0, 0)) ∧ w'.heap[w.heap.size]? = some (.cells #[.int .i64 0, .int .i64 0, .bool false, .int .i64 0, .slice none 0 0] 28 (0, 0)) ∧ FRow 84 4 eAtr w' w.heap.size A n c f.attrs ∧ Cur W0 w' g ∧ Chg [g] w w'
def Mid (W0 w : World) (g b m : Nat) (w' : World) : Prop := ∃ (f : Fil) (A : Option Addr) (n c : Nat), n ≤ m ∧ smallA f.attrs ∧ MidF W0 w g b f A n c w'
theorem MidF.step {W0 w w1 w2 : World} {g b : Nat} {f : Fil} {A : Option Addr} {n c : Nat} (h : MidF W0 w g b f A n c w1) (hg : g < w.heap.size) (hb : w.heap.size < b) (hC : Cur W0 w2 g) (hc : Chg [g] w1 w2) : MidF W0 w g b f A n c w2 :=
  ⟨hc.keepb h.1 (by simp only [List.mem_singleton]; omega), hc.keepb h.2.1 (by simp only [List.mem_singleton]; omega), row_draw h.2.2.1 hg hc, hC, h.2.2.2.2.trans hc⟩
theorem MidF.below {W0 w w1 w2 : World} {g b : Nat} {f : Fil} {A : Option Addr} {n c : Nat} (h : MidF W0 w g b f A n c w1) (hg : g < w.heap.size) (hb : w.heap.size < b) (hB : Below w1.heap.size w1 w2) : MidF W0 w g b f A n c w2 :=
  h.step hg hb (h.2.2.2.1.below hB) (Chg.of_below _ hB)
theorem MidF.cells {W0 w w1 : World} {g b : Nat} {f : Fil} {A : Option Addr} {n c : Nat} (h : MidF W0 w g b f A n c w1) :
    w1.cell? ⟨b, 0, none⟩ = some (.int .i64 f.id) ∧ w1.cell? ⟨b, 1, none⟩ = some (.int .i64 f.owner) ∧ w1.cell? ⟨b, 2, none⟩ = some (.bool f.shared) ∧ w1.cell? ⟨b, 3, none⟩ = some (.int .i64 f.link) ∧ w1.cell? ⟨b, 4, none⟩ = some (.slice A n c) ∧ MidF W0 w g b f A n c w1 :=
  ⟨blk_cell? h.1 0, blk_cell? h.1 1, blk_cell? h.1 2, blk_cell? h.1 3, blk_cell? h.1 4, h⟩
/-- the box filled anew -/
theorem MidF.put {W0 w w1 : World} {g b : Nat} {f f' : Fil} {A A' : Option Addr} {n c n' c' : Nat} (h : MidF W0 w g b f A n c w1) (hg : g < w.heap.size) (hW : W0.heap.size ≤ w.heap.size) (hb : w.heap.size < b) (hr : FRow 84 4 eAtr w1 w.heap.size A' n' c' f'.attrs) :
    MidF W0 w g b f' A' n' c' (World.setCell (World.setCell (World.setCell (World.setCell (World.setCell w1 ⟨b, 0, none⟩ (.int .i64 f'.id)) ⟨b, 1, none⟩ (.int .i64 f'.owner)) ⟨b, 2, none⟩ (.bool f'.shared)) ⟨b, 3, none⟩ (.int .i64 f'.link)) ⟨b, 4, none⟩ (.slice A' n' c')) := by
  have hc : Chg [b] w1 (World.setCell (World.setCell (World.setCell (World.setCell (World.setCell w1 ⟨b, 0, none⟩ (.int .i64 f'.id)) ⟨b, 1, none⟩ (.int .i64 f'.owner)) ⟨b, 2, none⟩ (.bool f'.shared)) ⟨b, 3, none⟩ (.int .i64 f'.link)) ⟨b, 4, none⟩ (.slice A' n' c')) :=
    ((((((Chg.refl [b] w1).set (by simp) _).set (by simp) _).set (by simp) _).set (by simp) _).set (by simp) _)
  refine ⟨?_, hc.keepb h.2.1 (by simp only [List.mem_singleton]; omega), hr.chg hc (fun x hx hm => ?_), h.2.2.2.1.chg hc (by simp only [List.mem_singleton]; omega) (fun x hx => by simp only [List.mem_singleton] at hx; omega), h.2.2.2.2.step hc (fun x hx hlt => by simp only [List.mem_singleton] at hx; omega)⟩
  · have h1 := blk_set (blk_set (blk_set (blk_set (blk_set h.1 0 (.int .i64 f'.id)) 1 (.int .i64 f'.owner)) 2 (.bool f'.shared)) 3 (.int .i64 f'.link)) 4 (.slice A' n' c')
    simpa using h1
  · obtain rfl := List.mem_singleton.1 hm
    exact hr.far h.1 (by decide) hx
/-- one cell of the box -/
theorem MidF.link {W0 w w1 : World} {g b : Nat} {f : Fil} {A : Option Addr} {n c : Nat} (h : MidF W0 w g b f A n c w1) (hg : g < w.heap.size) (hW : W0.heap.size ≤ w.heap.size) (hb : w.heap.size < b) (y : Int) :
    MidF W0 w g b { f with link := y } A n c (World.setCell w1 ⟨b, 3, none⟩ (.int .i64 y)) := by
  have hc : Chg [b] w1 (World.setCell w1 ⟨b, 3, none⟩ (.int .i64 y)) := (Chg.refl [b] w1).set (by simp) _
  refine ⟨?_, hc.keepb h.2.1 (by simp only [List.mem_singleton]; omega), h.2.2.1.chg hc (fun x hx hm => ?_), h.2.2.2.1.chg hc (by simp only [List.mem_singleton]; omega) (fun x hx => by simp only [List.mem_singleton] at hx; omega), h.2.2.2.2.step hc (fun x hx hlt => by simp only [List.mem_singleton] at hx; omega)⟩
  · have h1 := blk_set h.1 3 (.int .i64 y)
    simpa using h1
  · obtain rfl := List.mem_singleton.1 hm
    exact h.2.2.1.far h.1 (by decide) hx
set_option maxHeartbeats 6400000 in
theorem spec_l04File (W0 w : World) (g : Nat) (id : Int) (hC : Cur W0 w g) : Calls Try.prog 91 #[.pointer (some ⟨g, 0, none⟩), .int .i64 id] w (DrawF 4 W0 w g) := by
  have HB := Lib.hid fun n h0 h1 w' (h : Cur W0 w' g) => spec_l01Below W0 w' g n h0 h1 h
  have HO := Lib.hid fun n h0 h1 w' (h : Cur W0 w' g) => spec_l01Once W0 w' g n h0 h1 h
  have HP := Lib.hid fun (A : Option Addr) (m c : Nat) ls w' h0 h1 hS (h : Cur W0 w' g) => spec_l01Pick W0 w' g A m c ls h0 h1 hS h
  have hgl := cur_lt hC
  have hgw := (cur_w hC).2.size
  have HC := Lib.hid hC
  clear hC
  go_enter Try.func91, Try.ntmps91
  go_wp2_with fail
  refine (HB.out 3 (by omega) (by omega) _ (HC.out.below (ex_alloc (Below.refl _ _) _))).mono ?_; rintro e w1 ⟨x, rfl, ⟨x0, x1⟩, hc1, hg1⟩
  have H1 := Lib.hid (And.intro hc1 (And.intro ((Chg.of_below [g] (ex_alloc (Below.refl w.heap.size w) _)).trans hg1) (hg1.keepb (hp_new rfl) (by simp only [List.mem_singleton]; omega))))
  clear hc1 hg1
  go_wp2_with fail
  refine (HO.out 2 (by omega) (by omega) _ H1.out.1).mono ?_; rintro e w2 ⟨sh, rfl, hc2, hg2⟩
  have H2 := Lib.hid (And.intro hc2 (And.intro (H1.out.2.1.trans hg2) (hg2.keepb H1.out.2.2 (by simp only [List.mem_singleton]; omega))))
  have hz2 : w.heap.size < w2.heap.size := blk_lt H2.out.2.2
  clear hc2 hg2 H1
  go_wp2_with fail
  generalize hw3 : World.alloc w2 _ = w3
  have hM3 : MidF W0 w g w2.heap.size ⟨id, x, sh, 0, []⟩ none 0 0 w3 := by
    have hba : Below w2.heap.size w2 w3 := by rw [← hw3]; exact (Below.refl _ _).alloc (Nat.le_refl _) _
    refine ⟨by rw [← hw3]; exact hp_new rfl, below_keep hba H2.out.2.2, FRow.any0 _ _ _ _ _ _, H2.out.1.below hba, H2.out.2.1.trans (Chg.of_below _ hba)⟩
  have hl3 : w2.heap.size < w3.heap.size := by rw [← hw3]; simp
  clear hw3 H2
  obtain ⟨f, A, n, c, hn, hsm, hm⟩ : Mid W0 w g w2.heap.size 0 w3 := ⟨_, none, 0, 0, Nat.le_refl _, fun a ha => (by cases ha), hM3⟩
  have hbl := hz2
  clear hM3 hz2 x0 x1
  generalize w2.heap.size = b at *
  have HM0 := Lib.hid hm
  have HSM := Lib.hid hsm
  clear hm hsm
  refine (HO.out 2 (by omega) (by omega) _ HM0.out.2.2.2.1).mono ?_; rintro e w4 ⟨q, rfl, hc, hg⟩
  have HM := Lib.hid (HM0.out.step hgl hbl hc hg)
  clear hc hg HM0
  go_upto_if 13 with fail
  go_cut [] (fun w' => Mid W0 w g b 0 w')
  case first =>
    cases q with
    | false =>
      go_wp2_with fail
      go_meet
      exact ⟨f, A, n, c, by omega, HSM.out, HM.out⟩
    | true =>
      go_wp2_with fail
      refine (HB.out 7 (by omega) (by omega) _ HM.out.2.2.2.1).mono ?_; rintro e w5 ⟨y, rfl, hy, hc, hg⟩
      have HM5 := Lib.hid (HM.out.step hgl hbl hc hg)
      clear hc hg
      have u3 := blk_cell? HM5.out.1 3
      have uf := blk_free HM5.out.1
      simp only [List.getElem?_toArray, List.getElem?_cons_zero, List.getElem?_cons_succ] at u3
      go_wp2_with fail
      go_meet
      exact ⟨{ f with link := y }, A, n, c, by omega, HSM.out, HM5.out.link hgl hgw hbl y⟩
  case rest =>
    generalize wc = w5 at *
    clear HM HSM
    clear hn
    obtain ⟨f, A, n, c, hn, hsm, hm⟩ := hcut
    have HM0 := Lib.hid hm
    have HSM := Lib.hid hsm
    clear hm hsm
    go_wp2_with fail
    refine (HO.out 4 (by omega) (by omega) _ HM0.out.2.2.2.1).mono ?_; rintro e w6 ⟨q, rfl, hc, hg⟩
    have HM := Lib.hid (HM0.out.step hgl hbl hc hg)
    clear hc hg HM0
    go_upto_if 19 with fail
    go_cut [] (fun w' => Mid W0 w g b 1 w')
    case first =>
      cases q with
      | false =>
        go_upto_region 5 with fail
        refine region_F (S := (fun w' => w'.cell? ⟨b, 0, none⟩ = some (.int .i64 f.id) ∧ w'.cell? ⟨b, 1, none⟩ = some (.int .i64 f.owner) ∧ w'.cell? ⟨b, 2, none⟩ = some (.bool f.shared) ∧ w'.cell? ⟨b, 3, none⟩ = some (.int .i64 f.link) ∧ w'.cell? ⟨b, 4, none⟩ = some (.slice A n c) ∧ MidF W0 w g b f A n c w')) [5] (by kernel_rfl) (by (try dsimp only); exact (HM.out.step hgl hbl (HM.out.2.2.2.1.below (Below.refl _ _).drew) (Chg.of_below _ (Below.refl _ _).drew)).cells) (fun hHeld => ?_)
        generalize World.drew w6 = Wd at *
        refine heldF_take 0 rfl (by kernel_rfl) (by kernel_rfl) (by kernel_rfl) (by kernel_rfl) (by kernel_rfl) (by rfl) (fun _ _ _ h => h) (by assumption) (by intro w hSw; (try dsimp only at hSw); go_simp; first | done | with_reducible rfl) ?_
        simp only [Act.put, List.setIfInBounds_toArray, List.set_cons_zero, List.set_cons_succ]
        refine heldF_take 1 rfl (by kernel_rfl) (by kernel_rfl) (by kernel_rfl) (by kernel_rfl) (by kernel_rfl) (by rfl) (fun _ _ _ h => h) (by assumption) (by intro w hSw; (try dsimp only at hSw); go_simp; first | done | with_reducible rfl) ?_
        simp only [Act.put, List.setIfInBounds_toArray, List.set_cons_zero, List.set_cons_succ]
        have hgd := cur_lt hHeld.2.2.2.2.2.2.2.2.1
        refine heldF_one 2 (by kernel_rfl) rfl (fun K hK => ?_)
        go_simp
        go_at_call 62
        refine (HB.out 4 (by omega) (by omega) _ hHeld.2.2.2.2.2.2.2.2.1).mono ?_; rintro e w3 ⟨x, rfl, hx, hc3, hg3⟩
        go_wp2_with fail
        refine hK.out _ _ (fun _ => by (try dsimp only); exact (hHeld.2.2.2.2.2.step hgl hbl hc3 hg3).cells) (fun hNew => ?_)
        clear hK K hHeld
        have hHeld := hNew rfl
        clear hNew
        try simp only [Act.put, List.setIfInBounds_toArray, List.set_cons_zero, List.set_cons_succ]
        clear hc3 hg3 hx
        refine heldF_one 3 (by kernel_rfl) rfl (fun K hK => ?_)
        go_simp
        go_at_call 11
        refine (spec_IntValue x _).mono ?_; rintro e w4 ⟨rfl, hb4⟩
        go_wp2_with fail
        refine hK.out _ _ (fun _ => by (try dsimp only); exact (hHeld.2.2.2.2.2.below hgl hbl hb4).cells) (fun hNew => ?_)
        clear hK K hHeld
        have hHeld := hNew rfl
        clear hNew
        try simp only [Act.put, List.setIfInBounds_toArray, List.set_cons_zero, List.set_cons_succ]
        clear hb4
        refine heldF_one 4 (by kernel_rfl) rfl (fun K hK => ?_)
        go_simp
        go_at_call 23
        refine (spec_SetAttr f A n c ⟨#[97]⟩ (intV x) _ (hHeld.2.2.2.2.2.2.2.1.sl (R := RAtr) encAtr (fun _ => rfl)) (by omega)).mono ?_; rintro e w5 ⟨A5, c5, rfl, hr5, hb5⟩
        have HR5 := Lib.hid (hr5.re (fun x hx => Nat.le_trans hHeld.2.2.2.2.2.2.2.2.2.size (hr5.base x hx).1))
        have HM5 := Lib.hid (hHeld.2.2.2.2.2.below hgl hbl hb5)
        go_wp2_with fail
        refine hK.out _ _ (fun _ => by (try dsimp only); exact HM5.out.cells) (fun hNew => ?_)
        clear hK K hHeld
        have hHeld := hNew rfl
        clear hNew
        try simp only [Act.put, List.setIfInBounds_toArray, List.set_cons_zero, List.set_cons_succ]
        clear hr5 hb5
        have u0 := blk_cell? HM5.out.1 0
        have u1 := blk_cell? HM5.out.1 1
        have u2 := blk_cell? HM5.out.1 2
        have u3 := blk_cell? HM5.out.1 3
        have u4 := blk_cell? HM5.out.1 4
        have uf := blk_free HM5.out.1
        refine heldF_one 5 (by kernel_rfl) rfl (fun K hK => ?_)
        go_simp
        refine hK.out _ _ (fun h => by cases (show true = false from h)) (fun _ => ?_)
        clear hK K
        try clear hHeld
        try simp only [Act.put, List.setIfInBounds_toArray, List.set_cons_zero, List.set_cons_succ]
        refine anyF_done (by kernel_rfl) ?_ _
        go_wp2_with fail
        go_meet
        have hl5 : (setA f ⟨#[97]⟩ (intV x)).attrs.length ≤ 1 := Nat.le_trans (setL_len f.attrs ⟨#[97]⟩ (intV x)) (by have h9 := HM5.out.2.2.1.len; omega)
        exact ⟨setA f ⟨#[97]⟩ (intV x), A5, _, c5, hl5, HSM.out.set (nm := ⟨#[97]⟩) (v := (intV x)) (by decide) (show ByteArray.empty.size ≤ 16 by decide), HM5.out.put (f' := setA f ⟨#[97]⟩ (intV x)) hgl hgw hbl HR5.out⟩
      | true =>
        go_wp2_with fail
        go_meet
        exact ⟨f, A, n, c, by omega, HSM.out, HM.out⟩
    case rest =>
      generalize wc = w7 at *
      clear HM HSM
      clear hn
      obtain ⟨f, A, n, c, hn, hsm, hm⟩ := hcut
      have HM0 := Lib.hid hm
      have HSM := Lib.hid hsm
      clear hm hsm
      go_wp2_with fail
      refine (HO.out 2 (by omega) (by omega) _ HM0.out.2.2.2.1).mono ?_; rintro e w8 ⟨q, rfl, hc, hg⟩
      have HM := Lib.hid (HM0.out.step hgl hbl hc hg)
      clear hc hg HM0
      go_upto_if 26 with fail
      go_cut [] (fun w' => Mid W0 w g b 2 w')
      case first =>
        cases q with
        | false =>
          go_wp2_with fail
          go_meet
          exact ⟨f, A, n, c, by omega, HSM.out, HM.out⟩
        | true =>
          go_upto_region 7 with fail
          refine region_F (S := (fun w' => w'.cell? ⟨b, 0, none⟩ = some (.int .i64 f.id) ∧ w'.cell? ⟨b, 1, none⟩ = some (.int .i64 f.owner) ∧ w'.cell? ⟨b, 2, none⟩ = some (.bool f.shared) ∧ w'.cell? ⟨b, 3, none⟩ = some (.int .i64 f.link) ∧ w'.cell? ⟨b, 4, none⟩ = some (.slice A n c) ∧ MidF W0 w g b f A n c w')) [5] (by kernel_rfl) (by (try dsimp only); exact (HM.out.step hgl hbl (HM.out.2.2.2.1.below (Below.refl _ _).drew) (Chg.of_below _ (Below.refl _ _).drew)).cells) (fun hHeld => ?_)
          generalize World.drew w8 = Wd at *
          refine heldF_take 0 rfl (by kernel_rfl) (by kernel_rfl) (by kernel_rfl) (by kernel_rfl) (by kernel_rfl) (by rfl) (fun _ _ _ h => h) (by assumption) (by intro w hSw; (try dsimp only at hSw); go_simp; first | done | with_reducible rfl) ?_
          simp only [Act.put, List.setIfInBounds_toArray, List.set_cons_zero, List.set_cons_succ]
          refine heldF_take 1 rfl (by kernel_rfl) (by kernel_rfl) (by kernel_rfl) (by kernel_rfl) (by kernel_rfl) (by rfl) (fun _ _ _ h => h) (by assumption) (by intro w hSw; (try dsimp only at hSw); go_simp; first | done | with_reducible rfl) ?_
          simp only [Act.put, List.setIfInBounds_toArray, List.set_cons_zero, List.set_cons_succ]
          have hgd := cur_lt hHeld.2.2.2.2.2.2.2.2.1
          refine heldF_one 2 (by kernel_rfl) rfl (fun K hK => ?_)
          go_simp
          go_at_call 62
          refine (HB.out 4 (by omega) (by omega) _ hHeld.2.2.2.2.2.2.2.2.1).mono ?_; rintro e w3 ⟨x, rfl, hx, hc3, hg3⟩
          go_wp2_with fail
          refine hK.out _ _ (fun _ => by (try dsimp only); exact (hHeld.2.2.2.2.2.step hgl hbl hc3 hg3).cells) (fun hNew => ?_)
          clear hK K hHeld
          have hHeld := hNew rfl
          clear hNew
          try simp only [Act.put, List.setIfInBounds_toArray, List.set_cons_zero, List.set_cons_succ]
          clear hc3 hg3 hx
          refine heldF_one 3 (by kernel_rfl) rfl (fun K hK => ?_)
          go_simp
          go_at_call 11
          refine (spec_IntValue x _).mono ?_; rintro e w4 ⟨rfl, hb4⟩
          go_wp2_with fail
          refine hK.out _ _ (fun _ => by (try dsimp only); exact (hHeld.2.2.2.2.2.below hgl hbl hb4).cells) (fun hNew => ?_)
          clear hK K hHeld
          have hHeld := hNew rfl
          clear hNew
          try simp only [Act.put, List.setIfInBounds_toArray, List.set_cons_zero, List.set_cons_succ]
          clear hb4
          refine heldF_one 4 (by kernel_rfl) rfl (fun K hK => ?_)
          go_simp
          go_at_call 23
          refine (spec_SetAttr f A n c ⟨#[98]⟩ (intV x) _ (hHeld.2.2.2.2.2.2.2.1.sl (R := RAtr) encAtr (fun _ => rfl)) (by omega)).mono ?_; rintro e w5 ⟨A5, c5, rfl, hr5, hb5⟩
          have HR5 := Lib.hid (hr5.re (fun x hx => Nat.le_trans hHeld.2.2.2.2.2.2.2.2.2.size (hr5.base x hx).1))
          have HM5 := Lib.hid (hHeld.2.2.2.2.2.below hgl hbl hb5)
          go_wp2_with fail
          refine hK.out _ _ (fun _ => by (try dsimp only); exact HM5.out.cells) (fun hNew => ?_)
          clear hK K hHeld
          have hHeld := hNew rfl
          clear hNew
          try simp only [Act.put, List.setIfInBounds_toArray, List.set_cons_zero, List.set_cons_succ]
          clear hr5 hb5
          have u0 := blk_cell? HM5.out.1 0
          have u1 := blk_cell? HM5.out.1 1
          have u2 := blk_cell? HM5.out.1 2
          have u3 := blk_cell? HM5.out.1 3
          have u4 := blk_cell? HM5.out.1 4
          have uf := blk_free HM5.out.1
          refine heldF_one 5 (by kernel_rfl) rfl (fun K hK => ?_)
          go_simp
          refine hK.out _ _ (fun h => by cases (show true = false from h)) (fun _ => ?_)
          clear hK K
          try clear hHeld
          try simp only [Act.put, List.setIfInBounds_toArray, List.set_cons_zero, List.set_cons_succ]
          refine anyF_done (by kernel_rfl) ?_ _
          go_wp2_with fail
          go_meet
          have hl5 : (setA f ⟨#[98]⟩ (intV x)).attrs.length ≤ 2 := Nat.le_trans (setL_len f.attrs ⟨#[98]⟩ (intV x)) (by have h9 := HM5.out.2.2.1.len; omega)
          exact ⟨setA f ⟨#[98]⟩ (intV x), A5, _, c5, hl5, HSM.out.set (nm := ⟨#[98]⟩) (v := (intV x)) (by decide) (show ByteArray.empty.size ≤ 16 by decide), HM5.out.put (f' := setA f ⟨#[98]⟩ (intV x)) hgl hgw hbl HR5.out⟩
      case rest =>
        generalize wc = w9 at *
        clear HM HSM
        clear hn
        obtain ⟨f, A, n, c, hn, hsm, hm⟩ := hcut
        have HM0 := Lib.hid hm
        have HSM := Lib.hid hsm
        clear hm hsm
        go_wp2_with fail
        refine (HO.out 3 (by omega) (by omega) _ HM0.out.2.2.2.1).mono ?_; rintro e w10 ⟨q, rfl, hc, hg⟩
        have HM := Lib.hid (HM0.out.step hgl hbl hc hg)
        clear hc hg HM0
        go_upto_if 34 with fail
        go_cut [] (fun w' => Mid W0 w g b 3 w')
        case first =>
          cases q with
          | false =>
            go_upto_region 9 with fail
            refine region_F (S := (fun w' => w'.cell? ⟨b, 0, none⟩ = some (.int .i64 f.id) ∧ w'.cell? ⟨b, 1, none⟩ = some (.int .i64 f.owner) ∧ w'.cell? ⟨b, 2, none⟩ = some (.bool f.shared) ∧ w'.cell? ⟨b, 3, none⟩ = some (.int .i64 f.link) ∧ w'.cell? ⟨b, 4, none⟩ = some (.slice A n c) ∧ MidF W0 w g b f A n c w')) [6] (by kernel_rfl) (by (try dsimp only); exact (HM.out.step hgl hbl (HM.out.2.2.2.1.below (Below.refl _ _).drew) (Chg.of_below _ (Below.refl _ _).drew)).cells) (fun hHeld => ?_)
            generalize World.drew w10 = Wd at *
            refine heldF_take 0 rfl (by kernel_rfl) (by kernel_rfl) (by kernel_rfl) (by kernel_rfl) (by kernel_rfl) (by rfl) (fun _ _ _ h => h) (by assumption) (by intro w hSw; (try dsimp only at hSw); go_simp; first | done | with_reducible rfl) ?_
            simp only [Act.put, List.setIfInBounds_toArray, List.set_cons_zero, List.set_cons_succ]
            refine heldF_take 1 rfl (by kernel_rfl) (by kernel_rfl) (by kernel_rfl) (by kernel_rfl) (by kernel_rfl) (by rfl) (fun _ _ _ h => h) (by assumption) (by intro w hSw; (try dsimp only at hSw); go_simp; first | done | with_reducible rfl) ?_
            simp only [Act.put, List.setIfInBounds_toArray, List.set_cons_zero, List.set_cons_succ]
            have hgd := cur_lt hHeld.2.2.2.2.2.2.2.2.1
            refine heldF_one 2 (by kernel_rfl) rfl (fun K hK => ?_)
            go_simp
            refine hK.out _ _ (fun _ => by (try dsimp only); exact (hHeld.2.2.2.2.2.below hgl hbl (ex_alloc (Below.refl _ _) _)).cells) (fun hNew => ?_)
            clear hK K hHeld
            have hHeld := hNew rfl
            clear hNew
            try simp only [Act.put, List.setIfInBounds_toArray, List.set_cons_zero, List.set_cons_succ]
            refine heldF_one 3 (by kernel_rfl) rfl (fun K hK => ?_)
            go_simp
            go_at_call 130
            refine (HP.out _ 2 2 [⟨#[105, 110, 107]⟩, ⟨#[115, 101, 97]⟩] _ (by omega) (by omega) (lit_keeps (n := 2) encStr (fun _ _ => rfl) _ [⟨#[105, 110, 107]⟩, ⟨#[115, 101, 97]⟩] 9 hgd rfl (by unfold maxLen; omega) rfl) hHeld.2.2.2.2.2.2.2.2.1).mono ?_
            rintro e w3 ⟨s, rfl, hs, hc3, hg3⟩
            have hs1 : s.size ≤ 16 := by
              simp only [List.mem_cons, List.not_mem_nil, or_false] at hs
              rcases hs with rfl | rfl <;> decide
            go_wp2_with fail
            refine hK.out _ _ (fun _ => by (try dsimp only); exact (hHeld.2.2.2.2.2.step hgl hbl hc3 hg3).cells) (fun hNew => ?_)
            clear hK K hHeld
            have hHeld := hNew rfl
            clear hNew
            try simp only [Act.put, List.setIfInBounds_toArray, List.set_cons_zero, List.set_cons_succ]
            clear hc3 hg3 hs
            refine heldF_one 4 (by kernel_rfl) rfl (fun K hK => ?_)
            go_simp
            go_at_call 129
            refine (spec_StringValue s _).mono ?_; rintro e w4 ⟨rfl, hb4⟩
            go_wp2_with fail
            refine hK.out _ _ (fun _ => by (try dsimp only); exact (hHeld.2.2.2.2.2.below hgl hbl hb4).cells) (fun hNew => ?_)
            clear hK K hHeld
            have hHeld := hNew rfl
            clear hNew
            try simp only [Act.put, List.setIfInBounds_toArray, List.set_cons_zero, List.set_cons_succ]
            clear hb4
            refine heldF_one 5 (by kernel_rfl) rfl (fun K hK => ?_)
            go_simp
            go_at_call 23
            refine (spec_SetAttr f A n c ⟨#[110]⟩ (strV s) _ (hHeld.2.2.2.2.2.2.2.1.sl (R := RAtr) encAtr (fun _ => rfl)) (by omega)).mono ?_; rintro e w5 ⟨A5, c5, rfl, hr5, hb5⟩
            have HR5 := Lib.hid (hr5.re (fun x hx => Nat.le_trans hHeld.2.2.2.2.2.2.2.2.2.size (hr5.base x hx).1))
            have HM5 := Lib.hid (hHeld.2.2.2.2.2.below hgl hbl hb5)
            go_wp2_with fail
            refine hK.out _ _ (fun _ => by (try dsimp only); exact HM5.out.cells) (fun hNew => ?_)
            clear hK K hHeld
            have hHeld := hNew rfl
            clear hNew
            try simp only [Act.put, List.setIfInBounds_toArray, List.set_cons_zero, List.set_cons_succ]
            clear hr5 hb5
            have u0 := blk_cell? HM5.out.1 0
            have u1 := blk_cell? HM5.out.1 1
            have u2 := blk_cell? HM5.out.1 2
            have u3 := blk_cell? HM5.out.1 3
            have u4 := blk_cell? HM5.out.1 4
            have uf := blk_free HM5.out.1
            refine heldF_one 6 (by kernel_rfl) rfl (fun K hK => ?_)
            go_simp
            refine hK.out _ _ (fun h => by cases (show true = false from h)) (fun _ => ?_)
            clear hK K
            try clear hHeld
            try simp only [Act.put, List.setIfInBounds_toArray, List.set_cons_zero, List.set_cons_succ]
            refine anyF_done (by kernel_rfl) ?_ _
            go_wp2_with fail
            go_meet
            have hl5 : (setA f ⟨#[110]⟩ (strV s)).attrs.length ≤ 3 := Nat.le_trans (setL_len f.attrs ⟨#[110]⟩ (strV s)) (by have h9 := HM5.out.2.2.1.len; omega)
            exact ⟨setA f ⟨#[110]⟩ (strV s), A5, _, c5, hl5, HSM.out.set (nm := ⟨#[110]⟩) (v := (strV s)) (by decide) hs1, HM5.out.put (f' := setA f ⟨#[110]⟩ (strV s)) hgl hgw hbl HR5.out⟩
          | true =>
            go_wp2_with fail
            go_meet
            exact ⟨f, A, n, c, by omega, HSM.out, HM.out⟩
        case rest =>
          generalize wc = w11 at *
          clear HM HSM
          clear hn
          obtain ⟨f, A, n, c, hn, hsm, hm⟩ := hcut
          have HM0 := Lib.hid hm
          have HSM := Lib.hid hsm
          clear hm hsm
          go_wp2_with fail
          refine (HO.out 2 (by omega) (by omega) _ HM0.out.2.2.2.1).mono ?_; rintro e w12 ⟨q, rfl, hc, hg⟩
          have HM := Lib.hid (HM0.out.step hgl hbl hc hg)
          clear hc hg HM0
          go_upto_if 42 with fail
          go_cut [] (fun w' => Mid W0 w g b 4 w')
          case first =>
            cases q with
            | false =>
              go_wp2_with fail
              go_meet
              exact ⟨f, A, n, c, by omega, HSM.out, HM.out⟩
            | true =>
              go_upto_region 11 with fail
              refine region_F (S := (fun w' => w'.cell? ⟨b, 0, none⟩ = some (.int .i64 f.id) ∧ w'.cell? ⟨b, 1, none⟩ = some (.int .i64 f.owner) ∧ w'.cell? ⟨b, 2, none⟩ = some (.bool f.shared) ∧ w'.cell? ⟨b, 3, none⟩ = some (.int .i64 f.link) ∧ w'.cell? ⟨b, 4, none⟩ = some (.slice A n c) ∧ MidF W0 w g b f A n c w')) [6] (by kernel_rfl) (by (try dsimp only); exact (HM.out.step hgl hbl (HM.out.2.2.2.1.below (Below.refl _ _).drew) (Chg.of_below _ (Below.refl _ _).drew)).cells) (fun hHeld => ?_)
              generalize World.drew w12 = Wd at *
              refine heldF_take 0 rfl (by kernel_rfl) (by kernel_rfl) (by kernel_rfl) (by kernel_rfl) (by kernel_rfl) (by rfl) (fun _ _ _ h => h) (by assumption) (by intro w hSw; (try dsimp only at hSw); go_simp; first | done | with_reducible rfl) ?_
              simp only [Act.put, List.setIfInBounds_toArray, List.set_cons_zero, List.set_cons_succ]
              refine heldF_take 1 rfl (by kernel_rfl) (by kernel_rfl) (by kernel_rfl) (by kernel_rfl) (by kernel_rfl) (by rfl) (fun _ _ _ h => h) (by assumption) (by intro w hSw; (try dsimp only at hSw); go_simp; first | done | with_reducible rfl) ?_
              simp only [Act.put, List.setIfInBounds_toArray, List.set_cons_zero, List.set_cons_succ]
              have hgd := cur_lt hHeld.2.2.2.2.2.2.2.2.1
              refine heldF_one 2 (by kernel_rfl) rfl (fun K hK => ?_)
              go_simp
              refine hK.out _ _ (fun _ => by (try dsimp only); exact (hHeld.2.2.2.2.2.below hgl hbl (ex_alloc (Below.refl _ _) _)).cells) (fun hNew => ?_)
              clear hK K hHeld
              have hHeld := hNew rfl
              clear hNew
              try simp only [Act.put, List.setIfInBounds_toArray, List.set_cons_zero, List.set_cons_succ]
              refine heldF_one 3 (by kernel_rfl) rfl (fun K hK => ?_)
              go_simp
              go_at_call 130
              refine (HP.out _ 2 2 [⟨#[114, 101, 100]⟩, ⟨#[98, 108, 117, 101]⟩] _ (by omega) (by omega) (lit_keeps (n := 2) encStr (fun _ _ => rfl) _ [⟨#[114, 101, 100]⟩, ⟨#[98, 108, 117, 101]⟩] 9 hgd rfl (by unfold maxLen; omega) rfl) hHeld.2.2.2.2.2.2.2.2.1).mono ?_
              rintro e w3 ⟨s, rfl, hs, hc3, hg3⟩
              have hs1 : s.size ≤ 16 := by
                simp only [List.mem_cons, List.not_mem_nil, or_false] at hs
                rcases hs with rfl | rfl <;> decide
              go_wp2_with fail
              refine hK.out _ _ (fun _ => by (try dsimp only); exact (hHeld.2.2.2.2.2.step hgl hbl hc3 hg3).cells) (fun hNew => ?_)
              clear hK K hHeld
              have hHeld := hNew rfl
              clear hNew
              try simp only [Act.put, List.setIfInBounds_toArray, List.set_cons_zero, List.set_cons_succ]
              clear hc3 hg3 hs
              refine heldF_one 4 (by kernel_rfl) rfl (fun K hK => ?_)
              go_simp
              go_at_call 129
              refine (spec_StringValue s _).mono ?_; rintro e w4 ⟨rfl, hb4⟩
              go_wp2_with fail
              refine hK.out _ _ (fun _ => by (try dsimp only); exact (hHeld.2.2.2.2.2.below hgl hbl hb4).cells) (fun hNew => ?_)
              clear hK K hHeld
              have hHeld := hNew rfl
              clear hNew
              try simp only [Act.put, List.setIfInBounds_toArray, List.set_cons_zero, List.set_cons_succ]
              clear hb4
              refine heldF_one 5 (by kernel_rfl) rfl (fun K hK => ?_)
              go_simp
              go_at_call 23
              refine (spec_SetAttr f A n c ⟨#[116]⟩ (strV s) _ (hHeld.2.2.2.2.2.2.2.1.sl (R := RAtr) encAtr (fun _ => rfl)) (by omega)).mono ?_; rintro e w5 ⟨A5, c5, rfl, hr5, hb5⟩
              have HR5 := Lib.hid (hr5.re (fun x hx => Nat.le_trans hHeld.2.2.2.2.2.2.2.2.2.size (hr5.base x hx).1))
              have HM5 := Lib.hid (hHeld.2.2.2.2.2.below hgl hbl hb5)
              go_wp2_with fail
              refine hK.out _ _ (fun _ => by (try dsimp only); exact HM5.out.cells) (fun hNew => ?_)
              clear hK K hHeld
              have hHeld := hNew rfl
              clear hNew
              try simp only [Act.put, List.setIfInBounds_toArray, List.set_cons_zero, List.set_cons_succ]
              clear hr5 hb5
              have u0 := blk_cell? HM5.out.1 0
              have u1 := blk_cell? HM5.out.1 1
              have u2 := blk_cell? HM5.out.1 2
              have u3 := blk_cell? HM5.out.1 3
              have u4 := blk_cell? HM5.out.1 4
              have uf := blk_free HM5.out.1
              refine heldF_one 6 (by kernel_rfl) rfl (fun K hK => ?_)
              go_simp
              refine hK.out _ _ (fun h => by cases (show true = false from h)) (fun _ => ?_)
              clear hK K
              try clear hHeld
              try simp only [Act.put, List.setIfInBounds_toArray, List.set_cons_zero, List.set_cons_succ]
              refine anyF_done (by kernel_rfl) ?_ _
              go_wp2_with fail
              go_meet
              have hl5 : (setA f ⟨#[116]⟩ (strV s)).attrs.length ≤ 4 := Nat.le_trans (setL_len f.attrs ⟨#[116]⟩ (strV s)) (by have h9 := HM5.out.2.2.1.len; omega)
              exact ⟨setA f ⟨#[116]⟩ (strV s), A5, _, c5, hl5, HSM.out.set (nm := ⟨#[116]⟩) (v := (strV s)) (by decide) hs1, HM5.out.put (f' := setA f ⟨#[116]⟩ (strV s)) hgl hgw hbl HR5.out⟩
          case rest =>
            generalize wc = w13 at *
            clear HM HSM
            clear hn
            obtain ⟨f, A, n, c, hn, hsm, hm⟩ := hcut
            have HM := Lib.hid hm
            obtain ⟨u0, u1, u2, u3, u4, -⟩ := hm.cells
            have q0 := blk_cell? hm.2.1 0
            have q1 := blk_cell? hm.2.1 1
            have q2 := blk_cell? hm.2.1 2
            have q3 := blk_cell? hm.2.1 3
            have q4 := blk_cell? hm.2.1 4
            have qf := blk_free hm.2.1
            simp only [List.getElem?_toArray, List.getElem?_cons_zero, List.getElem?_cons_succ] at q0 q1 q2 q3 q4
            clear hm
            go_wp2_with fail
            refine bodyPost_ret (v := .agg #[.int .i64 f.id, .int .i64 f.owner, .bool f.shared, .int .i64 f.link, .slice A n c]) (by simp [results, Try.results91, go_sem, q0, q1, q2, q3, q4]) rfl ?_
            have hc : Chg [w.heap.size] w13 _ := ((((((Chg.refl [w.heap.size] w13).set (a := ⟨w.heap.size, 0, none⟩) (by simp) (.int .i64 f.id)).set (a := ⟨w.heap.size, 1, none⟩) (by simp) (.int .i64 f.owner)).set (a := ⟨w.heap.size, 2, none⟩) (by simp) (.bool f.shared)).set (a := ⟨w.heap.size, 3, none⟩) (by simp) (.int .i64 f.link)).set (a := ⟨w.heap.size, 4, none⟩) (by simp) (.slice A n c))
            exact ⟨f, A, n, c, rfl, HM.out.2.2.1.chg hc (fun x hx hm => by obtain rfl := List.mem_singleton.1 hm; exact HM.out.2.2.1.far HM.out.2.1 (by decide) hx), hn, hsm, HM.out.2.2.2.1.chg hc (by simp only [List.mem_singleton]; omega) (fun x hx => by simp only [List.mem_singleton] at hx; omega), HM.out.2.2.2.2.step hc (fun x hx hlt => by simp only [List.mem_singleton] at hx; omega)⟩
end Go.Proofs.Ytjobgnioehkomaa
