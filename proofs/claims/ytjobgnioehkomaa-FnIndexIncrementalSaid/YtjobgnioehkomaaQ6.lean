/-
  CONTRACTS: AddToIndex.
-/
import Derived.WalkKit
import Derived.WalkSpells
import Derived.WalkLawsBesides
import Derived.Lib.Hide
import Derived.Handy
import Derived.StillTailTactics
import Derived.Deep.Light
import Derived.Deep.QuietTactic
import Derived.BigQuiet
import Derived.Deep.RegionHeld3
import Derived.Deep.RegionLaw
import Derived.Sort.Walk0
import Derived.Deep.DeepCutAuto
import Derived.Test.YtjobgnioehkomaaLib
import Derived.Test.YtjobgnioehkomaaOwn
import Derived.Test.YtjobgnioehkomaaRow
import Derived.Test.YtjobgnioehkomaaN0
import Derived.Test.YtjobgnioehkomaaRaw
import Derived.Test.YtjobgnioehkomaaHld
import Derived.Test.YtjobgnioehkomaaM0
import Derived.Test.YtjobgnioehkomaaC1
import Derived.Test.YtjobgnioehkomaaC2
import Derived.Test.YtjobgnioehkomaaT1
import Derived.Test.YtjobgnioehkomaaT2
import Derived.Test.YtjobgnioehkomaaT3
import Derived.Test.YtjobgnioehkomaaT4
import Derived.Test.YtjobgnioehkomaaC3
import Derived.Test.YtjobgnioehkomaaC4
import Derived.Test.YtjobgnioehkomaaC5
import Derived.Test.YtjobgnioehkomaaD1
import Derived.Test.YtjobgnioehkomaaD3
import Derived.Test.YtjobgnioehkomaaD5
import Derived.Test.YtjobgnioehkomaaD7
import Derived.Test.YtjobgnioehkomaaH1
import Derived.Test.YtjobgnioehkomaaI1
import Derived.Test.YtjobgnioehkomaaI3
import Derived.Test.YtjobgnioehkomaaI4
import Derived.Test.YtjobgnioehkomaaE4
import Derived.Test.YtjobgnioehkomaaE5
import Derived.Test.YtjobgnioehkomaaQ0
import Derived.Test.YtjobgnioehkomaaQ2
import Derived.Test.YtjobgnioehkomaaQ3
import Derived.Test.YtjobgnioehkomaaQ5
import Derived.Test.YtjobgnioehkomaaRows
namespace Go.Proofs.Ytjobgnioehkomaa
open Go.RowKit
set_option linter.unusedVariables false
set_option maxRecDepth 100000
/-- the ids of posting i take in one more -/
def putAt (l : List Pst) (i : Nat) (id : Int) : List Pst := if h : i < l.length then l.set i ⟨l[i].name, l[i].val, putI l[i].ids id⟩ else l
theorem addA_found {id : Int} {l : List Pst} {a : Atr} (h : l.findIdx (isPst a.name a.val) < l.length) : addA id l a = putAt l (l.findIdx (isPst a.name a.val)) id := by
  unfold addA putAt
  rw [dif_pos h, dif_pos h]
theorem insL_set {α : Type} (l : List α) (x y : α) {k : Nat} (hk : k ≤ l.length) : (insL l x k).set k y = insL l y k := by
  unfold insL
  rw [List.set_append_right _ _ (by rw [List.length_take]; omega), List.length_take, Nat.min_eq_left hk, Nat.sub_self, List.set_cons_zero]
theorem insL_at {α : Type} (l : List α) (x : α) {k : Nat} (hk : k ≤ l.length) (h : k < (insL l x k).length) : (insL l x k)[k] = x := by
  have h9 : (insL l x k)[k]? = some x := by
    unfold insL
    rw [List.getElem?_append_right (by rw [List.length_take]; omega)]
    simp [List.length_take, Nat.min_eq_left hk]
  exact (List.getElem?_eq_some_iff.1 h9).2
theorem insL_map {α β : Type} (f : α → β) (l : List α) (x : α) (k : Nat) : (insL l x k).map f = insL (l.map f) (f x) k := by unfold insL; simp [List.map_take, List.map_drop]
theorem putI_nil (id : Int) : putI [] id = [id] := by simp [putI, insL]
theorem addA_new {id : Int} {l : List Pst} {a : Atr} (h : ¬ l.findIdx (isPst a.name a.val) < l.length) : addA id l a = putAt (insL l ⟨a.name, a.val, []⟩ (l.findIdx (gtP a.name a.val))) (l.findIdx (gtP a.name a.val)) id := by
  have hk : l.findIdx (gtP a.name a.val) ≤ l.length := List.findIdx_le_length
  have hlt : l.findIdx (gtP a.name a.val) < (insL l (⟨a.name, a.val, []⟩ : Pst) (l.findIdx (gtP a.name a.val))).length := by rw [insL_len]; omega
  unfold addA putAt
  rw [dif_neg h, dif_pos hlt, insL_at l _ hk hlt, insL_set l _ _ hk]
  simp only [putI_nil]
theorem putAt_map {L : List (Ph × List Int)} {j : Nat} (hj : j < L.length) {hd : Ph} {ids : List Int} (hx : L[j] = (hd, ids)) (id : Int) (x' : Ph) (h1 : x'.name = hd.name) (h2 : x'.val = hd.val) : (L.set j (x', putI ids id)).map mkP = putAt (L.map mkP) j id := by
  unfold putAt
  rw [dif_pos (by simpa using hj), List.map_set]
  congr 1
  simp only [mkP, List.getElem_map, hx, h1, h2]
theorem NRow.ins0 {H β : Type} {K : NK H β} {W0 W1 : World} {B n c c' : Nat} {A A' : Option Addr} {L : List (H × List β)} {x : H} {i : Nat} (h : NRow K W0 B A n c L) (hr : FRow K.e K.size K.enc W1 B A' (n + 1) c' ((L.map (·.1)).take i ++ x :: (L.map (·.1)).drop i)) (hc : Chg (rowBs A c) W0 W1)
    (hx : ∀ b ∈ rowBs A' c', b ∈ rowBs A c ∨ W0.heap.size ≤ b) (h1 : K.n x = 0) (h2 : K.c x = 0) : NRow K W1 B A' (n + 1) c' (insL L (x, []) i) := by
  have hb : K.bs x = [] := by unfold NK.bs; rw [h2]; exact rowBs_zero _
  refine NRow.turn (by unfold insL; simpa [List.map_take, List.map_drop] using hr) hc hx (fun y hy => ?_) ?_
  · rcases insL_mem hy with hy | rfl
    · exact h.2.1 y hy
    · unfold NK.inner
      simp only
      rw [h1, h2]
      exact FRow.any0 _ _ _ _ _ _
  · refine NRow.perm (l' := (x, []) :: L) ?_ ?_
    · unfold insL
      refine List.Perm.trans List.perm_middle ?_
      rw [List.take_append_drop]
    · have e : K.all ((x, []) :: L) = K.all L := by
        unfold NK.all
        rw [List.flatMap_cons]
        simp only [hb, List.nil_append]
      rw [e]; exact h.2.2
theorem NRow.gapart {H β : Type} {K : NK H β} {w : World} {B n c : Nat} {A : Option Addr} {L : List (H × List β)} (h : NRow K w B A n c L) {j : Nat} (hj : j < L.length) : ∀ b ∈ rowBs A c, b ∉ K.bs L[j].1 := fun b hb hm =>
  (List.nodup_append.1 h.2.2).2.2 b hb b (NK.all_mem.2 ⟨L[j], List.getElem_mem hj, hm⟩) rfl
/-- the row of ids of posting j has become another one, and its header says so -/
theorem NRow.putIds {eP ei : Nat} {W0 W1 : World} {B n c g : Nat} {L : List (Ph × List Int)} (h : NRow (KPst eP ei) W0 B (some ⟨g, 0, none⟩) n c L) {j : Nat} (hj : j < L.length) {hd : Ph} {ids ids' : List Int} {A' : Option Addr} {n' c' : Nat} (hx : L[j] = (hd, ids)) (hr : FRow ei 1 eInt W1 B A' n' c' ids') (hc : Chg (rowBs hd.A hd.c) W0 W1)
    (hn : ∀ b ∈ rowBs A' c', b ∈ rowBs hd.A hd.c ∨ W0.heap.size ≤ b) (hrb : rowBs (some ⟨g, 0, none⟩) c = [g]) : NRow (KPst eP ei) (W1.setCell ⟨g, j * 5 + 4, none⟩ (.slice A' n' c')) B (some ⟨g, 0, none⟩) n c (L.set j (⟨hd.name, hd.val, A', n', c'⟩, ids')) := by
  have hg := h.gapart hj
  rw [hx] at hg
  have hlc : (L.map (·.1))[j]'(by simpa using hj) = hd := by rw [List.getElem_map, hx]
  have ho := (h.1.chg hc hg).set1 encPh rfl (i := j) (j := 4) (u := .slice A' n' c') (x := ⟨hd.name, hd.val, A', n', c'⟩) (by simpa using hj) (by omega) (by rw [hlc]; rfl)
  refine NRow.set_ (K := KPst eP ei) (x' := (⟨hd.name, hd.val, A', n', c'⟩, ids')) h hj hr (by rw [hx]; exact hc) (fun b hb => by rw [hx]; exact hn b hb) (by rw [List.map_set]; exact ho) ?_
  rw [hrb]
  exact (Chg.refl _ _).set (by simp) _
/-- what stands apart from the rows stands -/
theorem HasB.put {eP ei : Nat} {W0 W1 : World} {B n c g j : Nat} {L : List (Ph × List Int)} {l : List (Nat × Array Value × TypeId)} {hd : Ph} {ids : List Int} {v : Value} (hl : HasB W0 l) (h : NRow (KPst eP ei) W0 B (some ⟨g, 0, none⟩) n c L) (hin : FRow ei 1 eInt W0 B hd.A hd.n hd.c ids)
    (hc : Chg (rowBs hd.A hd.c) W0 W1) (hrb : rowBs (some ⟨g, 0, none⟩) c = [g]) (ht : ∀ x ∈ l, x.2.2 ≠ eP ∧ x.2.2 ≠ ei) : HasB (W1.setCell ⟨g, j, none⟩ v) l := fun x hx => by
  have hc3 : Chg [g] W1 (W1.setCell ⟨g, j, none⟩ v) := (Chg.refl _ _).set (by simp) _
  have n1 : x.1 ∉ rowBs hd.A hd.c := hin.apart (hl x hx) (ht x hx).2
  have n2 : x.1 ∉ rowBs (some ⟨g, 0, none⟩) c := h.1.apart (hl x hx) (ht x hx).1
  rw [hrb] at n2
  exact hc3.keepb (hc.keepb (hl x hx) n1) n2
theorem add_done {eP ei : Nat} {w W7 W0 W1 : World} {B n c g j n' c' : Nat} {A' : Option Addr} {L : List (Ph × List Int)} {l : List (Nat × Array Value × TypeId)} {hd : Ph} {ids ids' : List Int} (hL : NRow (KPst eP ei) W7 B (some ⟨g, 0, none⟩) n c L) (hin : FRow ei 1 eInt W7 B hd.A hd.n hd.c ids) (hh : HasB W7 l) (hB7 : Below w.heap.size w W7) (hb : Below W7.heap.size W7 W0)
    (hj : j < L.length) (hx : L[j] = (hd, ids)) (hr : FRow ei 1 eInt W1 B A' n' c' ids') (hc : Chg (rowBs hd.A hd.c) W0 W1) (hn : ∀ b ∈ rowBs A' c', b ∈ rowBs hd.A hd.c ∨ W0.heap.size ≤ b) (hrb : rowBs (some ⟨g, 0, none⟩) c = [g]) (hB : w.heap.size ≤ B) (ht : ∀ x ∈ l, x.2.2 ≠ eP ∧ x.2.2 ≠ ei) :
    HasB (W1.setCell ⟨g, j * 5 + 4, none⟩ (.slice A' n' c')) l ∧ NRow (KPst eP ei) (W1.setCell ⟨g, j * 5 + 4, none⟩ (.slice A' n' c')) B (some ⟨g, 0, none⟩) n c (L.set j (⟨hd.name, hd.val, A', n', c'⟩, ids')) ∧ Below w.heap.size w (W1.setCell ⟨g, j * 5 + 4, none⟩ (.slice A' n' c')) := by
  have h0 := hL.below hb
  have i0 := hin.below hb
  have hgB : B ≤ g := (h0.1.base g (by rw [hrb]; simp)).1
  have hB2 := Below.mark (ex_trans hB7 hb) hc (ex_trans hB7 hb).size (fun b hm => Nat.le_trans hB (i0.base b hm).1)
  have hc3 : Chg [g] W1 (W1.setCell ⟨g, j * 5 + 4, none⟩ (.slice A' n' c')) := (Chg.refl _ _).set (by simp) _
  exact ⟨HasB.put (hh.below hb) h0 i0 hc hrb ht, NRow.putIds h0 hj hx hr hc hn hrb, Below.mark hB2 hc3 hB2.size (by simp only [List.mem_singleton]; intro b hb; omega)⟩
set_option maxHeartbeats 3200000 in
theorem impl_AddToIndex (M : Nat) (A : Option Addr) (n c : Nat) (l : List Pst) (f : Fil) (A2 : Option Addr) (n2 c2 : Nat) (w : World) (hT : Sl 5 RPst w A n l) (hS : Sl 4 RAtr w A2 n2 f.attrs) (hw : Wide M l) (hM : M + n2 ≤ 1073741822) :
    Calls Try.prog 38 #[.slice A n c, f.v A2 n2 c2] w (NewPsts 107 3 w (addX l f)) := by
  obtain rfl : l.length = n := hT.len
  obtain rfl : f.attrs.length = n2 := hS.len
  obtain ⟨jj, hj, hj0, hj1, hj2⟩ := info_parts info_int
  have HC := Lib.hid fun w' (hb : Below w.heap.size w w') => impl_copyIndex A l.length c l w' (hT.mono mPst hb) (by have := hw.1; omega) (fun p hp => by have := hw.2.1 p hp; omega)
  have HWD := Lib.hid fun (k : Nat) => foldA_wide (id := f.id) (f.attrs.take k) M l hw
  clear hT hw
  go_enter Try.func38, Try.ntmps38
  go_wp2_with fail
  refine (HC.out _ (by go_grown)).mono ?_; rintro e w1 ⟨A1, c1, rfl, hr1, hb1⟩
  have hB1 := ex_trans (w := w) (by go_grown) hb1
  have kf := below_keep hb1 (hp_new rfl)
  have uf := blk_cell? kf
  have hzf : w.heap.size < w1.heap.size := blk_lt kf
  have HR1 := Lib.hid (hr1.lower (show w.heap.size + 1 ≤ _ by simp))
  have HKF := Lib.hid kf
  have HB1 := Lib.hid hB1
  clear hr1 hb1 kf hB1
  go_wp2_with fail
  go_loopw [5, 16] (fun v i wr => ∃ (k n1 : Nat) (A1 : Option Addr) (c1 : Nat), k ≤ f.attrs.length ∧ i = .int .i64 k ∧ v = .slice A1 n1 c1 ∧ HasB wr [(w.heap.size, #[.int .i64 f.id, .int .i64 f.owner, .bool f.shared, .int .i64 f.link, .slice A2 f.attrs.length c2], 28)] ∧ PRows 107 3 wr (w.heap.size + 1) A1 n1 c1 ((f.attrs.take k).foldl (addA f.id) l) ∧ Below w.heap.size w wr) (fun _ i _ => f.attrs.length - (intOf i).toNat)
  case atStart => exact ⟨0, _, A1, c1, Nat.zero_le _, rfl, rfl, fun x hx => by simp only [List.mem_singleton] at hx; subst hx; exact HKF.out, HR1.out, HB1.out⟩
  case round =>
    obtain ⟨k, n1, A1, c1, hk2, rfl, rfl, hbf, hrow, hb⟩ := hrel
    have HBF := Lib.hid hbf
    clear hbf uf
    by_cases hlt : k < f.attrs.length
    · obtain ⟨b, off, rfl, bw, bc⟩ := hS.atr (by omega)
      obtain ⟨q0, q1, q2, q3⟩ := bc k (by omega)
      rw [← hb.cell (p := ⟨b, _, none⟩) bw] at q0 q1 q2 q3
      have i0 : (0 : Int) ≤ (k : Int) := by omega
      have i1 : (k : Int) < (f.attrs.length : Int) := by omega
      have bw' := keep_lt hb bw
      clear bc
      obtain ⟨m, hm⟩ : ∃ m, m = (f.attrs.take k).foldl (addA f.id) l := ⟨_, rfl⟩
      rw [← hm] at hrow
      obtain rfl : m.length = n1 := hrow.len
      have hwd := HWD.out k
      rw [← hm, List.length_take, Nat.min_eq_left hk2] at hwd
      have hml : m.length ≤ 1073741821 := by have := hwd.1; omega
      have HWI := Lib.hid hwd.2.1
      have HMS := Lib.hid (show (f.attrs.take (k + 1)).foldl (addA f.id) l = addA f.id m f.attrs[k] by rw [hm, List.take_succ_eq_append_getElem hlt, List.foldl_append]; rfl)
      have HRM := Lib.hid hrow
      clear hm hwd hrow
      obtain ⟨W1, rfl⟩ : ∃ W1, W1 = wr := ⟨_, rfl⟩
      go_wp2_with fail
      refine (impl_postingAt A1 m.length c1 m f.attrs[k].name f.attrs[k].val _ ((HRM.out.below (by go_grown)).sl) (by omega)).mono ?_; rintro e w2 ⟨rfl, hb2⟩
      have hbx := ex_trans (w := W1) (by go_grown) hb2
      have ka := below_keep hb2 (hp_new rfl)
      have kf := below_keep hbx (HBF.out _ (List.Mem.head _))
      have hz2 : W1.heap.size < w2.heap.size := blk_lt ka
      have HH2 := Lib.hid (show HasB w2 [(w.heap.size, #[.int .i64 f.id, .int .i64 f.owner, .bool f.shared, .int .i64 f.link, .slice (some ⟨b, off, none⟩) f.attrs.length c2], 28), (W1.heap.size, #[.string f.attrs[k].name, .int .i64 f.attrs[k].val.kind, .int .i64 f.attrs[k].val.int, .string f.attrs[k].val.str], 84)] from fun x hx => by
        simp only [List.mem_cons, List.not_mem_nil, or_false] at hx
        rcases hx with rfl | rfl
        · exact kf
        · exact ka)
      have HR2 := Lib.hid (HRM.out.below hbx)
      have HB2 := Lib.hid (ex_trans hb hbx)
      clear q0 q1 q2 q3 hb2 hbx ka kf HRM
      go_upto_if 27 with fail
      go_cut [5, 8] (fun s5 s8 w' => ∃ (m2 : List Pst) (at' : Nat) (A3 : Option Addr) (c3 : Nat), s5 = .slice A3 m2.length c3 ∧ s8 = .int .i64 at' ∧ at' < m2.length ∧ m2.length ≤ 1073741822 ∧ (∀ p ∈ m2, p.ids.length ≤ M + k) ∧ HasB w' [(w.heap.size, #[.int .i64 f.id, .int .i64 f.owner, .bool f.shared, .int .i64 f.link, .slice (some ⟨b, off, none⟩) f.attrs.length c2], 28), (W1.heap.size, #[.string f.attrs[k].name, .int .i64 f.attrs[k].val.kind, .int .i64 f.attrs[k].val.int, .string f.attrs[k].val.str], 84)] ∧ PRows 107 3 w' (w.heap.size + 1) A3 m2.length c3 m2 ∧ Below w.heap.size w w' ∧ addA f.id m f.attrs[k] = putAt m2 at' f.id)
      case first =>
        rcases idxI_place (isPst f.attrs[k].name f.attrs[k].val) m with ⟨p1, p2⟩ | ⟨p1, p2⟩
        · have HNEW := Lib.hid (addA_new (id := f.id) (l := m) (a := f.attrs[k]) (by omega))
          obtain ⟨L, hL1, hL2⟩ := HR2.out
          have hix : idxI (fun x : Ph => gtP f.attrs[k].name f.attrs[k].val ⟨x.name, x.val, []⟩) (L.map (·.1)) = idxI (gtP f.attrs[k].name f.attrs[k].val) m := by
            rw [← hL2]
            exact idxI_congr (by simp) (fun i hi hj => by simp only [List.getElem_map]; rfl)
          have ua := blk_cell? (HH2.out _ (List.Mem.tail _ (List.Mem.head _)))
          have HI := Lib.hid (slices_IndexFunc_Posting A1 m.length c1 (L.map (·.1)) 96 #[.pointer (some ⟨W1.heap.size, 0, none⟩)] (fun x : Ph => gtP f.attrs[k].name f.attrs[k].val ⟨x.name, x.val, []⟩) (W1.heap.size + 1) w2 (hL1.1.sl encPh (fun _ => rfl)) (by omega) (by omega) (fun _ _ => by kernel_rfl)
            (fun w' hb x _ => impl_AddToIndex_1 x _ _ _ _ w' ((hb.cell (p := ⟨W1.heap.size, 0, none⟩) (by simp)).trans (ua 0)) ((hb.cell (p := ⟨W1.heap.size, 1, none⟩) (by simp)).trans (ua 1)) ((hb.cell (p := ⟨W1.heap.size, 2, none⟩) (by simp)).trans (ua 2)) ((hb.cell (p := ⟨W1.heap.size, 3, none⟩) (by simp)).trans (ua 3))))
          rw [hix] at HI
          have HL := Lib.hid (And.intro hL1 hL2)
          clear hL1 hL2 hix p2
          go_wp2_with fail
          refine HI.out.mono ?_; rintro e w3 ⟨rfl, hb3⟩
          have ka3 := below_keep hb3 (HH2.out _ (List.Mem.tail _ (List.Mem.head _)))
          clear ua
          have ua := blk_cell? ka3
          have la := blk_lt ka3
          simp only at la
          have HINS := Lib.hid fun (i : Nat) (hi : i ≤ m.length) => slices_Insert_Posting A1 m.length c1 i (L.map (·.1)) ⟨f.attrs[k].name, f.attrs[k].val, none, 0, 0⟩ w3.heap.size 1 (w.heap.size + 1) (w3.alloc (.cells #[.string f.attrs[k].name, .int .i64 f.attrs[k].val.kind, .int .i64 f.attrs[k].val.int, .string f.attrs[k].val.str, .slice none 0 0] 107)) ((HL.out.1.1.below hb3).below (by go_grown)) (by omega) (by have := HB2.out.size; have := hb3.size; simp; omega) (blk_new w3 _) (fun h => by have h1 := (HL.out.1.1.base _ h).2; have := hb3.size; omega) hi
          clear ka3 HI
          have hpl := idxI_place (gtP f.attrs[k].name f.attrs[k].val) m
          have hqm : m.findIdx (gtP f.attrs[k].name f.attrs[k].val) ≤ m.length := List.findIdx_le_length
          have hne := HNEW.out
          obtain ⟨q, hq⟩ : ∃ q, q = m.findIdx (gtP f.attrs[k].name f.attrs[k].val) := ⟨_, rfl⟩
          rw [← hq] at hpl hqm hne
          clear HNEW hq
          rcases hpl with ⟨r1, r2⟩ | ⟨r1, r2⟩
          · obtain rfl : q = m.length := r2
            have HNEW := Lib.hid hne
            clear hne
            go_wp2_with fail
            refine (HINS.out m.length hqm).mono ?_; rintro e w5 ⟨A5, c5, rfl, hr5, hc5, hx5⟩
            have HZ := Lib.hid (show PRows 107 3 w5 (w.heap.size + 1) A5 (insL m (⟨f.attrs[k].name, f.attrs[k].val, []⟩ : Pst) m.length).length c5 (insL m ⟨f.attrs[k].name, f.attrs[k].val, []⟩ m.length) ∧ HasB w5 [(w.heap.size, #[.int .i64 f.id, .int .i64 f.owner, .bool f.shared, .int .i64 f.link, .slice (some ⟨b, off, none⟩) f.attrs.length c2], 28), (W1.heap.size, #[.string f.attrs[k].name, .int .i64 f.attrs[k].val.kind, .int .i64 f.attrs[k].val.int, .string f.attrs[k].val.str], 84)] ∧ Below w.heap.size w w5 from by
              have hL3 := (HL.out.1.below hb3).below (show Below w3.heap.size w3 (w3.alloc (.cells #[.string f.attrs[k].name, .int .i64 f.attrs[k].val.kind, .int .i64 f.attrs[k].val.int, .string f.attrs[k].val.str, .slice none 0 0] 107)) by go_grown)
              have hH3 := (HH2.out.below hb3).below (show Below w3.heap.size w3 (w3.alloc (.cells #[.string f.attrs[k].name, .int .i64 f.attrs[k].val.kind, .int .i64 f.attrs[k].val.int, .string f.attrs[k].val.str, .slice none 0 0] 107)) by go_grown)
              have hB3 := ex_trans (ex_trans HB2.out hb3) (show Below w3.heap.size w3 (w3.alloc (.cells #[.string f.attrs[k].name, .int .i64 f.attrs[k].val.kind, .int .i64 f.attrs[k].val.int, .string f.attrs[k].val.str, .slice none 0 0] 107)) by go_grown)
              refine ⟨⟨insL L (⟨f.attrs[k].name, f.attrs[k].val, none, 0, 0⟩, []) m.length, ?_, ?_⟩, hH3.chg hc5 (fun x hx => hL3.1.apart (hH3 x hx) ?_), Below.mark hB3 hc5 hB3.size (fun b hb => by have := (hL3.1.base b hb).1; omega)⟩
              · rw [insL_len]; exact NRow.ins0 hL3 hr5 hc5 hx5 rfl rfl
              · rw [insL_map, HL.out.2]; rfl
              · simp only [List.mem_cons, List.not_mem_nil, or_false] at hx
                rcases hx with rfl | rfl
                · exact (by decide : (28 : Nat) ≠ 107)
                · exact (by decide : (84 : Nat) ≠ 107))
            clear hr5 hc5 hx5
            go_wp2_with fail
            go_meet
            exact ⟨insL m ⟨f.attrs[k].name, f.attrs[k].val, []⟩ m.length, m.length, A5, c5, by rw [insL_len], rfl, by rw [insL_len]; omega, by rw [insL_len]; omega, fun p hp => by
              rcases insL_mem hp with hp | rfl
              · exact HWI.out p hp
              · exact Nat.zero_le _, HZ.out.2.1, HZ.out.1, HZ.out.2.2, HNEW.out⟩
          · rw [r1]
            have hpos : (0 : Int) ≤ (q : Int) := by omega
            have HNEW := Lib.hid hne
            clear r1 hne
            go_wp2_with fail
            refine (HINS.out q hqm).mono ?_; rintro e w5 ⟨A5, c5, rfl, hr5, hc5, hx5⟩
            have HZ := Lib.hid (show PRows 107 3 w5 (w.heap.size + 1) A5 (insL m (⟨f.attrs[k].name, f.attrs[k].val, []⟩ : Pst) q).length c5 (insL m ⟨f.attrs[k].name, f.attrs[k].val, []⟩ q) ∧ HasB w5 [(w.heap.size, #[.int .i64 f.id, .int .i64 f.owner, .bool f.shared, .int .i64 f.link, .slice (some ⟨b, off, none⟩) f.attrs.length c2], 28), (W1.heap.size, #[.string f.attrs[k].name, .int .i64 f.attrs[k].val.kind, .int .i64 f.attrs[k].val.int, .string f.attrs[k].val.str], 84)] ∧ Below w.heap.size w w5 from by
              have hL3 := (HL.out.1.below hb3).below (show Below w3.heap.size w3 (w3.alloc (.cells #[.string f.attrs[k].name, .int .i64 f.attrs[k].val.kind, .int .i64 f.attrs[k].val.int, .string f.attrs[k].val.str, .slice none 0 0] 107)) by go_grown)
              have hH3 := (HH2.out.below hb3).below (show Below w3.heap.size w3 (w3.alloc (.cells #[.string f.attrs[k].name, .int .i64 f.attrs[k].val.kind, .int .i64 f.attrs[k].val.int, .string f.attrs[k].val.str, .slice none 0 0] 107)) by go_grown)
              have hB3 := ex_trans (ex_trans HB2.out hb3) (show Below w3.heap.size w3 (w3.alloc (.cells #[.string f.attrs[k].name, .int .i64 f.attrs[k].val.kind, .int .i64 f.attrs[k].val.int, .string f.attrs[k].val.str, .slice none 0 0] 107)) by go_grown)
              refine ⟨⟨insL L (⟨f.attrs[k].name, f.attrs[k].val, none, 0, 0⟩, []) q, ?_, ?_⟩, hH3.chg hc5 (fun x hx => hL3.1.apart (hH3 x hx) ?_), Below.mark hB3 hc5 hB3.size (fun b hb => by have := (hL3.1.base b hb).1; omega)⟩
              · rw [insL_len]; exact NRow.ins0 hL3 hr5 hc5 hx5 rfl rfl
              · rw [insL_map, HL.out.2]; rfl
              · simp only [List.mem_cons, List.not_mem_nil, or_false] at hx
                rcases hx with rfl | rfl
                · exact (by decide : (28 : Nat) ≠ 107)
                · exact (by decide : (84 : Nat) ≠ 107))
            clear hr5 hc5 hx5
            go_wp2_with fail
            go_meet
            exact ⟨insL m ⟨f.attrs[k].name, f.attrs[k].val, []⟩ q, q, A5, c5, by rw [insL_len], rfl, by rw [insL_len]; omega, by rw [insL_len]; omega, fun p hp => by
              rcases insL_mem hp with hp | rfl
              · exact HWI.out p hp
              · exact Nat.zero_le _, HZ.out.2.1, HZ.out.1, HZ.out.2.2, HNEW.out⟩
        · have HF := Lib.hid (addA_found (id := f.id) (l := m) (a := f.attrs[k]) p2)
          have hpos : (0 : Int) ≤ (m.findIdx (isPst f.attrs[k].name f.attrs[k].val) : Int) := by omega
          rw [p1]
          clear p1
          go_wp2_with fail
          go_meet
          exact ⟨m, m.findIdx (isPst f.attrs[k].name f.attrs[k].val), A1, c1, rfl, rfl, p2, by omega, HWI.out, HH2.out, HR2.out, HB2.out, HF.out⟩
      case rest =>
        generalize wc = w6 at *
        obtain ⟨m2, at', A3, c3, rfl, rfl, hat, hm2, hwi, hh, hrow, hB6, heq⟩ := hcut
        obtain ⟨L, hL1, hL2⟩ := hrow
        have hLl : L.length = m2.length := hL1.len
        have hjL : at' < L.length := by omega
        obtain ⟨g, rfl, hBg, hgw, hrb, hfr, hcell⟩ := hL1.hcell encPh (by omega)
        have y4 := hcell at' hjL 4 _ rfl
        have hin := hL1.fil at' hjL
        have hidl : L[at'].2.length ≤ M + k := hwi (mkP L[at']) (by rw [← hL2]; exact List.mem_map_of_mem (List.getElem_mem hjL))
        have hgn : ∀ b ∈ rowBs (some ⟨g, 0, none⟩) c3, b ∉ rowBs L[at'].1.A L[at'].1.c := hL1.gapart hjL
        obtain ⟨x, hx⟩ : ∃ x, L[at'] = x := ⟨_, rfl⟩
        rw [hx] at y4 hin hidl hgn
        obtain ⟨h, ids⟩ := x
        simp only [NK.inner] at y4 hin hidl hgn
        have HGN := Lib.hid (hgn g (by rw [hrb]; simp))
        have uf := blk_cell? (hh _ (List.Mem.head _))
        have lf := blk_lt (hh _ (List.Mem.head _))
        simp only at lf
        have hHn : h.n ≤ 1073741822 := by rw [← hin.len]; omega
        have HI := Lib.hid (slices_IndexFunc_int h.A h.n h.c ids 102 #[.pointer (some ⟨w.heap.size, 0, none⟩)] (geI f.id) (w.heap.size + 1) w6 (hin.sl encInt (fun _ => rfl)) (by omega) (by omega) (fun _ _ => by kernel_rfl) (fun w' hb x _ => impl_AddToIndex_2 x f.id _ _ w' ((hb.cell (p := ⟨w.heap.size, 0, none⟩) (by simp)).trans (uf 0))))
        have i2 : (0 : Int) ≤ (at' : Int) := by omega
        have i3 : (at' : Int) < (m2.length : Int) := by omega
        have HB6 := Lib.hid hB6
        have HH6 := Lib.hid hh
        have HL1 := Lib.hid hL1
        have HX := Lib.hid hx
        have HIN := Lib.hid hin
        have HL2 := Lib.hid hL2
        have HEQ := Lib.hid heq
        clear hL1 hL2 hx hin hcell hgn hh heq hB6 hwi
        go_wp2_with fail
        refine HI.out.mono ?_; rintro e w7 ⟨rfl, hb7⟩
        have HL7 := Lib.hid (HL1.out.below hb7)
        have HI7 := Lib.hid (HIN.out.below hb7)
        have HH7 := Lib.hid (HH6.out.below hb7)
        have HB7 := Lib.hid (ex_trans HB6.out hb7)
        have z4 := keep_cell hb7 y4
        have zf := keep_cell hb7 (show w6.cell? ⟨w.heap.size, 0, none⟩ = some (.int .i64 f.id) from uf 0)
        have lf7 := keep_lt hb7 lf
        have lg7 := keep_lt hb7 hgw
        have fr7 : ∀ j, w7.frozen? ⟨g, j, none⟩ = false := fun j => (hb7.frozen (p := ⟨g, j, none⟩) hgw).trans (hfr j)
        clear y4 uf hfr HI
        rcases idxI_place (geI f.id) ids with ⟨r1, r2⟩ | ⟨r1, r2⟩
        · have HP := Lib.hid (show putI ids f.id = ids ++ [f.id] by unfold putI; rw [r2, List.getElem?_eq_none (Nat.le_refl _), if_neg (by simp)]; simp [insL])
          clear r2
          go_upto_region 14 with fail
          go_region_law (refine step_append_row rfl (.tmp 60) (.tmp 63) _ rfl encInt Try.underlying24 hj hj0 hj1 hj2 rfl rfl rfl (HI7.out.below (by repeat first | exact Below.refl _ _ | refine Below.drew ?_ | refine ex_alloc ?_ _)) (src1 encInt _ f.id _ (by simp) rfl) (by unfold maxLen; omega) (by omega) (by have := HB7.out.size; simp <;> omega) ?_; intro A8 c8 w8 hr8 hc8 hx8; have z8 : w8.cell? ⟨g, at' * 5 + 4, none⟩ = some (.slice h.A h.n h.c) := hc8.cell (by go_simp) HGN.out; have y8 : w8.cell? ⟨w.heap.size, 0, none⟩ = some (.int .i64 f.id) := hc8.cell (by go_simp) (fun hm => by have h9 := (HI7.out.base _ hm).1; simp only at h9; omega); have fr8 : ∀ j, w8.frozen? ⟨g, j, none⟩ = false := (fun j => (hc8.frozen (a := ⟨g, j, none⟩) (by simp <;> omega) HGN.out).trans (by go_simp)); have HR8 := Lib.hid (And.intro hr8 (And.intro hc8 hx8)); clear hr8 hc8 hx8)
          all_goals
            have HREL := Lib.hid (add_done HL7.out HI7.out HH7.out HB7.out (W0 := _) (by repeat first | exact Below.refl _ _ | refine Below.drew ?_ | refine ex_alloc ?_ _) hjL HX.out HR8.out.1 HR8.out.2.1 HR8.out.2.2 hrb (by omega) (fun x hx => by
              simp only [List.mem_cons, List.not_mem_nil, or_false] at hx
              rcases hx with rfl | rfl
              · exact ⟨(by decide : (28 : Nat) ≠ 107), (by decide : (28 : Nat) ≠ 3)⟩
              · exact ⟨(by decide : (84 : Nat) ≠ 107), (by decide : (84 : Nat) ≠ 3)⟩))
            go_wp2_with fail
            go_roundw
            case rel => exact ⟨k + 1, m2.length, _, c3, by omega, by go_num, rfl, fun x hx => HREL.out.1 x (by obtain rfl := List.mem_singleton.1 hx; exact List.Mem.head _), ⟨_, HREL.out.2.1, by rw [HMS.out, HEQ.out, ← HL2.out, ← putAt_map hjL HX.out f.id (⟨h.name, h.val, A8, h.n + 1, c8⟩ : Ph) rfl rfl, HP.out]⟩, HREL.out.2.2⟩
            case measure => simp [intOf]; omega
        · obtain ⟨i, hi⟩ : ∃ i, i = ids.findIdx (geI f.id) := ⟨_, rfl⟩
          rw [r1]
          rw [← hi] at r2 ⊢
          clear r1
          have hn0 : 0 < h.n := by have := HI7.out.len; omega
          have hil : ids.length = h.n := HI7.out.len
          obtain ⟨gi, hA, hBi, hgi, -, hfi, hci⟩ := HI7.out.cell encInt hn0
          have zi := hci i r2 0 _ rfl
          simp only [Nat.add_zero, Nat.mul_one] at zi
          rw [hA] at z4
          have j0 : (0 : Int) ≤ (i : Int) := by omega
          have j1 : (i : Int) < (h.n : Int) := by omega
          by_cases he : ids[i] = f.id
          · have HP := Lib.hid (show putI ids f.id = ids by unfold putI; rw [← hi, List.getElem?_eq_getElem r2, he]; simp)
            have he2 : (ids[i] != f.id) = false := by rw [he]; simp
            clear he hi hfi hci
            go_upto_region 15 with fail
            refine wp_region_held_drew (S := (fun w' => w'.cell? ⟨g, at' * 5 + 4, none⟩ = some (.slice (some ⟨gi, 0, none⟩) h.n h.c) ∧ w'.cell? ⟨w.heap.size, 0, none⟩ = some (.int .i64 f.id) ∧ w'.cell? ⟨gi, i, none⟩ = some (.int .i64 ids[i]))) (by kernel_rfl) (by (try dsimp only); exact ⟨z4, zf, zi⟩) (fun hHeld => ?_)
            first | (refine held_take 0 rfl (by kernel_rfl) (by kernel_rfl) (by kernel_rfl) (by rfl) (fun _ _ _ h => h) (by assumption) (by intro w hSw; (try dsimp only at hSw); go_simp; first | done | with_reducible rfl) ?_) | (refine held_skip 0 rfl (by kernel_rfl) (by kernel_rfl) (by kernel_rfl) (by rfl) (fun _ _ _ h => h) (by assumption) ?_)
            simp only [Act.put, List.setIfInBounds_toArray, List.set_cons_zero, List.set_cons_succ]
            first | (refine held_take 1 rfl (by kernel_rfl) (by kernel_rfl) (by kernel_rfl) (by rfl) (fun _ _ _ h => h) (by assumption) (by intro w hSw; (try dsimp only at hSw); go_simp; first | done | with_reducible rfl) ?_) | (refine held_skip 1 rfl (by kernel_rfl) (by kernel_rfl) (by kernel_rfl) (by rfl) (fun _ _ _ h => h) (by assumption) ?_)
            simp only [Act.put, List.setIfInBounds_toArray, List.set_cons_zero, List.set_cons_succ]
            first | (refine held_take 2 rfl (by kernel_rfl) (by kernel_rfl) (by kernel_rfl) (by rfl) (fun _ _ _ h => h) (by assumption) (by intro w hSw; (try dsimp only at hSw); go_simp; first | done | with_reducible rfl) ?_) | (refine held_skip 2 rfl (by kernel_rfl) (by kernel_rfl) (by kernel_rfl) (by rfl) (fun _ _ _ h => h) (by assumption) ?_)
            simp only [Act.put, List.setIfInBounds_toArray, List.set_cons_zero, List.set_cons_succ]
            first | (refine held_take 3 rfl (by kernel_rfl) (by kernel_rfl) (by kernel_rfl) (by rfl) (fun _ _ _ h => h) (by assumption) (by intro w hSw; (try dsimp only at hSw); go_simp; first | done | with_reducible rfl) ?_) | (refine held_skip 3 rfl (by kernel_rfl) (by kernel_rfl) (by kernel_rfl) (by rfl) (fun _ _ _ h => h) (by assumption) ?_)
            simp only [Act.put, List.setIfInBounds_toArray, List.set_cons_zero, List.set_cons_succ]
            first | (refine held_take 4 rfl (by kernel_rfl) (by kernel_rfl) (by kernel_rfl) (by rfl) (fun _ _ _ h => h) (by assumption) (by intro w hSw; (try dsimp only at hSw); go_simp; first | done | with_reducible rfl) ?_) | (refine held_skip 4 rfl (by kernel_rfl) (by kernel_rfl) (by kernel_rfl) (by rfl) (fun _ _ _ h => h) (by assumption) ?_)
            simp only [Act.put, List.setIfInBounds_toArray, List.set_cons_zero, List.set_cons_succ]
            first | (refine held_take 5 rfl (by kernel_rfl) (by kernel_rfl) (by kernel_rfl) (by rfl) (fun _ _ _ h => h) (by assumption) (by intro w hSw; (try dsimp only at hSw); go_simp; first | done | with_reducible rfl) ?_) | (refine held_skip 5 rfl (by kernel_rfl) (by kernel_rfl) (by kernel_rfl) (by rfl) (fun _ _ _ h => h) (by assumption) ?_)
            simp only [Act.put, List.setIfInBounds_toArray, List.set_cons_zero, List.set_cons_succ]
            first | (refine held_take 6 rfl (by kernel_rfl) (by kernel_rfl) (by kernel_rfl) (by rfl) (fun _ _ _ h => h) (by assumption) (by intro w hSw; (try dsimp only at hSw); go_simp; first | done | with_reducible rfl) ?_) | (refine held_skip 6 rfl (by kernel_rfl) (by kernel_rfl) (by kernel_rfl) (by rfl) (fun _ _ _ h => h) (by assumption) ?_)
            simp only [Act.put, List.setIfInBounds_toArray, List.set_cons_zero, List.set_cons_succ]
            first | (refine held_take 7 rfl (by kernel_rfl) (by kernel_rfl) (by kernel_rfl) (by rfl) (fun _ _ _ h => h) (by assumption) (by intro w hSw; (try dsimp only at hSw); go_simp; first | done | with_reducible rfl) ?_) | (refine held_skip 7 rfl (by kernel_rfl) (by kernel_rfl) (by kernel_rfl) (by rfl) (fun _ _ _ h => h) (by assumption) ?_)
            simp only [Act.put, List.setIfInBounds_toArray, List.set_cons_zero, List.set_cons_succ]
            first | (refine held_take 8 rfl (by kernel_rfl) (by kernel_rfl) (by kernel_rfl) (by rfl) (fun _ _ _ h => h) (by assumption) (by intro w hSw; (try dsimp only at hSw); go_simp; first | done | with_reducible rfl) ?_) | (refine held_skip 8 rfl (by kernel_rfl) (by kernel_rfl) (by kernel_rfl) (by rfl) (fun _ _ _ h => h) (by assumption) ?_)
            simp only [Act.put, List.setIfInBounds_toArray, List.set_cons_zero, List.set_cons_succ]
            first | (refine held_take 9 rfl (by kernel_rfl) (by kernel_rfl) (by kernel_rfl) (by rfl) (fun _ _ _ h => h) (by assumption) (by intro w hSw; (try dsimp only at hSw); go_simp; first | done | with_reducible rfl) ?_) | (refine held_skip 9 rfl (by kernel_rfl) (by kernel_rfl) (by kernel_rfl) (by rfl) (fun _ _ _ h => h) (by assumption) ?_)
            simp only [Act.put, List.setIfInBounds_toArray, List.set_cons_zero, List.set_cons_succ]
            first | (refine held_take 10 rfl (by kernel_rfl) (by kernel_rfl) (by kernel_rfl) (by rfl) (fun _ _ _ h => h) (by assumption) (by intro w hSw; (try dsimp only at hSw); go_simp; first | done | with_reducible rfl) ?_) | (refine held_skip 10 rfl (by kernel_rfl) (by kernel_rfl) (by kernel_rfl) (by rfl) (fun _ _ _ h => h) (by assumption) ?_)
            simp only [Act.put, List.setIfInBounds_toArray, List.set_cons_zero, List.set_cons_succ]
            refine wpAnyH_done (by kernel_rfl) ?_ _
            have hdr : Below w7.heap.size w7 w7.drew := (Below.refl _ _).drew
            have HREL := Lib.hid (And.intro (HH7.out.below hdr) (And.intro (HL7.out.below hdr) (ex_trans HB7.out hdr)))
            have HM := Lib.hid (show L.map mkP = putAt m2 at' f.id by
              rw [← HL2.out, ← putAt_map hjL HX.out f.id h rfl rfl, HP.out, ← HX.out, List.set_getElem_self])
            go_wp2_with fail
            go_roundw
            case rel => exact ⟨k + 1, m2.length, _, c3, by omega, by go_num, rfl, fun x hx => HREL.out.1 x (by obtain rfl := List.mem_singleton.1 hx; exact List.Mem.head _), ⟨_, HREL.out.2.1, by rw [HMS.out, HEQ.out]; exact HM.out⟩, HREL.out.2.2⟩
            case measure => simp [intOf]; omega
          · have HP := Lib.hid (show putI ids f.id = ids.take i ++ f.id :: ids.drop i by unfold putI; rw [← hi, List.getElem?_eq_getElem r2, if_neg (by simpa using he)]; rfl)
            have he2 : (ids[i] != f.id) = true := by simpa [bne] using he
            have HINS := Lib.hid fun (W : World) (vb : Nat) (hb : Below w7.heap.size w7 W) (hv : W.heap[vb]? = some (.cells (eInt f.id).toArray 3 (0, 0))) (hvb : w7.heap.size ≤ vb) => slices_Insert_int h.A h.n h.c i ids f.id vb 1 (w.heap.size + 1) W (HI7.out.below hb) (by omega) (Nat.le_trans (by omega) hb.size) hv (fun hm => by have h9 := (HI7.out.base _ hm).2; omega) (by omega)
            rw [hA] at HINS
            clear he hi hfi hci
            go_upto_region 15 with fail
            refine wp_region_held_drew (S := (fun w' => w'.cell? ⟨g, at' * 5 + 4, none⟩ = some (.slice (some ⟨gi, 0, none⟩) h.n h.c) ∧ w'.cell? ⟨w.heap.size, 0, none⟩ = some (.int .i64 f.id) ∧ w'.cell? ⟨gi, i, none⟩ = some (.int .i64 ids[i]))) (by kernel_rfl) (by (try dsimp only); exact ⟨z4, zf, zi⟩) (fun hHeld => ?_)
            first | (refine held_take 0 rfl (by kernel_rfl) (by kernel_rfl) (by kernel_rfl) (by rfl) (fun _ _ _ h => h) (by assumption) (by intro w hSw; (try dsimp only at hSw); go_simp; first | done | with_reducible rfl) ?_) | (refine held_skip 0 rfl (by kernel_rfl) (by kernel_rfl) (by kernel_rfl) (by rfl) (fun _ _ _ h => h) (by assumption) ?_)
            simp only [Act.put, List.setIfInBounds_toArray, List.set_cons_zero, List.set_cons_succ]
            first | (refine held_take 1 rfl (by kernel_rfl) (by kernel_rfl) (by kernel_rfl) (by rfl) (fun _ _ _ h => h) (by assumption) (by intro w hSw; (try dsimp only at hSw); go_simp; first | done | with_reducible rfl) ?_) | (refine held_skip 1 rfl (by kernel_rfl) (by kernel_rfl) (by kernel_rfl) (by rfl) (fun _ _ _ h => h) (by assumption) ?_)
            simp only [Act.put, List.setIfInBounds_toArray, List.set_cons_zero, List.set_cons_succ]
            first | (refine held_take 2 rfl (by kernel_rfl) (by kernel_rfl) (by kernel_rfl) (by rfl) (fun _ _ _ h => h) (by assumption) (by intro w hSw; (try dsimp only at hSw); go_simp; first | done | with_reducible rfl) ?_) | (refine held_skip 2 rfl (by kernel_rfl) (by kernel_rfl) (by kernel_rfl) (by rfl) (fun _ _ _ h => h) (by assumption) ?_)
            simp only [Act.put, List.setIfInBounds_toArray, List.set_cons_zero, List.set_cons_succ]
            first | (refine held_take 3 rfl (by kernel_rfl) (by kernel_rfl) (by kernel_rfl) (by rfl) (fun _ _ _ h => h) (by assumption) (by intro w hSw; (try dsimp only at hSw); go_simp; first | done | with_reducible rfl) ?_) | (refine held_skip 3 rfl (by kernel_rfl) (by kernel_rfl) (by kernel_rfl) (by rfl) (fun _ _ _ h => h) (by assumption) ?_)
            simp only [Act.put, List.setIfInBounds_toArray, List.set_cons_zero, List.set_cons_succ]
            first | (refine held_take 4 rfl (by kernel_rfl) (by kernel_rfl) (by kernel_rfl) (by rfl) (fun _ _ _ h => h) (by assumption) (by intro w hSw; (try dsimp only at hSw); go_simp; first | done | with_reducible rfl) ?_) | (refine held_skip 4 rfl (by kernel_rfl) (by kernel_rfl) (by kernel_rfl) (by rfl) (fun _ _ _ h => h) (by assumption) ?_)
            simp only [Act.put, List.setIfInBounds_toArray, List.set_cons_zero, List.set_cons_succ]
            first | (refine held_take 5 rfl (by kernel_rfl) (by kernel_rfl) (by kernel_rfl) (by rfl) (fun _ _ _ h => h) (by assumption) (by intro w hSw; (try dsimp only at hSw); go_simp; first | done | with_reducible rfl) ?_) | (refine held_skip 5 rfl (by kernel_rfl) (by kernel_rfl) (by kernel_rfl) (by rfl) (fun _ _ _ h => h) (by assumption) ?_)
            simp only [Act.put, List.setIfInBounds_toArray, List.set_cons_zero, List.set_cons_succ]
            first | (refine held_take 6 rfl (by kernel_rfl) (by kernel_rfl) (by kernel_rfl) (by rfl) (fun _ _ _ h => h) (by assumption) (by intro w hSw; (try dsimp only at hSw); go_simp; first | done | with_reducible rfl) ?_) | (refine held_skip 6 rfl (by kernel_rfl) (by kernel_rfl) (by kernel_rfl) (by rfl) (fun _ _ _ h => h) (by assumption) ?_)
            simp only [Act.put, List.setIfInBounds_toArray, List.set_cons_zero, List.set_cons_succ]
            first | (refine held_take 7 rfl (by kernel_rfl) (by kernel_rfl) (by kernel_rfl) (by rfl) (fun _ _ _ h => h) (by assumption) (by intro w hSw; (try dsimp only at hSw); go_simp; first | done | with_reducible rfl) ?_) | (refine held_skip 7 rfl (by kernel_rfl) (by kernel_rfl) (by kernel_rfl) (by rfl) (fun _ _ _ h => h) (by assumption) ?_)
            simp only [Act.put, List.setIfInBounds_toArray, List.set_cons_zero, List.set_cons_succ]
            first | (refine held_take 8 rfl (by kernel_rfl) (by kernel_rfl) (by kernel_rfl) (by rfl) (fun _ _ _ h => h) (by assumption) (by intro w hSw; (try dsimp only at hSw); go_simp; first | done | with_reducible rfl) ?_) | (refine held_skip 8 rfl (by kernel_rfl) (by kernel_rfl) (by kernel_rfl) (by rfl) (fun _ _ _ h => h) (by assumption) ?_)
            simp only [Act.put, List.setIfInBounds_toArray, List.set_cons_zero, List.set_cons_succ]
            first | (refine held_take 9 rfl (by kernel_rfl) (by kernel_rfl) (by kernel_rfl) (by rfl) (fun _ _ _ h => h) (by assumption) (by intro w hSw; (try dsimp only at hSw); go_simp; first | done | with_reducible rfl) ?_) | (refine held_skip 9 rfl (by kernel_rfl) (by kernel_rfl) (by kernel_rfl) (by rfl) (fun _ _ _ h => h) (by assumption) ?_)
            simp only [Act.put, List.setIfInBounds_toArray, List.set_cons_zero, List.set_cons_succ]
            first | (refine held_take 10 rfl (by kernel_rfl) (by kernel_rfl) (by kernel_rfl) (by rfl) (fun _ _ _ h => h) (by assumption) (by intro w hSw; (try dsimp only at hSw); go_simp; first | done | with_reducible rfl) ?_) | (refine held_skip 10 rfl (by kernel_rfl) (by kernel_rfl) (by kernel_rfl) (by rfl) (fun _ _ _ h => h) (by assumption) ?_)
            simp only [Act.put, List.setIfInBounds_toArray, List.set_cons_zero, List.set_cons_succ]
            refine wpAnyH_done (by kernel_rfl) ?_ _
            go_upto_region 16 with fail
            go_region_with (go_at_call 103; (with_reducible refine (HINS.out _ _ ?hb ?hv ?hvb).mono ?_); (case hb => go_grown); (case hv => first | exact hp_new (by simp) | (show (World.alloc w7 _).heap[w7.heap.size]? = _; exact hp_new rfl)); (case hvb => simp <;> omega); rintro e w8 ⟨A8, c8, rfl, hr8, hc8, hx8⟩; rw [← hA] at hc8 hx8; have z8 : w8.cell? ⟨g, at' * 5 + 4, none⟩ = some (.slice (some ⟨gi, 0, none⟩) h.n h.c) := hc8.cell (by go_simp) HGN.out; have y8 : w8.cell? ⟨w.heap.size, 0, none⟩ = some (.int .i64 f.id) := hc8.cell (by go_simp) (fun hm => by have h9 := (HI7.out.base _ hm).1; simp only at h9; omega); have fr8 : ∀ j, w8.frozen? ⟨g, j, none⟩ = false := (fun j => (hc8.frozen (a := ⟨g, j, none⟩) (by simp <;> omega) HGN.out).trans (by go_simp)); have HR8 := Lib.hid (And.intro hr8 (And.intro hc8 hx8)); clear hr8 hc8 hx8)
            all_goals
              have HREL := Lib.hid (add_done HL7.out HI7.out HH7.out HB7.out (W0 := _) (by repeat first | exact Below.refl _ _ | refine Below.drew ?_ | refine ex_alloc ?_ _) hjL HX.out HR8.out.1 HR8.out.2.1 HR8.out.2.2 hrb (by omega) (fun x hx => by
                simp only [List.mem_cons, List.not_mem_nil, or_false] at hx
                rcases hx with rfl | rfl
                · exact ⟨(by decide : (28 : Nat) ≠ 107), (by decide : (28 : Nat) ≠ 3)⟩
                · exact ⟨(by decide : (84 : Nat) ≠ 107), (by decide : (84 : Nat) ≠ 3)⟩))
              go_wp2_with fail
              go_roundw
              case rel => exact ⟨k + 1, m2.length, _, c3, by omega, by go_num, rfl, fun x hx => HREL.out.1 x (by obtain rfl := List.mem_singleton.1 hx; exact List.Mem.head _), ⟨_, HREL.out.2.1, by rw [HMS.out, HEQ.out, ← HL2.out, ← putAt_map hjL HX.out f.id (⟨h.name, h.val, A8, h.n + 1, c8⟩ : Ph) rfl rfl, HP.out]⟩, HREL.out.2.2⟩
              case measure => simp [intOf]; omega
    · obtain rfl : f.attrs.length = k := by omega
      rw [List.take_of_length_le (Nat.le_refl _)] at hrow
      have hrow' : PRows 107 3 wr (w.heap.size + 1) A1 n1 c1 (addX l f) := hrow
      have HR := Lib.hid (And.intro hrow' hrow'.len)
      clear hrow hrow'
      go_wp2_with fail
      go_returns
      obtain ⟨⟨L9, h8, h9⟩, h7⟩ := HR.out
      exact ⟨A1, c1, by rw [h7]; rfl, ⟨L9, by rw [h7]; exact h8.re (fun b hb => by have := (h8.base b hb).1; omega), h9⟩, hb⟩
end Go.Proofs.Ytjobgnioehkomaa
