/-
  CONTRACTS: the reference's RemoveFromIndex.
-/
import Derived.WalkKit
import Derived.WalkSpells
import Derived.WalkLawsBesides
import Derived.Lib.Hide
import Derived.Handy
import Derived.StillTailTactics
import Derived.Deep.Light
import Derived.Deep.QuietTactic
import Derived.BigQuiet
import Derived.Deep.RegionHeld3
import Derived.Deep.RegionLaw
import Derived.Sort.Walk0
import Derived.Deep.DeepCutAuto
import Derived.Test.YtkjhfblipmagoaaLib
import Derived.Test.YtkjhfblipmagoaaOwn
import Derived.Test.YtkjhfblipmagoaaRow
import Derived.Test.YtkjhfblipmagoaaN0
import Derived.Test.YtkjhfblipmagoaaRaw
import Derived.Test.YtkjhfblipmagoaaHld
import Derived.Test.YtkjhfblipmagoaaM0
import Derived.Test.YtkjhfblipmagoaaC1
import Derived.Test.YtkjhfblipmagoaaC2
import Derived.Test.YtkjhfblipmagoaaT1
import Derived.Test.YtkjhfblipmagoaaT2
import Derived.Test.YtkjhfblipmagoaaT3
import Derived.Test.YtkjhfblipmagoaaT4
import Derived.Test.YtkjhfblipmagoaaC3
import Derived.Test.YtkjhfblipmagoaaC4
import Derived.Test.YtkjhfblipmagoaaC5
import Derived.Test.YtkjhfblipmagoaaD1
import Derived.Test.YtkjhfblipmagoaaD3
import Derived.Test.YtkjhfblipmagoaaD5
import Derived.Test.YtkjhfblipmagoaaH1
import Derived.Test.YtkjhfblipmagoaaE4
import Derived.Test.YtkjhfblipmagoaaE5
import Derived.Test.YtkjhfblipmagoaaQ0
import Derived.Test.YtkjhfblipmagoaaQ1
import Derived.Test.YtkjhfblipmagoaaQ2
import Derived.Test.YtkjhfblipmagoaaQ3
import Derived.Test.YtkjhfblipmagoaaRows
namespace Go.Proofs.Ytkjhfblipmagoaa
open Go.RowKit
set_option linter.unusedVariables false
set_option maxRecDepth 100000
theorem NRow.add2 {H β : Type} {K : NK H β} {W0 W1 W2 : World} {B n c c' : Nat} {A A' : Option Addr} {L : List (H × List β)} {x : H × List β} (h : NRow K W0 B A n c L) (hb : Below W0.heap.size W0 W1) (hx : K.inner W1 B x) (hap : ∀ b ∈ K.bs x.1, b ∉ rowBs A c ++ K.all L)
    (hr : FRow K.e K.size K.enc W2 B A' (n + 1) c' (L.map (·.1) ++ [x.1])) (hc : Chg (rowBs A c) W1 W2) (hx5 : ∀ b ∈ rowBs A' c', b ∈ rowBs A c ∨ W1.heap.size ≤ b) : NRow K W2 B A' (n + 1) c' (L ++ [x]) := by
  obtain ⟨p1, p2⟩ := (h.below hb).push hx hap
  exact NRow.turn (by simpa using hr) hc hx5 p1 p2
theorem NRow.take_apart {H β : Type} {K : NK H β} {w : World} {B n c : Nat} {A : Option Addr} {L : List (H × List β)} (h : NRow K w B A n c L) {j : Nat} (hj : j < L.length) {b : Nat} (h1 : b ∈ K.all (L.take j)) (h2 : b ∈ K.bs L[j].1) : False := by
  have hn := (List.nodup_append.1 h.2.2).2.1
  have hs : L.take j ++ L[j] :: L.drop (j + 1) = L := by simp
  have e : K.all (L.take j) ++ (K.bs L[j].1 ++ K.all (L.drop (j + 1))) = K.all L := by
    have e := congrArg K.all hs
    simp only [NK.all, List.flatMap_append, List.flatMap_cons] at e ⊢
    exact e
  rw [← e, List.nodup_append] at hn
  exact hn.2.2 b h1 b (List.mem_append_left _ h2) rfl
theorem NK.all_take {H β : Type} {K : NK H β} {L : List (H × List β)} {j : Nat} {b : Nat} (h : b ∈ K.all (L.take j)) : b ∈ K.all (L.take (j + 1)) := by
  obtain ⟨x, hx, hb⟩ := NK.all_mem.1 h
  refine NK.all_mem.2 ⟨x, ?_, hb⟩
  exact (List.take_subset_take_left L (by omega)) hx
theorem stepR_ids {id : Int} {M : Nat} (ys : List Atr) (l : List Pst) (h : ∀ p ∈ l, p.ids.length ≤ M) : ∀ p ∈ ys.foldl (stepR id) l, p.ids.length ≤ M :=
  foldR_ind (C := fun m => ∀ p ∈ m, p.ids.length ≤ M) (fun m a hm p hp => by
    obtain ⟨q, hq, rfl⟩ := List.mem_map.1 (List.mem_filter.1 hp).1
    exact Nat.le_trans (dropP_cnt a.name a.val id q) (hm q hq)) ys l h
theorem foldR_len {id : Int} (ys : List Atr) (l : List Pst) : (ys.foldl (stepR id) l).length ≤ l.length :=
  foldR_ind (C := fun m => m.length ≤ l.length) (fun m a hm => Nat.le_trans (stepR_len _ a m) hm) ys l (Nat.le_refl _)
theorem step_take {d : Pst → Pst} {L : List (Ph × List Int)} {j : Nat} (hj : j < L.length) : (((L.take (j + 1)).map mkP).map d).filter someIds = (((L.take j).map mkP).map d).filter someIds ++ (if someIds (d (mkP L[j])) then [d (mkP L[j])] else []) := by
  rw [List.take_succ_eq_append_getElem hj]
  simp only [List.map_append, List.map_cons, List.map_nil, List.filter_append, List.filter_cons, List.filter_nil]

set_option maxHeartbeats 12800000 in
theorem spec_RemoveFromIndex (A : Option Addr) (n c : Nat) (l : List Pst) (f : Fil) (A2 : Option Addr) (n2 c2 : Nat) (w : World) (hT : Sl 5 RPst w A n l) (hS : Sl 4 RAtr w A2 n2 f.attrs) (hn : n ≤ 1073741824) (hn2 : n2 ≤ 1073741824) (hok : ∀ p ∈ l, p.ids.length ≤ 1073741824) :
    Calls Try.prog 18 #[.slice A n c, f.v A2 n2 c2] w (NewPsts 89 3 w (remX l f)) := by
  obtain rfl : l.length = n := hT.len
  obtain rfl : f.attrs.length = n2 := hS.len
  obtain ⟨ii, hi, hi0, hi1, hi2⟩ := info_parts info_Posting
  have HC := Lib.hid fun w' (hb : Below w.heap.size w w') => spec_l07Copy A l.length c l w' (hT.mono mPst hb) hn hok
  have HIDS := Lib.hid fun (k : Nat) => stepR_ids (id := f.id) (f.attrs.take k) l hok
  have HLEN := Lib.hid fun (k : Nat) => Nat.le_trans (foldR_len (id := f.id) (f.attrs.take k) l) hn
  clear hT hok
  go_enter Try.func18, Try.ntmps18
  go_wp2_with fail
  refine (HC.out _ (by go_grown)).mono ?_; rintro e w1 ⟨A1, c1, rfl, hr1, hb1⟩
  have hB1 := ex_trans (w := w) (by go_grown) hb1
  have kf := below_keep hb1 (hp_new rfl)
  have hzf : w.heap.size < w1.heap.size := blk_lt kf
  have HR1 := Lib.hid (hr1.lower (show w.heap.size + 1 ≤ _ by simp))
  have HKF := Lib.hid kf
  have HB1 := Lib.hid hB1
  clear hr1 hb1 kf hB1
  go_wp2_with fail
  go_loopw [0, 5] (fun v i wr => ∃ (k n1 : Nat) (A1 : Option Addr) (c1 : Nat), k ≤ f.attrs.length ∧ i = .int .i64 k ∧ v = .slice A1 n1 c1 ∧ HasB wr [(w.heap.size, #[.int .i64 f.id, .int .i64 f.owner, .bool f.shared, .int .i64 f.link, .slice A2 f.attrs.length c2], 46)] ∧ PRows 89 3 wr (w.heap.size + 1) A1 n1 c1 ((f.attrs.take k).foldl (stepR f.id) l) ∧ Below w.heap.size w wr) (fun _ i _ => f.attrs.length - (intOf i).toNat)
  case atStart => exact ⟨0, _, A1, c1, Nat.zero_le _, rfl, rfl, fun x hx => by simp only [List.mem_singleton] at hx; subst hx; exact HKF.out, HR1.out, HB1.out⟩
  case round =>
    obtain ⟨k, n1, A1, c1, hk2, rfl, rfl, hbf, hrow, hb⟩ := hrel
    have HBF := Lib.hid hbf
    have HLK := HLEN.out k
    rw [hrow.len] at HLK
    have uf := blk_cell? (hbf _ (List.Mem.head _))
    have lf := blk_lt (hbf _ (List.Mem.head _))
    simp only at lf
    have hids : ∀ p ∈ (f.attrs.take k).foldl (stepR f.id) l, p.ids.length ≤ 1073741824 := HIDS.out k
    clear hbf
    by_cases hlt : k < f.attrs.length
    · obtain ⟨b, off, rfl, bw, bc⟩ := hS.atr (by omega)
      have i0 : (0 : Int) ≤ (k : Int) := by omega
      have i1 : (k : Int) < (f.attrs.length : Int) := by omega
      obtain ⟨L, hL1, hL2⟩ := hrow
      obtain rfl : L.length = n1 := hL1.len
      have HMS := Lib.hid (show ((L.map mkP).map (dropP f.attrs[k].name f.attrs[k].val f.id)).filter someIds = (f.attrs.take (k + 1)).foldl (stepR f.id) l by rw [hL2, List.take_succ_eq_append_getElem hlt, List.foldl_append]; rfl)
      have HIL := Lib.hid (show ∀ (i : Nat) (h : i < L.length), L[i].2.length ≤ 1073741824 from fun i h => by
        have h9 := hids (mkP L[i]) (by rw [← hL2]; exact List.mem_map_of_mem (List.getElem_mem h))
        exact h9)
      have HL1 := Lib.hid hL1
      clear hL1 hL2 hids
      obtain ⟨W1, rfl⟩ : ∃ W1, W1 = wr := ⟨_, rfl⟩
      go_wp2_with fail
      go_loopw [6, 7] (fun v i wr => ∃ (j q : Nat) (O : List (Ph × List Int)) (A4 : Option Addr) (c4 : Nat), j ≤ L.length ∧ i = .int .i64 j ∧ v = .slice A4 q c4 ∧ NRow (KPst 89 3) wr (w.heap.size + 1) A4 q c4 O ∧ (∀ b ∈ rowBs A4 c4, W1.heap.size ≤ b) ∧ (∀ b ∈ (KPst 89 3).all O, b ∈ (KPst 89 3).all (L.take j) ∨ W1.heap.size ≤ b) ∧ O.map mkP = (((L.take j).map mkP).map (dropP f.attrs[k].name f.attrs[k].val f.id)).filter someIds ∧ Below W1.heap.size W1 wr) (fun _ i _ => L.length - (intOf i).toNat)
      case atStart => exact ⟨0, 0, [], _, 0, Nat.zero_le _, rfl, rfl, NRow.any0 _ _ _ _, fun b hb => by simp [rowBs_zero] at hb, fun b hb => by simp [NK.all] at hb, rfl, by go_grown⟩
      case round =>
        obtain ⟨j, q, O, A4, c4, hj2, rfl, rfl, hO, hO1, hO2, hO3, hbW⟩ := hrel
        have HO := Lib.hid (And.intro hO (And.intro hO1 (And.intro hO2 hO3)))
        have hqj : q ≤ j := by
          have h9 := congrArg List.length hO3
          rw [List.length_map, hO.len] at h9
          rw [h9]
          exact Nat.le_trans (List.length_filter_le _ _) (by simp; omega)
        have hBW := ex_trans hb hbW
        clear hO hO1 hO2 hO3
        by_cases hjl : j < L.length
        · skip
          have hL1w := HL1.out.below hbW
          obtain ⟨g, hgA, hBg, hgw, hrb, hfr, hcell⟩ := hL1w.hcell encPh (by omega)
          subst hgA
          have y0 := hcell j hjl 0 _ rfl
          have y1 := hcell j hjl 1 _ rfl
          have y2 := hcell j hjl 2 _ rfl
          have y3 := hcell j hjl 3 _ rfl
          have y4 := hcell j hjl 4 _ rfl
          have hin := hL1w.fil j hjl
          have hidl := HIL.out j hjl
          have hlt9 : ∀ b ∈ (KPst 89 3).bs L[j].1, b < W1.heap.size := fun b hb => (HL1.out.base b (List.mem_append_right _ (NK.all_mem.2 ⟨L[j], List.getElem_mem hjl, hb⟩))).2
          have hap : ∀ b ∈ (KPst 89 3).bs L[j].1, b ∉ rowBs A4 c4 ++ (KPst 89 3).all O := fun b hb hm => by
            rcases List.mem_append.1 hm with hm | hm
            · have := HO.out.2.1 b hm
              have := hlt9 b hb
              omega
            · rcases HO.out.2.2.1 b hm with h9 | h9
              · exact HL1.out.take_apart hjl h9 hb
              · have := hlt9 b hb
                omega
          have hall : ∀ b ∈ (KPst 89 3).bs L[j].1, b ∈ (KPst 89 3).all (L.take (j + 1)) := fun b hb => NK.all_mem.2 ⟨L[j], List.mem_take_iff_getElem.2 ⟨j, by omega, rfl⟩, hb⟩
          have HST := Lib.hid (step_take (d := (dropP f.attrs[k].name f.attrs[k].val f.id)) hjl)
          obtain ⟨x, hx⟩ : ∃ x, x = L[j] := ⟨_, rfl⟩
          rw [← hx] at y0 y1 y2 y3 y4 hin hidl hap hall
          obtain ⟨h, ids⟩ := x
          simp only [Nat.add_zero] at y0
          simp only [NK.inner, NK.bs] at y0 y1 y2 y3 y4 hin hidl hap hall
          have i2 : (0 : Int) ≤ (j : Int) := by omega
          have i3 : (j : Int) < (L.length : Int) := by omega
          have hHn : h.n ≤ 1073741824 := by rw [← hin.len]; exact hidl
          obtain ⟨q0, q1, q2, q3⟩ := bc k (by omega)
          rw [← hBW.cell (p := ⟨b, _, none⟩) bw] at q0 q1 q2 q3
          have bw' := keep_lt hBW bw
          have kf := below_keep hbW (HBF.out _ (List.Mem.head _))
          have HIN := Lib.hid hin
          have HAP := Lib.hid hap
          have HALL := Lib.hid hall
          have HX := Lib.hid hx
          clear hL1w hin hap hall hx hcell hlt9 uf lf
          have uf := blk_cell? kf
          have lf := blk_lt kf
          simp only at lf
          go_upto_region 10 with fail
          generalize hWp : World.alloc wr _ = W2
          have hp : W2.heap[wr.heap.size]? = some (.cells #[.string h.name, .int .i64 h.val.kind, .int .i64 h.val.int, .string h.val.str, .slice h.A h.n h.c] 89 (0, 0)) := by rw [← hWp]; exact hp_new rfl
          have hb2 : Below wr.heap.size wr W2 := by rw [← hWp]; go_grown
          have hz2 : wr.heap.size < W2.heap.size := blk_lt hp
          clear hWp
          have p0 := blk_cell? hp 0
          have p1 := blk_cell? hp 1
          have p2 := blk_cell? hp 2
          have p3 := blk_cell? hp 3
          simp only [List.getElem?_toArray, List.getElem?_cons_zero, List.getElem?_cons_succ] at p0 p1 p2 p3
          have e4 : W2.cell? ⟨w.heap.size, 4, none⟩ = some (.slice (some ⟨b, off, none⟩) f.attrs.length c2) := keep_cell hb2 (uf 4)
          have r0 := keep_cell hb2 q0
          have r1 := keep_cell hb2 q1
          have r2 := keep_cell hb2 q2
          have r3 := keep_cell hb2 q3
          have z9 := keep_lt hb2 lf
          have bw2 := keep_lt hb2 bw'
          have HP := Lib.hid hp
          have HB2 := Lib.hid hb2
          clear y0 y1 y2 y3 y4 uf q0 q1 q2 q3 kf hp hb2 hfr
          cases h0 : (h.name.toList == f.attrs[k].name.toList) with
          | false =>
            refine wp_region_held_drew (S := (fun w' => w'.cell? ⟨wr.heap.size, 0, none⟩ = some (.string h.name) ∧ w'.cell? ⟨wr.heap.size, 1, none⟩ = some (.int .i64 h.val.kind) ∧ w'.cell? ⟨wr.heap.size, 2, none⟩ = some (.int .i64 h.val.int) ∧ w'.cell? ⟨wr.heap.size, 3, none⟩ = some (.string h.val.str) ∧ w'.cell? ⟨w.heap.size, 4, none⟩ = some (.slice (some ⟨b, off, none⟩) f.attrs.length c2) ∧ w'.cell? ⟨b, off + k * 4, none⟩ = some (.string f.attrs[k].name) ∧ w'.cell? ⟨b, off + k * 4 + 1, none⟩ = some (.int .i64 f.attrs[k].val.kind) ∧ w'.cell? ⟨b, off + k * 4 + 2, none⟩ = some (.int .i64 f.attrs[k].val.int) ∧ w'.cell? ⟨b, off + k * 4 + 3, none⟩ = some (.string f.attrs[k].val.str))) (by kernel_rfl) (by (try dsimp only); exact ⟨p0, p1, p2, p3, e4, r0, r1, r2, r3⟩) (fun hHeld => ?_)
            first | (refine held_take 0 rfl (by kernel_rfl) (by kernel_rfl) (by kernel_rfl) (by rfl) (fun _ _ _ h => h) (by assumption) (by intro w hSw; (try dsimp only at hSw); go_simp; first | done | with_reducible rfl) ?_) | (refine held_skip 0 rfl (by kernel_rfl) (by kernel_rfl) (by kernel_rfl) (by rfl) (fun _ _ _ h => h) (by assumption) ?_)
            simp only [Act.put, List.setIfInBounds_toArray, List.set_cons_zero, List.set_cons_succ]
            first | (refine held_take 1 rfl (by kernel_rfl) (by kernel_rfl) (by kernel_rfl) (by rfl) (fun _ _ _ h => h) (by assumption) (by intro w hSw; (try dsimp only at hSw); go_simp; first | done | with_reducible rfl) ?_) | (refine held_skip 1 rfl (by kernel_rfl) (by kernel_rfl) (by kernel_rfl) (by rfl) (fun _ _ _ h => h) (by assumption) ?_)
            simp only [Act.put, List.setIfInBounds_toArray, List.set_cons_zero, List.set_cons_succ]
            first | (refine held_take 2 rfl (by kernel_rfl) (by kernel_rfl) (by kernel_rfl) (by rfl) (fun _ _ _ h => h) (by assumption) (by intro w hSw; (try dsimp only at hSw); go_simp; first | done | with_reducible rfl) ?_) | (refine held_skip 2 rfl (by kernel_rfl) (by kernel_rfl) (by kernel_rfl) (by rfl) (fun _ _ _ h => h) (by assumption) ?_)
            simp only [Act.put, List.setIfInBounds_toArray, List.set_cons_zero, List.set_cons_succ]
            first | (refine held_take 3 rfl (by kernel_rfl) (by kernel_rfl) (by kernel_rfl) (by rfl) (fun _ _ _ h => h) (by assumption) (by intro w hSw; (try dsimp only at hSw); go_simp; first | done | with_reducible rfl) ?_) | (refine held_skip 3 rfl (by kernel_rfl) (by kernel_rfl) (by kernel_rfl) (by rfl) (fun _ _ _ h => h) (by assumption) ?_)
            simp only [Act.put, List.setIfInBounds_toArray, List.set_cons_zero, List.set_cons_succ]
            first | (refine held_take 4 rfl (by kernel_rfl) (by kernel_rfl) (by kernel_rfl) (by rfl) (fun _ _ _ h => h) (by assumption) (by intro w hSw; (try dsimp only at hSw); go_simp; first | done | with_reducible rfl) ?_) | (refine held_skip 4 rfl (by kernel_rfl) (by kernel_rfl) (by kernel_rfl) (by rfl) (fun _ _ _ h => h) (by assumption) ?_)
            simp only [Act.put, List.setIfInBounds_toArray, List.set_cons_zero, List.set_cons_succ]
            first | (refine held_take 5 rfl (by kernel_rfl) (by kernel_rfl) (by kernel_rfl) (by rfl) (fun _ _ _ h => h) (by assumption) (by intro w hSw; (try dsimp only at hSw); go_simp; first | done | with_reducible rfl) ?_) | (refine held_skip 5 rfl (by kernel_rfl) (by kernel_rfl) (by kernel_rfl) (by rfl) (fun _ _ _ h => h) (by assumption) ?_)
            simp only [Act.put, List.setIfInBounds_toArray, List.set_cons_zero, List.set_cons_succ]
            first | (refine held_take 6 rfl (by kernel_rfl) (by kernel_rfl) (by kernel_rfl) (by rfl) (fun _ _ _ h => h) (by assumption) (by intro w hSw; (try dsimp only at hSw); go_simp; first | done | with_reducible rfl) ?_) | (refine held_skip 6 rfl (by kernel_rfl) (by kernel_rfl) (by kernel_rfl) (by rfl) (fun _ _ _ h => h) (by assumption) ?_)
            simp only [Act.put, List.setIfInBounds_toArray, List.set_cons_zero, List.set_cons_succ]
            first | (refine held_take 7 rfl (by kernel_rfl) (by kernel_rfl) (by kernel_rfl) (by rfl) (fun _ _ _ h => h) (by assumption) (by intro w hSw; (try dsimp only at hSw); go_simp; first | done | with_reducible rfl) ?_) | (refine held_skip 7 rfl (by kernel_rfl) (by kernel_rfl) (by kernel_rfl) (by rfl) (fun _ _ _ h => h) (by assumption) ?_)
            simp only [Act.put, List.setIfInBounds_toArray, List.set_cons_zero, List.set_cons_succ]
            first | (refine held_take 8 rfl (by kernel_rfl) (by kernel_rfl) (by kernel_rfl) (by rfl) (fun _ _ _ h => h) (by assumption) (by intro w hSw; (try dsimp only at hSw); go_simp; first | done | with_reducible rfl) ?_) | (refine held_skip 8 rfl (by kernel_rfl) (by kernel_rfl) (by kernel_rfl) (by rfl) (fun _ _ _ h => h) (by assumption) ?_)
            simp only [Act.put, List.setIfInBounds_toArray, List.set_cons_zero, List.set_cons_succ]
            first | (refine held_take 9 rfl (by kernel_rfl) (by kernel_rfl) (by kernel_rfl) (by rfl) (fun _ _ _ h => h) (by assumption) (by intro w hSw; (try dsimp only at hSw); go_simp; first | done | with_reducible rfl) ?_) | (refine held_skip 9 rfl (by kernel_rfl) (by kernel_rfl) (by kernel_rfl) (by rfl) (fun _ _ _ h => h) (by assumption) ?_)
            simp only [Act.put, List.setIfInBounds_toArray, List.set_cons_zero, List.set_cons_succ]
            first | (refine held_take 10 rfl (by kernel_rfl) (by kernel_rfl) (by kernel_rfl) (by rfl) (fun _ _ _ h => h) (by assumption) (by intro w hSw; (try dsimp only at hSw); go_simp; first | done | with_reducible rfl) ?_) | (refine held_skip 10 rfl (by kernel_rfl) (by kernel_rfl) (by kernel_rfl) (by rfl) (fun _ _ _ h => h) (by assumption) ?_)
            simp only [Act.put, List.setIfInBounds_toArray, List.set_cons_zero, List.set_cons_succ]
            first | (refine held_take 11 rfl (by kernel_rfl) (by kernel_rfl) (by kernel_rfl) (by rfl) (fun _ _ _ h => h) (by assumption) (by intro w hSw; (try dsimp only at hSw); go_simp; first | done | with_reducible rfl) ?_) | (refine held_skip 11 rfl (by kernel_rfl) (by kernel_rfl) (by kernel_rfl) (by rfl) (fun _ _ _ h => h) (by assumption) ?_)
            simp only [Act.put, List.setIfInBounds_toArray, List.set_cons_zero, List.set_cons_succ]
            first | (refine held_take 12 rfl (by kernel_rfl) (by kernel_rfl) (by kernel_rfl) (by rfl) (fun _ _ _ h => h) (by assumption) (by intro w hSw; (try dsimp only at hSw); go_simp; first | done | with_reducible rfl) ?_) | (refine held_skip 12 rfl (by kernel_rfl) (by kernel_rfl) (by kernel_rfl) (by rfl) (fun _ _ _ h => h) (by assumption) ?_)
            simp only [Act.put, List.setIfInBounds_toArray, List.set_cons_zero, List.set_cons_succ]
            first | (refine held_take 13 rfl (by kernel_rfl) (by kernel_rfl) (by kernel_rfl) (by rfl) (fun _ _ _ h => h) (by assumption) (by intro w hSw; (try dsimp only at hSw); go_simp; first | done | with_reducible rfl) ?_) | (refine held_skip 13 rfl (by kernel_rfl) (by kernel_rfl) (by kernel_rfl) (by rfl) (fun _ _ _ h => h) (by assumption) ?_)
            simp only [Act.put, List.setIfInBounds_toArray, List.set_cons_zero, List.set_cons_succ]
            first | (refine held_take 14 rfl (by kernel_rfl) (by kernel_rfl) (by kernel_rfl) (by rfl) (fun _ _ _ h => h) (by assumption) (by intro w hSw; (try dsimp only at hSw); go_simp; first | done | with_reducible rfl) ?_) | (refine held_skip 14 rfl (by kernel_rfl) (by kernel_rfl) (by kernel_rfl) (by rfl) (fun _ _ _ h => h) (by assumption) ?_)
            simp only [Act.put, List.setIfInBounds_toArray, List.set_cons_zero, List.set_cons_succ]
            first | (refine held_take 15 rfl (by kernel_rfl) (by kernel_rfl) (by kernel_rfl) (by rfl) (fun _ _ _ h => h) (by assumption) (by intro w hSw; (try dsimp only at hSw); go_simp; first | done | with_reducible rfl) ?_) | (refine held_skip 15 rfl (by kernel_rfl) (by kernel_rfl) (by kernel_rfl) (by rfl) (fun _ _ _ h => h) (by assumption) ?_)
            simp only [Act.put, List.setIfInBounds_toArray, List.set_cons_zero, List.set_cons_succ]
            first | (refine held_take 16 rfl (by kernel_rfl) (by kernel_rfl) (by kernel_rfl) (by rfl) (fun _ _ _ h => h) (by assumption) (by intro w hSw; (try dsimp only at hSw); go_simp; first | done | with_reducible rfl) ?_) | (refine held_skip 16 rfl (by kernel_rfl) (by kernel_rfl) (by kernel_rfl) (by rfl) (fun _ _ _ h => h) (by assumption) ?_)
            simp only [Act.put, List.setIfInBounds_toArray, List.set_cons_zero, List.set_cons_succ]
            first | (refine held_take 17 rfl (by kernel_rfl) (by kernel_rfl) (by kernel_rfl) (by rfl) (fun _ _ _ h => h) (by assumption) (by intro w hSw; (try dsimp only at hSw); go_simp; first | done | with_reducible rfl) ?_) | (refine held_skip 17 rfl (by kernel_rfl) (by kernel_rfl) (by kernel_rfl) (by rfl) (fun _ _ _ h => h) (by assumption) ?_)
            simp only [Act.put, List.setIfInBounds_toArray, List.set_cons_zero, List.set_cons_succ]
            first | (refine held_take 18 rfl (by kernel_rfl) (by kernel_rfl) (by kernel_rfl) (by rfl) (fun _ _ _ h => h) (by assumption) (by intro w hSw; (try dsimp only at hSw); go_simp; first | done | with_reducible rfl) ?_) | (refine held_skip 18 rfl (by kernel_rfl) (by kernel_rfl) (by kernel_rfl) (by rfl) (fun _ _ _ h => h) (by assumption) ?_)
            simp only [Act.put, List.setIfInBounds_toArray, List.set_cons_zero, List.set_cons_succ]
            first | (refine held_take 19 rfl (by kernel_rfl) (by kernel_rfl) (by kernel_rfl) (by rfl) (fun _ _ _ h => h) (by assumption) (by intro w hSw; (try dsimp only at hSw); go_simp; first | done | with_reducible rfl) ?_) | (refine held_skip 19 rfl (by kernel_rfl) (by kernel_rfl) (by kernel_rfl) (by rfl) (fun _ _ _ h => h) (by assumption) ?_)
            simp only [Act.put, List.setIfInBounds_toArray, List.set_cons_zero, List.set_cons_succ]
            refine wpAnyH_done (by kernel_rfl) ?_ _
            clear hHeld
            generalize hW3 : World.drew W2 = W3
            have hb3 : Below W2.heap.size W2 W3 := by rw [← hW3]; exact (Below.refl _ _).drew
            clear hW3
            have tp := below_keep hb3 HP.out
            have TB := Lib.hid (ex_trans HB2.out hb3)
            have hi3 := HIN.out.below TB.out
            have TIN := Lib.hid hi3
            have TAP := Lib.hid HAP.out
            have TAL := Lib.hid fun b hb => (Or.inl (HALL.out b hb) : b ∈ (KPst 89 3).all (L.take (j + 1)) ∨ W1.heap.size ≤ b)
            have TMK := Lib.hid (show (dropP f.attrs[k].name f.attrs[k].val f.id) (mkP L[j]) = ⟨h.name, h.val, ids⟩ by
              rw [← HX.out]
              have h9 : isPst f.attrs[k].name f.attrs[k].val (mkP (h, ids)) = false := by simp [isPst, eqS, Vl.eqb, mkP, h0]
              unfold dropP; rw [h9]; rfl)
            clear hi3 hb3
            have tu := blk_cell? tp
            have tl := blk_lt tp
            by_cases hz : h.n = 0
            · have i5 : ¬ ((0 : Int) < ((h.n : Nat) : Int)) := by omega
              have HN := Lib.hid (show O.map mkP = (((L.take (j + 1)).map mkP).map (dropP f.attrs[k].name f.attrs[k].val f.id)).filter someIds by
                rw [HST.out, HO.out.2.2.2, TMK.out]
                have h9 : someIds ⟨h.name, h.val, ids⟩ = false := by
                  have h8 : (ids).length = h.n := TIN.out.len
                  simp only [someIds]; rw [h8, hz]; rfl
                rw [h9]; simp)
              clear hz
              go_wp2_with fail
              go_roundw
              case rel => exact ⟨j + 1, q, O, A4, c4, by omega, by go_num, rfl, HO.out.1.below TB.out, HO.out.2.1, fun b hb => (HO.out.2.2.1 b hb).imp NK.all_take id, HN.out, ex_trans hbW TB.out⟩
              case measure => simp [intOf]; omega
            · have i5 : (0 : Int) < ((h.n : Nat) : Int) := by omega
              have tz := TB.out.size
              go_wp2_with (at_builtin; refine wpList_append_row rfl _ _ _ rfl encPh Try.underlying41 hi hi0 hi1 hi2 rfl rfl rfl (HO.out.1.1.below (ex_alloc TB.out _)) (src1 encPh _ (⟨h.name, h.val, h.A, h.n, h.c⟩ : Ph) _ (by simp) rfl) (by unfold maxLen; omega) (by omega) (by simp; omega) ?_; intro A8 c8 w8 hr8 hc8 hx8)
              have HREL := Lib.hid (show NRow (KPst 89 3) w8 (w.heap.size + 1) A8 (q + 1) c8 (O ++ [(⟨h.name, h.val, h.A, h.n, h.c⟩, ids)]) ∧ (∀ b ∈ rowBs A8 c8, W1.heap.size ≤ b) ∧ (∀ b ∈ (KPst 89 3).all (O ++ [(⟨h.name, h.val, h.A, h.n, h.c⟩, ids)]), b ∈ (KPst 89 3).all (L.take (j + 1)) ∨ W1.heap.size ≤ b) ∧ (O ++ [((⟨h.name, h.val, h.A, h.n, h.c⟩ : Ph), ids)]).map mkP = (((L.take (j + 1)).map mkP).map (dropP f.attrs[k].name f.attrs[k].val f.id)).filter someIds ∧ Below W1.heap.size W1 w8 from by
                refine ⟨NRow.add2 (K := (KPst 89 3)) (x := (⟨h.name, h.val, h.A, h.n, h.c⟩, ids)) HO.out.1 (ex_alloc TB.out _) (TIN.out.below (by go_grown)) TAP.out hr8 hc8 hx8, fun b hb => ?_, fun b hb => ?_, ?_, Below.mark (ex_trans hbW (ex_alloc TB.out _)) hc8 (by have := hbW.size; simp; omega) HO.out.2.1⟩
                · rcases hx8 b hb with h9 | h9
                  · exact HO.out.2.1 b h9
                  · have := hbW.size; simp at h9; omega
                · obtain ⟨y, hy, hby⟩ := NK.all_mem.1 hb
                  rcases List.mem_append.1 hy with hy | hy
                  · exact (HO.out.2.2.1 b (NK.all_mem.2 ⟨y, hy, hby⟩)).imp NK.all_take id
                  · obtain rfl := List.mem_singleton.1 hy
                    exact TAL.out b hby
                · rw [HST.out, List.map_append, HO.out.2.2.2, TMK.out]
                  have h9 : someIds ⟨h.name, h.val, ids⟩ = true := by
                    have h8 : (ids).length = h.n := TIN.out.len
                    simp only [someIds]; rw [h8]; simpa using hz
                  rw [h9]; rfl)
              clear hr8 hc8 hx8 hz
              go_wp2_with fail
              go_roundw
              case rel => exact ⟨j + 1, q + 1, _, A8, c8, by omega, by go_num, rfl, HREL.out⟩
              case measure => simp [intOf]; omega
          | true =>
            cases h1 : (h.val.kind == f.attrs[k].val.kind) with
            | false =>
              refine wp_region_held_drew (S := (fun w' => w'.cell? ⟨wr.heap.size, 0, none⟩ = some (.string h.name) ∧ w'.cell? ⟨wr.heap.size, 1, none⟩ = some (.int .i64 h.val.kind) ∧ w'.cell? ⟨wr.heap.size, 2, none⟩ = some (.int .i64 h.val.int) ∧ w'.cell? ⟨wr.heap.size, 3, none⟩ = some (.string h.val.str) ∧ w'.cell? ⟨w.heap.size, 4, none⟩ = some (.slice (some ⟨b, off, none⟩) f.attrs.length c2) ∧ w'.cell? ⟨b, off + k * 4, none⟩ = some (.string f.attrs[k].name) ∧ w'.cell? ⟨b, off + k * 4 + 1, none⟩ = some (.int .i64 f.attrs[k].val.kind) ∧ w'.cell? ⟨b, off + k * 4 + 2, none⟩ = some (.int .i64 f.attrs[k].val.int) ∧ w'.cell? ⟨b, off + k * 4 + 3, none⟩ = some (.string f.attrs[k].val.str))) (by kernel_rfl) (by (try dsimp only); exact ⟨p0, p1, p2, p3, e4, r0, r1, r2, r3⟩) (fun hHeld => ?_)
              first | (refine held_take 0 rfl (by kernel_rfl) (by kernel_rfl) (by kernel_rfl) (by rfl) (fun _ _ _ h => h) (by assumption) (by intro w hSw; (try dsimp only at hSw); go_simp; first | done | with_reducible rfl) ?_) | (refine held_skip 0 rfl (by kernel_rfl) (by kernel_rfl) (by kernel_rfl) (by rfl) (fun _ _ _ h => h) (by assumption) ?_)
              simp only [Act.put, List.setIfInBounds_toArray, List.set_cons_zero, List.set_cons_succ]
              first | (refine held_take 1 rfl (by kernel_rfl) (by kernel_rfl) (by kernel_rfl) (by rfl) (fun _ _ _ h => h) (by assumption) (by intro w hSw; (try dsimp only at hSw); go_simp; first | done | with_reducible rfl) ?_) | (refine held_skip 1 rfl (by kernel_rfl) (by kernel_rfl) (by kernel_rfl) (by rfl) (fun _ _ _ h => h) (by assumption) ?_)
              simp only [Act.put, List.setIfInBounds_toArray, List.set_cons_zero, List.set_cons_succ]
              first | (refine held_take 2 rfl (by kernel_rfl) (by kernel_rfl) (by kernel_rfl) (by rfl) (fun _ _ _ h => h) (by assumption) (by intro w hSw; (try dsimp only at hSw); go_simp; first | done | with_reducible rfl) ?_) | (refine held_skip 2 rfl (by kernel_rfl) (by kernel_rfl) (by kernel_rfl) (by rfl) (fun _ _ _ h => h) (by assumption) ?_)
              simp only [Act.put, List.setIfInBounds_toArray, List.set_cons_zero, List.set_cons_succ]
              first | (refine held_take 3 rfl (by kernel_rfl) (by kernel_rfl) (by kernel_rfl) (by rfl) (fun _ _ _ h => h) (by assumption) (by intro w hSw; (try dsimp only at hSw); go_simp; first | done | with_reducible rfl) ?_) | (refine held_skip 3 rfl (by kernel_rfl) (by kernel_rfl) (by kernel_rfl) (by rfl) (fun _ _ _ h => h) (by assumption) ?_)
              simp only [Act.put, List.setIfInBounds_toArray, List.set_cons_zero, List.set_cons_succ]
              first | (refine held_take 4 rfl (by kernel_rfl) (by kernel_rfl) (by kernel_rfl) (by rfl) (fun _ _ _ h => h) (by assumption) (by intro w hSw; (try dsimp only at hSw); go_simp; first | done | with_reducible rfl) ?_) | (refine held_skip 4 rfl (by kernel_rfl) (by kernel_rfl) (by kernel_rfl) (by rfl) (fun _ _ _ h => h) (by assumption) ?_)
              simp only [Act.put, List.setIfInBounds_toArray, List.set_cons_zero, List.set_cons_succ]
              first | (refine held_take 5 rfl (by kernel_rfl) (by kernel_rfl) (by kernel_rfl) (by rfl) (fun _ _ _ h => h) (by assumption) (by intro w hSw; (try dsimp only at hSw); go_simp; first | done | with_reducible rfl) ?_) | (refine held_skip 5 rfl (by kernel_rfl) (by kernel_rfl) (by kernel_rfl) (by rfl) (fun _ _ _ h => h) (by assumption) ?_)
              simp only [Act.put, List.setIfInBounds_toArray, List.set_cons_zero, List.set_cons_succ]
              first | (refine held_take 6 rfl (by kernel_rfl) (by kernel_rfl) (by kernel_rfl) (by rfl) (fun _ _ _ h => h) (by assumption) (by intro w hSw; (try dsimp only at hSw); go_simp; first | done | with_reducible rfl) ?_) | (refine held_skip 6 rfl (by kernel_rfl) (by kernel_rfl) (by kernel_rfl) (by rfl) (fun _ _ _ h => h) (by assumption) ?_)
              simp only [Act.put, List.setIfInBounds_toArray, List.set_cons_zero, List.set_cons_succ]
              first | (refine held_take 7 rfl (by kernel_rfl) (by kernel_rfl) (by kernel_rfl) (by rfl) (fun _ _ _ h => h) (by assumption) (by intro w hSw; (try dsimp only at hSw); go_simp; first | done | with_reducible rfl) ?_) | (refine held_skip 7 rfl (by kernel_rfl) (by kernel_rfl) (by kernel_rfl) (by rfl) (fun _ _ _ h => h) (by assumption) ?_)
              simp only [Act.put, List.setIfInBounds_toArray, List.set_cons_zero, List.set_cons_succ]
              first | (refine held_take 8 rfl (by kernel_rfl) (by kernel_rfl) (by kernel_rfl) (by rfl) (fun _ _ _ h => h) (by assumption) (by intro w hSw; (try dsimp only at hSw); go_simp; first | done | with_reducible rfl) ?_) | (refine held_skip 8 rfl (by kernel_rfl) (by kernel_rfl) (by kernel_rfl) (by rfl) (fun _ _ _ h => h) (by assumption) ?_)
              simp only [Act.put, List.setIfInBounds_toArray, List.set_cons_zero, List.set_cons_succ]
              first | (refine held_take 9 rfl (by kernel_rfl) (by kernel_rfl) (by kernel_rfl) (by rfl) (fun _ _ _ h => h) (by assumption) (by intro w hSw; (try dsimp only at hSw); go_simp; first | done | with_reducible rfl) ?_) | (refine held_skip 9 rfl (by kernel_rfl) (by kernel_rfl) (by kernel_rfl) (by rfl) (fun _ _ _ h => h) (by assumption) ?_)
              simp only [Act.put, List.setIfInBounds_toArray, List.set_cons_zero, List.set_cons_succ]
              first | (refine held_take 10 rfl (by kernel_rfl) (by kernel_rfl) (by kernel_rfl) (by rfl) (fun _ _ _ h => h) (by assumption) (by intro w hSw; (try dsimp only at hSw); go_simp; first | done | with_reducible rfl) ?_) | (refine held_skip 10 rfl (by kernel_rfl) (by kernel_rfl) (by kernel_rfl) (by rfl) (fun _ _ _ h => h) (by assumption) ?_)
              simp only [Act.put, List.setIfInBounds_toArray, List.set_cons_zero, List.set_cons_succ]
              first | (refine held_take 11 rfl (by kernel_rfl) (by kernel_rfl) (by kernel_rfl) (by rfl) (fun _ _ _ h => h) (by assumption) (by intro w hSw; (try dsimp only at hSw); go_simp; first | done | with_reducible rfl) ?_) | (refine held_skip 11 rfl (by kernel_rfl) (by kernel_rfl) (by kernel_rfl) (by rfl) (fun _ _ _ h => h) (by assumption) ?_)
              simp only [Act.put, List.setIfInBounds_toArray, List.set_cons_zero, List.set_cons_succ]
              first | (refine held_take 12 rfl (by kernel_rfl) (by kernel_rfl) (by kernel_rfl) (by rfl) (fun _ _ _ h => h) (by assumption) (by intro w hSw; (try dsimp only at hSw); go_simp; first | done | with_reducible rfl) ?_) | (refine held_skip 12 rfl (by kernel_rfl) (by kernel_rfl) (by kernel_rfl) (by rfl) (fun _ _ _ h => h) (by assumption) ?_)
              simp only [Act.put, List.setIfInBounds_toArray, List.set_cons_zero, List.set_cons_succ]
              first | (refine held_take 13 rfl (by kernel_rfl) (by kernel_rfl) (by kernel_rfl) (by rfl) (fun _ _ _ h => h) (by assumption) (by intro w hSw; (try dsimp only at hSw); go_simp; first | done | with_reducible rfl) ?_) | (refine held_skip 13 rfl (by kernel_rfl) (by kernel_rfl) (by kernel_rfl) (by rfl) (fun _ _ _ h => h) (by assumption) ?_)
              simp only [Act.put, List.setIfInBounds_toArray, List.set_cons_zero, List.set_cons_succ]
              first | (refine held_take 14 rfl (by kernel_rfl) (by kernel_rfl) (by kernel_rfl) (by rfl) (fun _ _ _ h => h) (by assumption) (by intro w hSw; (try dsimp only at hSw); go_simp; first | done | with_reducible rfl) ?_) | (refine held_skip 14 rfl (by kernel_rfl) (by kernel_rfl) (by kernel_rfl) (by rfl) (fun _ _ _ h => h) (by assumption) ?_)
              simp only [Act.put, List.setIfInBounds_toArray, List.set_cons_zero, List.set_cons_succ]
              first | (refine held_take 15 rfl (by kernel_rfl) (by kernel_rfl) (by kernel_rfl) (by rfl) (fun _ _ _ h => h) (by assumption) (by intro w hSw; (try dsimp only at hSw); go_simp; first | done | with_reducible rfl) ?_) | (refine held_skip 15 rfl (by kernel_rfl) (by kernel_rfl) (by kernel_rfl) (by rfl) (fun _ _ _ h => h) (by assumption) ?_)
              simp only [Act.put, List.setIfInBounds_toArray, List.set_cons_zero, List.set_cons_succ]
              first | (refine held_take 16 rfl (by kernel_rfl) (by kernel_rfl) (by kernel_rfl) (by rfl) (fun _ _ _ h => h) (by assumption) (by intro w hSw; (try dsimp only at hSw); go_simp; first | done | with_reducible rfl) ?_) | (refine held_skip 16 rfl (by kernel_rfl) (by kernel_rfl) (by kernel_rfl) (by rfl) (fun _ _ _ h => h) (by assumption) ?_)
              simp only [Act.put, List.setIfInBounds_toArray, List.set_cons_zero, List.set_cons_succ]
              first | (refine held_take 17 rfl (by kernel_rfl) (by kernel_rfl) (by kernel_rfl) (by rfl) (fun _ _ _ h => h) (by assumption) (by intro w hSw; (try dsimp only at hSw); go_simp; first | done | with_reducible rfl) ?_) | (refine held_skip 17 rfl (by kernel_rfl) (by kernel_rfl) (by kernel_rfl) (by rfl) (fun _ _ _ h => h) (by assumption) ?_)
              simp only [Act.put, List.setIfInBounds_toArray, List.set_cons_zero, List.set_cons_succ]
              first | (refine held_take 18 rfl (by kernel_rfl) (by kernel_rfl) (by kernel_rfl) (by rfl) (fun _ _ _ h => h) (by assumption) (by intro w hSw; (try dsimp only at hSw); go_simp; first | done | with_reducible rfl) ?_) | (refine held_skip 18 rfl (by kernel_rfl) (by kernel_rfl) (by kernel_rfl) (by rfl) (fun _ _ _ h => h) (by assumption) ?_)
              simp only [Act.put, List.setIfInBounds_toArray, List.set_cons_zero, List.set_cons_succ]
              first | (refine held_take 19 rfl (by kernel_rfl) (by kernel_rfl) (by kernel_rfl) (by rfl) (fun _ _ _ h => h) (by assumption) (by intro w hSw; (try dsimp only at hSw); go_simp; first | done | with_reducible rfl) ?_) | (refine held_skip 19 rfl (by kernel_rfl) (by kernel_rfl) (by kernel_rfl) (by rfl) (fun _ _ _ h => h) (by assumption) ?_)
              simp only [Act.put, List.setIfInBounds_toArray, List.set_cons_zero, List.set_cons_succ]
              refine wpAnyH_done (by kernel_rfl) ?_ _
              clear hHeld
              generalize hW3 : World.drew W2 = W3
              have hb3 : Below W2.heap.size W2 W3 := by rw [← hW3]; exact (Below.refl _ _).drew
              clear hW3
              have tp := below_keep hb3 HP.out
              have TB := Lib.hid (ex_trans HB2.out hb3)
              have hi3 := HIN.out.below TB.out
              have TIN := Lib.hid hi3
              have TAP := Lib.hid HAP.out
              have TAL := Lib.hid fun b hb => (Or.inl (HALL.out b hb) : b ∈ (KPst 89 3).all (L.take (j + 1)) ∨ W1.heap.size ≤ b)
              have TMK := Lib.hid (show (dropP f.attrs[k].name f.attrs[k].val f.id) (mkP L[j]) = ⟨h.name, h.val, ids⟩ by
                rw [← HX.out]
                have h9 : isPst f.attrs[k].name f.attrs[k].val (mkP (h, ids)) = false := by simp [isPst, eqS, Vl.eqb, mkP, h1]
                unfold dropP; rw [h9]; rfl)
              clear hi3 hb3
              have tu := blk_cell? tp
              have tl := blk_lt tp
              by_cases hz : h.n = 0
              · have i5 : ¬ ((0 : Int) < ((h.n : Nat) : Int)) := by omega
                have HN := Lib.hid (show O.map mkP = (((L.take (j + 1)).map mkP).map (dropP f.attrs[k].name f.attrs[k].val f.id)).filter someIds by
                  rw [HST.out, HO.out.2.2.2, TMK.out]
                  have h9 : someIds ⟨h.name, h.val, ids⟩ = false := by
                    have h8 : (ids).length = h.n := TIN.out.len
                    simp only [someIds]; rw [h8, hz]; rfl
                  rw [h9]; simp)
                clear hz
                go_wp2_with fail
                go_roundw
                case rel => exact ⟨j + 1, q, O, A4, c4, by omega, by go_num, rfl, HO.out.1.below TB.out, HO.out.2.1, fun b hb => (HO.out.2.2.1 b hb).imp NK.all_take id, HN.out, ex_trans hbW TB.out⟩
                case measure => simp [intOf]; omega
              · have i5 : (0 : Int) < ((h.n : Nat) : Int) := by omega
                have tz := TB.out.size
                go_wp2_with (at_builtin; refine wpList_append_row rfl _ _ _ rfl encPh Try.underlying41 hi hi0 hi1 hi2 rfl rfl rfl (HO.out.1.1.below (ex_alloc TB.out _)) (src1 encPh _ (⟨h.name, h.val, h.A, h.n, h.c⟩ : Ph) _ (by simp) rfl) (by unfold maxLen; omega) (by omega) (by simp; omega) ?_; intro A8 c8 w8 hr8 hc8 hx8)
                have HREL := Lib.hid (show NRow (KPst 89 3) w8 (w.heap.size + 1) A8 (q + 1) c8 (O ++ [(⟨h.name, h.val, h.A, h.n, h.c⟩, ids)]) ∧ (∀ b ∈ rowBs A8 c8, W1.heap.size ≤ b) ∧ (∀ b ∈ (KPst 89 3).all (O ++ [(⟨h.name, h.val, h.A, h.n, h.c⟩, ids)]), b ∈ (KPst 89 3).all (L.take (j + 1)) ∨ W1.heap.size ≤ b) ∧ (O ++ [((⟨h.name, h.val, h.A, h.n, h.c⟩ : Ph), ids)]).map mkP = (((L.take (j + 1)).map mkP).map (dropP f.attrs[k].name f.attrs[k].val f.id)).filter someIds ∧ Below W1.heap.size W1 w8 from by
                  refine ⟨NRow.add2 (K := (KPst 89 3)) (x := (⟨h.name, h.val, h.A, h.n, h.c⟩, ids)) HO.out.1 (ex_alloc TB.out _) (TIN.out.below (by go_grown)) TAP.out hr8 hc8 hx8, fun b hb => ?_, fun b hb => ?_, ?_, Below.mark (ex_trans hbW (ex_alloc TB.out _)) hc8 (by have := hbW.size; simp; omega) HO.out.2.1⟩
                  · rcases hx8 b hb with h9 | h9
                    · exact HO.out.2.1 b h9
                    · have := hbW.size; simp at h9; omega
                  · obtain ⟨y, hy, hby⟩ := NK.all_mem.1 hb
                    rcases List.mem_append.1 hy with hy | hy
                    · exact (HO.out.2.2.1 b (NK.all_mem.2 ⟨y, hy, hby⟩)).imp NK.all_take id
                    · obtain rfl := List.mem_singleton.1 hy
                      exact TAL.out b hby
                  · rw [HST.out, List.map_append, HO.out.2.2.2, TMK.out]
                    have h9 : someIds ⟨h.name, h.val, ids⟩ = true := by
                      have h8 : (ids).length = h.n := TIN.out.len
                      simp only [someIds]; rw [h8]; simpa using hz
                    rw [h9]; rfl)
                clear hr8 hc8 hx8 hz
                go_wp2_with fail
                go_roundw
                case rel => exact ⟨j + 1, q + 1, _, A8, c8, by omega, by go_num, rfl, HREL.out⟩
                case measure => simp [intOf]; omega
            | true =>
              cases h2 : (h.val.int == f.attrs[k].val.int) with
              | false =>
                refine wp_region_held_drew (S := (fun w' => w'.cell? ⟨wr.heap.size, 0, none⟩ = some (.string h.name) ∧ w'.cell? ⟨wr.heap.size, 1, none⟩ = some (.int .i64 h.val.kind) ∧ w'.cell? ⟨wr.heap.size, 2, none⟩ = some (.int .i64 h.val.int) ∧ w'.cell? ⟨wr.heap.size, 3, none⟩ = some (.string h.val.str) ∧ w'.cell? ⟨w.heap.size, 4, none⟩ = some (.slice (some ⟨b, off, none⟩) f.attrs.length c2) ∧ w'.cell? ⟨b, off + k * 4, none⟩ = some (.string f.attrs[k].name) ∧ w'.cell? ⟨b, off + k * 4 + 1, none⟩ = some (.int .i64 f.attrs[k].val.kind) ∧ w'.cell? ⟨b, off + k * 4 + 2, none⟩ = some (.int .i64 f.attrs[k].val.int) ∧ w'.cell? ⟨b, off + k * 4 + 3, none⟩ = some (.string f.attrs[k].val.str))) (by kernel_rfl) (by (try dsimp only); exact ⟨p0, p1, p2, p3, e4, r0, r1, r2, r3⟩) (fun hHeld => ?_)
                first | (refine held_take 0 rfl (by kernel_rfl) (by kernel_rfl) (by kernel_rfl) (by rfl) (fun _ _ _ h => h) (by assumption) (by intro w hSw; (try dsimp only at hSw); go_simp; first | done | with_reducible rfl) ?_) | (refine held_skip 0 rfl (by kernel_rfl) (by kernel_rfl) (by kernel_rfl) (by rfl) (fun _ _ _ h => h) (by assumption) ?_)
                simp only [Act.put, List.setIfInBounds_toArray, List.set_cons_zero, List.set_cons_succ]
                first | (refine held_take 1 rfl (by kernel_rfl) (by kernel_rfl) (by kernel_rfl) (by rfl) (fun _ _ _ h => h) (by assumption) (by intro w hSw; (try dsimp only at hSw); go_simp; first | done | with_reducible rfl) ?_) | (refine held_skip 1 rfl (by kernel_rfl) (by kernel_rfl) (by kernel_rfl) (by rfl) (fun _ _ _ h => h) (by assumption) ?_)
                simp only [Act.put, List.setIfInBounds_toArray, List.set_cons_zero, List.set_cons_succ]
                first | (refine held_take 2 rfl (by kernel_rfl) (by kernel_rfl) (by kernel_rfl) (by rfl) (fun _ _ _ h => h) (by assumption) (by intro w hSw; (try dsimp only at hSw); go_simp; first | done | with_reducible rfl) ?_) | (refine held_skip 2 rfl (by kernel_rfl) (by kernel_rfl) (by kernel_rfl) (by rfl) (fun _ _ _ h => h) (by assumption) ?_)
                simp only [Act.put, List.setIfInBounds_toArray, List.set_cons_zero, List.set_cons_succ]
                first | (refine held_take 3 rfl (by kernel_rfl) (by kernel_rfl) (by kernel_rfl) (by rfl) (fun _ _ _ h => h) (by assumption) (by intro w hSw; (try dsimp only at hSw); go_simp; first | done | with_reducible rfl) ?_) | (refine held_skip 3 rfl (by kernel_rfl) (by kernel_rfl) (by kernel_rfl) (by rfl) (fun _ _ _ h => h) (by assumption) ?_)
                simp only [Act.put, List.setIfInBounds_toArray, List.set_cons_zero, List.set_cons_succ]
                first | (refine held_take 4 rfl (by kernel_rfl) (by kernel_rfl) (by kernel_rfl) (by rfl) (fun _ _ _ h => h) (by assumption) (by intro w hSw; (try dsimp only at hSw); go_simp; first | done | with_reducible rfl) ?_) | (refine held_skip 4 rfl (by kernel_rfl) (by kernel_rfl) (by kernel_rfl) (by rfl) (fun _ _ _ h => h) (by assumption) ?_)
                simp only [Act.put, List.setIfInBounds_toArray, List.set_cons_zero, List.set_cons_succ]
                first | (refine held_take 5 rfl (by kernel_rfl) (by kernel_rfl) (by kernel_rfl) (by rfl) (fun _ _ _ h => h) (by assumption) (by intro w hSw; (try dsimp only at hSw); go_simp; first | done | with_reducible rfl) ?_) | (refine held_skip 5 rfl (by kernel_rfl) (by kernel_rfl) (by kernel_rfl) (by rfl) (fun _ _ _ h => h) (by assumption) ?_)
                simp only [Act.put, List.setIfInBounds_toArray, List.set_cons_zero, List.set_cons_succ]
                first | (refine held_take 6 rfl (by kernel_rfl) (by kernel_rfl) (by kernel_rfl) (by rfl) (fun _ _ _ h => h) (by assumption) (by intro w hSw; (try dsimp only at hSw); go_simp; first | done | with_reducible rfl) ?_) | (refine held_skip 6 rfl (by kernel_rfl) (by kernel_rfl) (by kernel_rfl) (by rfl) (fun _ _ _ h => h) (by assumption) ?_)
                simp only [Act.put, List.setIfInBounds_toArray, List.set_cons_zero, List.set_cons_succ]
                first | (refine held_take 7 rfl (by kernel_rfl) (by kernel_rfl) (by kernel_rfl) (by rfl) (fun _ _ _ h => h) (by assumption) (by intro w hSw; (try dsimp only at hSw); go_simp; first | done | with_reducible rfl) ?_) | (refine held_skip 7 rfl (by kernel_rfl) (by kernel_rfl) (by kernel_rfl) (by rfl) (fun _ _ _ h => h) (by assumption) ?_)
                simp only [Act.put, List.setIfInBounds_toArray, List.set_cons_zero, List.set_cons_succ]
                first | (refine held_take 8 rfl (by kernel_rfl) (by kernel_rfl) (by kernel_rfl) (by rfl) (fun _ _ _ h => h) (by assumption) (by intro w hSw; (try dsimp only at hSw); go_simp; first | done | with_reducible rfl) ?_) | (refine held_skip 8 rfl (by kernel_rfl) (by kernel_rfl) (by kernel_rfl) (by rfl) (fun _ _ _ h => h) (by assumption) ?_)
                simp only [Act.put, List.setIfInBounds_toArray, List.set_cons_zero, List.set_cons_succ]
                first | (refine held_take 9 rfl (by kernel_rfl) (by kernel_rfl) (by kernel_rfl) (by rfl) (fun _ _ _ h => h) (by assumption) (by intro w hSw; (try dsimp only at hSw); go_simp; first | done | with_reducible rfl) ?_) | (refine held_skip 9 rfl (by kernel_rfl) (by kernel_rfl) (by kernel_rfl) (by rfl) (fun _ _ _ h => h) (by assumption) ?_)
                simp only [Act.put, List.setIfInBounds_toArray, List.set_cons_zero, List.set_cons_succ]
                first | (refine held_take 10 rfl (by kernel_rfl) (by kernel_rfl) (by kernel_rfl) (by rfl) (fun _ _ _ h => h) (by assumption) (by intro w hSw; (try dsimp only at hSw); go_simp; first | done | with_reducible rfl) ?_) | (refine held_skip 10 rfl (by kernel_rfl) (by kernel_rfl) (by kernel_rfl) (by rfl) (fun _ _ _ h => h) (by assumption) ?_)
                simp only [Act.put, List.setIfInBounds_toArray, List.set_cons_zero, List.set_cons_succ]
                first | (refine held_take 11 rfl (by kernel_rfl) (by kernel_rfl) (by kernel_rfl) (by rfl) (fun _ _ _ h => h) (by assumption) (by intro w hSw; (try dsimp only at hSw); go_simp; first | done | with_reducible rfl) ?_) | (refine held_skip 11 rfl (by kernel_rfl) (by kernel_rfl) (by kernel_rfl) (by rfl) (fun _ _ _ h => h) (by assumption) ?_)
                simp only [Act.put, List.setIfInBounds_toArray, List.set_cons_zero, List.set_cons_succ]
                first | (refine held_take 12 rfl (by kernel_rfl) (by kernel_rfl) (by kernel_rfl) (by rfl) (fun _ _ _ h => h) (by assumption) (by intro w hSw; (try dsimp only at hSw); go_simp; first | done | with_reducible rfl) ?_) | (refine held_skip 12 rfl (by kernel_rfl) (by kernel_rfl) (by kernel_rfl) (by rfl) (fun _ _ _ h => h) (by assumption) ?_)
                simp only [Act.put, List.setIfInBounds_toArray, List.set_cons_zero, List.set_cons_succ]
                first | (refine held_take 13 rfl (by kernel_rfl) (by kernel_rfl) (by kernel_rfl) (by rfl) (fun _ _ _ h => h) (by assumption) (by intro w hSw; (try dsimp only at hSw); go_simp; first | done | with_reducible rfl) ?_) | (refine held_skip 13 rfl (by kernel_rfl) (by kernel_rfl) (by kernel_rfl) (by rfl) (fun _ _ _ h => h) (by assumption) ?_)
                simp only [Act.put, List.setIfInBounds_toArray, List.set_cons_zero, List.set_cons_succ]
                first | (refine held_take 14 rfl (by kernel_rfl) (by kernel_rfl) (by kernel_rfl) (by rfl) (fun _ _ _ h => h) (by assumption) (by intro w hSw; (try dsimp only at hSw); go_simp; first | done | with_reducible rfl) ?_) | (refine held_skip 14 rfl (by kernel_rfl) (by kernel_rfl) (by kernel_rfl) (by rfl) (fun _ _ _ h => h) (by assumption) ?_)
                simp only [Act.put, List.setIfInBounds_toArray, List.set_cons_zero, List.set_cons_succ]
                first | (refine held_take 15 rfl (by kernel_rfl) (by kernel_rfl) (by kernel_rfl) (by rfl) (fun _ _ _ h => h) (by assumption) (by intro w hSw; (try dsimp only at hSw); go_simp; first | done | with_reducible rfl) ?_) | (refine held_skip 15 rfl (by kernel_rfl) (by kernel_rfl) (by kernel_rfl) (by rfl) (fun _ _ _ h => h) (by assumption) ?_)
                simp only [Act.put, List.setIfInBounds_toArray, List.set_cons_zero, List.set_cons_succ]
                first | (refine held_take 16 rfl (by kernel_rfl) (by kernel_rfl) (by kernel_rfl) (by rfl) (fun _ _ _ h => h) (by assumption) (by intro w hSw; (try dsimp only at hSw); go_simp; first | done | with_reducible rfl) ?_) | (refine held_skip 16 rfl (by kernel_rfl) (by kernel_rfl) (by kernel_rfl) (by rfl) (fun _ _ _ h => h) (by assumption) ?_)
                simp only [Act.put, List.setIfInBounds_toArray, List.set_cons_zero, List.set_cons_succ]
                first | (refine held_take 17 rfl (by kernel_rfl) (by kernel_rfl) (by kernel_rfl) (by rfl) (fun _ _ _ h => h) (by assumption) (by intro w hSw; (try dsimp only at hSw); go_simp; first | done | with_reducible rfl) ?_) | (refine held_skip 17 rfl (by kernel_rfl) (by kernel_rfl) (by kernel_rfl) (by rfl) (fun _ _ _ h => h) (by assumption) ?_)
                simp only [Act.put, List.setIfInBounds_toArray, List.set_cons_zero, List.set_cons_succ]
                first | (refine held_take 18 rfl (by kernel_rfl) (by kernel_rfl) (by kernel_rfl) (by rfl) (fun _ _ _ h => h) (by assumption) (by intro w hSw; (try dsimp only at hSw); go_simp; first | done | with_reducible rfl) ?_) | (refine held_skip 18 rfl (by kernel_rfl) (by kernel_rfl) (by kernel_rfl) (by rfl) (fun _ _ _ h => h) (by assumption) ?_)
                simp only [Act.put, List.setIfInBounds_toArray, List.set_cons_zero, List.set_cons_succ]
                first | (refine held_take 19 rfl (by kernel_rfl) (by kernel_rfl) (by kernel_rfl) (by rfl) (fun _ _ _ h => h) (by assumption) (by intro w hSw; (try dsimp only at hSw); go_simp; first | done | with_reducible rfl) ?_) | (refine held_skip 19 rfl (by kernel_rfl) (by kernel_rfl) (by kernel_rfl) (by rfl) (fun _ _ _ h => h) (by assumption) ?_)
                simp only [Act.put, List.setIfInBounds_toArray, List.set_cons_zero, List.set_cons_succ]
                refine wpAnyH_done (by kernel_rfl) ?_ _
                clear hHeld
                generalize hW3 : World.drew W2 = W3
                have hb3 : Below W2.heap.size W2 W3 := by rw [← hW3]; exact (Below.refl _ _).drew
                clear hW3
                have tp := below_keep hb3 HP.out
                have TB := Lib.hid (ex_trans HB2.out hb3)
                have hi3 := HIN.out.below TB.out
                have TIN := Lib.hid hi3
                have TAP := Lib.hid HAP.out
                have TAL := Lib.hid fun b hb => (Or.inl (HALL.out b hb) : b ∈ (KPst 89 3).all (L.take (j + 1)) ∨ W1.heap.size ≤ b)
                have TMK := Lib.hid (show (dropP f.attrs[k].name f.attrs[k].val f.id) (mkP L[j]) = ⟨h.name, h.val, ids⟩ by
                  rw [← HX.out]
                  have h9 : isPst f.attrs[k].name f.attrs[k].val (mkP (h, ids)) = false := by simp [isPst, eqS, Vl.eqb, mkP, h2]
                  unfold dropP; rw [h9]; rfl)
                clear hi3 hb3
                have tu := blk_cell? tp
                have tl := blk_lt tp
                by_cases hz : h.n = 0
                · have i5 : ¬ ((0 : Int) < ((h.n : Nat) : Int)) := by omega
                  have HN := Lib.hid (show O.map mkP = (((L.take (j + 1)).map mkP).map (dropP f.attrs[k].name f.attrs[k].val f.id)).filter someIds by
                    rw [HST.out, HO.out.2.2.2, TMK.out]
                    have h9 : someIds ⟨h.name, h.val, ids⟩ = false := by
                      have h8 : (ids).length = h.n := TIN.out.len
                      simp only [someIds]; rw [h8, hz]; rfl
                    rw [h9]; simp)
                  clear hz
                  go_wp2_with fail
                  go_roundw
                  case rel => exact ⟨j + 1, q, O, A4, c4, by omega, by go_num, rfl, HO.out.1.below TB.out, HO.out.2.1, fun b hb => (HO.out.2.2.1 b hb).imp NK.all_take id, HN.out, ex_trans hbW TB.out⟩
                  case measure => simp [intOf]; omega
                · have i5 : (0 : Int) < ((h.n : Nat) : Int) := by omega
                  have tz := TB.out.size
                  go_wp2_with (at_builtin; refine wpList_append_row rfl _ _ _ rfl encPh Try.underlying41 hi hi0 hi1 hi2 rfl rfl rfl (HO.out.1.1.below (ex_alloc TB.out _)) (src1 encPh _ (⟨h.name, h.val, h.A, h.n, h.c⟩ : Ph) _ (by simp) rfl) (by unfold maxLen; omega) (by omega) (by simp; omega) ?_; intro A8 c8 w8 hr8 hc8 hx8)
                  have HREL := Lib.hid (show NRow (KPst 89 3) w8 (w.heap.size + 1) A8 (q + 1) c8 (O ++ [(⟨h.name, h.val, h.A, h.n, h.c⟩, ids)]) ∧ (∀ b ∈ rowBs A8 c8, W1.heap.size ≤ b) ∧ (∀ b ∈ (KPst 89 3).all (O ++ [(⟨h.name, h.val, h.A, h.n, h.c⟩, ids)]), b ∈ (KPst 89 3).all (L.take (j + 1)) ∨ W1.heap.size ≤ b) ∧ (O ++ [((⟨h.name, h.val, h.A, h.n, h.c⟩ : Ph), ids)]).map mkP = (((L.take (j + 1)).map mkP).map (dropP f.attrs[k].name f.attrs[k].val f.id)).filter someIds ∧ Below W1.heap.size W1 w8 from by
                    refine ⟨NRow.add2 (K := (KPst 89 3)) (x := (⟨h.name, h.val, h.A, h.n, h.c⟩, ids)) HO.out.1 (ex_alloc TB.out _) (TIN.out.below (by go_grown)) TAP.out hr8 hc8 hx8, fun b hb => ?_, fun b hb => ?_, ?_, Below.mark (ex_trans hbW (ex_alloc TB.out _)) hc8 (by have := hbW.size; simp; omega) HO.out.2.1⟩
                    · rcases hx8 b hb with h9 | h9
                      · exact HO.out.2.1 b h9
                      · have := hbW.size; simp at h9; omega
                    · obtain ⟨y, hy, hby⟩ := NK.all_mem.1 hb
                      rcases List.mem_append.1 hy with hy | hy
                      · exact (HO.out.2.2.1 b (NK.all_mem.2 ⟨y, hy, hby⟩)).imp NK.all_take id
                      · obtain rfl := List.mem_singleton.1 hy
                        exact TAL.out b hby
                    · rw [HST.out, List.map_append, HO.out.2.2.2, TMK.out]
                      have h9 : someIds ⟨h.name, h.val, ids⟩ = true := by
                        have h8 : (ids).length = h.n := TIN.out.len
                        simp only [someIds]; rw [h8]; simpa using hz
                      rw [h9]; rfl)
                  clear hr8 hc8 hx8 hz
                  go_wp2_with fail
                  go_roundw
                  case rel => exact ⟨j + 1, q + 1, _, A8, c8, by omega, by go_num, rfl, HREL.out⟩
                  case measure => simp [intOf]; omega
              | true =>
                cases h3 : (h.val.str.toList == f.attrs[k].val.str.toList) with
                | false =>
                  refine wp_region_held_drew (S := (fun w' => w'.cell? ⟨wr.heap.size, 0, none⟩ = some (.string h.name) ∧ w'.cell? ⟨wr.heap.size, 1, none⟩ = some (.int .i64 h.val.kind) ∧ w'.cell? ⟨wr.heap.size, 2, none⟩ = some (.int .i64 h.val.int) ∧ w'.cell? ⟨wr.heap.size, 3, none⟩ = some (.string h.val.str) ∧ w'.cell? ⟨w.heap.size, 4, none⟩ = some (.slice (some ⟨b, off, none⟩) f.attrs.length c2) ∧ w'.cell? ⟨b, off + k * 4, none⟩ = some (.string f.attrs[k].name) ∧ w'.cell? ⟨b, off + k * 4 + 1, none⟩ = some (.int .i64 f.attrs[k].val.kind) ∧ w'.cell? ⟨b, off + k * 4 + 2, none⟩ = some (.int .i64 f.attrs[k].val.int) ∧ w'.cell? ⟨b, off + k * 4 + 3, none⟩ = some (.string f.attrs[k].val.str))) (by kernel_rfl) (by (try dsimp only); exact ⟨p0, p1, p2, p3, e4, r0, r1, r2, r3⟩) (fun hHeld => ?_)
                  first | (refine held_take 0 rfl (by kernel_rfl) (by kernel_rfl) (by kernel_rfl) (by rfl) (fun _ _ _ h => h) (by assumption) (by intro w hSw; (try dsimp only at hSw); go_simp; first | done | with_reducible rfl) ?_) | (refine held_skip 0 rfl (by kernel_rfl) (by kernel_rfl) (by kernel_rfl) (by rfl) (fun _ _ _ h => h) (by assumption) ?_)
                  simp only [Act.put, List.setIfInBounds_toArray, List.set_cons_zero, List.set_cons_succ]
                  first | (refine held_take 1 rfl (by kernel_rfl) (by kernel_rfl) (by kernel_rfl) (by rfl) (fun _ _ _ h => h) (by assumption) (by intro w hSw; (try dsimp only at hSw); go_simp; first | done | with_reducible rfl) ?_) | (refine held_skip 1 rfl (by kernel_rfl) (by kernel_rfl) (by kernel_rfl) (by rfl) (fun _ _ _ h => h) (by assumption) ?_)
                  simp only [Act.put, List.setIfInBounds_toArray, List.set_cons_zero, List.set_cons_succ]
                  first | (refine held_take 2 rfl (by kernel_rfl) (by kernel_rfl) (by kernel_rfl) (by rfl) (fun _ _ _ h => h) (by assumption) (by intro w hSw; (try dsimp only at hSw); go_simp; first | done | with_reducible rfl) ?_) | (refine held_skip 2 rfl (by kernel_rfl) (by kernel_rfl) (by kernel_rfl) (by rfl) (fun _ _ _ h => h) (by assumption) ?_)
                  simp only [Act.put, List.setIfInBounds_toArray, List.set_cons_zero, List.set_cons_succ]
                  first | (refine held_take 3 rfl (by kernel_rfl) (by kernel_rfl) (by kernel_rfl) (by rfl) (fun _ _ _ h => h) (by assumption) (by intro w hSw; (try dsimp only at hSw); go_simp; first | done | with_reducible rfl) ?_) | (refine held_skip 3 rfl (by kernel_rfl) (by kernel_rfl) (by kernel_rfl) (by rfl) (fun _ _ _ h => h) (by assumption) ?_)
                  simp only [Act.put, List.setIfInBounds_toArray, List.set_cons_zero, List.set_cons_succ]
                  first | (refine held_take 4 rfl (by kernel_rfl) (by kernel_rfl) (by kernel_rfl) (by rfl) (fun _ _ _ h => h) (by assumption) (by intro w hSw; (try dsimp only at hSw); go_simp; first | done | with_reducible rfl) ?_) | (refine held_skip 4 rfl (by kernel_rfl) (by kernel_rfl) (by kernel_rfl) (by rfl) (fun _ _ _ h => h) (by assumption) ?_)
                  simp only [Act.put, List.setIfInBounds_toArray, List.set_cons_zero, List.set_cons_succ]
                  first | (refine held_take 5 rfl (by kernel_rfl) (by kernel_rfl) (by kernel_rfl) (by rfl) (fun _ _ _ h => h) (by assumption) (by intro w hSw; (try dsimp only at hSw); go_simp; first | done | with_reducible rfl) ?_) | (refine held_skip 5 rfl (by kernel_rfl) (by kernel_rfl) (by kernel_rfl) (by rfl) (fun _ _ _ h => h) (by assumption) ?_)
                  simp only [Act.put, List.setIfInBounds_toArray, List.set_cons_zero, List.set_cons_succ]
                  first | (refine held_take 6 rfl (by kernel_rfl) (by kernel_rfl) (by kernel_rfl) (by rfl) (fun _ _ _ h => h) (by assumption) (by intro w hSw; (try dsimp only at hSw); go_simp; first | done | with_reducible rfl) ?_) | (refine held_skip 6 rfl (by kernel_rfl) (by kernel_rfl) (by kernel_rfl) (by rfl) (fun _ _ _ h => h) (by assumption) ?_)
                  simp only [Act.put, List.setIfInBounds_toArray, List.set_cons_zero, List.set_cons_succ]
                  first | (refine held_take 7 rfl (by kernel_rfl) (by kernel_rfl) (by kernel_rfl) (by rfl) (fun _ _ _ h => h) (by assumption) (by intro w hSw; (try dsimp only at hSw); go_simp; first | done | with_reducible rfl) ?_) | (refine held_skip 7 rfl (by kernel_rfl) (by kernel_rfl) (by kernel_rfl) (by rfl) (fun _ _ _ h => h) (by assumption) ?_)
                  simp only [Act.put, List.setIfInBounds_toArray, List.set_cons_zero, List.set_cons_succ]
                  first | (refine held_take 8 rfl (by kernel_rfl) (by kernel_rfl) (by kernel_rfl) (by rfl) (fun _ _ _ h => h) (by assumption) (by intro w hSw; (try dsimp only at hSw); go_simp; first | done | with_reducible rfl) ?_) | (refine held_skip 8 rfl (by kernel_rfl) (by kernel_rfl) (by kernel_rfl) (by rfl) (fun _ _ _ h => h) (by assumption) ?_)
                  simp only [Act.put, List.setIfInBounds_toArray, List.set_cons_zero, List.set_cons_succ]
                  first | (refine held_take 9 rfl (by kernel_rfl) (by kernel_rfl) (by kernel_rfl) (by rfl) (fun _ _ _ h => h) (by assumption) (by intro w hSw; (try dsimp only at hSw); go_simp; first | done | with_reducible rfl) ?_) | (refine held_skip 9 rfl (by kernel_rfl) (by kernel_rfl) (by kernel_rfl) (by rfl) (fun _ _ _ h => h) (by assumption) ?_)
                  simp only [Act.put, List.setIfInBounds_toArray, List.set_cons_zero, List.set_cons_succ]
                  first | (refine held_take 10 rfl (by kernel_rfl) (by kernel_rfl) (by kernel_rfl) (by rfl) (fun _ _ _ h => h) (by assumption) (by intro w hSw; (try dsimp only at hSw); go_simp; first | done | with_reducible rfl) ?_) | (refine held_skip 10 rfl (by kernel_rfl) (by kernel_rfl) (by kernel_rfl) (by rfl) (fun _ _ _ h => h) (by assumption) ?_)
                  simp only [Act.put, List.setIfInBounds_toArray, List.set_cons_zero, List.set_cons_succ]
                  first | (refine held_take 11 rfl (by kernel_rfl) (by kernel_rfl) (by kernel_rfl) (by rfl) (fun _ _ _ h => h) (by assumption) (by intro w hSw; (try dsimp only at hSw); go_simp; first | done | with_reducible rfl) ?_) | (refine held_skip 11 rfl (by kernel_rfl) (by kernel_rfl) (by kernel_rfl) (by rfl) (fun _ _ _ h => h) (by assumption) ?_)
                  simp only [Act.put, List.setIfInBounds_toArray, List.set_cons_zero, List.set_cons_succ]
                  first | (refine held_take 12 rfl (by kernel_rfl) (by kernel_rfl) (by kernel_rfl) (by rfl) (fun _ _ _ h => h) (by assumption) (by intro w hSw; (try dsimp only at hSw); go_simp; first | done | with_reducible rfl) ?_) | (refine held_skip 12 rfl (by kernel_rfl) (by kernel_rfl) (by kernel_rfl) (by rfl) (fun _ _ _ h => h) (by assumption) ?_)
                  simp only [Act.put, List.setIfInBounds_toArray, List.set_cons_zero, List.set_cons_succ]
                  first | (refine held_take 13 rfl (by kernel_rfl) (by kernel_rfl) (by kernel_rfl) (by rfl) (fun _ _ _ h => h) (by assumption) (by intro w hSw; (try dsimp only at hSw); go_simp; first | done | with_reducible rfl) ?_) | (refine held_skip 13 rfl (by kernel_rfl) (by kernel_rfl) (by kernel_rfl) (by rfl) (fun _ _ _ h => h) (by assumption) ?_)
                  simp only [Act.put, List.setIfInBounds_toArray, List.set_cons_zero, List.set_cons_succ]
                  first | (refine held_take 14 rfl (by kernel_rfl) (by kernel_rfl) (by kernel_rfl) (by rfl) (fun _ _ _ h => h) (by assumption) (by intro w hSw; (try dsimp only at hSw); go_simp; first | done | with_reducible rfl) ?_) | (refine held_skip 14 rfl (by kernel_rfl) (by kernel_rfl) (by kernel_rfl) (by rfl) (fun _ _ _ h => h) (by assumption) ?_)
                  simp only [Act.put, List.setIfInBounds_toArray, List.set_cons_zero, List.set_cons_succ]
                  first | (refine held_take 15 rfl (by kernel_rfl) (by kernel_rfl) (by kernel_rfl) (by rfl) (fun _ _ _ h => h) (by assumption) (by intro w hSw; (try dsimp only at hSw); go_simp; first | done | with_reducible rfl) ?_) | (refine held_skip 15 rfl (by kernel_rfl) (by kernel_rfl) (by kernel_rfl) (by rfl) (fun _ _ _ h => h) (by assumption) ?_)
                  simp only [Act.put, List.setIfInBounds_toArray, List.set_cons_zero, List.set_cons_succ]
                  first | (refine held_take 16 rfl (by kernel_rfl) (by kernel_rfl) (by kernel_rfl) (by rfl) (fun _ _ _ h => h) (by assumption) (by intro w hSw; (try dsimp only at hSw); go_simp; first | done | with_reducible rfl) ?_) | (refine held_skip 16 rfl (by kernel_rfl) (by kernel_rfl) (by kernel_rfl) (by rfl) (fun _ _ _ h => h) (by assumption) ?_)
                  simp only [Act.put, List.setIfInBounds_toArray, List.set_cons_zero, List.set_cons_succ]
                  first | (refine held_take 17 rfl (by kernel_rfl) (by kernel_rfl) (by kernel_rfl) (by rfl) (fun _ _ _ h => h) (by assumption) (by intro w hSw; (try dsimp only at hSw); go_simp; first | done | with_reducible rfl) ?_) | (refine held_skip 17 rfl (by kernel_rfl) (by kernel_rfl) (by kernel_rfl) (by rfl) (fun _ _ _ h => h) (by assumption) ?_)
                  simp only [Act.put, List.setIfInBounds_toArray, List.set_cons_zero, List.set_cons_succ]
                  first | (refine held_take 18 rfl (by kernel_rfl) (by kernel_rfl) (by kernel_rfl) (by rfl) (fun _ _ _ h => h) (by assumption) (by intro w hSw; (try dsimp only at hSw); go_simp; first | done | with_reducible rfl) ?_) | (refine held_skip 18 rfl (by kernel_rfl) (by kernel_rfl) (by kernel_rfl) (by rfl) (fun _ _ _ h => h) (by assumption) ?_)
                  simp only [Act.put, List.setIfInBounds_toArray, List.set_cons_zero, List.set_cons_succ]
                  first | (refine held_take 19 rfl (by kernel_rfl) (by kernel_rfl) (by kernel_rfl) (by rfl) (fun _ _ _ h => h) (by assumption) (by intro w hSw; (try dsimp only at hSw); go_simp; first | done | with_reducible rfl) ?_) | (refine held_skip 19 rfl (by kernel_rfl) (by kernel_rfl) (by kernel_rfl) (by rfl) (fun _ _ _ h => h) (by assumption) ?_)
                  simp only [Act.put, List.setIfInBounds_toArray, List.set_cons_zero, List.set_cons_succ]
                  refine wpAnyH_done (by kernel_rfl) ?_ _
                  clear hHeld
                  generalize hW3 : World.drew W2 = W3
                  have hb3 : Below W2.heap.size W2 W3 := by rw [← hW3]; exact (Below.refl _ _).drew
                  clear hW3
                  have tp := below_keep hb3 HP.out
                  have TB := Lib.hid (ex_trans HB2.out hb3)
                  have hi3 := HIN.out.below TB.out
                  have TIN := Lib.hid hi3
                  have TAP := Lib.hid HAP.out
                  have TAL := Lib.hid fun b hb => (Or.inl (HALL.out b hb) : b ∈ (KPst 89 3).all (L.take (j + 1)) ∨ W1.heap.size ≤ b)
                  have TMK := Lib.hid (show (dropP f.attrs[k].name f.attrs[k].val f.id) (mkP L[j]) = ⟨h.name, h.val, ids⟩ by
                    rw [← HX.out]
                    have h9 : isPst f.attrs[k].name f.attrs[k].val (mkP (h, ids)) = false := by simp [isPst, eqS, Vl.eqb, mkP, h3]
                    unfold dropP; rw [h9]; rfl)
                  clear hi3 hb3
                  have tu := blk_cell? tp
                  have tl := blk_lt tp
                  by_cases hz : h.n = 0
                  · have i5 : ¬ ((0 : Int) < ((h.n : Nat) : Int)) := by omega
                    have HN := Lib.hid (show O.map mkP = (((L.take (j + 1)).map mkP).map (dropP f.attrs[k].name f.attrs[k].val f.id)).filter someIds by
                      rw [HST.out, HO.out.2.2.2, TMK.out]
                      have h9 : someIds ⟨h.name, h.val, ids⟩ = false := by
                        have h8 : (ids).length = h.n := TIN.out.len
                        simp only [someIds]; rw [h8, hz]; rfl
                      rw [h9]; simp)
                    clear hz
                    go_wp2_with fail
                    go_roundw
                    case rel => exact ⟨j + 1, q, O, A4, c4, by omega, by go_num, rfl, HO.out.1.below TB.out, HO.out.2.1, fun b hb => (HO.out.2.2.1 b hb).imp NK.all_take id, HN.out, ex_trans hbW TB.out⟩
                    case measure => simp [intOf]; omega
                  · have i5 : (0 : Int) < ((h.n : Nat) : Int) := by omega
                    have tz := TB.out.size
                    go_wp2_with (at_builtin; refine wpList_append_row rfl _ _ _ rfl encPh Try.underlying41 hi hi0 hi1 hi2 rfl rfl rfl (HO.out.1.1.below (ex_alloc TB.out _)) (src1 encPh _ (⟨h.name, h.val, h.A, h.n, h.c⟩ : Ph) _ (by simp) rfl) (by unfold maxLen; omega) (by omega) (by simp; omega) ?_; intro A8 c8 w8 hr8 hc8 hx8)
                    have HREL := Lib.hid (show NRow (KPst 89 3) w8 (w.heap.size + 1) A8 (q + 1) c8 (O ++ [(⟨h.name, h.val, h.A, h.n, h.c⟩, ids)]) ∧ (∀ b ∈ rowBs A8 c8, W1.heap.size ≤ b) ∧ (∀ b ∈ (KPst 89 3).all (O ++ [(⟨h.name, h.val, h.A, h.n, h.c⟩, ids)]), b ∈ (KPst 89 3).all (L.take (j + 1)) ∨ W1.heap.size ≤ b) ∧ (O ++ [((⟨h.name, h.val, h.A, h.n, h.c⟩ : Ph), ids)]).map mkP = (((L.take (j + 1)).map mkP).map (dropP f.attrs[k].name f.attrs[k].val f.id)).filter someIds ∧ Below W1.heap.size W1 w8 from by
                      refine ⟨NRow.add2 (K := (KPst 89 3)) (x := (⟨h.name, h.val, h.A, h.n, h.c⟩, ids)) HO.out.1 (ex_alloc TB.out _) (TIN.out.below (by go_grown)) TAP.out hr8 hc8 hx8, fun b hb => ?_, fun b hb => ?_, ?_, Below.mark (ex_trans hbW (ex_alloc TB.out _)) hc8 (by have := hbW.size; simp; omega) HO.out.2.1⟩
                      · rcases hx8 b hb with h9 | h9
                        · exact HO.out.2.1 b h9
                        · have := hbW.size; simp at h9; omega
                      · obtain ⟨y, hy, hby⟩ := NK.all_mem.1 hb
                        rcases List.mem_append.1 hy with hy | hy
                        · exact (HO.out.2.2.1 b (NK.all_mem.2 ⟨y, hy, hby⟩)).imp NK.all_take id
                        · obtain rfl := List.mem_singleton.1 hy
                          exact TAL.out b hby
                      · rw [HST.out, List.map_append, HO.out.2.2.2, TMK.out]
                        have h9 : someIds ⟨h.name, h.val, ids⟩ = true := by
                          have h8 : (ids).length = h.n := TIN.out.len
                          simp only [someIds]; rw [h8]; simpa using hz
                        rw [h9]; rfl)
                    clear hr8 hc8 hx8 hz
                    go_wp2_with fail
                    go_roundw
                    case rel => exact ⟨j + 1, q + 1, _, A8, c8, by omega, by go_num, rfl, HREL.out⟩
                    case measure => simp [intOf]; omega
                | true =>
                  refine wp_region_held_drew (S := (fun w' => w'.cell? ⟨wr.heap.size, 0, none⟩ = some (.string h.name) ∧ w'.cell? ⟨wr.heap.size, 1, none⟩ = some (.int .i64 h.val.kind) ∧ w'.cell? ⟨wr.heap.size, 2, none⟩ = some (.int .i64 h.val.int) ∧ w'.cell? ⟨wr.heap.size, 3, none⟩ = some (.string h.val.str) ∧ w'.cell? ⟨w.heap.size, 4, none⟩ = some (.slice (some ⟨b, off, none⟩) f.attrs.length c2) ∧ w'.cell? ⟨b, off + k * 4, none⟩ = some (.string f.attrs[k].name) ∧ w'.cell? ⟨b, off + k * 4 + 1, none⟩ = some (.int .i64 f.attrs[k].val.kind) ∧ w'.cell? ⟨b, off + k * 4 + 2, none⟩ = some (.int .i64 f.attrs[k].val.int) ∧ w'.cell? ⟨b, off + k * 4 + 3, none⟩ = some (.string f.attrs[k].val.str))) (by kernel_rfl) (by (try dsimp only); exact ⟨p0, p1, p2, p3, e4, r0, r1, r2, r3⟩) (fun hHeld => ?_)
                  first | (refine held_take 0 rfl (by kernel_rfl) (by kernel_rfl) (by kernel_rfl) (by rfl) (fun _ _ _ h => h) (by assumption) (by intro w hSw; (try dsimp only at hSw); go_simp; first | done | with_reducible rfl) ?_) | (refine held_skip 0 rfl (by kernel_rfl) (by kernel_rfl) (by kernel_rfl) (by rfl) (fun _ _ _ h => h) (by assumption) ?_)
                  simp only [Act.put, List.setIfInBounds_toArray, List.set_cons_zero, List.set_cons_succ]
                  first | (refine held_take 1 rfl (by kernel_rfl) (by kernel_rfl) (by kernel_rfl) (by rfl) (fun _ _ _ h => h) (by assumption) (by intro w hSw; (try dsimp only at hSw); go_simp; first | done | with_reducible rfl) ?_) | (refine held_skip 1 rfl (by kernel_rfl) (by kernel_rfl) (by kernel_rfl) (by rfl) (fun _ _ _ h => h) (by assumption) ?_)
                  simp only [Act.put, List.setIfInBounds_toArray, List.set_cons_zero, List.set_cons_succ]
                  first | (refine held_take 2 rfl (by kernel_rfl) (by kernel_rfl) (by kernel_rfl) (by rfl) (fun _ _ _ h => h) (by assumption) (by intro w hSw; (try dsimp only at hSw); go_simp; first | done | with_reducible rfl) ?_) | (refine held_skip 2 rfl (by kernel_rfl) (by kernel_rfl) (by kernel_rfl) (by rfl) (fun _ _ _ h => h) (by assumption) ?_)
                  simp only [Act.put, List.setIfInBounds_toArray, List.set_cons_zero, List.set_cons_succ]
                  first | (refine held_take 3 rfl (by kernel_rfl) (by kernel_rfl) (by kernel_rfl) (by rfl) (fun _ _ _ h => h) (by assumption) (by intro w hSw; (try dsimp only at hSw); go_simp; first | done | with_reducible rfl) ?_) | (refine held_skip 3 rfl (by kernel_rfl) (by kernel_rfl) (by kernel_rfl) (by rfl) (fun _ _ _ h => h) (by assumption) ?_)
                  simp only [Act.put, List.setIfInBounds_toArray, List.set_cons_zero, List.set_cons_succ]
                  first | (refine held_take 4 rfl (by kernel_rfl) (by kernel_rfl) (by kernel_rfl) (by rfl) (fun _ _ _ h => h) (by assumption) (by intro w hSw; (try dsimp only at hSw); go_simp; first | done | with_reducible rfl) ?_) | (refine held_skip 4 rfl (by kernel_rfl) (by kernel_rfl) (by kernel_rfl) (by rfl) (fun _ _ _ h => h) (by assumption) ?_)
                  simp only [Act.put, List.setIfInBounds_toArray, List.set_cons_zero, List.set_cons_succ]
                  first | (refine held_take 5 rfl (by kernel_rfl) (by kernel_rfl) (by kernel_rfl) (by rfl) (fun _ _ _ h => h) (by assumption) (by intro w hSw; (try dsimp only at hSw); go_simp; first | done | with_reducible rfl) ?_) | (refine held_skip 5 rfl (by kernel_rfl) (by kernel_rfl) (by kernel_rfl) (by rfl) (fun _ _ _ h => h) (by assumption) ?_)
                  simp only [Act.put, List.setIfInBounds_toArray, List.set_cons_zero, List.set_cons_succ]
                  first | (refine held_take 6 rfl (by kernel_rfl) (by kernel_rfl) (by kernel_rfl) (by rfl) (fun _ _ _ h => h) (by assumption) (by intro w hSw; (try dsimp only at hSw); go_simp; first | done | with_reducible rfl) ?_) | (refine held_skip 6 rfl (by kernel_rfl) (by kernel_rfl) (by kernel_rfl) (by rfl) (fun _ _ _ h => h) (by assumption) ?_)
                  simp only [Act.put, List.setIfInBounds_toArray, List.set_cons_zero, List.set_cons_succ]
                  first | (refine held_take 7 rfl (by kernel_rfl) (by kernel_rfl) (by kernel_rfl) (by rfl) (fun _ _ _ h => h) (by assumption) (by intro w hSw; (try dsimp only at hSw); go_simp; first | done | with_reducible rfl) ?_) | (refine held_skip 7 rfl (by kernel_rfl) (by kernel_rfl) (by kernel_rfl) (by rfl) (fun _ _ _ h => h) (by assumption) ?_)
                  simp only [Act.put, List.setIfInBounds_toArray, List.set_cons_zero, List.set_cons_succ]
                  first | (refine held_take 8 rfl (by kernel_rfl) (by kernel_rfl) (by kernel_rfl) (by rfl) (fun _ _ _ h => h) (by assumption) (by intro w hSw; (try dsimp only at hSw); go_simp; first | done | with_reducible rfl) ?_) | (refine held_skip 8 rfl (by kernel_rfl) (by kernel_rfl) (by kernel_rfl) (by rfl) (fun _ _ _ h => h) (by assumption) ?_)
                  simp only [Act.put, List.setIfInBounds_toArray, List.set_cons_zero, List.set_cons_succ]
                  first | (refine held_take 9 rfl (by kernel_rfl) (by kernel_rfl) (by kernel_rfl) (by rfl) (fun _ _ _ h => h) (by assumption) (by intro w hSw; (try dsimp only at hSw); go_simp; first | done | with_reducible rfl) ?_) | (refine held_skip 9 rfl (by kernel_rfl) (by kernel_rfl) (by kernel_rfl) (by rfl) (fun _ _ _ h => h) (by assumption) ?_)
                  simp only [Act.put, List.setIfInBounds_toArray, List.set_cons_zero, List.set_cons_succ]
                  first | (refine held_take 10 rfl (by kernel_rfl) (by kernel_rfl) (by kernel_rfl) (by rfl) (fun _ _ _ h => h) (by assumption) (by intro w hSw; (try dsimp only at hSw); go_simp; first | done | with_reducible rfl) ?_) | (refine held_skip 10 rfl (by kernel_rfl) (by kernel_rfl) (by kernel_rfl) (by rfl) (fun _ _ _ h => h) (by assumption) ?_)
                  simp only [Act.put, List.setIfInBounds_toArray, List.set_cons_zero, List.set_cons_succ]
                  first | (refine held_take 11 rfl (by kernel_rfl) (by kernel_rfl) (by kernel_rfl) (by rfl) (fun _ _ _ h => h) (by assumption) (by intro w hSw; (try dsimp only at hSw); go_simp; first | done | with_reducible rfl) ?_) | (refine held_skip 11 rfl (by kernel_rfl) (by kernel_rfl) (by kernel_rfl) (by rfl) (fun _ _ _ h => h) (by assumption) ?_)
                  simp only [Act.put, List.setIfInBounds_toArray, List.set_cons_zero, List.set_cons_succ]
                  first | (refine held_take 12 rfl (by kernel_rfl) (by kernel_rfl) (by kernel_rfl) (by rfl) (fun _ _ _ h => h) (by assumption) (by intro w hSw; (try dsimp only at hSw); go_simp; first | done | with_reducible rfl) ?_) | (refine held_skip 12 rfl (by kernel_rfl) (by kernel_rfl) (by kernel_rfl) (by rfl) (fun _ _ _ h => h) (by assumption) ?_)
                  simp only [Act.put, List.setIfInBounds_toArray, List.set_cons_zero, List.set_cons_succ]
                  first | (refine held_take 13 rfl (by kernel_rfl) (by kernel_rfl) (by kernel_rfl) (by rfl) (fun _ _ _ h => h) (by assumption) (by intro w hSw; (try dsimp only at hSw); go_simp; first | done | with_reducible rfl) ?_) | (refine held_skip 13 rfl (by kernel_rfl) (by kernel_rfl) (by kernel_rfl) (by rfl) (fun _ _ _ h => h) (by assumption) ?_)
                  simp only [Act.put, List.setIfInBounds_toArray, List.set_cons_zero, List.set_cons_succ]
                  first | (refine held_take 14 rfl (by kernel_rfl) (by kernel_rfl) (by kernel_rfl) (by rfl) (fun _ _ _ h => h) (by assumption) (by intro w hSw; (try dsimp only at hSw); go_simp; first | done | with_reducible rfl) ?_) | (refine held_skip 14 rfl (by kernel_rfl) (by kernel_rfl) (by kernel_rfl) (by rfl) (fun _ _ _ h => h) (by assumption) ?_)
                  simp only [Act.put, List.setIfInBounds_toArray, List.set_cons_zero, List.set_cons_succ]
                  first | (refine held_take 15 rfl (by kernel_rfl) (by kernel_rfl) (by kernel_rfl) (by rfl) (fun _ _ _ h => h) (by assumption) (by intro w hSw; (try dsimp only at hSw); go_simp; first | done | with_reducible rfl) ?_) | (refine held_skip 15 rfl (by kernel_rfl) (by kernel_rfl) (by kernel_rfl) (by rfl) (fun _ _ _ h => h) (by assumption) ?_)
                  simp only [Act.put, List.setIfInBounds_toArray, List.set_cons_zero, List.set_cons_succ]
                  first | (refine held_take 16 rfl (by kernel_rfl) (by kernel_rfl) (by kernel_rfl) (by rfl) (fun _ _ _ h => h) (by assumption) (by intro w hSw; (try dsimp only at hSw); go_simp; first | done | with_reducible rfl) ?_) | (refine held_skip 16 rfl (by kernel_rfl) (by kernel_rfl) (by kernel_rfl) (by rfl) (fun _ _ _ h => h) (by assumption) ?_)
                  simp only [Act.put, List.setIfInBounds_toArray, List.set_cons_zero, List.set_cons_succ]
                  first | (refine held_take 17 rfl (by kernel_rfl) (by kernel_rfl) (by kernel_rfl) (by rfl) (fun _ _ _ h => h) (by assumption) (by intro w hSw; (try dsimp only at hSw); go_simp; first | done | with_reducible rfl) ?_) | (refine held_skip 17 rfl (by kernel_rfl) (by kernel_rfl) (by kernel_rfl) (by rfl) (fun _ _ _ h => h) (by assumption) ?_)
                  simp only [Act.put, List.setIfInBounds_toArray, List.set_cons_zero, List.set_cons_succ]
                  first | (refine held_take 18 rfl (by kernel_rfl) (by kernel_rfl) (by kernel_rfl) (by rfl) (fun _ _ _ h => h) (by assumption) (by intro w hSw; (try dsimp only at hSw); go_simp; first | done | with_reducible rfl) ?_) | (refine held_skip 18 rfl (by kernel_rfl) (by kernel_rfl) (by kernel_rfl) (by rfl) (fun _ _ _ h => h) (by assumption) ?_)
                  simp only [Act.put, List.setIfInBounds_toArray, List.set_cons_zero, List.set_cons_succ]
                  first | (refine held_take 19 rfl (by kernel_rfl) (by kernel_rfl) (by kernel_rfl) (by rfl) (fun _ _ _ h => h) (by assumption) (by intro w hSw; (try dsimp only at hSw); go_simp; first | done | with_reducible rfl) ?_) | (refine held_skip 19 rfl (by kernel_rfl) (by kernel_rfl) (by kernel_rfl) (by rfl) (fun _ _ _ h => h) (by assumption) ?_)
                  simp only [Act.put, List.setIfInBounds_toArray, List.set_cons_zero, List.set_cons_succ]
                  refine wpAnyH_done (by kernel_rfl) ?_ _
                  clear hHeld
                  generalize hW3 : World.drew W2 = W3
                  have hb3 : Below W2.heap.size W2 W3 := by rw [← hW3]; exact (Below.refl _ _).drew
                  clear hW3
                  have tp := below_keep hb3 HP.out
                  have TB := Lib.hid (ex_trans HB2.out hb3)
                  have hi3 := HIN.out.below TB.out
                  have TMK := Lib.hid (show (dropP f.attrs[k].name f.attrs[k].val f.id) (mkP L[j]) = ⟨h.name, h.val, dropId f.id ids⟩ by
                    rw [← HX.out]
                    have h9 : isPst f.attrs[k].name f.attrs[k].val (mkP (h, ids)) = true := by simp [isPst, eqS, Vl.eqb, mkP, h0, h1, h2, h3]
                    unfold dropP; rw [h9]; rfl)
                  have kf3 := below_keep (ex_trans hbW TB.out) (HBF.out _ (List.Mem.head _))
                  have uf := blk_cell? kf3
                  have tu := blk_cell? tp
                  have tl := blk_lt tp
                  have TP := Lib.hid tp
                  have HI3 := Lib.hid hi3
                  clear tp hi3 kf3
                  go_wp2_with fail
                  refine (spec_l07DropId h.A h.n h.c ids f.id _ (HI3.out.sl encInt (fun _ => rfl)) hHn).mono ?_; rintro e w4 ⟨A5, c5, rfl, hr5, hb5⟩
                  have tp4 := below_keep hb5 TP.out
                  clear tu uf
                  have tu := blk_cell? tp4
                  have tf := blk_free tp4
                  have tl4 := blk_lt tp4
                  have TP4 := Lib.hid tp4
                  have HR5 := Lib.hid (And.intro hr5 hb5)
                  clear tp4 hr5 hb5
                  go_upto_region 12 with fail
                  generalize hWT : World.setCell w4 _ _ = WT
                  have hcT : Chg [wr.heap.size] w4 WT := by rw [← hWT]; exact (Chg.refl _ _).set (by simp) _
                  have tp : WT.heap[wr.heap.size]? = some (.cells #[.string h.name, .int .i64 h.val.kind, .int .i64 h.val.int, .string h.val.str, .slice A5 (dropId f.id ids).length c5] 89 (0, 0)) := by rw [← hWT]; exact blk_set TP4.out 4 _
                  clear hWT tu tf tl tl4
                  have TB2 := Lib.hid (Below.mark (ex_trans TB.out HR5.out.2) hcT (ex_trans TB.out HR5.out.2).size (by simp))
                  have TIN := Lib.hid ((HR5.out.1.chg hcT (fun b hb hm => by have h9 := (HR5.out.1.base b hb).1; have h8 := HB2.out.size; have h7 := hb3.size; simp only [List.mem_singleton] at hm; omega)).re (B' := w.heap.size + 1) (fun b hb => by have h9 := (HR5.out.1.base b hb).1; have h8 := hb3.size; omega))
                  have hnw : ∀ b ∈ rowBs A5 c5, wr.heap.size ≤ b := fun b hb => by have h9 := (HR5.out.1.base b hb).1; have h8 := hb3.size; omega
                  have TAP := Lib.hid (show ∀ b ∈ rowBs A5 c5, b ∉ rowBs A4 c4 ++ (KPst 89 3).all O from fun b hb hm => by have h9 := (HO.out.1.base b hm).2; have h8 := hnw b hb; omega)
                  have TAL := Lib.hid fun b hb => (Or.inr (Nat.le_trans hbW.size (hnw b hb)) : b ∈ (KPst 89 3).all (L.take (j + 1)) ∨ W1.heap.size ≤ b)
                  clear TB hnw hb3 hcT HI3 HR5
                  have TB := TB2
                  have tu := blk_cell? tp
                  have tl := blk_lt tp
                  by_cases hz : (dropId f.id ids).length = 0
                  · have i5 : ¬ ((0 : Int) < (((dropId f.id ids).length : Nat) : Int)) := by omega
                    have HN := Lib.hid (show O.map mkP = (((L.take (j + 1)).map mkP).map (dropP f.attrs[k].name f.attrs[k].val f.id)).filter someIds by
                      rw [HST.out, HO.out.2.2.2, TMK.out]
                      have h9 : someIds ⟨h.name, h.val, dropId f.id ids⟩ = false := by
                        have h8 : (dropId f.id ids).length = (dropId f.id ids).length := TIN.out.len
                        simp only [someIds]; rw [h8, hz]; rfl
                      rw [h9]; simp)
                    clear hz
                    go_wp2_with fail
                    go_roundw
                    case rel => exact ⟨j + 1, q, O, A4, c4, by omega, by go_num, rfl, HO.out.1.below TB.out, HO.out.2.1, fun b hb => (HO.out.2.2.1 b hb).imp NK.all_take id, HN.out, ex_trans hbW TB.out⟩
                    case measure => simp [intOf]; omega
                  · have i5 : (0 : Int) < (((dropId f.id ids).length : Nat) : Int) := by omega
                    have tz := TB.out.size
                    go_wp2_with (at_builtin; refine wpList_append_row rfl _ _ _ rfl encPh Try.underlying41 hi hi0 hi1 hi2 rfl rfl rfl (HO.out.1.1.below (ex_alloc TB.out _)) (src1 encPh _ (⟨h.name, h.val, A5, (dropId f.id ids).length, c5⟩ : Ph) _ (by simp) rfl) (by unfold maxLen; omega) (by omega) (by simp; omega) ?_; intro A8 c8 w8 hr8 hc8 hx8)
                    have HREL := Lib.hid (show NRow (KPst 89 3) w8 (w.heap.size + 1) A8 (q + 1) c8 (O ++ [(⟨h.name, h.val, A5, (dropId f.id ids).length, c5⟩, dropId f.id ids)]) ∧ (∀ b ∈ rowBs A8 c8, W1.heap.size ≤ b) ∧ (∀ b ∈ (KPst 89 3).all (O ++ [(⟨h.name, h.val, A5, (dropId f.id ids).length, c5⟩, dropId f.id ids)]), b ∈ (KPst 89 3).all (L.take (j + 1)) ∨ W1.heap.size ≤ b) ∧ (O ++ [((⟨h.name, h.val, A5, (dropId f.id ids).length, c5⟩ : Ph), dropId f.id ids)]).map mkP = (((L.take (j + 1)).map mkP).map (dropP f.attrs[k].name f.attrs[k].val f.id)).filter someIds ∧ Below W1.heap.size W1 w8 from by
                      refine ⟨NRow.add2 (K := (KPst 89 3)) (x := (⟨h.name, h.val, A5, (dropId f.id ids).length, c5⟩, dropId f.id ids)) HO.out.1 (ex_alloc TB.out _) (TIN.out.below (by go_grown)) TAP.out hr8 hc8 hx8, fun b hb => ?_, fun b hb => ?_, ?_, Below.mark (ex_trans hbW (ex_alloc TB.out _)) hc8 (by have := hbW.size; simp; omega) HO.out.2.1⟩
                      · rcases hx8 b hb with h9 | h9
                        · exact HO.out.2.1 b h9
                        · have := hbW.size; simp at h9; omega
                      · obtain ⟨y, hy, hby⟩ := NK.all_mem.1 hb
                        rcases List.mem_append.1 hy with hy | hy
                        · exact (HO.out.2.2.1 b (NK.all_mem.2 ⟨y, hy, hby⟩)).imp NK.all_take id
                        · obtain rfl := List.mem_singleton.1 hy
                          exact TAL.out b hby
                      · rw [HST.out, List.map_append, HO.out.2.2.2, TMK.out]
                        have h9 : someIds ⟨h.name, h.val, dropId f.id ids⟩ = true := by
                          have h8 : (dropId f.id ids).length = (dropId f.id ids).length := TIN.out.len
                          simp only [someIds]; rw [h8]; simpa using hz
                        rw [h9]; rfl)
                    clear hr8 hc8 hx8 hz
                    go_wp2_with fail
                    go_roundw
                    case rel => exact ⟨j + 1, q + 1, _, A8, c8, by omega, by go_num, rfl, HREL.out⟩
                    case measure => simp [intOf]; omega
        · obtain rfl : L.length = j := by omega
          have e9 := HO.out.2.2.2
          rw [List.take_of_length_le (Nat.le_refl _), HMS.out] at e9
          have HE := Lib.hid e9
          have HB9 := Lib.hid (HBF.out.below hbW)
          clear e9
          go_wp2_with fail
          go_roundw
          case rel => exact ⟨k + 1, q, A4, c4, by omega, by go_num, rfl, HB9.out, ⟨O, HO.out.1, HE.out⟩, hBW⟩
          case measure => simp [intOf]; omega
    · obtain rfl : f.attrs.length = k := by omega
      rw [List.take_of_length_le (Nat.le_refl _)] at hrow
      have hrow' : PRows 89 3 wr (w.heap.size + 1) A1 n1 c1 (remX l f) := hrow
      have HR := Lib.hid (And.intro hrow' hrow'.len)
      clear hrow hrow' hids
      go_wp2_with fail
      go_returns
      obtain ⟨⟨L9, h8, h9⟩, h7⟩ := HR.out
      exact ⟨A1, c1, by rw [h7]; rfl, ⟨L9, by rw [h7]; exact h8.re (fun b hb => by have := (h8.base b hb).1; omega), h9⟩, hb⟩
end Go.Proofs.Ytkjhfblipmagoaa
