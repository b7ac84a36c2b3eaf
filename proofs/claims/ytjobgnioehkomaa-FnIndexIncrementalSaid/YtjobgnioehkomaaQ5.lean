/-
  CONTRACTS: the functions that AddToIndex calls.
-/
import Derived.WalkKit
import Derived.WalkSpells
import Derived.WalkLawsBesides
import Derived.Lib.Hide
import Derived.Handy
import Derived.StillTailTactics
import Derived.Deep.Light
import Derived.Deep.QuietTactic
import Derived.BigQuiet
import Derived.Deep.RegionHeld3
import Derived.Deep.RegionLaw
import Derived.Sort.Walk0
import Derived.Deep.DeepCutAuto
import Derived.Test.YtjobgnioehkomaaLib
import Derived.Test.YtjobgnioehkomaaOwn
import Derived.Test.YtjobgnioehkomaaRow
import Derived.Test.YtjobgnioehkomaaN0
import Derived.Test.YtjobgnioehkomaaRaw
import Derived.Test.YtjobgnioehkomaaHld
import Derived.Test.YtjobgnioehkomaaM0
import Derived.Test.YtjobgnioehkomaaC1
import Derived.Test.YtjobgnioehkomaaC2
import Derived.Test.YtjobgnioehkomaaT1
import Derived.Test.YtjobgnioehkomaaT2
import Derived.Test.YtjobgnioehkomaaT3
import Derived.Test.YtjobgnioehkomaaT4
import Derived.Test.YtjobgnioehkomaaC3
import Derived.Test.YtjobgnioehkomaaC4
import Derived.Test.YtjobgnioehkomaaC5
import Derived.Test.YtjobgnioehkomaaD1
import Derived.Test.YtjobgnioehkomaaD3
import Derived.Test.YtjobgnioehkomaaD5
import Derived.Test.YtjobgnioehkomaaD7
import Derived.Test.YtjobgnioehkomaaH1
import Derived.Test.YtjobgnioehkomaaE4
import Derived.Test.YtjobgnioehkomaaE5
import Derived.Test.YtjobgnioehkomaaQ0
import Derived.Test.YtjobgnioehkomaaRows
namespace Go.Proofs.Ytjobgnioehkomaa
open Go.RowKit
set_option linter.unusedVariables false
set_option maxRecDepth 100000
theorem gtP_or (nm : ByteArray) (v : Vl) (p : Pst) : decide (0 < orI (cmpS p.name nm) (cmpV p.val v)) = gtP nm v p := by
  have hb := bless_gt p.name.toList nm.toList
  unfold gtP orI cmpS eqS
  cases h1 : Op.bytesLess p.name.toList nm.toList with
  | true => rw [h1] at hb; simp at hb; have hne : (p.name.toList == nm.toList) = false := by
              cases h2 : (p.name.toList == nm.toList) with
              | false => rfl
              | true =>
                have e : p.name.toList = nm.toList := by simpa using h2
                rw [e, bless_irrefl] at h1; cases h1
            rw [hb, hne]; simp
  | false =>
    cases h2 : (p.name.toList == nm.toList) with
    | true => rw [h1, h2] at hb; simp at hb; rw [hb]; simp
    | false => rw [h1, h2] at hb; simp at hb; rw [hb]; simp
theorem findIdx_at {α : Type} {p : α → Bool} {l : List α} {k : Nat} (hk : k ≤ l.length) (h : noneTo p l k) (hp : ∀ hlt : k < l.length, p l[k] = true) : l.findIdx p = k := by
  rcases Nat.lt_or_ge k l.length with hlt | hge
  · exact (List.findIdx_eq hlt).2 ⟨hp hlt, fun j hj => h j (by omega) hj⟩
  · obtain rfl : k = l.length := by omega
    exact List.findIdx_eq_length.2 fun x hx => by
      obtain ⟨i, hi, rfl⟩ := List.getElem_of_mem hx
      exact h i hi hi
theorem Src.drop2 {α : Type} {size m k : Nat} {enc : α → List Value} {w : World} {b off : Nat} {l : List α} (hE : Enc size enc) (h : Src size enc w (some ⟨b, off, none⟩) m l) (hk : k ≤ m) : Src size enc w (some ⟨b, off + k * size, none⟩) (m - k) (l.drop k) := by
  refine ⟨by rw [List.length_drop, h.1], fun hp => ?_⟩
  obtain ⟨a, hA, hlt, hc⟩ := h.2 (by omega)
  obtain rfl : (⟨b, off, none⟩ : Addr) = a := by simpa using hA
  refine ⟨_, rfl, hlt, fun j u hu => ?_⟩
  rw [← flat_drop hE, List.getElem?_drop] at hu
  have := hc _ u hu
  rw [Addr.add_lit] at this ⊢
  rw [Nat.add_assoc]; exact this
set_option maxHeartbeats 6400000 in
set_option maxHeartbeats 400000 in
theorem cmp_Or2 (a b : Int) (g : Nat) (w : World) (h0 : w.cell? ⟨g, 0, none⟩ = some (.int .i64 a)) (h1 : w.cell? ⟨g, 1, none⟩ = some (.int .i64 b)) :
    Calls Try.prog 97 #[.slice (some ⟨g, 0, none⟩) 2 2] w fun e w' => e = .returned (.int .i64 (orI a b)) ∧ w = w' := by
  go_enter Try.func97, Try.ntmps97
  go_wp2
  go_rounds 3
  all_goals go_returns
  all_goals refine ⟨ret_int ?_, rfl⟩
  all_goals go_light
  all_goals simp_all [orI]
set_option maxHeartbeats 1600000 in
theorem impl_AddToIndex_1 (x : Ph) (nm : ByteArray) (v : Vl) (b o : Nat) (w : World) (c0 : w.cell? ⟨b, o, none⟩ = some (.string nm)) (c1 : w.cell? ⟨b, o + 1, none⟩ = some (.int .i64 v.kind)) (c2 : w.cell? ⟨b, o + 2, none⟩ = some (.int .i64 v.int)) (c3 : w.cell? ⟨b, o + 3, none⟩ = some (.string v.str)) :
    Calls Try.prog 96 #[.agg #[.string x.name, .int .i64 x.val.kind, .int .i64 x.val.int, .string x.val.str, .slice x.A x.n x.c], .pointer (some ⟨b, o, none⟩)] w fun e w2 => e = .returned (.bool (gtP nm v ⟨x.name, x.val, []⟩)) ∧ Below w.heap.size w w2 := by
  have hl := World.block_lt_of_cell? w _ c0
  simp only at hl
  have HG := Lib.hid (gtP_or nm v ⟨x.name, x.val, []⟩)
  go_enter Try.func96, Try.ntmps96
  go_upto_region 1 with fail
  generalize hW : World.alloc w _ = W0
  have hp : W0.heap[w.heap.size]? = some (.cells #[.string x.name, .int .i64 x.val.kind, .int .i64 x.val.int, .string x.val.str, .slice x.A x.n x.c] 107 (0, 0)) := by rw [← hW]; exact hp_new rfl
  have hb0 : Below w.heap.size w W0 := by rw [← hW]; go_grown
  clear hW
  have p0 := blk_cell? hp 0
  have p1 := blk_cell? hp 1
  have p2 := blk_cell? hp 2
  have p3 := blk_cell? hp 3
  simp only [List.getElem?_toArray, List.getElem?_cons_zero, List.getElem?_cons_succ] at p0 p1 p2 p3
  replace c0 := keep_cell hb0 c0
  replace c1 := keep_cell hb0 c1
  replace c2 := keep_cell hb0 c2
  replace c3 := keep_cell hb0 c3
  have hlt := blk_lt hp
  have hl2 := keep_lt hb0 hl
  refine wp_region_held_drew (S := (fun w' => w'.cell? ⟨w.heap.size, 0, none⟩ = some (.string x.name) ∧ w'.cell? ⟨w.heap.size, 1, none⟩ = some (.int .i64 x.val.kind) ∧ w'.cell? ⟨w.heap.size, 2, none⟩ = some (.int .i64 x.val.int) ∧ w'.cell? ⟨w.heap.size, 3, none⟩ = some (.string x.val.str) ∧ w'.cell? ⟨b, o, none⟩ = some (.string nm) ∧ w'.cell? ⟨b, o + 1, none⟩ = some (.int .i64 v.kind) ∧ w'.cell? ⟨b, o + 2, none⟩ = some (.int .i64 v.int) ∧ w'.cell? ⟨b, o + 3, none⟩ = some (.string v.str) ∧ Below w.heap.size w w')) (by kernel_rfl) (by (try dsimp only); exact ⟨p0, p1, p2, p3, c0, c1, c2, c3, hb0.drew⟩) (fun hHeld => ?_)
  first | (refine held_take 0 rfl (by kernel_rfl) (by kernel_rfl) (by kernel_rfl) (by rfl) (fun _ _ _ h => h) (by assumption) (by intro w hSw; (try dsimp only at hSw); go_simp; first | done | with_reducible rfl) ?_) | (refine held_skip 0 rfl (by kernel_rfl) (by kernel_rfl) (by kernel_rfl) (by rfl) (fun _ _ _ h => h) (by assumption) ?_)
  simp only [Act.put, List.setIfInBounds_toArray, List.set_cons_zero, List.set_cons_succ]
  first | (refine held_take 1 rfl (by kernel_rfl) (by kernel_rfl) (by kernel_rfl) (by rfl) (fun _ _ _ h => h) (by assumption) (by intro w hSw; (try dsimp only at hSw); go_simp; first | done | with_reducible rfl) ?_) | (refine held_skip 1 rfl (by kernel_rfl) (by kernel_rfl) (by kernel_rfl) (by rfl) (fun _ _ _ h => h) (by assumption) ?_)
  simp only [Act.put, List.setIfInBounds_toArray, List.set_cons_zero, List.set_cons_succ]
  first | (refine held_take 2 rfl (by kernel_rfl) (by kernel_rfl) (by kernel_rfl) (by rfl) (fun _ _ _ h => h) (by assumption) (by intro w hSw; (try dsimp only at hSw); go_simp; first | done | with_reducible rfl) ?_) | (refine held_skip 2 rfl (by kernel_rfl) (by kernel_rfl) (by kernel_rfl) (by rfl) (fun _ _ _ h => h) (by assumption) ?_)
  simp only [Act.put, List.setIfInBounds_toArray, List.set_cons_zero, List.set_cons_succ]
  first | (refine held_take 3 rfl (by kernel_rfl) (by kernel_rfl) (by kernel_rfl) (by rfl) (fun _ _ _ h => h) (by assumption) (by intro w hSw; (try dsimp only at hSw); go_simp; first | done | with_reducible rfl) ?_) | (refine held_skip 3 rfl (by kernel_rfl) (by kernel_rfl) (by kernel_rfl) (by rfl) (fun _ _ _ h => h) (by assumption) ?_)
  simp only [Act.put, List.setIfInBounds_toArray, List.set_cons_zero, List.set_cons_succ]
  first | (refine held_take 5 rfl (by kernel_rfl) (by kernel_rfl) (by kernel_rfl) (by rfl) (fun _ _ _ h => h) (by assumption) (by intro w hSw; (try dsimp only at hSw); go_simp; first | done | with_reducible rfl) ?_) | (refine held_skip 5 rfl (by kernel_rfl) (by kernel_rfl) (by kernel_rfl) (by rfl) (fun _ _ _ h => h) (by assumption) ?_)
  simp only [Act.put, List.setIfInBounds_toArray, List.set_cons_zero, List.set_cons_succ]
  first | (refine held_take 6 rfl (by kernel_rfl) (by kernel_rfl) (by kernel_rfl) (by rfl) (fun _ _ _ h => h) (by assumption) (by intro w hSw; (try dsimp only at hSw); go_simp; first | done | with_reducible rfl) ?_) | (refine held_skip 6 rfl (by kernel_rfl) (by kernel_rfl) (by kernel_rfl) (by rfl) (fun _ _ _ h => h) (by assumption) ?_)
  simp only [Act.put, List.setIfInBounds_toArray, List.set_cons_zero, List.set_cons_succ]
  first | (refine held_take 7 rfl (by kernel_rfl) (by kernel_rfl) (by kernel_rfl) (by rfl) (fun _ _ _ h => h) (by assumption) (by intro w hSw; (try dsimp only at hSw); go_simp; first | done | with_reducible rfl) ?_) | (refine held_skip 7 rfl (by kernel_rfl) (by kernel_rfl) (by kernel_rfl) (by rfl) (fun _ _ _ h => h) (by assumption) ?_)
  simp only [Act.put, List.setIfInBounds_toArray, List.set_cons_zero, List.set_cons_succ]
  first | (refine held_take 8 rfl (by kernel_rfl) (by kernel_rfl) (by kernel_rfl) (by rfl) (fun _ _ _ h => h) (by assumption) (by intro w hSw; (try dsimp only at hSw); go_simp; first | done | with_reducible rfl) ?_) | (refine held_skip 8 rfl (by kernel_rfl) (by kernel_rfl) (by kernel_rfl) (by rfl) (fun _ _ _ h => h) (by assumption) ?_)
  simp only [Act.put, List.setIfInBounds_toArray, List.set_cons_zero, List.set_cons_succ]
  refine held_one 4 (by kernel_rfl) rfl (fun K hK => ?_)
  go_simp
  go_at_call 98
  refine (cmp_Compare_str _ _ _).mono ?_; rintro e w' ⟨rfl, rfl⟩
  go_wp2_with fail
  refine hK.out _ _ (by (try dsimp only); exact hHeld) (fun hNew => ?_)
  clear hK K hHeld
  have hHeld := hNew
  clear hNew
  try simp only [Act.put, List.setIfInBounds_toArray, List.set_cons_zero, List.set_cons_succ]
  refine held_one 9 (by kernel_rfl) rfl (fun K hK => ?_)
  go_simp
  go_at_call 99
  refine (impl_CompareValues _ _ _).mono ?_; rintro e w4 ⟨rfl, hb4⟩
  go_wp2_with fail
  refine hK.out _ _ (by (try dsimp only); exact ⟨keep_cell hb4 hHeld.1, keep_cell hb4 hHeld.2.1, keep_cell hb4 hHeld.2.2.1, keep_cell hb4 hHeld.2.2.2.1, keep_cell hb4 hHeld.2.2.2.2.1, keep_cell hb4 hHeld.2.2.2.2.2.1, keep_cell hb4 hHeld.2.2.2.2.2.2.1, keep_cell hb4 hHeld.2.2.2.2.2.2.2.1, ex_trans hHeld.2.2.2.2.2.2.2.2 hb4⟩) (fun hNew => ?_)
  clear hK K hHeld
  have hHeld := hNew
  clear hNew
  try simp only [Act.put, List.setIfInBounds_toArray, List.set_cons_zero, List.set_cons_succ]
  refine held_one 10 (by kernel_rfl) rfl (fun K hK => ?_)
  go_simp
  have hb5 : Below w4.heap.size w4 (w4.alloc (.cells #[.int .i64 (cmpS x.name nm), .int .i64 (cmpV x.val v)] 3)) := by go_grown
  refine hK.out _ _ (by (try dsimp only); exact ⟨keep_cell hb5 hHeld.1, keep_cell hb5 hHeld.2.1, keep_cell hb5 hHeld.2.2.1, keep_cell hb5 hHeld.2.2.2.1, keep_cell hb5 hHeld.2.2.2.2.1, keep_cell hb5 hHeld.2.2.2.2.2.1, keep_cell hb5 hHeld.2.2.2.2.2.2.1, keep_cell hb5 hHeld.2.2.2.2.2.2.2.1, ex_trans hHeld.2.2.2.2.2.2.2.2 hb5⟩) (fun hNew => ?_)
  clear hK K hHeld
  have hHeld := hNew
  clear hNew
  try simp only [Act.put, List.setIfInBounds_toArray, List.set_cons_zero, List.set_cons_succ]
  refine held_one 11 (by kernel_rfl) rfl (fun K hK => ?_)
  go_simp
  go_at_call 97
  refine (cmp_Or2 (cmpS x.name nm) (cmpV x.val v) _ _ ?h0 ?h1).mono ?_
  case h0 => go_simp
  case h1 => go_simp
  rintro e w' ⟨rfl, rfl⟩
  go_wp2_with fail
  refine hK.out _ _ (by (try dsimp only); exact hHeld) (fun hNew => ?_)
  clear hK K hHeld
  have hHeld := hNew
  clear hNew
  try simp only [Act.put, List.setIfInBounds_toArray, List.set_cons_zero, List.set_cons_succ]
  first | (refine held_take 12 rfl (by kernel_rfl) (by kernel_rfl) (by kernel_rfl) (by rfl) (fun _ _ _ h => h) (by assumption) (by intro w hSw; (try dsimp only at hSw); go_simp; first | done | with_reducible rfl) ?_) | (refine held_skip 12 rfl (by kernel_rfl) (by kernel_rfl) (by kernel_rfl) (by rfl) (fun _ _ _ h => h) (by assumption) ?_)
  simp only [Act.put, List.setIfInBounds_toArray, List.set_cons_zero, List.set_cons_succ]
  first | (refine held_take 13 rfl (by kernel_rfl) (by kernel_rfl) (by kernel_rfl) (by rfl) (fun _ _ _ h => h) (by assumption) (by intro w hSw; (try dsimp only at hSw); go_simp; first | done | with_reducible rfl) ?_) | (refine held_skip 13 rfl (by kernel_rfl) (by kernel_rfl) (by kernel_rfl) (by rfl) (fun _ _ _ h => h) (by assumption) ?_)
  simp only [Act.put, List.setIfInBounds_toArray, List.set_cons_zero, List.set_cons_succ]
  refine wpAnyH_done (by kernel_rfl) ?_ _
  go_wp2_with fail
  go_returns
  exact ⟨ret_bool (by rw [← HG.out]), hHeld.2.2.2.2.2.2.2.2⟩
theorem impl_AddToIndex_2 (x n : Int) (b o : Nat) (w : World) (hc : w.cell? ⟨b, o, none⟩ = some (.int .i64 n)) :
    Calls Try.prog 102 #[.int .i64 x, .pointer (some ⟨b, o, none⟩)] w fun e w2 => e = .returned (.bool (geI n x)) ∧ Below w.heap.size w w2 := by
  have hl := World.block_lt_of_cell? w _ hc
  simp only at hl
  go_enter Try.func102, Try.ntmps102
  go_wp2_with fail
  go_returns
  exact ⟨rfl, by go_grown⟩
set_option maxHeartbeats 1600000 in
theorem spec_l07Behind (x : Ph) (nm : ByteArray) (v : Vl) (w : World) :
    Calls Try.prog 106 #[.agg #[.string x.name, .int .i64 x.val.kind, .int .i64 x.val.int, .string x.val.str, .slice x.A x.n x.c], .string nm, .agg #[.int .i64 v.kind, .int .i64 v.int, .string v.str]] w fun e w2 => e = .returned (.bool (gtP nm v ⟨x.name, x.val, []⟩)) ∧ Below w.heap.size w w2 := by
  cases h1 : Op.bytesLess x.name.toList nm.toList with
  | true =>
    have h2 : (x.name.toList == nm.toList) = false := by
      cases h2 : (x.name.toList == nm.toList) with
      | false => rfl
      | true =>
        have e : x.name.toList = nm.toList := by simpa using h2
        rw [e, bless_irrefl] at h1; cases h1
    have HG := Lib.hid (show false = gtP nm v ⟨x.name, x.val, []⟩ by
      unfold gtP eqS
      simp only
      rw [bless_gt x.name.toList nm.toList, h1, h2]; rfl)
    go_enter Try.func106, Try.ntmps106
    go_wp2_with fail
    go_returns
    exact ⟨ret_bool HG.out, by go_grown⟩
  | false =>
    cases h2 : (x.name.toList == nm.toList) with
    | false =>
      have HG := Lib.hid (show true = gtP nm v ⟨x.name, x.val, []⟩ by
        unfold gtP eqS
        simp only
        rw [bless_gt x.name.toList nm.toList, h1, h2]; rfl)
      go_enter Try.func106, Try.ntmps106
      go_wp2_with fail
      go_returns
      exact ⟨ret_bool HG.out, by go_grown⟩
    | true =>
      have HG := Lib.hid (show decide (0 < cmpV x.val v) = gtP nm v ⟨x.name, x.val, []⟩ by
        unfold gtP eqS
        simp only
        rw [bless_gt x.name.toList nm.toList, h1, h2]; simp)
      go_enter Try.func106, Try.ntmps106
      go_wp2_with fail
      refine (spec_CompareValues x.val v _).mono ?_; rintro e w2 ⟨rfl, hb2⟩
      go_wp2_with fail
      go_returns
      exact ⟨ret_bool HG.out, ex_trans (by go_grown) hb2⟩
set_option maxHeartbeats 3200000 in
theorem spec_l07PutId (A : Option Addr) (n c : Nat) (l : List Int) (id : Int) (B : Nat) (w : World) (h : FRow 3 1 eInt w B A n c l) (hn : n ≤ 1073741823) (hB : B ≤ w.heap.size) :
    Calls Try.prog 105 #[.slice A n c, .int .i64 id] w fun e w' => ∃ A' c', e = .returned (.slice A' (putI l id).length c') ∧ FRow 3 1 eInt w' B A' (putI l id).length c' (putI l id) ∧ Below w.heap.size w w' ∧ ∀ b ∈ rowBs A' c', b ∈ rowBs A c ∨ w.heap.size ≤ b := by
  obtain rfl : l.length = n := h.len
  obtain ⟨ii, hi, hi0, hi1, hi2⟩ := info_parts info_int
  have hcap := h.le
  have HR := Lib.hid h
  clear h
  go_enter Try.func105, Try.ntmps105
  go_wp2_with fail
  go_loop [5] (fun i => ∃ j : Nat, j ≤ l.length ∧ i = .int .i64 j ∧ noneTo (geI id) l j) (fun i => l.length - (intOf i).toNat)
  case atStart => exact ⟨0, Nat.zero_le _, rfl, noneTo_zero _ _⟩
  case round =>
    obtain ⟨j, hj2, rfl, hT⟩ := hrel
    have HT := Lib.hid hT
    clear hT
    have i0 : (0 : Int) ≤ (j : Int) := by omega
    have i2 : (j : Int) ≤ (l.length : Int) := by omega
    have i3 : (j : Int) ≤ (c : Int) := by omega
    by_cases hjt : j < l.length
    · obtain ⟨g, rfl, hBg, hgw, hrb, hfr, hcell⟩ := HR.out.cell encInt (by omega)
      have q0 := hcell j hjt 0 _ rfl
      simp only [Nat.add_zero, Nat.mul_one] at q0
      have i1 : (j : Int) < (l.length : Int) := by omega
      have hd : decide ((j : Int) < (l.length : Int)) = true := decide_eq_true i1
      clear hcell hfr hrb
      by_cases hq : l[j] < id
      · have HN := Lib.hid (noneTo_succ HT.out (fun _ => show geI id l[j] = false by unfold geI; exact decide_eq_false (by omega)))
        have hd2 : decide (l[j] < id) = true := decide_eq_true hq
        go_wp2_with fail
        go_round
        case rel => exact ⟨j + 1, by omega, by go_num, HN.out⟩
        case measure => simp [intOf]; omega
      · have hk := findIdx_at (p := geI id) hj2 HT.out (fun _ => by unfold geI; exact decide_eq_true (by omega))
        have hd2 : decide (l[j] < id) = false := decide_eq_false hq
        by_cases he : l[j] = id
        · have HZ := Lib.hid (show putI l id = l by unfold putI; rw [hk, List.getElem?_eq_getElem hjt, he]; simp)
          have he2 : (l[j] == id) = true := by simpa using he
          clear hk he
          go_wp2_with fail
          go_returns
          rw [HZ.out]
          exact ⟨_, c, rfl, HR.out, Below.refl _ _, fun b hb => .inl hb⟩
        · have HZ := Lib.hid (show putI l id = l.take j ++ [id] ++ l.drop j by
            unfold putI
            rw [hk, List.getElem?_eq_getElem hjt, if_neg (by simpa using he)]
            simp [insL])
          have he2 : (l[j] == id) = false := by simpa using he
          have hck : ¬ (c = j) := by omega
          clear hk he
          go_wp2_with (at_builtin; first
            | (refine wpList_append_row rfl (.tmp 34) (.tmp 37) _ rfl encInt Try.underlying24 hi hi0 hi1 hi2 rfl rfl rfl (FRow.any0 _ _ _ _ w.heap.size _) (((Src.of_row encInt HR.out).below (by go_grown)).take encInt (k := j) (by omega)) (by unfold maxLen; omega) (by omega) (by simp <;> omega) ?_; intro A6 c6 w6 hr6 hc6 hx6; have hB6 : Below w.heap.size w w6 := (Below.mark (B := w.heap.size) (w := w) (by go_grown) hc6 (by simp <;> omega) (by simp [rowBs_zero])); have HR6 := Lib.hid (show FRow 3 1 eInt w6 w.heap.size A6 j c6 (l.take j) by simpa using hr6); clear hr6 hc6 hx6)
            | (refine wpList_append_row rfl (.tmp 38) (.tmp 40) _ rfl encInt Try.underlying24 hi hi0 hi1 hi2 rfl rfl rfl (HR6.out.below (by go_grown)) (src1 encInt _ id _ (by simp) rfl) (by unfold maxLen; omega) (by omega) (by have := hB6.size; simp <;> omega) ?_; intro A8 c8 w8 hr8 hc8 hx8; have hB8 : Below w.heap.size w w8 := (Below.mark (B := w.heap.size) (w := w) (ex_alloc hB6 _) hc8 (by have := hB6.size; simp <;> omega) (fun b hb => (HR6.out.base b hb).1)); have HR8 := Lib.hid hr8; clear hr8 hc8 hx8)
            | (refine wpList_append_row rfl (.tmp 42) (.tmp 45) _ rfl encInt Try.underlying24 hi hi0 hi1 hi2 rfl rfl rfl HR8.out (by have hh := Src.drop2 encInt ((Src.of_row encInt HR.out).below hB8) (k := j) (by omega); simp only [Nat.zero_add, Nat.mul_one] at hh; exact hh) (by unfold maxLen; omega) (by omega) (by have := hB8.size; omega) ?_; intro A9 c9 w9 hr9 hc9 hx9; have hB9 : Below w.heap.size w w9 := (Below.mark (B := w.heap.size) (w := w) hB8 hc9 hB8.size (fun b hb => (HR8.out.base b hb).1)); have HR9 := Lib.hid hr9; clear hr9 hc9 hx9))
          go_returns
          have hl9 : (putI l id).length = j + 1 + (l.length - j) := by rw [HZ.out]; simp; omega
          rw [hl9, HZ.out]
          exact ⟨A9, c9, rfl, HR9.out.re (fun b hb => Nat.le_trans hB (HR9.out.base b hb).1), hB9, fun b hb => .inr (HR9.out.base b hb).1⟩
    · obtain rfl : j = l.length := by omega
      have hd : decide ((l.length : Int) < (l.length : Int)) = false := decide_eq_false (by omega)
      have hk := findIdx_at (p := geI id) (Nat.le_refl _) HT.out (fun h => absurd h (by omega))
      have HZ := Lib.hid (show putI l id = l.take l.length ++ [id] by
        unfold putI
        rw [hk, List.getElem?_eq_none (Nat.le_refl _), if_neg (by simp)]
        simp [insL])
      have h1l : (l.length : Int) ≤ (c : Int) := i3
      clear hk
      go_wp2_with (at_builtin; first
        | (refine wpList_append_row rfl (.tmp 34) (.tmp 37) _ rfl encInt Try.underlying24 hi hi0 hi1 hi2 rfl rfl rfl (FRow.any0 _ _ _ _ w.heap.size _) (((Src.of_row encInt HR.out).below (by go_grown)).take encInt (k := l.length) (by omega)) (by unfold maxLen; omega) (by omega) (by simp <;> omega) ?_; intro A6 c6 w6 hr6 hc6 hx6; have hB6 : Below w.heap.size w w6 := (Below.mark (B := w.heap.size) (w := w) (by go_grown) hc6 (by simp <;> omega) (by simp [rowBs_zero])); have HR6 := Lib.hid (show FRow 3 1 eInt w6 w.heap.size A6 l.length c6 (l.take l.length) by simpa using hr6); clear hr6 hc6 hx6)
        | (refine wpList_append_row rfl (.tmp 38) (.tmp 40) _ rfl encInt Try.underlying24 hi hi0 hi1 hi2 rfl rfl rfl (HR6.out.below (by go_grown)) (src1 encInt _ id _ (by simp) rfl) (by unfold maxLen; omega) (by omega) (by have := hB6.size; simp <;> omega) ?_; intro A8 c8 w8 hr8 hc8 hx8; have hB8 : Below w.heap.size w w8 := (Below.mark (B := w.heap.size) (w := w) (ex_alloc hB6 _) hc8 (by have := hB6.size; simp <;> omega) (fun b hb => (HR6.out.base b hb).1)); have HR8 := Lib.hid hr8; clear hr8 hc8 hx8)
        | (refine wpList_append_row rfl (.tmp 42) (.tmp 45) _ rfl encInt Try.underlying24 hi hi0 hi1 hi2 rfl rfl rfl HR8.out (Src.none0 _ _) (by unfold maxLen; omega) (by omega) (by have := hB8.size; omega) ?_; intro A9 c9 w9 hr9 hc9 hx9; have hB9 : Below w.heap.size w w9 := (Below.mark (B := w.heap.size) (w := w) hB8 hc9 hB8.size (fun b hb => (HR8.out.base b hb).1)); have HR9 := Lib.hid hr9; clear hr9 hc9 hx9))
      all_goals go_returns
      all_goals
        have hl9 : (putI l id).length = l.length + 1 := by rw [HZ.out]; simp
        rw [hl9, HZ.out]
        exact ⟨A9, c9, rfl, by have h9 := HR9.out.re (B' := B) (fun b hb => Nat.le_trans hB (HR9.out.base b hb).1); simpa using h9, hB9, fun b hb => .inr (HR9.out.base b hb).1⟩
end Go.Proofs.Ytjobgnioehkomaa
