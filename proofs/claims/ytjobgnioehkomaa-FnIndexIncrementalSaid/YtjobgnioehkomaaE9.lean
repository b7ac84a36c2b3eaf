/-
  CONTRACTS: a file is struck from a store.
-/
import Derived.WalkKit
import Derived.WalkSpells
import Derived.WalkLawsBesides
import Derived.Lib.Hide
import Derived.Handy
import Derived.StillTailTactics
import Derived.Deep.Light
import Derived.Deep.QuietTactic
import Derived.BigQuiet
import Derived.Deep.RegionHeld3
import Derived.Deep.RegionLaw
import Derived.Sort.Walk0
import Derived.Deep.DeepCutAuto
import Derived.Test.YtjobgnioehkomaaLib
import Derived.Test.YtjobgnioehkomaaOwn
import Derived.Test.YtjobgnioehkomaaRow
import Derived.Test.YtjobgnioehkomaaN0
import Derived.Test.YtjobgnioehkomaaRaw
import Derived.Test.YtjobgnioehkomaaHld
import Derived.Test.YtjobgnioehkomaaM0
import Derived.Test.YtjobgnioehkomaaC1
import Derived.Test.YtjobgnioehkomaaC2
import Derived.Test.YtjobgnioehkomaaT1
import Derived.Test.YtjobgnioehkomaaT2
import Derived.Test.YtjobgnioehkomaaT3
import Derived.Test.YtjobgnioehkomaaT4
import Derived.Test.YtjobgnioehkomaaC3
import Derived.Test.YtjobgnioehkomaaC4
import Derived.Test.YtjobgnioehkomaaC5
import Derived.Test.YtjobgnioehkomaaC8
import Derived.Test.YtjobgnioehkomaaD1
import Derived.Test.YtjobgnioehkomaaD3
import Derived.Test.YtjobgnioehkomaaD5
import Derived.Test.YtjobgnioehkomaaD7
import Derived.Test.YtjobgnioehkomaaH1
import Derived.Test.YtjobgnioehkomaaE3
import Derived.Test.YtjobgnioehkomaaE4
import Derived.Test.YtjobgnioehkomaaE5
import Derived.Test.YtjobgnioehkomaaE6
import Derived.Test.YtjobgnioehkomaaRows
namespace Go.Proofs.Ytjobgnioehkomaa
open Go.RowKit
set_option linter.unusedVariables false
set_option maxRecDepth 100000
noncomputable def delOk (s : Sto) (id : Int) : Bool := validS s && hasFil s id
noncomputable def delS (s : Sto) (id : Int) : Sto := if delOk s id then { s with files := s.files.take (s.files.findIdx (atId id)) ++ s.files.drop (s.files.findIdx (atId id) + 1) } else s
theorem del_sub {α : Type} (l : List α) (i : Nat) : (l.take i ++ l.drop (i + 1)).Sublist l := by
  have h : (l.take i ++ l.drop i).Sublist l := by rw [List.take_append_drop]; exact List.Sublist.refl _
  refine List.Sublist.trans (List.Sublist.append_left ?_ _) h
  rw [← List.drop_drop]
  exact List.drop_sublist _ _
theorem Src.drop4 {α : Type} {size m k : Nat} {enc : α → List Value} {w : World} {b off : Nat} {l : List α} (hE : Enc size enc) (h : Src size enc w (some ⟨b, off, none⟩) m l) (hk : k ≤ m) : Src size enc w (some ⟨b, off + k * size, none⟩) (m - k) (l.drop k) := by
  refine ⟨by rw [List.length_drop, h.1], fun hp => ?_⟩
  obtain ⟨a, hA, hlt, hc⟩ := h.2 (by omega)
  obtain rfl : (⟨b, off, none⟩ : Addr) = a := by simpa using hA
  refine ⟨_, rfl, hlt, fun j u hu => ?_⟩
  rw [← flat_drop hE, List.getElem?_drop] at hu
  have := hc _ u hu
  rw [Addr.add_lit] at this ⊢
  rw [Nat.add_assoc]; exact this
set_option maxHeartbeats 6400000 in
theorem spec_DeleteFile (s : Sto) (A : Option Addr) (n c : Nat) (B : Option Addr) (m d : Nat) (id : Int) (w : World) (hS : Sl 2 RFld w A n s.schema) (hT : Sl 5 RFil w B m s.files) (hok : s.ok 1073741824) :
    Calls Try.prog 141 #[s.v A n c B m d, .int .i64 id] w (NewStoR (fun v => .tuple #[v, .bool (delOk s id)]) 138 28 84 w (delS s id)) := by
  obtain rfl : s.files.length = m := hT.len
  obtain rfl : s.schema.length = n := hS.len
  have hn := hok.1
  have hm := hok.2.2.1
  obtain ⟨ii, hin, hin0, hin1, hin2⟩ := info_parts info_File
  have HCP := Lib.hid fun w' (hb : Below w.heap.size w w') => spec_l05Copy s A s.schema.length c B s.files.length d w' (hS.mono mFld hb) (hT.mono mFil hb) hok
  have HAT := Lib.hid fun (Ar : Option Addr) (cr : Nat) (Br : Option Addr) (dr : Nat) w' (hT : Sl 5 RFil w' Br s.files.length s.files) => spec_l05Place s Ar s.schema.length cr Br s.files.length dr id w' hT hm
  have HV := Lib.hid fun (Ar : Option Addr) (cr : Nat) (Br : Option Addr) (dr : Nat) w' (hS : Sl 2 RFld w' Ar s.schema.length s.schema) (hT : Sl 5 RFil w' Br s.files.length s.files) => spec_IsValidStore s Ar s.schema.length cr Br s.files.length dr w' hS hT hok
  clear hS hT
  go_enter Try.func141, Try.ntmps141
  go_upto_region 1 with fail
  generalize hW : World.alloc (World.alloc w _) _ = W0
  have hb0 : HasB W0 [(w.heap.size, #[.slice A s.schema.length c, .slice B s.files.length d, .int .i64 s.next], 40), (w.heap.size + 1, #[.slice none 0 0, .slice none 0 0, .int .i64 0], 40)] := by
    rw [← hW]; intro x hx
    simp only [List.mem_cons, List.not_mem_nil, or_false] at hx
    rcases hx with rfl | rfl
    all_goals (simp only; repeat first | exact hp_new (by simp) | rw [hp_old (by simp <;> omega)])
  have hB0 : Below w.heap.size w W0 := by rw [← hW]; go_grown
  have hs0 : w.heap.size + 1 + 1 = W0.heap.size := by rw [← hW]; simp
  clear hW
  have us := blk_cell? (hb0 _ (List.Mem.head _))
  have vs := blk_free (hb0 _ (List.Mem.head _))
  have ls := blk_lt (hb0 _ (List.Mem.head _))
  simp only at ls
  have ur := blk_cell? (hb0 _ (List.Mem.tail _ (List.Mem.head _)))
  have vr := blk_free (hb0 _ (List.Mem.tail _ (List.Mem.head _)))
  have lr := blk_lt (hb0 _ (List.Mem.tail _ (List.Mem.head _)))
  simp only at lr
  have HB0 := Lib.hid hb0
  clear hb0
  go_wp2_with fail
  refine (HCP.out _ hB0).mono ?_; rintro e w1 ⟨A1, c1, B1, d1, X, rfl, hF1, hX1, hX2, hX3, hR1, hb1⟩
  have hB1 := ex_trans hB0 hb1
  have HB1 := Lib.hid (HB0.out.below hb1)
  clear us vs ls ur vr lr
  have us := blk_cell? (HB1.out _ (List.Mem.head _))
  have vs := blk_free (HB1.out _ (List.Mem.head _))
  have ls := blk_lt (HB1.out _ (List.Mem.head _))
  simp only at ls
  have ur := blk_cell? (HB1.out _ (List.Mem.tail _ (List.Mem.head _)))
  have vr := blk_free (HB1.out _ (List.Mem.tail _ (List.Mem.head _)))
  have lr := blk_lt (HB1.out _ (List.Mem.tail _ (List.Mem.head _)))
  simp only at lr
  have HRW := Lib.hid (And.intro hF1 (And.intro hX1 (And.intro hX2 hR1)))
  have hz1 : W0.heap.size ≤ w1.heap.size := hb1.size
  clear hF1 hX1 hX2 hR1 hb1
  go_upto_region 2 with fail
  generalize hW : World.setCell (World.setCell (World.setCell w1 _ _) _ _) _ _ = W2
  have hc12 : Chg [w.heap.size] w1 W2 := by rw [← hW]; exact (((Chg.refl _ _).set (by simp) _).set (by simp) _).set (by simp) _
  have hb2 : HasB W2 [(w.heap.size, #[.slice A1 s.schema.length c1, .slice B1 s.files.length d1, .int .i64 s.next], 40), (w.heap.size + 1, #[.slice none 0 0, .slice none 0 0, .int .i64 0], 40)] := by
    intro x hx
    simp only [List.mem_cons, List.not_mem_nil, or_false] at hx
    rcases hx with rfl | rfl
    · rw [← hW]; exact sets_blk [.slice A1 s.schema.length c1, .slice B1 s.files.length d1, .int .i64 s.next] w1 0 _ (HB1.out _ (List.Mem.head _))
    · exact hc12.keepb (HB1.out _ (List.Mem.tail _ (List.Mem.head _))) (by simp only [List.mem_singleton]; omega)
  have hB2 : Below w.heap.size w W2 := Below.mark hB1 hc12 hB1.size (by simp)
  have hF2 := HRW.out.1.chg hc12 (fun b hb h => by have h1 := (HRW.out.1.base b hb).1; simp at h; omega)
  obtain ⟨L0, hL01, hL02⟩ := HRW.out.2.2.2
  have HLT := Lib.hid (fun b hb => (hL01.base b hb))
  have HLE := Lib.hid hL02
  have HNA := Lib.hid (fun b hb => (HRW.out.1.base b hb).2)
  have hN2 := hL01.chg hc12 (fun b hb h => by have h3 := (hL01.base b hb).1; have h4 := HRW.out.2.2.1; simp at h; omega)
  have HN2 := Lib.hid hN2
  have hR2 : FRows 28 84 W2 X B1 s.files.length d1 s.files := ⟨L0, hN2, hL02⟩
  have HX := Lib.hid (And.intro HRW.out.2.1 HRW.out.2.2.1)
  have HNO := Lib.hid (show ∀ b ∈ rowBs B1 d1, b < w1.heap.size from by obtain ⟨L, h1, _⟩ := HRW.out.2.2.2; exact fun b hb => (h1.1.base b hb).2)
  have hbase : ∀ b ∈ rowBs A1 c1, W0.heap.size ≤ b := fun b hb => (HRW.out.1.base b hb).1
  have HR2 := Lib.hid (And.intro hF2 hR2)
  have HB2 := Lib.hid hb2
  have HBase := Lib.hid hbase
  have hz2 : w1.heap.size ≤ W2.heap.size := hc12.size
  clear us vs ls ur vr lr
  clear hW hb2 hc12 HRW HB1 HB0 hF2 hR2 hbase hL01 hL02 hN2
  have uo := blk_cell? (HB2.out _ (List.Mem.head _))
  have vo := blk_free (HB2.out _ (List.Mem.head _))
  have lo := blk_lt (HB2.out _ (List.Mem.head _))
  simp only at lo
  have ur := blk_cell? (HB2.out _ (List.Mem.tail _ (List.Mem.head _)))
  have vr := blk_free (HB2.out _ (List.Mem.tail _ (List.Mem.head _)))
  have lr := blk_lt (HB2.out _ (List.Mem.tail _ (List.Mem.head _)))
  simp only at lr
  go_wp2_with fail
  refine (HAT.out A1 c1 B1 d1 _ HR2.out.2.sl).mono ?_; rintro e w3 ⟨rfl, hb3⟩
  have HB3 := Lib.hid (HB2.out.below hb3)
  have HR3 := Lib.hid (And.intro (HR2.out.1.below hb3) (HR2.out.2.below hb3))
  have hB3 := ex_trans hB2 hb3
  have hz3 := Nat.le_trans hz2 hb3.size
  clear uo vo lo ur vr lr
  have uo := blk_cell? (HB3.out _ (List.Mem.head _))
  have vo := blk_free (HB3.out _ (List.Mem.head _))
  have lo := blk_lt (HB3.out _ (List.Mem.head _))
  simp only at lo
  have ur := blk_cell? (HB3.out _ (List.Mem.tail _ (List.Mem.head _)))
  have vr := blk_free (HB3.out _ (List.Mem.tail _ (List.Mem.head _)))
  have lr := blk_lt (HB3.out _ (List.Mem.tail _ (List.Mem.head _)))
  simp only at lr
  have HN3 := Lib.hid (HN2.out.below hb3)
  clear hb3
  go_wp2_with fail
  refine (HV.out A1 c1 B1 d1 _ (HR3.out.1.sl (R := RFld) encFld (fun _ => rfl)) HR3.out.2.sl).mono ?_; rintro e w4 ⟨rfl, hb4⟩
  have HB4 := Lib.hid (HB3.out.below hb4)
  have HR4 := Lib.hid (And.intro (HR3.out.1.below hb4) (HR3.out.2.below hb4))
  have hB4 := ex_trans hB3 hb4
  have hz4 := Nat.le_trans hz3 hb4.size
  clear uo vo lo ur vr lr
  have uo := blk_cell? (HB4.out _ (List.Mem.head _))
  have vo := blk_free (HB4.out _ (List.Mem.head _))
  have lo := blk_lt (HB4.out _ (List.Mem.head _))
  simp only at lo
  have ur := blk_cell? (HB4.out _ (List.Mem.tail _ (List.Mem.head _)))
  have vr := blk_free (HB4.out _ (List.Mem.tail _ (List.Mem.head _)))
  have lr := blk_lt (HB4.out _ (List.Mem.tail _ (List.Mem.head _)))
  simp only at lr
  have HN4 := Lib.hid (HN3.out.below hb4)
  clear hb4
  cases hv : validS s with
  | false =>
    go_wp2_with fail
    refine bodyPost_ret (v := .tuple #[.agg #[.slice A1 s.schema.length c1, .slice B1 s.files.length d1, .int .i64 s.next], .bool false]) (by simp [results, Try.results141, go_sem, ur]) rfl ?_
    have hch : Chg [w.heap.size + 1] w4 (sets w4 (w.heap.size + 1) 0 [.slice A1 s.schema.length c1, .slice B1 s.files.length d1, .int .i64 s.next]) := sets_chg (bs := [w.heap.size + 1]) (g := w.heap.size + 1) (w := w4) (w1 := w4) (by simp) _ _ 0 (Chg.refl _ _)
    have hz : delOk s id = false := by unfold delOk; rw [hv]; rfl
    have hr : delS s id = s := by unfold delS; rw [hz]; rfl
    rw [hz, hr]
    obtain ⟨Lz, hz1z, hz2z⟩ := HR4.out.2
    exact ⟨A1, c1, B1, d1, X, rfl, (HR4.out.1.chg hch (fun b hb h => by have h1 := HBase.out b hb; simp only [List.mem_singleton] at h; omega)).re (fun b hb => by have h1 := HBase.out b hb; omega), HX.out.1, by have := HX.out.2; omega, Nat.le_trans (Nat.le_trans hX3 hz4) hch.size, ⟨Lz, hz1z.chg hch (fun b hb h => by have h1 := (hz1z.base b hb).1; have h2 := HX.out.2; simp only [List.mem_singleton] at h; omega), hz2z⟩, Below.mark hB4 hch hB4.size (by simp only [List.mem_singleton]; intro b hb; omega)⟩
  | true =>
    rcases idx_cases (atId id) s.files with ⟨hi1, hi2⟩ | ⟨i, hi, hi1, hi2, hi3⟩
    · have hh : hasFil s id = false := any_of_none hi2
      rw [hi1]
      go_wp2_with fail
      refine bodyPost_ret (v := .tuple #[.agg #[.slice A1 s.schema.length c1, .slice B1 s.files.length d1, .int .i64 s.next], .bool false]) (by simp [results, Try.results141, go_sem, ur]) rfl ?_
      have hch : Chg [w.heap.size + 1] w4 (sets w4 (w.heap.size + 1) 0 [.slice A1 s.schema.length c1, .slice B1 s.files.length d1, .int .i64 s.next]) := sets_chg (bs := [w.heap.size + 1]) (g := w.heap.size + 1) (w := w4) (w1 := w4) (by simp) _ _ 0 (Chg.refl _ _)
      have hz : delOk s id = false := by unfold delOk; rw [hh]; simp
      have hr : delS s id = s := by unfold delS; rw [hz]; rfl
      rw [hz, hr]
      obtain ⟨Lz, hz1z, hz2z⟩ := HR4.out.2
      exact ⟨A1, c1, B1, d1, X, rfl, (HR4.out.1.chg hch (fun b hb h => by have h1 := HBase.out b hb; simp only [List.mem_singleton] at h; omega)).re (fun b hb => by have h1 := HBase.out b hb; omega), HX.out.1, by have := HX.out.2; omega, Nat.le_trans (Nat.le_trans hX3 hz4) hch.size, ⟨Lz, hz1z.chg hch (fun b hb h => by have h1 := (hz1z.base b hb).1; have h2 := HX.out.2; simp only [List.mem_singleton] at h; omega), hz2z⟩, Below.mark hB4 hch hB4.size (by simp only [List.mem_singleton]; intro b hb; omega)⟩
    · have hh : hasFil s id = true := List.any_eq_true.2 ⟨_, List.getElem_mem hi, hi2⟩
      rw [hi1]
      have i0 : (0 : Int) ≤ (i : Int) := by omega
      have i1 : (i : Int) < (s.files.length : Int) := by omega
      have i2 : ((i : Int) < 0) = False := by simp
      have hwr : IntKind.i64.wrap ((i : Int) + 1) = (i : Int) + 1 := IntWalk.i64_in _ (by omega)
      have hz : delOk s id = true := by unfold delOk; rw [hv, hh]; rfl
      have hr : delS s id = { s with files := (s.files.take i ++ s.files.drop (i + 1)) } := by unfold delS; rw [hz]; simp only [if_true]; rw [(List.findIdx_eq hi).2 ⟨hi2, fun j hj => hi3 j (by omega) hj⟩]
      have HZ := Lib.hid (And.intro hz hr)
      clear hr hz
      have hll : L0.length = s.files.length := by rw [← HLE.out]; simp
      have hlen : (s.files.take i ++ s.files.drop (i + 1)).length = s.files.length - 1 := by rw [List.length_append, List.length_take, List.length_drop]; omega
      have HLen := Lib.hid hlen
      clear hlen
      obtain ⟨gF, rfl, hgB, hgl, hgr, -⟩ := HN4.out.1.row (by have := HN4.out.1.le; omega)
      have hHd : ∀ b, b ∈ rowBs (some ⟨gF, 0, none⟩) d1 → b < w4.heap.size := fun b hb => (HN4.out.1.base b hb).2
      have HHd := Lib.hid hHd
      clear hHd hgr
      have hdc := HN4.out.1.le
      have j1 : (i : Int) ≤ (s.files.length : Int) := by omega
      have j2 : (i : Int) ≤ (d1 : Int) := by omega
      have j3 : (i : Int) + 1 ≤ (s.files.length : Int) := by omega
      have j4 : (0 : Int) ≤ (i : Int) + 1 := by omega
      have j5 : (i : Int) + 1 ≤ (d1 : Int) := by omega
      have j6 : ((i : Int) + 1).toNat = i + 1 := by omega
      have j7 : ¬ (d1 = i) := by omega
      have j8 : (i : Int) ≤ (i : Int) + 1 := by omega
      have uo1 := uo 1
      simp only [List.getElem?_toArray, List.getElem?_cons_zero, List.getElem?_cons_succ] at uo1
      by_cases hdi : d1 = i + 1
      · subst hdi
        have HSL := Lib.hid (show s.files.length = i + 1 by omega)
        go_upto_region 5 with fail
        go_cut [] (fun w' => ∃ (A8 : Option Addr) (c8 : Nat), HasB w' [(w.heap.size, #[.slice A1 s.schema.length c1, .slice A8 (s.files.length - 1) c8, .int .i64 s.next], 40), (w.heap.size + 1, #[.slice none 0 0, .slice none 0 0, .int .i64 0], 40)] ∧ NRow (KFil 28 84) w' X A8 (s.files.length - 1) c8 (L0.take i ++ L0.drop (i + 1)) ∧ Chg [w.heap.size] w4 w')
        case first =>
          go_region_law (first | (refine step_append_row rfl (.tmp 20) (.tmp 24) _ rfl encFh Try.underlying38 hin hin0 hin1 hin2 rfl rfl rfl (FRow.any0 _ _ _ _ w4.heap.size _) (((Src.of_row encFh HN4.out.1).below (show Below w4.heap.size w4 _ by repeat first | exact Below.refl _ _ | refine Below.drew ?_ | refine ex_alloc ?_ _)).take encFh (k := i) (by omega)) (by unfold maxLen; omega) (by omega) (by simp <;> omega) ?_; intro A6 c6 w6 hr6 hc6 hx6; have hB6 : Below w4.heap.size w4 w6 := (Below.mark (B := w4.heap.size) (w := w4) (by repeat first | exact Below.refl _ _ | refine Below.drew ?_ | refine ex_alloc ?_ _) hc6 (by simp <;> omega) (by simp [rowBs_zero])); have uo6 := keep_cell hB6 uo1; have HR6 := Lib.hid (show FRow 28 5 eFh w6 w4.heap.size A6 i c6 ((L0.take i).map (·.1)) by simpa [List.map_take] using hr6); clear hr6 hc6 hx6) | (refine step_append_row rfl (.tmp 25) (.tmp 30) _ rfl encFh Try.underlying38 hin hin0 hin1 hin2 rfl rfl rfl HR6.out (Src.none0 _ _) (by unfold maxLen; omega) (by omega) (by have := hB6.size; simp <;> omega) ?_; intro A8 c8 w8 hr8 hc8 hx8; have hB8 : Below w4.heap.size w4 w8 := (Below.mark (B := w4.heap.size) (w := w4) hB6 hc8 hB6.size (fun b hb => (HR6.out.base b hb).1)); have HR8 := Lib.hid hr8; clear hr8 hc8 hx8; have HB8 := Lib.hid (HB4.out.below hB8); have uo8 := blk_cell? (HB8.out _ (List.Mem.head _)); have vo8 := blk_free (HB8.out _ (List.Mem.head _))))
          all_goals
            have e9 : (i + 0) = s.files.length - 1 := by have hsl := HSL.out; omega
            have hR8 : FRow 28 5 eFh w8 w4.heap.size A8 (s.files.length - 1) c8 ((L0.take i ++ L0.drop (i + 1)).map (·.1)) := by
              have h9 := HR8.out
              rw [e9] at h9
              rw [List.drop_of_length_le (by rw [hll, HSL.out]; omega)]; simpa using h9
            have hxb := fun b hb => (hR8.base b hb).1
            have hX4 : X ≤ w4.heap.size := Nat.le_trans hX3 hz4
            have hN8 := NRow.part (l' := L0.take i ++ L0.drop (i + 1)) HN4.out (del_sub L0 i) (hR8.re (fun b hb => Nat.le_trans hX4 (hxb b hb))) (Chg.of_below _ hB8) (fun b hb => .inr (hxb b hb))
            have hc89 : Chg [w.heap.size] w8 (w8.setCell ⟨w.heap.size, 1, none⟩ (.slice A8 (i + 0) c8)) := (Chg.refl _ _).set (by simp) _
            have HM := Lib.hid (show HasB (w8.setCell ⟨w.heap.size, 1, none⟩ (.slice A8 (i + 0) c8)) [(w.heap.size, #[.slice A1 s.schema.length c1, .slice A8 (s.files.length - 1) c8, .int .i64 s.next], 40), (w.heap.size + 1, #[.slice none 0 0, .slice none 0 0, .int .i64 0], 40)] ∧ NRow (KFil 28 84) (w8.setCell ⟨w.heap.size, 1, none⟩ (.slice A8 (i + 0) c8)) X A8 (s.files.length - 1) c8 (L0.take i ++ L0.drop (i + 1)) ∧ Chg [w.heap.size] w4 (w8.setCell ⟨w.heap.size, 1, none⟩ (.slice A8 (i + 0) c8)) from by
              refine ⟨fun x hx => ?_, hN8.chg hc89 (fun b hb h => ?_), (Chg.of_below _ hB8).trans hc89⟩
              · simp only [List.mem_cons, List.not_mem_nil, or_false] at hx
                rcases hx with rfl | rfl
                · rw [e9]; exact blk_set (HB8.out _ (List.Mem.head _)) 1 _
                · exact hc89.keepb (HB8.out _ (List.Mem.tail _ (List.Mem.head _))) (by simp only [List.mem_singleton]; omega)
              · have h2 := HX.out.2
                have h3 := (hN8.base b hb).1
                simp only [List.mem_singleton] at h
                omega)
            clear hN8 hc89 hR8 hxb e9
            go_wp2_with fail
            go_meet
            exact ⟨A8, c8, HM.out.1, HM.out.2.1, HM.out.2.2⟩
        case rest =>
          generalize wc = W9 at *
          obtain ⟨A8, c8, hb9, hN9, hc9⟩ := hcut
          have HN9 := Lib.hid hN9
          have HF9 := Lib.hid (HR4.out.1.chg hc9 (fun b hb h => by have h2 := HBase.out b hb; simp only [List.mem_singleton] at h; omega))
          have hB9 := Below.mark hB4 hc9 hB4.size (by simp only [List.mem_singleton]; intro b hb; omega)
          have hz9 := Nat.le_trans hz4 hc9.size
          clear hN9 hc9 uo1
          clear uo vo lo ur vr lr
          have uo := blk_cell? (hb9 _ (List.Mem.head _))
          have vo := blk_free (hb9 _ (List.Mem.head _))
          have lo := blk_lt (hb9 _ (List.Mem.head _))
          simp only at lo
          have ur := blk_cell? (hb9 _ (List.Mem.tail _ (List.Mem.head _)))
          have vr := blk_free (hb9 _ (List.Mem.tail _ (List.Mem.head _)))
          have lr := blk_lt (hb9 _ (List.Mem.tail _ (List.Mem.head _)))
          simp only at lr
          go_wp2_with fail
          refine bodyPost_ret (v := .tuple #[.agg #[.slice A1 s.schema.length c1, .slice A8 (s.files.length - 1) c8, .int .i64 s.next], .bool true]) (by simp [results, Try.results141, go_sem, ur]) rfl ?_
          have hch : Chg [w.heap.size + 1] W9 (sets W9 (w.heap.size + 1) 0 [.slice A1 s.schema.length c1, .slice A8 (s.files.length - 1) c8, .int .i64 s.next]) := sets_chg (bs := [w.heap.size + 1]) (g := w.heap.size + 1) (w := W9) (w1 := W9) (by simp) _ _ 0 (Chg.refl _ _)
          rw [HZ.out.1, HZ.out.2]
          have hlen := HLen.out
          exact ⟨A1, c1, A8, c8, X, by simp only [hlen], (HF9.out.chg hch (fun b hb h => by have h1 := HBase.out b hb; simp only [List.mem_singleton] at h; omega)).re (fun b hb => by have h1 := HBase.out b hb; omega), HX.out.1, by have := HX.out.2; omega, Nat.le_trans (Nat.le_trans hX3 hz9) hch.size, ⟨_, by simp only [hlen]; exact HN9.out.chg hch (fun b hb h => by have h1 := (HN9.out.base b hb).1; have h2 := HX.out.2; simp only [List.mem_singleton] at h; omega), by rw [List.map_append, List.map_take, List.map_drop, HLE.out]⟩, Below.mark hB9 hch hB9.size (by simp only [List.mem_singleton]; intro b hb; omega)⟩
      · go_upto_region 5 with fail
        go_cut [] (fun w' => ∃ (A8 : Option Addr) (c8 : Nat), HasB w' [(w.heap.size, #[.slice A1 s.schema.length c1, .slice A8 (s.files.length - 1) c8, .int .i64 s.next], 40), (w.heap.size + 1, #[.slice none 0 0, .slice none 0 0, .int .i64 0], 40)] ∧ NRow (KFil 28 84) w' X A8 (s.files.length - 1) c8 (L0.take i ++ L0.drop (i + 1)) ∧ Chg [w.heap.size] w4 w')
        case first =>
          go_region_law (first | (refine step_append_row rfl (.tmp 20) (.tmp 24) _ rfl encFh Try.underlying38 hin hin0 hin1 hin2 rfl rfl rfl (FRow.any0 _ _ _ _ w4.heap.size _) (((Src.of_row encFh HN4.out.1).below (show Below w4.heap.size w4 _ by repeat first | exact Below.refl _ _ | refine Below.drew ?_ | refine ex_alloc ?_ _)).take encFh (k := i) (by omega)) (by unfold maxLen; omega) (by omega) (by simp <;> omega) ?_; intro A6 c6 w6 hr6 hc6 hx6; have hB6 : Below w4.heap.size w4 w6 := (Below.mark (B := w4.heap.size) (w := w4) (by repeat first | exact Below.refl _ _ | refine Below.drew ?_ | refine ex_alloc ?_ _) hc6 (by simp <;> omega) (by simp [rowBs_zero])); have uo6 := keep_cell hB6 uo1; have HR6 := Lib.hid (show FRow 28 5 eFh w6 w4.heap.size A6 i c6 ((L0.take i).map (·.1)) by simpa [List.map_take] using hr6); clear hr6 hc6 hx6) | (refine step_append_row rfl (.tmp 25) (.tmp 30) _ rfl encFh Try.underlying38 hin hin0 hin1 hin2 rfl rfl rfl HR6.out (by have hh := ((Src.of_row encFh HN4.out.1).below (show Below w4.heap.size w4 _ by repeat first | exact hB6 | refine Below.drew ?_ | refine ex_alloc ?_ _)).drop4 encFh (k := i + 1) (by omega); rw [Nat.zero_add] at hh; exact hh) (by unfold maxLen; omega) (by omega) (by have := hB6.size; simp <;> omega) ?_; intro A8 c8 w8 hr8 hc8 hx8; have hB8 : Below w4.heap.size w4 w8 := (Below.mark (B := w4.heap.size) (w := w4) hB6 hc8 hB6.size (fun b hb => (HR6.out.base b hb).1)); have HR8 := Lib.hid hr8; clear hr8 hc8 hx8; have HB8 := Lib.hid (HB4.out.below hB8); have uo8 := blk_cell? (HB8.out _ (List.Mem.head _)); have vo8 := blk_free (HB8.out _ (List.Mem.head _))))
          all_goals
            have e9 : (i + (s.files.length - (i + 1))) = s.files.length - 1 := by omega
            have hR8 : FRow 28 5 eFh w8 w4.heap.size A8 (s.files.length - 1) c8 ((L0.take i ++ L0.drop (i + 1)).map (·.1)) := by
              have h9 := HR8.out
              rw [e9] at h9
              rw [List.map_append, List.map_drop]; exact h9
            have hxb := fun b hb => (hR8.base b hb).1
            have hX4 : X ≤ w4.heap.size := Nat.le_trans hX3 hz4
            have hN8 := NRow.part (l' := L0.take i ++ L0.drop (i + 1)) HN4.out (del_sub L0 i) (hR8.re (fun b hb => Nat.le_trans hX4 (hxb b hb))) (Chg.of_below _ hB8) (fun b hb => .inr (hxb b hb))
            have hc89 : Chg [w.heap.size] w8 (w8.setCell ⟨w.heap.size, 1, none⟩ (.slice A8 (i + (s.files.length - (i + 1))) c8)) := (Chg.refl _ _).set (by simp) _
            have HM := Lib.hid (show HasB (w8.setCell ⟨w.heap.size, 1, none⟩ (.slice A8 (i + (s.files.length - (i + 1))) c8)) [(w.heap.size, #[.slice A1 s.schema.length c1, .slice A8 (s.files.length - 1) c8, .int .i64 s.next], 40), (w.heap.size + 1, #[.slice none 0 0, .slice none 0 0, .int .i64 0], 40)] ∧ NRow (KFil 28 84) (w8.setCell ⟨w.heap.size, 1, none⟩ (.slice A8 (i + (s.files.length - (i + 1))) c8)) X A8 (s.files.length - 1) c8 (L0.take i ++ L0.drop (i + 1)) ∧ Chg [w.heap.size] w4 (w8.setCell ⟨w.heap.size, 1, none⟩ (.slice A8 (i + (s.files.length - (i + 1))) c8)) from by
              refine ⟨fun x hx => ?_, hN8.chg hc89 (fun b hb h => ?_), (Chg.of_below _ hB8).trans hc89⟩
              · simp only [List.mem_cons, List.not_mem_nil, or_false] at hx
                rcases hx with rfl | rfl
                · rw [e9]; exact blk_set (HB8.out _ (List.Mem.head _)) 1 _
                · exact hc89.keepb (HB8.out _ (List.Mem.tail _ (List.Mem.head _))) (by simp only [List.mem_singleton]; omega)
              · have h2 := HX.out.2
                have h3 := (hN8.base b hb).1
                simp only [List.mem_singleton] at h
                omega)
            clear hN8 hc89 hR8 hxb e9
            go_wp2_with fail
            go_meet
            exact ⟨A8, c8, HM.out.1, HM.out.2.1, HM.out.2.2⟩
        case rest =>
          generalize wc = W9 at *
          obtain ⟨A8, c8, hb9, hN9, hc9⟩ := hcut
          have HN9 := Lib.hid hN9
          have HF9 := Lib.hid (HR4.out.1.chg hc9 (fun b hb h => by have h2 := HBase.out b hb; simp only [List.mem_singleton] at h; omega))
          have hB9 := Below.mark hB4 hc9 hB4.size (by simp only [List.mem_singleton]; intro b hb; omega)
          have hz9 := Nat.le_trans hz4 hc9.size
          clear hN9 hc9 uo1
          clear uo vo lo ur vr lr
          have uo := blk_cell? (hb9 _ (List.Mem.head _))
          have vo := blk_free (hb9 _ (List.Mem.head _))
          have lo := blk_lt (hb9 _ (List.Mem.head _))
          simp only at lo
          have ur := blk_cell? (hb9 _ (List.Mem.tail _ (List.Mem.head _)))
          have vr := blk_free (hb9 _ (List.Mem.tail _ (List.Mem.head _)))
          have lr := blk_lt (hb9 _ (List.Mem.tail _ (List.Mem.head _)))
          simp only at lr
          go_wp2_with fail
          refine bodyPost_ret (v := .tuple #[.agg #[.slice A1 s.schema.length c1, .slice A8 (s.files.length - 1) c8, .int .i64 s.next], .bool true]) (by simp [results, Try.results141, go_sem, ur]) rfl ?_
          have hch : Chg [w.heap.size + 1] W9 (sets W9 (w.heap.size + 1) 0 [.slice A1 s.schema.length c1, .slice A8 (s.files.length - 1) c8, .int .i64 s.next]) := sets_chg (bs := [w.heap.size + 1]) (g := w.heap.size + 1) (w := W9) (w1 := W9) (by simp) _ _ 0 (Chg.refl _ _)
          rw [HZ.out.1, HZ.out.2]
          have hlen := HLen.out
          exact ⟨A1, c1, A8, c8, X, by simp only [hlen], (HF9.out.chg hch (fun b hb h => by have h1 := HBase.out b hb; simp only [List.mem_singleton] at h; omega)).re (fun b hb => by have h1 := HBase.out b hb; omega), HX.out.1, by have := HX.out.2; omega, Nat.le_trans (Nat.le_trans hX3 hz9) hch.size, ⟨_, by simp only [hlen]; exact HN9.out.chg hch (fun b hb h => by have h1 := (HN9.out.base b hb).1; have h2 := HX.out.2; simp only [List.mem_singleton] at h; omega), by rw [List.map_append, List.map_take, List.map_drop, HLE.out]⟩, Below.mark hB9 hch hB9.size (by simp only [List.mem_singleton]; intro b hb; omega)⟩
end Go.Proofs.Ytjobgnioehkomaa
