/-
  CONTRACTS: a store is copied; a file is replaced, put in, struck.
-/
import Derived.WalkKit
import Derived.WalkSpells
import Derived.WalkLawsBesides
import Derived.Lib.Hide
import Derived.Handy
import Derived.StillTailTactics
import Derived.Deep.Light
import Derived.Deep.QuietTactic
import Derived.BigQuiet
import Derived.Deep.RegionHeld3
import Derived.Deep.RegionLaw
import Derived.Sort.Walk0
import Derived.Deep.DeepCutAuto
import Derived.Test.YtjobgnioehkomaaLib
import Derived.Test.YtjobgnioehkomaaOwn
import Derived.Test.YtjobgnioehkomaaRow
import Derived.Test.YtjobgnioehkomaaN0
import Derived.Test.YtjobgnioehkomaaRaw
import Derived.Test.YtjobgnioehkomaaHld
import Derived.Test.YtjobgnioehkomaaM0
import Derived.Test.YtjobgnioehkomaaC1
import Derived.Test.YtjobgnioehkomaaC2
import Derived.Test.YtjobgnioehkomaaT1
import Derived.Test.YtjobgnioehkomaaT2
import Derived.Test.YtjobgnioehkomaaT3
import Derived.Test.YtjobgnioehkomaaT4
import Derived.Test.YtjobgnioehkomaaC3
import Derived.Test.YtjobgnioehkomaaC4
import Derived.Test.YtjobgnioehkomaaC5
import Derived.Test.YtjobgnioehkomaaC8
import Derived.Test.YtjobgnioehkomaaD1
import Derived.Test.YtjobgnioehkomaaD3
import Derived.Test.YtjobgnioehkomaaD5
import Derived.Test.YtjobgnioehkomaaH1
import Derived.Test.YtjobgnioehkomaaE3
import Derived.Test.YtjobgnioehkomaaE4
import Derived.Test.YtjobgnioehkomaaE5
import Derived.Test.YtjobgnioehkomaaRows
namespace Go.Proofs.Ytjobgnioehkomaa
open Go.RowKit
set_option linter.unusedVariables false
set_option maxRecDepth 100000
noncomputable def repOk (s : Sto) (f : Fil) : Bool := validS s && hasFil s f.id && validF s.schema f
noncomputable def repS (s : Sto) (f : Fil) : Sto := if repOk s f then { s with files := s.files.set (s.files.findIdx (atId f.id)) f } else s
set_option maxHeartbeats 6400000 in
theorem spec_ReplaceFile (s : Sto) (A : Option Addr) (n c : Nat) (B : Option Addr) (m d : Nat) (f : Fil) (P : Option Addr) (q r : Nat) (w : World) (hS : Sl 2 RFld w A n s.schema) (hT : Sl 5 RFil w B m s.files) (hP : Sl 4 RAtr w P q f.attrs) (hok : s.ok 1073741824) (hf : f.ok 1073741824) :
    Calls Try.prog 44 #[s.v A n c B m d, f.v P q r] w (NewStoR (fun v => .tuple #[v, .bool (repOk s f)]) 138 28 84 w (repS s f)) := by
  obtain rfl : s.files.length = m := hT.len
  obtain rfl : s.schema.length = n := hS.len
  obtain rfl : f.attrs.length = q := hP.len
  have hn := hok.1
  have hm := hok.2.2.1
  have HCP := Lib.hid fun w' (hb : Below w.heap.size w w') => spec_l05Copy s A s.schema.length c B s.files.length d w' (hS.mono mFld hb) (hT.mono mFil hb) hok
  have HPP := Lib.hid fun w' (hb : Below w.heap.size w w') => hP.mono mAtr hb
  have HFC := Lib.hid fun w' (hS : Sl 4 RAtr w' P f.attrs.length f.attrs) => spec_l04Copy f P f.attrs.length r w' hS hf.1
  have HAT := Lib.hid fun (Ar : Option Addr) (cr : Nat) (Br : Option Addr) (dr : Nat) w' (hT : Sl 5 RFil w' Br s.files.length s.files) => spec_l05Place s Ar s.schema.length cr Br s.files.length dr f.id w' hT hm
  have HV := Lib.hid fun (Ar : Option Addr) (cr : Nat) (Br : Option Addr) (dr : Nat) w' (hS : Sl 2 RFld w' Ar s.schema.length s.schema) (hT : Sl 5 RFil w' Br s.files.length s.files) => spec_IsValidStore s Ar s.schema.length cr Br s.files.length dr w' hS hT hok
  have HVF := Lib.hid fun (Ar : Option Addr) (cr : Nat) w' (hS : Sl 2 RFld w' Ar s.schema.length s.schema) (hP : Sl 4 RAtr w' P f.attrs.length f.attrs) => spec_IsValidFile Ar s.schema.length cr s.schema f P f.attrs.length r w' hS hn hP hok.2.1 hf
  clear hS hT hP
  go_enter Try.func44, Try.ntmps44
  go_upto_region 1 with fail
  generalize hW : World.alloc (World.alloc (World.alloc w _) _) _ = W0
  have hb0 : HasB W0 [(w.heap.size, #[.slice A s.schema.length c, .slice B s.files.length d, .int .i64 s.next], 40), (w.heap.size + 1, #[.int .i64 f.id, .int .i64 f.owner, .bool f.shared, .int .i64 f.link, .slice P f.attrs.length r], 28), (w.heap.size + 1 + 1, #[.slice none 0 0, .slice none 0 0, .int .i64 0], 40)] := by
    rw [← hW]; intro x hx
    simp only [List.mem_cons, List.not_mem_nil, or_false] at hx
    rcases hx with rfl | rfl | rfl
    all_goals (simp only; repeat first | exact hp_new (by simp) | rw [hp_old (by simp <;> omega)])
  have hB0 : Below w.heap.size w W0 := by rw [← hW]; go_grown
  have hs0 : w.heap.size + 1 + 1 + 1 = W0.heap.size := by rw [← hW]; simp
  clear hW
  have us := blk_cell? (hb0 _ (List.Mem.head _))
  have vs := blk_free (hb0 _ (List.Mem.head _))
  have ls := blk_lt (hb0 _ (List.Mem.head _))
  simp only at ls
  have uf := blk_cell? (hb0 _ (List.Mem.tail _ (List.Mem.head _)))
  have vf := blk_free (hb0 _ (List.Mem.tail _ (List.Mem.head _)))
  have lf := blk_lt (hb0 _ (List.Mem.tail _ (List.Mem.head _)))
  simp only at lf
  have ur := blk_cell? (hb0 _ (List.Mem.tail _ (List.Mem.tail _ (List.Mem.head _))))
  have vr := blk_free (hb0 _ (List.Mem.tail _ (List.Mem.tail _ (List.Mem.head _))))
  have lr := blk_lt (hb0 _ (List.Mem.tail _ (List.Mem.tail _ (List.Mem.head _))))
  simp only at lr
  have HB0 := Lib.hid hb0
  clear hb0
  go_wp2_with fail
  refine (HCP.out _ hB0).mono ?_; rintro e w1 ⟨A1, c1, B1, d1, X, rfl, hF1, hX1, hX2, hX3, hR1, hb1⟩
  have hB1 := ex_trans hB0 hb1
  have HB1 := Lib.hid (HB0.out.below hb1)
  clear us vs ls uf vf lf ur vr lr
  have us := blk_cell? (HB1.out _ (List.Mem.head _))
  have vs := blk_free (HB1.out _ (List.Mem.head _))
  have ls := blk_lt (HB1.out _ (List.Mem.head _))
  simp only at ls
  have uf := blk_cell? (HB1.out _ (List.Mem.tail _ (List.Mem.head _)))
  have vf := blk_free (HB1.out _ (List.Mem.tail _ (List.Mem.head _)))
  have lf := blk_lt (HB1.out _ (List.Mem.tail _ (List.Mem.head _)))
  simp only at lf
  have ur := blk_cell? (HB1.out _ (List.Mem.tail _ (List.Mem.tail _ (List.Mem.head _))))
  have vr := blk_free (HB1.out _ (List.Mem.tail _ (List.Mem.tail _ (List.Mem.head _))))
  have lr := blk_lt (HB1.out _ (List.Mem.tail _ (List.Mem.tail _ (List.Mem.head _))))
  simp only at lr
  have HRW := Lib.hid (And.intro hF1 (And.intro hX1 (And.intro hX2 hR1)))
  have hz1 : W0.heap.size ≤ w1.heap.size := hb1.size
  clear hF1 hX1 hX2 hR1 hb1
  go_upto_region 2 with fail
  generalize hW : World.setCell (World.setCell (World.setCell w1 _ _) _ _) _ _ = W2
  have hc12 : Chg [w.heap.size] w1 W2 := by rw [← hW]; exact (((Chg.refl _ _).set (by simp) _).set (by simp) _).set (by simp) _
  have hb2 : HasB W2 [(w.heap.size, #[.slice A1 s.schema.length c1, .slice B1 s.files.length d1, .int .i64 s.next], 40), (w.heap.size + 1, #[.int .i64 f.id, .int .i64 f.owner, .bool f.shared, .int .i64 f.link, .slice P f.attrs.length r], 28), (w.heap.size + 1 + 1, #[.slice none 0 0, .slice none 0 0, .int .i64 0], 40)] := by
    intro x hx
    simp only [List.mem_cons, List.not_mem_nil, or_false] at hx
    rcases hx with rfl | rfl | rfl
    · rw [← hW]; exact sets_blk [.slice A1 s.schema.length c1, .slice B1 s.files.length d1, .int .i64 s.next] w1 0 _ (HB1.out _ (List.Mem.head _))
    · exact hc12.keepb (HB1.out _ (List.Mem.tail _ (List.Mem.head _))) (by simp only [List.mem_singleton]; omega)
    · exact hc12.keepb (HB1.out _ (List.Mem.tail _ (List.Mem.tail _ (List.Mem.head _)))) (by simp only [List.mem_singleton]; omega)
  have hB2 : Below w.heap.size w W2 := Below.mark hB1 hc12 hB1.size (by simp)
  have hF2 := HRW.out.1.chg hc12 (fun b hb h => by have h1 := (HRW.out.1.base b hb).1; simp at h; omega)
  obtain ⟨L0, hL01, hL02⟩ := HRW.out.2.2.2
  have HLT := Lib.hid (fun b hb => (hL01.base b hb))
  have HLE := Lib.hid hL02
  have HNA := Lib.hid (fun b hb => (HRW.out.1.base b hb).2)
  have hN2 := hL01.chg hc12 (fun b hb h => by have h3 := (hL01.base b hb).1; have h4 := HRW.out.2.2.1; simp at h; omega)
  have HN2 := Lib.hid hN2
  have hR2 : FRows 28 84 W2 X B1 s.files.length d1 s.files := ⟨L0, hN2, hL02⟩
  have HX := Lib.hid (And.intro HRW.out.2.1 HRW.out.2.2.1)
  have HNO := Lib.hid (show ∀ b ∈ rowBs B1 d1, b < w1.heap.size from by obtain ⟨L, h1, _⟩ := HRW.out.2.2.2; exact fun b hb => (h1.1.base b hb).2)
  have hbase : ∀ b ∈ rowBs A1 c1, W0.heap.size ≤ b := fun b hb => (HRW.out.1.base b hb).1
  have HR2 := Lib.hid (And.intro hF2 hR2)
  have HB2 := Lib.hid hb2
  have HBase := Lib.hid hbase
  have hz2 : w1.heap.size ≤ W2.heap.size := hc12.size
  clear us vs ls uf vf lf ur vr lr
  clear hW hb2 hc12 HRW HB1 HB0 hF2 hR2 hbase hL01 hL02 hN2
  have uo := blk_cell? (HB2.out _ (List.Mem.head _))
  have vo := blk_free (HB2.out _ (List.Mem.head _))
  have lo := blk_lt (HB2.out _ (List.Mem.head _))
  simp only at lo
  have uf := blk_cell? (HB2.out _ (List.Mem.tail _ (List.Mem.head _)))
  have vf := blk_free (HB2.out _ (List.Mem.tail _ (List.Mem.head _)))
  have lf := blk_lt (HB2.out _ (List.Mem.tail _ (List.Mem.head _)))
  simp only at lf
  have ur := blk_cell? (HB2.out _ (List.Mem.tail _ (List.Mem.tail _ (List.Mem.head _))))
  have vr := blk_free (HB2.out _ (List.Mem.tail _ (List.Mem.tail _ (List.Mem.head _))))
  have lr := blk_lt (HB2.out _ (List.Mem.tail _ (List.Mem.tail _ (List.Mem.head _))))
  simp only at lr
  go_wp2_with fail
  refine (HAT.out A1 c1 B1 d1 _ HR2.out.2.sl).mono ?_; rintro e w3 ⟨rfl, hb3⟩
  have HB3 := Lib.hid (HB2.out.below hb3)
  have HR3 := Lib.hid (And.intro (HR2.out.1.below hb3) (HR2.out.2.below hb3))
  have hB3 := ex_trans hB2 hb3
  have hz3 := Nat.le_trans hz2 hb3.size
  clear uo vo lo uf vf lf ur vr lr
  have uo := blk_cell? (HB3.out _ (List.Mem.head _))
  have vo := blk_free (HB3.out _ (List.Mem.head _))
  have lo := blk_lt (HB3.out _ (List.Mem.head _))
  simp only at lo
  have uf := blk_cell? (HB3.out _ (List.Mem.tail _ (List.Mem.head _)))
  have vf := blk_free (HB3.out _ (List.Mem.tail _ (List.Mem.head _)))
  have lf := blk_lt (HB3.out _ (List.Mem.tail _ (List.Mem.head _)))
  simp only at lf
  have ur := blk_cell? (HB3.out _ (List.Mem.tail _ (List.Mem.tail _ (List.Mem.head _))))
  have vr := blk_free (HB3.out _ (List.Mem.tail _ (List.Mem.tail _ (List.Mem.head _))))
  have lr := blk_lt (HB3.out _ (List.Mem.tail _ (List.Mem.tail _ (List.Mem.head _))))
  simp only at lr
  clear hb3
  go_wp2_with fail
  refine (HV.out A1 c1 B1 d1 _ (HR3.out.1.sl (R := RFld) encFld (fun _ => rfl)) HR3.out.2.sl).mono ?_; rintro e w4 ⟨rfl, hb4⟩
  have HB4 := Lib.hid (HB3.out.below hb4)
  have HR4 := Lib.hid (And.intro (HR3.out.1.below hb4) (HR3.out.2.below hb4))
  have hB4 := ex_trans hB3 hb4
  have hz4 := Nat.le_trans hz3 hb4.size
  clear uo vo lo uf vf lf ur vr lr
  have uo := blk_cell? (HB4.out _ (List.Mem.head _))
  have vo := blk_free (HB4.out _ (List.Mem.head _))
  have lo := blk_lt (HB4.out _ (List.Mem.head _))
  simp only at lo
  have uf := blk_cell? (HB4.out _ (List.Mem.tail _ (List.Mem.head _)))
  have vf := blk_free (HB4.out _ (List.Mem.tail _ (List.Mem.head _)))
  have lf := blk_lt (HB4.out _ (List.Mem.tail _ (List.Mem.head _)))
  simp only at lf
  have ur := blk_cell? (HB4.out _ (List.Mem.tail _ (List.Mem.tail _ (List.Mem.head _))))
  have vr := blk_free (HB4.out _ (List.Mem.tail _ (List.Mem.tail _ (List.Mem.head _))))
  have lr := blk_lt (HB4.out _ (List.Mem.tail _ (List.Mem.tail _ (List.Mem.head _))))
  simp only at lr
  clear hb4
  cases hv : validS s with
  | false =>
    go_wp2_with fail
    refine bodyPost_ret (v := .tuple #[.agg #[.slice A1 s.schema.length c1, .slice B1 s.files.length d1, .int .i64 s.next], .bool false]) (by simp [results, Try.results44, go_sem, ur]) rfl ?_
    have hch : Chg [w.heap.size + 1 + 1] w4 (sets w4 (w.heap.size + 1 + 1) 0 [.slice A1 s.schema.length c1, .slice B1 s.files.length d1, .int .i64 s.next]) := sets_chg (bs := [w.heap.size + 1 + 1]) (g := w.heap.size + 1 + 1) (w := w4) (w1 := w4) (by simp) _ _ 0 (Chg.refl _ _)
    have hz : repOk s f = false := by unfold repOk; rw [hv]; rfl
    have hr : repS s f = s := by unfold repS; rw [hz]; rfl
    rw [hz, hr]
    obtain ⟨Lz, hz1z, hz2z⟩ := HR4.out.2
    exact ⟨A1, c1, B1, d1, X, rfl, (HR4.out.1.chg hch (fun b hb h => by have h1 := HBase.out b hb; simp only [List.mem_singleton] at h; omega)).re (fun b hb => by have h1 := HBase.out b hb; omega), HX.out.1, by have := HX.out.2; omega, Nat.le_trans (Nat.le_trans hX3 hz4) hch.size, ⟨Lz, hz1z.chg hch (fun b hb h => by have h1 := (hz1z.base b hb).1; have h2 := HX.out.2; simp only [List.mem_singleton] at h; omega), hz2z⟩, Below.mark hB4 hch hB4.size (by simp only [List.mem_singleton]; intro b hb; omega)⟩
  | true =>
    rcases idx_cases (atId f.id) s.files with ⟨hi1, hi2⟩ | ⟨i, hi, hi1, hi2, hi3⟩
    · have hh : hasFil s f.id = false := any_of_none hi2
      rw [hi1]
      go_wp2_with fail
      refine bodyPost_ret (v := .tuple #[.agg #[.slice A1 s.schema.length c1, .slice B1 s.files.length d1, .int .i64 s.next], .bool false]) (by simp [results, Try.results44, go_sem, ur]) rfl ?_
      have hch : Chg [w.heap.size + 1 + 1] w4 (sets w4 (w.heap.size + 1 + 1) 0 [.slice A1 s.schema.length c1, .slice B1 s.files.length d1, .int .i64 s.next]) := sets_chg (bs := [w.heap.size + 1 + 1]) (g := w.heap.size + 1 + 1) (w := w4) (w1 := w4) (by simp) _ _ 0 (Chg.refl _ _)
      have hz : repOk s f = false := by unfold repOk; rw [hh]; simp
      have hr : repS s f = s := by unfold repS; rw [hz]; rfl
      rw [hz, hr]
      obtain ⟨Lz, hz1z, hz2z⟩ := HR4.out.2
      exact ⟨A1, c1, B1, d1, X, rfl, (HR4.out.1.chg hch (fun b hb h => by have h1 := HBase.out b hb; simp only [List.mem_singleton] at h; omega)).re (fun b hb => by have h1 := HBase.out b hb; omega), HX.out.1, by have := HX.out.2; omega, Nat.le_trans (Nat.le_trans hX3 hz4) hch.size, ⟨Lz, hz1z.chg hch (fun b hb h => by have h1 := (hz1z.base b hb).1; have h2 := HX.out.2; simp only [List.mem_singleton] at h; omega), hz2z⟩, Below.mark hB4 hch hB4.size (by simp only [List.mem_singleton]; intro b hb; omega)⟩
    · have hh : hasFil s f.id = true := List.any_eq_true.2 ⟨_, List.getElem_mem hi, hi2⟩
      rw [hi1]
      have i0 : (0 : Int) ≤ (i : Int) := by omega
      have i1 : (i : Int) < (s.files.length : Int) := by omega
      have i2 : ((i : Int) < 0) = False := by simp
      go_wp2_with fail
      refine (HVF.out A1 c1 _ (HR4.out.1.sl (R := RFld) encFld (fun _ => rfl)) (HPP.out _ hB4)).mono ?_; rintro e w5 ⟨rfl, hb5⟩
      have HB5 := Lib.hid (HB4.out.below hb5)
      have HR5 := Lib.hid (And.intro (HR4.out.1.below hb5) (HR4.out.2.below hb5))
      have hB5 := ex_trans hB4 hb5
      have hz5 := Nat.le_trans hz4 hb5.size
      clear uo vo lo uf vf lf ur vr lr
      have uo := blk_cell? (HB5.out _ (List.Mem.head _))
      have vo := blk_free (HB5.out _ (List.Mem.head _))
      have lo := blk_lt (HB5.out _ (List.Mem.head _))
      simp only at lo
      have uf := blk_cell? (HB5.out _ (List.Mem.tail _ (List.Mem.head _)))
      have vf := blk_free (HB5.out _ (List.Mem.tail _ (List.Mem.head _)))
      have lf := blk_lt (HB5.out _ (List.Mem.tail _ (List.Mem.head _)))
      simp only at lf
      have ur := blk_cell? (HB5.out _ (List.Mem.tail _ (List.Mem.tail _ (List.Mem.head _))))
      have vr := blk_free (HB5.out _ (List.Mem.tail _ (List.Mem.tail _ (List.Mem.head _))))
      have lr := blk_lt (HB5.out _ (List.Mem.tail _ (List.Mem.tail _ (List.Mem.head _))))
      simp only at lr
      clear hb5
      cases hw : validF s.schema f with
      | false =>
        go_wp2_with fail
        refine bodyPost_ret (v := .tuple #[.agg #[.slice A1 s.schema.length c1, .slice B1 s.files.length d1, .int .i64 s.next], .bool false]) (by simp [results, Try.results44, go_sem, ur]) rfl ?_
        have hch : Chg [w.heap.size + 1 + 1] w5 (sets w5 (w.heap.size + 1 + 1) 0 [.slice A1 s.schema.length c1, .slice B1 s.files.length d1, .int .i64 s.next]) := sets_chg (bs := [w.heap.size + 1 + 1]) (g := w.heap.size + 1 + 1) (w := w5) (w1 := w5) (by simp) _ _ 0 (Chg.refl _ _)
        have hz : repOk s f = false := by unfold repOk; rw [hw]; simp
        have hr : repS s f = s := by unfold repS; rw [hz]; rfl
        rw [hz, hr]
        obtain ⟨Lz, hz1z, hz2z⟩ := HR5.out.2
        exact ⟨A1, c1, B1, d1, X, rfl, (HR5.out.1.chg hch (fun b hb h => by have h1 := HBase.out b hb; simp only [List.mem_singleton] at h; omega)).re (fun b hb => by have h1 := HBase.out b hb; omega), HX.out.1, by have := HX.out.2; omega, Nat.le_trans (Nat.le_trans hX3 hz5) hch.size, ⟨Lz, hz1z.chg hch (fun b hb h => by have h1 := (hz1z.base b hb).1; have h2 := HX.out.2; simp only [List.mem_singleton] at h; omega), hz2z⟩, Below.mark hB5 hch hB5.size (by simp only [List.mem_singleton]; intro b hb; omega)⟩
      | true =>
        have hz : repOk s f = true := by unfold repOk; rw [hv, hh, hw]; rfl
        have hr : repS s f = { s with files := s.files.set i f } := by unfold repS; rw [hz]; simp only [if_true]; rw [(List.findIdx_eq hi).2 ⟨hi2, fun j hj => hi3 j (by omega) hj⟩]
        have HZ := Lib.hid (And.intro hz hr)
        clear hr hz
        obtain ⟨L, hL1, hL2⟩ := HR5.out.2
        have hll : L.length = s.files.length := by rw [← hL2]; simp
        obtain ⟨gF, rfl, hgB, hgl, hgr, hgf, hgc⟩ := hL1.1.cell encFh (by omega)
        have p5 : ∀ j, j < 5 → ∃ vv, w5.cell? ⟨gF, i * 5 + j, none⟩ = some vv := fun j hj => ⟨_, hgc i (by simp; omega) j _ (List.getElem?_eq_getElem (by rw [encFh.len]; exact hj))⟩
        obtain ⟨y0, p50⟩ := p5 0 (by omega)
        obtain ⟨y1, p51⟩ := p5 1 (by omega)
        obtain ⟨y2, p52⟩ := p5 2 (by omega)
        obtain ⟨y3, p53⟩ := p5 3 (by omega)
        obtain ⟨y4, p54⟩ := p5 4 (by omega)
        simp only [Nat.add_zero] at p50
        have HL := Lib.hid (And.intro hL1 hL2)
        have hXg : X ≤ gF := hgB
        have HGR := Lib.hid hgr
        clear p5 hgc hL1 hL2 hgr
        have uo1 := uo 1
        have uf0 := uf 0
        have uf1 := uf 1
        have uf2 := uf 2
        have uf3 := uf 3
        have uf4 := uf 4
        simp only [List.getElem?_toArray, List.getElem?_cons_zero, List.getElem?_cons_succ] at uo1 uf0 uf1 uf2 uf3 uf4
        have hoX : w.heap.size ≠ gF := by have := HX.out.2; omega
        go_upto_region 5 with fail
        refine wp_region_held_drew (S := (fun w' => w'.cell? ⟨w.heap.size, 1, none⟩ = some (.slice (some ⟨gF, 0, none⟩) s.files.length d1) ∧ w'.cell? ⟨w.heap.size + 1, 0, none⟩ = some (.int .i64 f.id) ∧ w'.cell? ⟨w.heap.size + 1, 1, none⟩ = some (.int .i64 f.owner) ∧ w'.cell? ⟨w.heap.size + 1, 2, none⟩ = some (.bool f.shared) ∧ w'.cell? ⟨w.heap.size + 1, 3, none⟩ = some (.int .i64 f.link) ∧ w'.cell? ⟨w.heap.size + 1, 4, none⟩ = some (.slice P f.attrs.length r))) (by kernel_rfl) (by (try dsimp only); exact ⟨uo1, uf0, uf1, uf2, uf3, uf4⟩) (fun hHeld => ?_)
        first | (refine held_take 0 rfl (by kernel_rfl) (by kernel_rfl) (by kernel_rfl) (by rfl) (fun _ _ _ h => h) (by assumption) (by intro w hSw; (try dsimp only at hSw); go_simp; first | done | with_reducible rfl) ?_) | (refine held_skip 0 rfl (by kernel_rfl) (by kernel_rfl) (by kernel_rfl) (by rfl) (fun _ _ _ h => h) (by assumption) ?_)
        simp only [Act.put, List.setIfInBounds_toArray, List.set_cons_zero, List.set_cons_succ]
        first | (refine held_take 1 rfl (by kernel_rfl) (by kernel_rfl) (by kernel_rfl) (by rfl) (fun _ _ _ h => h) (by assumption) (by intro w hSw; (try dsimp only at hSw); go_simp; first | done | with_reducible rfl) ?_) | (refine held_skip 1 rfl (by kernel_rfl) (by kernel_rfl) (by kernel_rfl) (by rfl) (fun _ _ _ h => h) (by assumption) ?_)
        simp only [Act.put, List.setIfInBounds_toArray, List.set_cons_zero, List.set_cons_succ]
        first | (refine held_take 2 rfl (by kernel_rfl) (by kernel_rfl) (by kernel_rfl) (by rfl) (fun _ _ _ h => h) (by assumption) (by intro w hSw; (try dsimp only at hSw); go_simp; first | done | with_reducible rfl) ?_) | (refine held_skip 2 rfl (by kernel_rfl) (by kernel_rfl) (by kernel_rfl) (by rfl) (fun _ _ _ h => h) (by assumption) ?_)
        simp only [Act.put, List.setIfInBounds_toArray, List.set_cons_zero, List.set_cons_succ]
        first | (refine held_take 3 rfl (by kernel_rfl) (by kernel_rfl) (by kernel_rfl) (by rfl) (fun _ _ _ h => h) (by assumption) (by intro w hSw; (try dsimp only at hSw); go_simp; first | done | with_reducible rfl) ?_) | (refine held_skip 3 rfl (by kernel_rfl) (by kernel_rfl) (by kernel_rfl) (by rfl) (fun _ _ _ h => h) (by assumption) ?_)
        simp only [Act.put, List.setIfInBounds_toArray, List.set_cons_zero, List.set_cons_succ]
        refine held_one 4 (by kernel_rfl) rfl (fun K hK => ?_)
        go_simp
        go_at_call 117
        refine (HFC.out _ (HPP.out _ hB5.drew)).mono ?_; rintro e w6 ⟨A6, c6, rfl, hr6, hb6⟩
        go_wp2_with fail
        refine hK.out _ _ (by (try dsimp only); exact ⟨keep_cell hb6 hHeld.1, keep_cell hb6 hHeld.2.1, keep_cell hb6 hHeld.2.2.1, keep_cell hb6 hHeld.2.2.2.1, keep_cell hb6 hHeld.2.2.2.2.1, keep_cell hb6 hHeld.2.2.2.2.2⟩) (fun hNew => ?_)
        clear hK K hHeld
        have hHeld := hNew
        clear hNew
        try simp only [Act.put, List.setIfInBounds_toArray, List.set_cons_zero, List.set_cons_succ]
        have hb56 : Below w5.heap.size w5 w6 := ex_trans ((Below.refl _ _).drew) hb6
        replace p50 := keep_cell hb56 p50
        replace p51 := keep_cell hb56 p51
        replace p52 := keep_cell hb56 p52
        replace p53 := keep_cell hb56 p53
        replace p54 := keep_cell hb56 p54
        have hgf6 : ∀ j, w6.frozen? ⟨gF, j, none⟩ = false := fun j => (hb56.frozen (p := ⟨gF, j, none⟩) hgl).trans (hgf j)
        have HR6 := Lib.hid (show FRow 84 4 eAtr w6 w5.heap.size A6 f.attrs.length c6 f.attrs from hr6)
        have HB6 := Lib.hid (HB5.out.below hb56)
        have hB6 := ex_trans hB5 hb56
        clear hr6 hb6
        first | (refine held_take 5 rfl (by kernel_rfl) (by kernel_rfl) (by kernel_rfl) (by rfl) (fun _ _ _ h => h) (by assumption) (by intro w hSw; (try dsimp only at hSw); go_simp; first | done | with_reducible rfl) ?_) | (refine held_skip 5 rfl (by kernel_rfl) (by kernel_rfl) (by kernel_rfl) (by rfl) (fun _ _ _ h => h) (by assumption) ?_)
        simp only [Act.put, List.setIfInBounds_toArray, List.set_cons_zero, List.set_cons_succ]
        refine held_one 6 (by kernel_rfl) rfl (fun K hK => ?_)
        go_simp
        have hst : Chg [gF] w6 (sets w6 gF (i * 5) [.int .i64 f.id, .int .i64 f.owner, .bool f.shared, .int .i64 f.link, .slice A6 f.attrs.length c6]) := sets_chg (bs := [gF]) (g := gF) (w := w6) (w1 := w6) (by simp) _ _ _ (Chg.refl _ _)
        refine hK.out _ _ (by (try dsimp only); exact ⟨hst.cell hHeld.1 (by simpa using hoX), hst.cell hHeld.2.1 (by simp only [List.mem_singleton]; have := HX.out.2; omega), hst.cell hHeld.2.2.1 (by simp only [List.mem_singleton]; have := HX.out.2; omega), hst.cell hHeld.2.2.2.1 (by simp only [List.mem_singleton]; have := HX.out.2; omega), hst.cell hHeld.2.2.2.2.1 (by simp only [List.mem_singleton]; have := HX.out.2; omega), hst.cell hHeld.2.2.2.2.2 (by simp only [List.mem_singleton]; have := HX.out.2; omega)⟩) (fun hNew => ?_)
        clear hK K hHeld
        have hHeld := hNew
        clear hNew
        try simp only [Act.put, List.setIfInBounds_toArray, List.set_cons_zero, List.set_cons_succ]
        refine wpAnyH_done (by kernel_rfl) ?_ _
        have hE := FRow.setE (i := i) encFh (HL.out.1.1.below hb56) rfl (by simp; omega) (⟨f.id, f.owner, f.shared, f.link, A6, f.attrs.length, c6⟩ : Fh)
        generalize hW7 : World.setCell (World.setCell (World.setCell (World.setCell (World.setCell w6 _ _) _ _) _ _) _ _) _ _ = w7
        have hst7 : Chg [gF] w6 w7 := by rw [← hW7]; exact hst
        have hE7 : FRow 28 5 eFh w7 X (some ⟨gF, 0, none⟩) s.files.length d1 (((L.set i (⟨f.id, f.owner, f.shared, f.link, A6, f.attrs.length, c6⟩, f.attrs)).map (·.1))) := by rw [List.map_set, ← hW7]; exact hE
        have hN := NRow.set_ (K := KFil 28 84) (i := i) (w1 := w6) (w2 := w7) (x' := (⟨f.id, f.owner, f.shared, f.link, A6, f.attrs.length, c6⟩, f.attrs)) HL.out.1 (by omega) (HR6.out.re (fun b hb => by have h1 := (HR6.out.base b hb).1; have h2 := hgl; omega)) (Chg.of_below _ hb56) (fun b hb => .inr (HR6.out.base b hb).1) hE7 (by rw [HGR.out]; exact hst7)
        have HN := Lib.hid (show FRows 28 84 w7 X (some ⟨gF, 0, none⟩) s.files.length d1 (s.files.set i f) from ⟨_, hN, by rw [List.map_set, HL.out.2]; rfl⟩)
        have HF7 := Lib.hid ((HR5.out.1.below hb56).chg hst7 (fun b hb h => by have h1 := HX.out.1 b hb; simp only [List.mem_singleton] at h; omega))
        have HB7 := Lib.hid (HB6.out.chg hst7 (fun x hx h => by
            simp only [List.mem_cons, List.not_mem_nil, or_false] at hx
            simp only [List.mem_singleton] at h
            have h2 := HX.out.2
            rcases hx with rfl | rfl | rfl
            all_goals (simp only at h)
            · exact absurd h (by omega)
            · exact absurd h (by omega)
            · exact absurd h (by omega)))
        have hz7 : w1.heap.size ≤ w7.heap.size := Nat.le_trans (Nat.le_trans hz5 hb56.size) hst7.size
        have hB7 := Below.mark hB6 hst7 hB6.size (by simp only [List.mem_singleton]; intro b hb; have := HX.out.2; omega)
        clear hW7 hst hst7 hE hE7 hN hHeld
        clear uo vo lo uf vf lf ur vr lr
        have uo := blk_cell? (HB7.out _ (List.Mem.head _))
        have vo := blk_free (HB7.out _ (List.Mem.head _))
        have lo := blk_lt (HB7.out _ (List.Mem.head _))
        simp only at lo
        have uf := blk_cell? (HB7.out _ (List.Mem.tail _ (List.Mem.head _)))
        have vf := blk_free (HB7.out _ (List.Mem.tail _ (List.Mem.head _)))
        have lf := blk_lt (HB7.out _ (List.Mem.tail _ (List.Mem.head _)))
        simp only at lf
        have ur := blk_cell? (HB7.out _ (List.Mem.tail _ (List.Mem.tail _ (List.Mem.head _))))
        have vr := blk_free (HB7.out _ (List.Mem.tail _ (List.Mem.tail _ (List.Mem.head _))))
        have lr := blk_lt (HB7.out _ (List.Mem.tail _ (List.Mem.tail _ (List.Mem.head _))))
        simp only at lr
        go_wp2_with fail
        refine bodyPost_ret (v := .tuple #[.agg #[.slice A1 s.schema.length c1, .slice (some ⟨gF, 0, none⟩) s.files.length d1, .int .i64 s.next], .bool true]) (by simp [results, Try.results44, go_sem, ur]) rfl ?_
        have hch : Chg [w.heap.size + 1 + 1] w7 (sets w7 (w.heap.size + 1 + 1) 0 [.slice A1 s.schema.length c1, .slice (some ⟨gF, 0, none⟩) s.files.length d1, .int .i64 s.next]) := sets_chg (bs := [w.heap.size + 1 + 1]) (g := w.heap.size + 1 + 1) (w := w7) (w1 := w7) (by simp) _ _ 0 (Chg.refl _ _)
        rw [HZ.out.1, HZ.out.2]
        have hlen : (s.files.set i f).length = s.files.length := List.length_set
        obtain ⟨Lz, hz1z, hz2z⟩ := HN.out
        exact ⟨A1, c1, some ⟨gF, 0, none⟩, d1, X, by simp only [hlen], (HF7.out.chg hch (fun b hb h => by have h1 := HBase.out b hb; simp only [List.mem_singleton] at h; omega)).re (fun b hb => by have h1 := HBase.out b hb; omega), HX.out.1, by have := HX.out.2; omega, Nat.le_trans (Nat.le_trans hX3 hz7) hch.size, ⟨Lz, by simp only [hlen]; exact hz1z.chg hch (fun b hb h => by have h1 := (hz1z.base b hb).1; have h2 := HX.out.2; simp only [List.mem_singleton] at h; omega), hz2z⟩, Below.mark hB7 hch hB7.size (by simp only [List.mem_singleton]; intro b hb; omega)⟩
end Go.Proofs.Ytjobgnioehkomaa
