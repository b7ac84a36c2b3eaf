/-
  CONTRACTS: a file is put into a store.
-/
import Derived.WalkKit
import Derived.WalkSpells
import Derived.WalkLawsBesides
import Derived.Lib.Hide
import Derived.Handy
import Derived.StillTailTactics
import Derived.Deep.Light
import Derived.Deep.QuietTactic
import Derived.BigQuiet
import Derived.Deep.RegionHeld3
import Derived.Deep.RegionLaw
import Derived.Sort.Walk0
import Derived.Deep.DeepCutAuto
import Derived.Test.YtjobgnioehkomaaLib
import Derived.Test.YtjobgnioehkomaaOwn
import Derived.Test.YtjobgnioehkomaaRow
import Derived.Test.YtjobgnioehkomaaN0
import Derived.Test.YtjobgnioehkomaaRaw
import Derived.Test.YtjobgnioehkomaaHld
import Derived.Test.YtjobgnioehkomaaM0
import Derived.Test.YtjobgnioehkomaaC1
import Derived.Test.YtjobgnioehkomaaC2
import Derived.Test.YtjobgnioehkomaaT1
import Derived.Test.YtjobgnioehkomaaT2
import Derived.Test.YtjobgnioehkomaaT3
import Derived.Test.YtjobgnioehkomaaT4
import Derived.Test.YtjobgnioehkomaaC3
import Derived.Test.YtjobgnioehkomaaC4
import Derived.Test.YtjobgnioehkomaaC5
import Derived.Test.YtjobgnioehkomaaC8
import Derived.Test.YtjobgnioehkomaaD1
import Derived.Test.YtjobgnioehkomaaD3
import Derived.Test.YtjobgnioehkomaaD5
import Derived.Test.YtjobgnioehkomaaH1
import Derived.Test.YtjobgnioehkomaaE3
import Derived.Test.YtjobgnioehkomaaE4
import Derived.Test.YtjobgnioehkomaaE5
import Derived.Test.YtjobgnioehkomaaE6
import Derived.Test.YtjobgnioehkomaaRows
namespace Go.Proofs.Ytjobgnioehkomaa
open Go.RowKit
set_option linter.unusedVariables false
set_option maxRecDepth 100000
def creF (s : Sto) (f : Fil) : Fil := { f with id := s.next }
noncomputable def creOk (s : Sto) (f : Fil) : Bool := validS s && decide (s.files.length < 12) && validF s.schema (creF s f)
noncomputable def creS (s : Sto) (f : Fil) : Sto := if creOk s f then ⟨s.schema, s.files ++ [creF s f], s.next + 1⟩ else s
noncomputable def creId (s : Sto) (f : Fil) : Int := if creOk s f then s.next else 0
theorem validS_next {s : Sto} (h : validS s = true) : 1 ≤ s.next ∧ s.next ≤ 61 := by
  unfold validS inB at h
  simp only [Bool.and_eq_true, decide_eq_true_eq] at h
  exact ⟨h.2.2.1, h.2.2.2⟩
set_option maxHeartbeats 6400000 in
theorem spec_CreateFile (s : Sto) (A : Option Addr) (n c : Nat) (B : Option Addr) (m d : Nat) (f : Fil) (P : Option Addr) (q r : Nat) (w : World) (hS : Sl 2 RFld w A n s.schema) (hT : Sl 5 RFil w B m s.files) (hP : Sl 4 RAtr w P q f.attrs) (hok : s.ok 1073741824) (hf : f.ok 1073741824) :
    Calls Try.prog 127 #[s.v A n c B m d, f.v P q r] w (NewStoR (fun v => .tuple #[v, .int .i64 (creId s f), .bool (creOk s f)]) 138 28 84 w (creS s f)) := by
  obtain rfl : s.files.length = m := hT.len
  obtain rfl : s.schema.length = n := hS.len
  obtain rfl : f.attrs.length = q := hP.len
  have hok2 := hok
  have hn := hok2.1
  have hm := hok.2.2.1
  have hf2 : (creF s f).ok 1073741824 := hf
  obtain ⟨ii, hi, hi0, hi1, hi2⟩ := info_parts info_File
  have HCP := Lib.hid fun w' (hb : Below w.heap.size w w') => spec_l05Copy s A s.schema.length c B s.files.length d w' (hS.mono mFld hb) (hT.mono mFil hb) hok2
  have HPP := Lib.hid fun w' (hb : Below w.heap.size w w') => hP.mono mAtr hb
  have HFC := Lib.hid fun w' (hS : Sl 4 RAtr w' P f.attrs.length f.attrs) => spec_l04Copy f P f.attrs.length r w' hS hf.1
  have HV := Lib.hid fun (Ar : Option Addr) (cr : Nat) (Br : Option Addr) (dr : Nat) w' (hS : Sl 2 RFld w' Ar s.schema.length s.schema) (hT : Sl 5 RFil w' Br s.files.length s.files) => spec_IsValidStore s Ar s.schema.length cr Br s.files.length dr w' hS hT hok2
  have HVF := Lib.hid fun (Ar : Option Addr) (cr : Nat) (Q : Option Addr) (qc : Nat) w' (hS : Sl 2 RFld w' Ar s.schema.length s.schema) (hP : Sl 4 RAtr w' Q f.attrs.length f.attrs) => spec_IsValidFile Ar s.schema.length cr s.schema (creF s f) Q f.attrs.length qc w' hS hn hP hok2.2.1 hf2
  clear hS hT hP hf2
  go_enter Try.func127, Try.ntmps127
  go_upto_region 1 with fail
  generalize hW : World.alloc (World.alloc (World.alloc w _) _) _ = W0
  have hb0 : HasB W0 [(w.heap.size, #[.slice A s.schema.length c, .slice B s.files.length d, .int .i64 s.next], 40), (w.heap.size + 1, #[.int .i64 f.id, .int .i64 f.owner, .bool f.shared, .int .i64 f.link, .slice P f.attrs.length r], 28), (w.heap.size + 1 + 1, #[.slice none 0 0, .slice none 0 0, .int .i64 0], 40)] := by
    rw [← hW]; intro x hx
    simp only [List.mem_cons, List.not_mem_nil, or_false] at hx
    rcases hx with rfl | rfl | rfl
    all_goals (simp only; repeat first | exact hp_new (by simp) | rw [hp_old (by simp <;> omega)])
  have hB0 : Below w.heap.size w W0 := by rw [← hW]; go_grown
  have hs0 : w.heap.size + 1 + 1 + 1 = W0.heap.size := by rw [← hW]; simp
  clear hW
  have us := blk_cell? (hb0 _ (List.Mem.head _))
  have vs := blk_free (hb0 _ (List.Mem.head _))
  have ls := blk_lt (hb0 _ (List.Mem.head _))
  simp only at ls
  have uf := blk_cell? (hb0 _ (List.Mem.tail _ (List.Mem.head _)))
  have vf := blk_free (hb0 _ (List.Mem.tail _ (List.Mem.head _)))
  have lf := blk_lt (hb0 _ (List.Mem.tail _ (List.Mem.head _)))
  simp only at lf
  have ur := blk_cell? (hb0 _ (List.Mem.tail _ (List.Mem.tail _ (List.Mem.head _))))
  have vr := blk_free (hb0 _ (List.Mem.tail _ (List.Mem.tail _ (List.Mem.head _))))
  have lr := blk_lt (hb0 _ (List.Mem.tail _ (List.Mem.tail _ (List.Mem.head _))))
  simp only at lr
  have HB0 := Lib.hid hb0
  clear hb0
  go_wp2_with fail
  refine (HCP.out _ hB0).mono ?_; rintro e w1 ⟨A1, c1, B1, d1, X, rfl, hF1, hX1, hX2, hX3, hR1, hb1⟩
  have hB1 := ex_trans hB0 hb1
  have HB1 := Lib.hid (HB0.out.below hb1)
  clear us vs ls uf vf lf ur vr lr
  have us := blk_cell? (HB1.out _ (List.Mem.head _))
  have vs := blk_free (HB1.out _ (List.Mem.head _))
  have ls := blk_lt (HB1.out _ (List.Mem.head _))
  simp only at ls
  have uf := blk_cell? (HB1.out _ (List.Mem.tail _ (List.Mem.head _)))
  have vf := blk_free (HB1.out _ (List.Mem.tail _ (List.Mem.head _)))
  have lf := blk_lt (HB1.out _ (List.Mem.tail _ (List.Mem.head _)))
  simp only at lf
  have ur := blk_cell? (HB1.out _ (List.Mem.tail _ (List.Mem.tail _ (List.Mem.head _))))
  have vr := blk_free (HB1.out _ (List.Mem.tail _ (List.Mem.tail _ (List.Mem.head _))))
  have lr := blk_lt (HB1.out _ (List.Mem.tail _ (List.Mem.tail _ (List.Mem.head _))))
  simp only at lr
  have HRW := Lib.hid (And.intro hF1 (And.intro hX1 (And.intro hX2 hR1)))
  have hz1 : W0.heap.size ≤ w1.heap.size := hb1.size
  clear hF1 hX1 hX2 hR1 hb1
  go_upto_region 2 with fail
  generalize hW : World.setCell (World.setCell (World.setCell w1 _ _) _ _) _ _ = W2
  have hc12 : Chg [w.heap.size] w1 W2 := by rw [← hW]; exact (((Chg.refl _ _).set (by simp) _).set (by simp) _).set (by simp) _
  have hb2 : HasB W2 [(w.heap.size, #[.slice A1 s.schema.length c1, .slice B1 s.files.length d1, .int .i64 s.next], 40), (w.heap.size + 1, #[.int .i64 f.id, .int .i64 f.owner, .bool f.shared, .int .i64 f.link, .slice P f.attrs.length r], 28), (w.heap.size + 1 + 1, #[.slice none 0 0, .slice none 0 0, .int .i64 0], 40)] := by
    intro x hx
    simp only [List.mem_cons, List.not_mem_nil, or_false] at hx
    rcases hx with rfl | rfl | rfl
    · rw [← hW]; exact sets_blk [.slice A1 s.schema.length c1, .slice B1 s.files.length d1, .int .i64 s.next] w1 0 _ (HB1.out _ (List.Mem.head _))
    · exact hc12.keepb (HB1.out _ (List.Mem.tail _ (List.Mem.head _))) (by simp only [List.mem_singleton]; omega)
    · exact hc12.keepb (HB1.out _ (List.Mem.tail _ (List.Mem.tail _ (List.Mem.head _)))) (by simp only [List.mem_singleton]; omega)
  have hB2 : Below w.heap.size w W2 := Below.mark hB1 hc12 hB1.size (by simp)
  have hF2 := HRW.out.1.chg hc12 (fun b hb h => by have h1 := (HRW.out.1.base b hb).1; simp at h; omega)
  obtain ⟨L0, hL01, hL02⟩ := HRW.out.2.2.2
  have HLT := Lib.hid (fun b hb => (hL01.base b hb))
  have HLE := Lib.hid hL02
  have HNA := Lib.hid (fun b hb => (HRW.out.1.base b hb).2)
  have hN2 := hL01.chg hc12 (fun b hb h => by have h3 := (hL01.base b hb).1; have h4 := HRW.out.2.2.1; simp at h; omega)
  have HN2 := Lib.hid hN2
  have hR2 : FRows 28 84 W2 X B1 s.files.length d1 s.files := ⟨L0, hN2, hL02⟩
  have HX := Lib.hid (And.intro HRW.out.2.1 HRW.out.2.2.1)
  have HNO := Lib.hid (show ∀ b ∈ rowBs B1 d1, b < w1.heap.size from by obtain ⟨L, h1, _⟩ := HRW.out.2.2.2; exact fun b hb => (h1.1.base b hb).2)
  have hbase : ∀ b ∈ rowBs A1 c1, W0.heap.size ≤ b := fun b hb => (HRW.out.1.base b hb).1
  have HR2 := Lib.hid (And.intro hF2 hR2)
  have HB2 := Lib.hid hb2
  have HBase := Lib.hid hbase
  have hz2 : w1.heap.size ≤ W2.heap.size := hc12.size
  clear us vs ls uf vf lf ur vr lr
  clear hW hb2 hc12 HRW HB1 HB0 hF2 hR2 hbase hL01 hL02 hN2
  have uo := blk_cell? (HB2.out _ (List.Mem.head _))
  have vo := blk_free (HB2.out _ (List.Mem.head _))
  have lo := blk_lt (HB2.out _ (List.Mem.head _))
  simp only at lo
  have uf := blk_cell? (HB2.out _ (List.Mem.tail _ (List.Mem.head _)))
  have vf := blk_free (HB2.out _ (List.Mem.tail _ (List.Mem.head _)))
  have lf := blk_lt (HB2.out _ (List.Mem.tail _ (List.Mem.head _)))
  simp only at lf
  have ur := blk_cell? (HB2.out _ (List.Mem.tail _ (List.Mem.tail _ (List.Mem.head _))))
  have vr := blk_free (HB2.out _ (List.Mem.tail _ (List.Mem.tail _ (List.Mem.head _))))
  have lr := blk_lt (HB2.out _ (List.Mem.tail _ (List.Mem.tail _ (List.Mem.head _))))
  simp only at lr
  have HQ2 := Lib.hid (And.intro HR2.out.1 HN2.out)
  have hll : L0.length = s.files.length := by rw [← HLE.out]; simp
  go_wp2_with fail
  refine (HFC.out _ (HPP.out _ hB2)).mono ?_; rintro e w3 ⟨A3, c3, rfl, hr3, hb3⟩
  have HB3 := Lib.hid (HB2.out.below hb3)
  have HQ3 := Lib.hid (And.intro (HQ2.out.1.below hb3) (HQ2.out.2.below hb3))
  have hB3 := ex_trans hB2 hb3
  have hz3 := Nat.le_trans hz2 hb3.size
  clear uo vo lo uf vf lf ur vr lr
  have HR3 := Lib.hid hr3
  have hw12 : w.heap.size < W2.heap.size := by have := blk_lt (HB2.out _ (List.Mem.head _)); exact this
  have hw23 : W2.heap.size ≤ w3.heap.size := hb3.size
  have uo := blk_cell? (HB3.out _ (List.Mem.head _))
  have vo := blk_free (HB3.out _ (List.Mem.head _))
  have lo := blk_lt (HB3.out _ (List.Mem.head _))
  simp only at lo
  have uf := blk_cell? (HB3.out _ (List.Mem.tail _ (List.Mem.head _)))
  have vf := blk_free (HB3.out _ (List.Mem.tail _ (List.Mem.head _)))
  have lf := blk_lt (HB3.out _ (List.Mem.tail _ (List.Mem.head _)))
  simp only at lf
  have ur := blk_cell? (HB3.out _ (List.Mem.tail _ (List.Mem.tail _ (List.Mem.head _))))
  have vr := blk_free (HB3.out _ (List.Mem.tail _ (List.Mem.tail _ (List.Mem.head _))))
  have lr := blk_lt (HB3.out _ (List.Mem.tail _ (List.Mem.tail _ (List.Mem.head _))))
  simp only at lr
  clear hr3 hb3
  go_upto_region 4 with fail
  generalize hW : World.setCell (World.setCell (World.setCell (World.setCell (World.setCell (World.setCell w3 _ _) _ _) _ _) _ _) _ _) _ _ = W4
  have hc34 : Chg [w.heap.size + 1] w3 W4 := by rw [← hW]; exact ((((((Chg.refl _ _).set (by simp) _).set (by simp) _).set (by simp) _).set (by simp) _).set (by simp) _).set (by simp) _
  have hb4 : HasB W4 [(w.heap.size, #[.slice A1 s.schema.length c1, .slice B1 s.files.length d1, .int .i64 s.next], 40), (w.heap.size + 1, #[.int .i64 s.next, .int .i64 f.owner, .bool f.shared, .int .i64 f.link, .slice A3 f.attrs.length c3], 28), (w.heap.size + 1 + 1, #[.slice none 0 0, .slice none 0 0, .int .i64 0], 40)] := by
    intro x hx
    simp only [List.mem_cons, List.not_mem_nil, or_false] at hx
    rcases hx with rfl | rfl | rfl
    · exact hc34.keepb (HB3.out _ (List.Mem.head _)) (by simp only [List.mem_singleton]; omega)
    · rw [← hW]; exact blk_set (sets_blk [.int .i64 f.id, .int .i64 f.owner, .bool f.shared, .int .i64 f.link, .slice A3 f.attrs.length c3] w3 0 _ (HB3.out _ (List.Mem.tail _ (List.Mem.head _)))) 0 _
    · exact hc34.keepb (HB3.out _ (List.Mem.tail _ (List.Mem.tail _ (List.Mem.head _)))) (by simp only [List.mem_singleton]; omega)
  have HB4 := Lib.hid hb4
  have hB4 : Below w.heap.size w W4 := Below.mark hB3 hc34 hB3.size (by simp only [List.mem_singleton]; intro b hb; omega)
  have hz4 : w1.heap.size ≤ W4.heap.size := Nat.le_trans hz3 hc34.size
  have hz4b : w3.heap.size ≤ W4.heap.size := hc34.size
  have HQ4 := Lib.hid (And.intro (HQ3.out.1.chg hc34 (fun b hb h => by have h1 := HBase.out b hb; simp only [List.mem_singleton] at h; omega)) (HQ3.out.2.chg hc34 (fun b hb h => by have h3 := (HLT.out b hb).1; have h4 := HX.out.2; simp only [List.mem_singleton] at h; omega)))
  have HA4 := Lib.hid (HR3.out.chg hc34 (fun b hb h => by have h1 := (HR3.out.base b hb).1; simp only [List.mem_singleton] at h; omega))
  have HAB := Lib.hid (fun b hb => (HR3.out.base b hb))
  clear uo vo lo uf vf lf ur vr lr
  clear hW hb4 hc34
  have uo := blk_cell? (HB4.out _ (List.Mem.head _))
  have vo := blk_free (HB4.out _ (List.Mem.head _))
  have lo := blk_lt (HB4.out _ (List.Mem.head _))
  simp only at lo
  have uf := blk_cell? (HB4.out _ (List.Mem.tail _ (List.Mem.head _)))
  have vf := blk_free (HB4.out _ (List.Mem.tail _ (List.Mem.head _)))
  have lf := blk_lt (HB4.out _ (List.Mem.tail _ (List.Mem.head _)))
  simp only at lf
  have ur := blk_cell? (HB4.out _ (List.Mem.tail _ (List.Mem.tail _ (List.Mem.head _))))
  have vr := blk_free (HB4.out _ (List.Mem.tail _ (List.Mem.tail _ (List.Mem.head _))))
  have lr := blk_lt (HB4.out _ (List.Mem.tail _ (List.Mem.tail _ (List.Mem.head _))))
  simp only at lr
  go_wp2_with fail
  refine (HV.out A1 c1 B1 d1 _ (HQ4.out.1.sl (R := RFld) encFld (fun _ => rfl)) (show FRows 28 84 _ X B1 s.files.length d1 s.files from ⟨L0, HQ4.out.2, HLE.out⟩).sl).mono ?_; rintro e w5 ⟨rfl, hb5⟩
  have HB5 := Lib.hid (HB4.out.below hb5)
  have HQ5 := Lib.hid (And.intro (HQ4.out.1.below hb5) (HQ4.out.2.below hb5))
  have hB5 := ex_trans hB4 hb5
  have hz5 := Nat.le_trans hz4 hb5.size
  clear uo vo lo uf vf lf ur vr lr
  have HA5 := Lib.hid (HA4.out.below hb5)
  have uo := blk_cell? (HB5.out _ (List.Mem.head _))
  have vo := blk_free (HB5.out _ (List.Mem.head _))
  have lo := blk_lt (HB5.out _ (List.Mem.head _))
  simp only at lo
  have uf := blk_cell? (HB5.out _ (List.Mem.tail _ (List.Mem.head _)))
  have vf := blk_free (HB5.out _ (List.Mem.tail _ (List.Mem.head _)))
  have lf := blk_lt (HB5.out _ (List.Mem.tail _ (List.Mem.head _)))
  simp only at lf
  have ur := blk_cell? (HB5.out _ (List.Mem.tail _ (List.Mem.tail _ (List.Mem.head _))))
  have vr := blk_free (HB5.out _ (List.Mem.tail _ (List.Mem.tail _ (List.Mem.head _))))
  have lr := blk_lt (HB5.out _ (List.Mem.tail _ (List.Mem.tail _ (List.Mem.head _))))
  simp only at lr
  clear hb5
  cases hv : validS s with
  | false =>
    go_wp2_with fail
    refine bodyPost_ret (v := .tuple #[.agg #[.slice A1 s.schema.length c1, .slice B1 s.files.length d1, .int .i64 s.next], .int .i64 0, .bool false]) (by simp [results, Try.results127, go_sem, ur]) rfl ?_
    have hch : Chg [w.heap.size + 1 + 1] w5 (sets w5 (w.heap.size + 1 + 1) 0 [.slice A1 s.schema.length c1, .slice B1 s.files.length d1, .int .i64 s.next]) := sets_chg (bs := [w.heap.size + 1 + 1]) (g := w.heap.size + 1 + 1) (w := w5) (w1 := w5) (by simp) _ _ 0 (Chg.refl _ _)
    have hz : creOk s f = false := by unfold creOk; rw [hv]; rfl
    have hr : creS s f = s := by unfold creS; rw [hz]; rfl
    have hi9 : creId s f = 0 := by unfold creId; rw [hz]; rfl
    rw [hz, hr, hi9]
    obtain ⟨Lz, hz1z, hz2z⟩ := (show FRows 28 84 _ X B1 s.files.length d1 s.files from ⟨L0, HQ5.out.2, HLE.out⟩)
    exact ⟨A1, c1, B1, d1, X, rfl, (HQ5.out.1.chg hch (fun b hb h => by have h1 := HBase.out b hb; simp only [List.mem_singleton] at h; omega)).re (fun b hb => by have h1 := HBase.out b hb; omega), HX.out.1, by have := HX.out.2; omega, Nat.le_trans (Nat.le_trans hX3 hz5) hch.size, ⟨Lz, hz1z.chg hch (fun b hb h => by have h1 := (hz1z.base b hb).1; have h2 := HX.out.2; simp only [List.mem_singleton] at h; omega), hz2z⟩, Below.mark hB5 hch hB5.size (by simp only [List.mem_singleton]; intro b hb; omega)⟩
  | true =>
    by_cases h12 : s.files.length < 12
    · have hd : decide ((12 : Int) ≤ (s.files.length : Int)) = false := decide_eq_false (by omega)
      go_wp2_with fail
      refine (HVF.out A1 c1 A3 c3 _ (HQ5.out.1.sl (R := RFld) encFld (fun _ => rfl)) (HA5.out.sl encAtr (fun _ => rfl))).mono ?_; rintro e w6 ⟨rfl, hb6⟩
      have HB6 := Lib.hid (HB5.out.below hb6)
      have HQ6 := Lib.hid (And.intro (HQ5.out.1.below hb6) (HQ5.out.2.below hb6))
      have hB6 := ex_trans hB5 hb6
      have hz6 := Nat.le_trans hz5 hb6.size
      clear uo vo lo uf vf lf ur vr lr
      have HA6 := Lib.hid (HA5.out.below hb6)
      have uo := blk_cell? (HB6.out _ (List.Mem.head _))
      have vo := blk_free (HB6.out _ (List.Mem.head _))
      have lo := blk_lt (HB6.out _ (List.Mem.head _))
      simp only at lo
      have uf := blk_cell? (HB6.out _ (List.Mem.tail _ (List.Mem.head _)))
      have vf := blk_free (HB6.out _ (List.Mem.tail _ (List.Mem.head _)))
      have lf := blk_lt (HB6.out _ (List.Mem.tail _ (List.Mem.head _)))
      simp only at lf
      have ur := blk_cell? (HB6.out _ (List.Mem.tail _ (List.Mem.tail _ (List.Mem.head _))))
      have vr := blk_free (HB6.out _ (List.Mem.tail _ (List.Mem.tail _ (List.Mem.head _))))
      have lr := blk_lt (HB6.out _ (List.Mem.tail _ (List.Mem.tail _ (List.Mem.head _))))
      simp only at lr
      have hz6b := hb6.size
      clear hb6
      cases hw : validF s.schema (creF s f) with
      | false =>
        go_wp2_with fail
        refine bodyPost_ret (v := .tuple #[.agg #[.slice A1 s.schema.length c1, .slice B1 s.files.length d1, .int .i64 s.next], .int .i64 0, .bool false]) (by simp [results, Try.results127, go_sem, ur]) rfl ?_
        have hch : Chg [w.heap.size + 1 + 1] w6 (sets w6 (w.heap.size + 1 + 1) 0 [.slice A1 s.schema.length c1, .slice B1 s.files.length d1, .int .i64 s.next]) := sets_chg (bs := [w.heap.size + 1 + 1]) (g := w.heap.size + 1 + 1) (w := w6) (w1 := w6) (by simp) _ _ 0 (Chg.refl _ _)
        have hz : creOk s f = false := by unfold creOk; rw [hw]; simp
        have hr : creS s f = s := by unfold creS; rw [hz]; rfl
        have hi9 : creId s f = 0 := by unfold creId; rw [hz]; rfl
        rw [hz, hr, hi9]
        obtain ⟨Lz, hz1z, hz2z⟩ := (show FRows 28 84 _ X B1 s.files.length d1 s.files from ⟨L0, HQ6.out.2, HLE.out⟩)
        exact ⟨A1, c1, B1, d1, X, rfl, (HQ6.out.1.chg hch (fun b hb h => by have h1 := HBase.out b hb; simp only [List.mem_singleton] at h; omega)).re (fun b hb => by have h1 := HBase.out b hb; omega), HX.out.1, by have := HX.out.2; omega, Nat.le_trans (Nat.le_trans hX3 hz6) hch.size, ⟨Lz, hz1z.chg hch (fun b hb h => by have h1 := (hz1z.base b hb).1; have h2 := HX.out.2; simp only [List.mem_singleton] at h; omega), hz2z⟩, Below.mark hB6 hch hB6.size (by simp only [List.mem_singleton]; intro b hb; omega)⟩
      | true =>
        have hz : creOk s f = true := by unfold creOk; rw [hv, decide_eq_true h12, hw]; rfl
        have hr : creS s f = ⟨s.schema, s.files ++ [creF s f], s.next + 1⟩ := by unfold creS; rw [hz]; rfl
        have hi9 : creId s f = s.next := by unfold creId; rw [hz]; rfl
        have HZ := Lib.hid (And.intro hz (And.intro hr hi9))
        clear hr hz hi9
        have hnx := validS_next hv
        have hwr : IntKind.i64.wrap (s.next + 1) = s.next + 1 := IntWalk.i64_in _ (by omega)
        have hXb : w.heap.size ≤ X := by have := HX.out.2; omega
        have hX6 : X ≤ w6.heap.size := by omega
        go_upto_region 8 with (at_builtin; refine wpList_append_row rfl _ _ _ rfl encFh Try.underlying38 hi hi0 hi1 hi2 rfl rfl rfl (HQ6.out.2.1.below (ex_alloc (Below.refl _ _) _)) (src1 encFh _ (⟨s.next, f.owner, f.shared, f.link, A3, f.attrs.length, c3⟩ : Fh) _ rfl rfl) (by unfold maxLen; omega) (by omega) (by simp; omega) ?_; intro B7 d7 w7 hr7 hc7 hx7; have HR7 := Lib.hid (And.intro hr7 (And.intro hc7 hx7)); have HB7 := Lib.hid ((HB6.out.below (show Below w6.heap.size w6 _ by go_grown)).chg hc7 (fun x hx h => by have h1 := HLT.out _ (List.mem_append_left _ h); have h2 := HX.out.2; simp only [List.mem_cons, List.not_mem_nil, or_false] at hx; rcases hx with rfl | rfl | rfl <;> (simp only at h1; omega))); have hB7 := Below.mark (show Below w.heap.size w _ from ex_alloc hB6 _) hc7 (by have := hB6.size; simp; omega) (fun b hb => by have h1 := (HLT.out _ (List.mem_append_left _ hb)).1; omega); have HF7 := Lib.hid ((HQ6.out.1.below (ex_alloc (Below.refl _ _) _)).chg hc7 (fun b hb h => by have h1 := HX.out.1 b hb; have h2 := (HLT.out _ (List.mem_append_left _ h)).1; omega)); have hz7 := hc7.size; clear uo vo lo uf vf lf ur vr lr; have uo := blk_cell? (HB7.out _ (List.Mem.head _)); have vo := blk_free (HB7.out _ (List.Mem.head _)); have lo := blk_lt (HB7.out _ (List.Mem.head _)); simp only at lo; have uf := blk_cell? (HB7.out _ (List.Mem.tail _ (List.Mem.head _))); have vf := blk_free (HB7.out _ (List.Mem.tail _ (List.Mem.head _))); have lf := blk_lt (HB7.out _ (List.Mem.tail _ (List.Mem.head _))); simp only at lf; have ur := blk_cell? (HB7.out _ (List.Mem.tail _ (List.Mem.tail _ (List.Mem.head _)))); have vr := blk_free (HB7.out _ (List.Mem.tail _ (List.Mem.tail _ (List.Mem.head _)))); have lr := blk_lt (HB7.out _ (List.Mem.tail _ (List.Mem.tail _ (List.Mem.head _)))); simp only at lr; clear hr7 hc7 hx7)
        generalize hW : World.setCell (World.setCell w7 _ _) _ _ = W8
        have hc78 : Chg [w.heap.size] w7 W8 := by rw [← hW]; exact ((Chg.refl _ _).set (by simp) _).set (by simp) _
        have hb8 : HasB W8 [(w.heap.size, #[.slice A1 s.schema.length c1, .slice B7 (s.files.length + 1) d7, .int .i64 (s.next + 1)], 40), (w.heap.size + 1, #[.int .i64 s.next, .int .i64 f.owner, .bool f.shared, .int .i64 f.link, .slice A3 f.attrs.length c3], 28), (w.heap.size + 1 + 1, #[.slice none 0 0, .slice none 0 0, .int .i64 0], 40)] := by
          intro x hx
          simp only [List.mem_cons, List.not_mem_nil, or_false] at hx
          rcases hx with rfl | rfl | rfl
          · rw [← hW]; exact blk_set (blk_set (HB7.out _ (List.Mem.head _)) 1 _) 2 _
          · exact hc78.keepb (HB7.out _ (List.Mem.tail _ (List.Mem.head _))) (by simp only [List.mem_singleton]; omega)
          · exact hc78.keepb (HB7.out _ (List.Mem.tail _ (List.Mem.tail _ (List.Mem.head _)))) (by simp only [List.mem_singleton]; omega)
        have HB8 := Lib.hid hb8
        clear hW hb8
        have hpush := (HQ6.out.2.below (ex_alloc (Below.refl _ _) _)).push (x := ((⟨s.next, f.owner, f.shared, f.link, A3, f.attrs.length, c3⟩ : Fh), f.attrs)) (show NK.inner (KFil 28 84) _ X ((⟨s.next, f.owner, f.shared, f.link, A3, f.attrs.length, c3⟩ : Fh), f.attrs) from ((HA6.out.below (ex_alloc (Below.refl _ _) (.cells #[.int .i64 s.next, .int .i64 f.owner, .bool f.shared, .int .i64 f.link, .slice A3 f.attrs.length c3] 28))).re (fun b hb => by have h1 := (HAB.out b hb).1; omega))) (fun b hb hm => by have h1 := (HAB.out b hb).1; have h2 := (HLT.out _ hm).2; omega)
        have hN7 : NRow (KFil 28 84) w7 X B7 (s.files.length + 1) d7 (L0 ++ [((⟨s.next, f.owner, f.shared, f.link, A3, f.attrs.length, c3⟩ : Fh), f.attrs)]) := NRow.turn (by simpa using HR7.out.1) HR7.out.2.1 HR7.out.2.2 hpush.1 hpush.2
        have hno : ∀ b ∈ rowBs B7 d7 ++ NK.all (KFil 28 84) (L0 ++ [((⟨s.next, f.owner, f.shared, f.link, A3, f.attrs.length, c3⟩ : Fh), f.attrs)]), b ≠ w.heap.size := fun b hb e => by
          subst e
          have h2 := HX.out.2
          rcases List.mem_append.1 hb with hb | hb
          · rcases HR7.out.2.2 _ hb with h | h
            · have h1 := HLT.out _ (List.mem_append_left _ h); omega
            · simp at h; omega
          · obtain ⟨y, hy, hby⟩ := NK.all_mem.1 hb
            rcases List.mem_append.1 hy with hy | hy
            · have h1 := HLT.out _ (List.mem_append_right _ (NK.all_mem.2 ⟨y, hy, hby⟩)); omega
            · obtain rfl : y = ((⟨s.next, f.owner, f.shared, f.link, A3, f.attrs.length, c3⟩ : Fh), f.attrs) := by simpa using hy
              have h1 := (HAB.out _ hby).1; omega
        have HN8 := Lib.hid (hN7.chg hc78 (fun b hb h => by simp only [List.mem_singleton] at h; exact hno b hb h))
        have HF8 := Lib.hid (HF7.out.chg hc78 (fun b hb h => by have h1 := HNA.out b hb; have h2 := HBase.out b hb; simp only [List.mem_singleton] at h; omega))
        have hB8 := Below.mark hB7 hc78 hB7.size (by simp only [List.mem_singleton]; intro b hb; omega)
        have hz78 := hc78.size
        clear hpush hN7 hno hc78
        clear uo vo lo uf vf lf ur vr lr
        have uo := blk_cell? (HB8.out _ (List.Mem.head _))
        have vo := blk_free (HB8.out _ (List.Mem.head _))
        have lo := blk_lt (HB8.out _ (List.Mem.head _))
        simp only at lo
        have uf := blk_cell? (HB8.out _ (List.Mem.tail _ (List.Mem.head _)))
        have vf := blk_free (HB8.out _ (List.Mem.tail _ (List.Mem.head _)))
        have lf := blk_lt (HB8.out _ (List.Mem.tail _ (List.Mem.head _)))
        simp only at lf
        have ur := blk_cell? (HB8.out _ (List.Mem.tail _ (List.Mem.tail _ (List.Mem.head _))))
        have vr := blk_free (HB8.out _ (List.Mem.tail _ (List.Mem.tail _ (List.Mem.head _))))
        have lr := blk_lt (HB8.out _ (List.Mem.tail _ (List.Mem.tail _ (List.Mem.head _))))
        simp only at lr
        have uo0 := uo 0
        have uo1 := uo 1
        have uo2 := uo 2
        have uf0 := uf 0
        simp only [List.getElem?_toArray, List.getElem?_cons_zero, List.getElem?_cons_succ] at uo0 uo1 uo2 uf0
        refine wp_region_held_drew (S := (fun w' => w'.cell? ⟨w.heap.size, 0, none⟩ = some (.slice A1 s.schema.length c1) ∧ w'.cell? ⟨w.heap.size, 1, none⟩ = some (.slice B7 (s.files.length + 1) d7) ∧ w'.cell? ⟨w.heap.size, 2, none⟩ = some (.int .i64 (s.next + 1)) ∧ w'.cell? ⟨w.heap.size + 1, 0, none⟩ = some (.int .i64 s.next))) (by kernel_rfl) (by (try dsimp only); exact ⟨uo0, uo1, uo2, uf0⟩) (fun hHeld => ?_)
        first | (refine held_take 0 rfl (by kernel_rfl) (by kernel_rfl) (by kernel_rfl) (by rfl) (fun _ _ _ h => h) (by assumption) (by intro w hSw; (try dsimp only at hSw); go_simp; first | done | with_reducible rfl) ?_) | (refine held_skip 0 rfl (by kernel_rfl) (by kernel_rfl) (by kernel_rfl) (by rfl) (fun _ _ _ h => h) (by assumption) ?_)
        simp only [Act.put, List.setIfInBounds_toArray, List.set_cons_zero, List.set_cons_succ]
        first | (refine held_take 1 rfl (by kernel_rfl) (by kernel_rfl) (by kernel_rfl) (by rfl) (fun _ _ _ h => h) (by assumption) (by intro w hSw; (try dsimp only at hSw); go_simp; first | done | with_reducible rfl) ?_) | (refine held_skip 1 rfl (by kernel_rfl) (by kernel_rfl) (by kernel_rfl) (by rfl) (fun _ _ _ h => h) (by assumption) ?_)
        simp only [Act.put, List.setIfInBounds_toArray, List.set_cons_zero, List.set_cons_succ]
        first | (refine held_take 2 rfl (by kernel_rfl) (by kernel_rfl) (by kernel_rfl) (by rfl) (fun _ _ _ h => h) (by assumption) (by intro w hSw; (try dsimp only at hSw); go_simp; first | done | with_reducible rfl) ?_) | (refine held_skip 2 rfl (by kernel_rfl) (by kernel_rfl) (by kernel_rfl) (by rfl) (fun _ _ _ h => h) (by assumption) ?_)
        simp only [Act.put, List.setIfInBounds_toArray, List.set_cons_zero, List.set_cons_succ]
        refine held_one 3 (by kernel_rfl) rfl (fun K hK => ?_)
        go_simp
        have hst : Chg [w.heap.size + 1 + 1] W8.drew (sets W8.drew (w.heap.size + 1 + 1) 0 [.slice A1 s.schema.length c1, .slice B7 (s.files.length + 1) d7, .int .i64 (s.next + 1)]) := sets_chg (bs := [w.heap.size + 1 + 1]) (g := w.heap.size + 1 + 1) (w := W8.drew) (w1 := W8.drew) (by simp) _ _ 0 (Chg.refl _ _)
        refine hK.out _ _ (by (try dsimp only); exact ⟨hst.cell hHeld.1 (by simp only [List.mem_singleton]; omega), hst.cell hHeld.2.1 (by simp only [List.mem_singleton]; omega), hst.cell hHeld.2.2.1 (by simp only [List.mem_singleton]; omega), hst.cell hHeld.2.2.2 (by simp only [List.mem_singleton]; omega)⟩) (fun hNew => ?_)
        clear hK K hHeld
        have hHeld := hNew
        clear hNew
        try simp only [Act.put, List.setIfInBounds_toArray, List.set_cons_zero, List.set_cons_succ]
        first | (refine held_take 4 rfl (by kernel_rfl) (by kernel_rfl) (by kernel_rfl) (by rfl) (fun _ _ _ h => h) (by assumption) (by intro w hSw; (try dsimp only at hSw); go_simp; first | done | with_reducible rfl) ?_) | (refine held_skip 4 rfl (by kernel_rfl) (by kernel_rfl) (by kernel_rfl) (by rfl) (fun _ _ _ h => h) (by assumption) ?_)
        simp only [Act.put, List.setIfInBounds_toArray, List.set_cons_zero, List.set_cons_succ]
        first | (refine held_take 5 rfl (by kernel_rfl) (by kernel_rfl) (by kernel_rfl) (by rfl) (fun _ _ _ h => h) (by assumption) (by intro w hSw; (try dsimp only at hSw); go_simp; first | done | with_reducible rfl) ?_) | (refine held_skip 5 rfl (by kernel_rfl) (by kernel_rfl) (by kernel_rfl) (by rfl) (fun _ _ _ h => h) (by assumption) ?_)
        simp only [Act.put, List.setIfInBounds_toArray, List.set_cons_zero, List.set_cons_succ]
        refine wpAnyH_done (by kernel_rfl) ?_ _
        go_wp2_with fail
        have hz8 : w1.heap.size ≤ W8.drew.heap.size := by have h1 := hz78; have h2 := hz7; simp at h2; exact (by omega : w1.heap.size ≤ W8.heap.size)
        clear hHeld hst
        refine bodyPost_ret (v := .tuple #[.agg #[.slice A1 s.schema.length c1, .slice B7 (s.files.length + 1) d7, .int .i64 (s.next + 1)], .int .i64 s.next, .bool true]) (by simp [results, Try.results127, go_sem, ur]) rfl ?_
        have hch : Chg [w.heap.size + 1 + 1] W8.drew (sets W8.drew (w.heap.size + 1 + 1) 0 [.slice A1 s.schema.length c1, .slice B7 (s.files.length + 1) d7, .int .i64 (s.next + 1)]) := sets_chg (bs := [w.heap.size + 1 + 1]) (g := w.heap.size + 1 + 1) (w := W8.drew) (w1 := W8.drew) (by simp) _ _ 0 (Chg.refl _ _)
        rw [HZ.out.1, HZ.out.2.1, HZ.out.2.2]
        have hlen : (s.files ++ [creF s f]).length = s.files.length + 1 := by simp
        have hN9 := HN8.out.below (show Below W8.heap.size W8 W8.drew from (Below.refl _ _).drew)
        have hF9 := HF8.out.below (show Below W8.heap.size W8 W8.drew from (Below.refl _ _).drew)
        have hB9 : Below w.heap.size w W8.drew := hB8.drew
        exact ⟨A1, c1, B7, d7, X, by simp only [hlen], (hF9.chg hch (fun b hb h => by have h1 := HBase.out b hb; simp only [List.mem_singleton] at h; omega)).re (fun b hb => by have h1 := HBase.out b hb; omega), HX.out.1, by have := HX.out.2; omega, Nat.le_trans (Nat.le_trans hX3 hz8) hch.size, ⟨_, by simp only [hlen]; exact hN9.chg hch (fun b hb h => by have h1 := (hN9.base b hb).1; have h2 := HX.out.2; simp only [List.mem_singleton] at h; omega), by rw [List.map_append, HLE.out]; rfl⟩, Below.mark hB9 hch hB9.size (by simp only [List.mem_singleton]; intro b hb; omega)⟩
    · have hd : decide ((12 : Int) ≤ (s.files.length : Int)) = true := decide_eq_true (by omega)
      go_wp2_with fail
      refine bodyPost_ret (v := .tuple #[.agg #[.slice A1 s.schema.length c1, .slice B1 s.files.length d1, .int .i64 s.next], .int .i64 0, .bool false]) (by simp [results, Try.results127, go_sem, ur]) rfl ?_
      have hch : Chg [w.heap.size + 1 + 1] w5 (sets w5 (w.heap.size + 1 + 1) 0 [.slice A1 s.schema.length c1, .slice B1 s.files.length d1, .int .i64 s.next]) := sets_chg (bs := [w.heap.size + 1 + 1]) (g := w.heap.size + 1 + 1) (w := w5) (w1 := w5) (by simp) _ _ 0 (Chg.refl _ _)
      have hz : creOk s f = false := by unfold creOk; rw [decide_eq_false h12]; simp
      have hr : creS s f = s := by unfold creS; rw [hz]; rfl
      have hi9 : creId s f = 0 := by unfold creId; rw [hz]; rfl
      rw [hz, hr, hi9]
      obtain ⟨Lz, hz1z, hz2z⟩ := (show FRows 28 84 _ X B1 s.files.length d1 s.files from ⟨L0, HQ5.out.2, HLE.out⟩)
      exact ⟨A1, c1, B1, d1, X, rfl, (HQ5.out.1.chg hch (fun b hb h => by have h1 := HBase.out b hb; simp only [List.mem_singleton] at h; omega)).re (fun b hb => by have h1 := HBase.out b hb; omega), HX.out.1, by have := HX.out.2; omega, Nat.le_trans (Nat.le_trans hX3 hz5) hch.size, ⟨Lz, hz1z.chg hch (fun b hb h => by have h1 := (hz1z.base b hb).1; have h2 := HX.out.2; simp only [List.mem_singleton] at h; omega), hz2z⟩, Below.mark hB5 hch hB5.size (by simp only [List.mem_singleton]; intro b hb; omega)⟩
end Go.Proofs.Ytjobgnioehkomaa
