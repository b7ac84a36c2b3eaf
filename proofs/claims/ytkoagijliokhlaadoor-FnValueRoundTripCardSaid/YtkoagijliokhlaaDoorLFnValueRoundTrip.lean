/-
  FnValueRoundTrip RETURNS true AND LEAVES ITS ARGUMENTS AS THEY WERE, FOR EVERY INPUT THAT THE STATEMENT SPEAKS OF. No condition.
-/
import Derived.WalkKit
import Derived.ProofKit
import Derived.OpenShut
import Derived.Handy
import Derived.Lib.Hide
import Derived.Deep.QuietTactic
import Derived.BigQuiet
import Derived.Deep.RegionHeld3
import Derived.Deep.DeepCutAuto
import Derived.Test.YtkoagijliokhlaaDoorLib
import Derived.Test.YtkoagijliokhlaaDoorOp
import Derived.Test.YtkoagijliokhlaaDoorC1
import Derived.Test.YtkoagijliokhlaaDoorC2
import Derived.Test.YtkoagijliokhlaaDoorC4
import Derived.Test.YtkoagijliokhlaaDoorOwn
import Derived.Test.YtkoagijliokhlaaDoorRow
import Derived.Test.YtkoagijliokhlaaDoorN0
import Derived.Test.YtkoagijliokhlaaDoorHld
import Derived.Test.YtkoagijliokhlaaDoorD1
import Derived.Test.YtkoagijliokhlaaDoorSz
import Derived.Test.YtkoagijliokhlaaDoorX0
import Derived.Test.YtkoagijliokhlaaDoorX1
import Derived.Test.YtkoagijliokhlaaDoorX2
import Derived.Test.YtkoagijliokhlaaDoorX3
import Derived.Test.YtkoagijliokhlaaDoorX4
import Derived.Test.YtkoagijliokhlaaDoorY1
import Derived.Test.YtkoagijliokhlaaDoorY2
import Derived.Test.YtkoagijliokhlaaDoorY3
import Derived.Test.YtkoagijliokhlaaDoorY4
import Derived.Test.YtkoagijliokhlaaDoorP5
import Derived.Test.YtkoagijliokhlaaDoorRows
import Derived.Test.YtkoagijliokhlaaDoorLibD
import Derived.Test.YtkoagijliokhlaaDoorCards
import Derived.Test.YtkoagijliokhlaaDoorTie
namespace Go.Proofs.YtkoagijliokhlaaDoor
open Go.RowKit Go.ChangeShapes Go.WideShapes Go.ChangeAt Go.ChangeMaps
set_option linter.unusedVariables false
set_option maxRecDepth 100000
set_option maxHeartbeats 4000000 in
theorem walk_FnValueRoundTrip (W : World) (A0 : Option Addr) (n0 c0 : Nat) (l0 : List Int) (hS0 : Sl 1 RByt W A0 n0 l0) (hn0 : n0 ≤ maxLen) (hl0 : ∀ y ∈ l0, 0 ≤ y ∧ y ≤ 255) (hT : PowT W) (hE : ErrV W) : Calls Tryd.prog 5 #[.slice A0 n0 c0] W fun e w' => e = .returned (.bool true) ∧ Below W.heap.size W w' := by
  by_cases hc : n0 ≤ 1048576
  · have HV := Lib.hid (spec_DrawFormatValue A0 n0 c0 l0 W hS0 hc hl0)
    have HD := Lib.hid fun w' (hb : Below W.heap.size W w') => spec_DrawParseValue A0 n0 c0 l0 w' (hS0.mono mByt hb) hc hl0
    have HT := Lib.hid hT
    have HE := Lib.hid hE
    clear hS0 hl0 hT hE
    go_enter Tryd.func5, Tryd.ntmps5
    go_wp2_with fail
    refine (laws_big_f A0 n0 c0 _ hc).mono ?_; rintro e w0 ⟨rfl, rfl⟩
    go_wp2_with fail
    refine HV.out.mono ?_; rintro e w1 ⟨v, rfl, hv, hb1⟩
    have HB1 := Lib.hid hb1
    have hvs : v.str.size ≤ 1073741824 := by unfold Vl.small at hv; omega
    obtain ⟨s, hs⟩ : ∃ s, fmtV v = s := ⟨_, rfl⟩
    have hsz : s.size ≤ 1048576 := by rw [← hs]; have := fmtV_size v hv; omega
    have HFi := Lib.hid fun w' (h : PowT w') => impl_FormatValue v w' hvs h
    have HFs := Lib.hid fun w' => spec_FormatValue v w' hvs
    have HIs := Lib.hid fun w' => spec_IsValidValue v w' hvs
    have HPs := Lib.hid fun w' (h : PowT w') (h2 : ErrV w') => impl_ParseValue s hsz w' h h2
    rw [hs] at HFi HFs
    have HQ1 := Lib.hid (show okVl v = true → pvV s = v ∧ pvB s = true from fun h => by rw [← hs]; exact pv_fmt h)
    have HQ2 := Lib.hid (show okVl v = false → pvB s = false from fun h => by rw [← hs]; exact pv_bad_fmt h)
    clear hs hv hb1
    go_wp2_with fail
    refine (HFi.out _ (tab_on HT.out (ex_alloc HB1.out _))).mono ?_; rintro e w2 ⟨rfl, hb2⟩
    have HR2 := Lib.hid (show HasB w2 [(w1.heap.size, #[.int .i64 v.kind, .int .i64 v.int, .string v.str], 23)] from fun x hx => by
      simp only [List.mem_cons, List.not_mem_nil, or_false] at hx
      rcases hx with rfl
      · exact below_keep hb2 (hp_new rfl))
    have HB2 := Lib.hid (ex_trans (ex_alloc HB1.out _) hb2)
    clear hb2
    have u00 := blk_cell? (HR2.out _ (List.Mem.head _)) 0
    have u01 := blk_cell? (HR2.out _ (List.Mem.head _)) 1
    have u02 := blk_cell? (HR2.out _ (List.Mem.head _)) 2
    have z0 := blk_lt (HR2.out _ (List.Mem.head _))
    simp only at z0
    simp only [List.getElem?_toArray, List.getElem?_cons_zero, List.getElem?_cons_succ] at u00 u01 u02
    go_wp2_with fail
    refine (HPs.out _ (tab_on HT.out HB2.out) (HE.out.on HB2.out)).mono ?_; rintro e w3 ⟨rfl, hb3⟩
    have HR3 := Lib.hid (show HasB w3 [(w1.heap.size, #[.int .i64 v.kind, .int .i64 v.int, .string v.str], 23)] from fun x hx => by
      simp only [List.mem_cons, List.not_mem_nil, or_false] at hx
      rcases hx with rfl
      · exact below_keep hb3 (HR2.out _ (List.Mem.head _)))
    have HB3 := Lib.hid (ex_trans HB2.out hb3)
    clear u00 u01 u02 z0
    clear hb3
    have u00 := blk_cell? (HR3.out _ (List.Mem.head _)) 0
    have u01 := blk_cell? (HR3.out _ (List.Mem.head _)) 1
    have u02 := blk_cell? (HR3.out _ (List.Mem.head _)) 2
    have z0 := blk_lt (HR3.out _ (List.Mem.head _))
    simp only at z0
    simp only [List.getElem?_toArray, List.getElem?_cons_zero, List.getElem?_cons_succ] at u00 u01 u02
    obtain ⟨a, ha⟩ : ∃ a, pvV s = a := ⟨_, rfl⟩
    obtain ⟨b, hb⟩ : ∃ b, pvB s = b := ⟨_, rfl⟩
    rw [ha, hb] at HQ1
    rw [hb] at HQ2
    rw [ha, hb]
    clear ha hb HPs
    go_wp2_with fail
    refine (HD.out _ (ex_alloc HB3.out _)).mono ?_; rintro e w4 ⟨t, rfl, ht, hb4⟩
    have HR4 := Lib.hid (show HasB w4 [(w1.heap.size, #[.int .i64 v.kind, .int .i64 v.int, .string v.str], 23), (w3.heap.size, #[.int .i64 a.kind, .int .i64 a.int, .string a.str], 23)] from fun x hx => by
      simp only [List.mem_cons, List.not_mem_nil, or_false] at hx
      rcases hx with rfl | rfl
      · exact below_keep hb4 ((hp_old (blk_lt (HR3.out _ (List.Mem.head _)))).trans (HR3.out _ (List.Mem.head _)))
      · exact below_keep hb4 (hp_new rfl))
    have HB4 := Lib.hid (ex_trans (ex_alloc HB3.out _) hb4)
    clear u00 u01 u02 z0
    clear hb4
    have u00 := blk_cell? (HR4.out _ (List.Mem.head _)) 0
    have u01 := blk_cell? (HR4.out _ (List.Mem.head _)) 1
    have u02 := blk_cell? (HR4.out _ (List.Mem.head _)) 2
    have z0 := blk_lt (HR4.out _ (List.Mem.head _))
    simp only at z0
    have u10 := blk_cell? (HR4.out _ (List.Mem.tail _ (List.Mem.head _))) 0
    have u11 := blk_cell? (HR4.out _ (List.Mem.tail _ (List.Mem.head _))) 1
    have u12 := blk_cell? (HR4.out _ (List.Mem.tail _ (List.Mem.head _))) 2
    have z1 := blk_lt (HR4.out _ (List.Mem.tail _ (List.Mem.head _)))
    simp only at z1
    simp only [List.getElem?_toArray, List.getElem?_cons_zero, List.getElem?_cons_succ] at u00 u01 u02 u10 u11 u12
    have htz : t.size ≤ 1048576 := by omega
    have HPt := Lib.hid fun w' (h : PowT w') (h2 : ErrV w') => impl_ParseValue t htz w' h h2
    have HSt := Lib.hid fun w' => spec_ParseValue t htz w'
    have hxs := pv_str htz
    have HQ3 := Lib.hid (fun h => fmt_pv (t := t) h)
    obtain ⟨x, hx⟩ : ∃ x, pvV t = x := ⟨_, rfl⟩
    obtain ⟨y, hy⟩ : ∃ y, pvB t = y := ⟨_, rfl⟩
    rw [hx, hy] at HPt HSt HQ3
    rw [hx] at hxs
    clear hx hy ht
    have HFx := Lib.hid fun w' (h : PowT w') => impl_FormatValue x w' hxs h
    go_wp2_with fail
    refine (HPt.out _ (tab_on HT.out HB4.out) (HE.out.on HB4.out)).mono ?_; rintro e w5 ⟨rfl, hb5⟩
    have HR5 := Lib.hid (show HasB w5 [(w1.heap.size, #[.int .i64 v.kind, .int .i64 v.int, .string v.str], 23), (w3.heap.size, #[.int .i64 a.kind, .int .i64 a.int, .string a.str], 23)] from fun x hx => by
      simp only [List.mem_cons, List.not_mem_nil, or_false] at hx
      rcases hx with rfl | rfl
      · exact below_keep hb5 (HR4.out _ (List.Mem.head _))
      · exact below_keep hb5 (HR4.out _ (List.Mem.tail _ (List.Mem.head _))))
    have HB5 := Lib.hid (ex_trans HB4.out hb5)
    clear u00 u01 u02 u10 u11 u12 z0 z1
    clear hb5
    have u00 := blk_cell? (HR5.out _ (List.Mem.head _)) 0
    have u01 := blk_cell? (HR5.out _ (List.Mem.head _)) 1
    have u02 := blk_cell? (HR5.out _ (List.Mem.head _)) 2
    have z0 := blk_lt (HR5.out _ (List.Mem.head _))
    simp only at z0
    have u10 := blk_cell? (HR5.out _ (List.Mem.tail _ (List.Mem.head _))) 0
    have u11 := blk_cell? (HR5.out _ (List.Mem.tail _ (List.Mem.head _))) 1
    have u12 := blk_cell? (HR5.out _ (List.Mem.tail _ (List.Mem.head _))) 2
    have z1 := blk_lt (HR5.out _ (List.Mem.tail _ (List.Mem.head _)))
    simp only at z1
    simp only [List.getElem?_toArray, List.getElem?_cons_zero, List.getElem?_cons_succ] at u00 u01 u02 u10 u11 u12
    go_wp2_with fail
    refine (HSt.out _).mono ?_; rintro e w6 ⟨rfl, hb6⟩
    have HR6 := Lib.hid (show HasB w6 [(w1.heap.size, #[.int .i64 v.kind, .int .i64 v.int, .string v.str], 23), (w3.heap.size, #[.int .i64 a.kind, .int .i64 a.int, .string a.str], 23), (w5.heap.size, #[.int .i64 x.kind, .int .i64 x.int, .string x.str], 23)] from fun x hx => by
      simp only [List.mem_cons, List.not_mem_nil, or_false] at hx
      rcases hx with rfl | rfl | rfl
      · exact below_keep hb6 ((hp_old (blk_lt (HR5.out _ (List.Mem.head _)))).trans (HR5.out _ (List.Mem.head _)))
      · exact below_keep hb6 ((hp_old (blk_lt (HR5.out _ (List.Mem.tail _ (List.Mem.head _))))).trans (HR5.out _ (List.Mem.tail _ (List.Mem.head _))))
      · exact below_keep hb6 (hp_new rfl))
    have HB6 := Lib.hid (ex_trans (ex_alloc HB5.out _) hb6)
    clear u00 u01 u02 u10 u11 u12 z0 z1
    clear hb6
    have u00 := blk_cell? (HR6.out _ (List.Mem.head _)) 0
    have u01 := blk_cell? (HR6.out _ (List.Mem.head _)) 1
    have u02 := blk_cell? (HR6.out _ (List.Mem.head _)) 2
    have z0 := blk_lt (HR6.out _ (List.Mem.head _))
    simp only at z0
    have u10 := blk_cell? (HR6.out _ (List.Mem.tail _ (List.Mem.head _))) 0
    have u11 := blk_cell? (HR6.out _ (List.Mem.tail _ (List.Mem.head _))) 1
    have u12 := blk_cell? (HR6.out _ (List.Mem.tail _ (List.Mem.head _))) 2
    have z1 := blk_lt (HR6.out _ (List.Mem.tail _ (List.Mem.head _)))
    simp only at z1
    have u20 := blk_cell? (HR6.out _ (List.Mem.tail _ (List.Mem.tail _ (List.Mem.head _)))) 0
    have u21 := blk_cell? (HR6.out _ (List.Mem.tail _ (List.Mem.tail _ (List.Mem.head _)))) 1
    have u22 := blk_cell? (HR6.out _ (List.Mem.tail _ (List.Mem.tail _ (List.Mem.head _)))) 2
    have z2 := blk_lt (HR6.out _ (List.Mem.tail _ (List.Mem.tail _ (List.Mem.head _))))
    simp only at z2
    simp only [List.getElem?_toArray, List.getElem?_cons_zero, List.getElem?_cons_succ] at u00 u01 u02 u10 u11 u12 u20 u21 u22
    have q1 : (s.toList == s.toList) = true := by simp
    have q2 : (x.str.toList == x.str.toList) = true := by simp
    have q3 : (v.str.toList == v.str.toList) = true := by simp
    go_wp2_with fail
    refine (HFs.out _).mono ?_; rintro e w7 ⟨rfl, hb7⟩
    have HR7 := Lib.hid (show HasB w7 [(w1.heap.size, #[.int .i64 v.kind, .int .i64 v.int, .string v.str], 23), (w3.heap.size, #[.int .i64 a.kind, .int .i64 a.int, .string a.str], 23), (w5.heap.size, #[.int .i64 x.kind, .int .i64 x.int, .string x.str], 23), (w6.heap.size, #[.int .i64 x.kind, .int .i64 x.int, .string x.str], 23)] from fun x hx => by
      simp only [List.mem_cons, List.not_mem_nil, or_false] at hx
      rcases hx with rfl | rfl | rfl | rfl
      · exact below_keep hb7 ((hp_old (blk_lt (HR6.out _ (List.Mem.head _)))).trans (HR6.out _ (List.Mem.head _)))
      · exact below_keep hb7 ((hp_old (blk_lt (HR6.out _ (List.Mem.tail _ (List.Mem.head _))))).trans (HR6.out _ (List.Mem.tail _ (List.Mem.head _))))
      · exact below_keep hb7 ((hp_old (blk_lt (HR6.out _ (List.Mem.tail _ (List.Mem.tail _ (List.Mem.head _)))))).trans (HR6.out _ (List.Mem.tail _ (List.Mem.tail _ (List.Mem.head _)))))
      · exact below_keep hb7 (hp_new rfl))
    have HB7 := Lib.hid (ex_trans (ex_alloc HB6.out _) hb7)
    clear u00 u01 u02 u10 u11 u12 u20 u21 u22 z0 z1 z2
    clear hb7
    have u00 := blk_cell? (HR7.out _ (List.Mem.head _)) 0
    have u01 := blk_cell? (HR7.out _ (List.Mem.head _)) 1
    have u02 := blk_cell? (HR7.out _ (List.Mem.head _)) 2
    have z0 := blk_lt (HR7.out _ (List.Mem.head _))
    simp only at z0
    have u10 := blk_cell? (HR7.out _ (List.Mem.tail _ (List.Mem.head _))) 0
    have u11 := blk_cell? (HR7.out _ (List.Mem.tail _ (List.Mem.head _))) 1
    have u12 := blk_cell? (HR7.out _ (List.Mem.tail _ (List.Mem.head _))) 2
    have z1 := blk_lt (HR7.out _ (List.Mem.tail _ (List.Mem.head _)))
    simp only at z1
    have u20 := blk_cell? (HR7.out _ (List.Mem.tail _ (List.Mem.tail _ (List.Mem.head _)))) 0
    have u21 := blk_cell? (HR7.out _ (List.Mem.tail _ (List.Mem.tail _ (List.Mem.head _)))) 1
    have u22 := blk_cell? (HR7.out _ (List.Mem.tail _ (List.Mem.tail _ (List.Mem.head _)))) 2
    have z2 := blk_lt (HR7.out _ (List.Mem.tail _ (List.Mem.tail _ (List.Mem.head _))))
    simp only at z2
    have u30 := blk_cell? (HR7.out _ (List.Mem.tail _ (List.Mem.tail _ (List.Mem.tail _ (List.Mem.head _))))) 0
    have u31 := blk_cell? (HR7.out _ (List.Mem.tail _ (List.Mem.tail _ (List.Mem.tail _ (List.Mem.head _))))) 1
    have u32 := blk_cell? (HR7.out _ (List.Mem.tail _ (List.Mem.tail _ (List.Mem.tail _ (List.Mem.head _))))) 2
    have z3 := blk_lt (HR7.out _ (List.Mem.tail _ (List.Mem.tail _ (List.Mem.tail _ (List.Mem.head _)))))
    simp only at z3
    simp only [List.getElem?_toArray, List.getElem?_cons_zero, List.getElem?_cons_succ] at u00 u01 u02 u10 u11 u12 u20 u21 u22 u30 u31 u32
    go_wp2_with fail
    refine (HIs.out _).mono ?_; rintro e w8 ⟨rfl, hb8⟩
    have HR8 := Lib.hid (show HasB w8 [(w1.heap.size, #[.int .i64 v.kind, .int .i64 v.int, .string v.str], 23), (w3.heap.size, #[.int .i64 a.kind, .int .i64 a.int, .string a.str], 23), (w5.heap.size, #[.int .i64 x.kind, .int .i64 x.int, .string x.str], 23), (w6.heap.size, #[.int .i64 x.kind, .int .i64 x.int, .string x.str], 23)] from fun x hx => by
      simp only [List.mem_cons, List.not_mem_nil, or_false] at hx
      rcases hx with rfl | rfl | rfl | rfl
      · exact below_keep hb8 (HR7.out _ (List.Mem.head _))
      · exact below_keep hb8 (HR7.out _ (List.Mem.tail _ (List.Mem.head _)))
      · exact below_keep hb8 (HR7.out _ (List.Mem.tail _ (List.Mem.tail _ (List.Mem.head _))))
      · exact below_keep hb8 (HR7.out _ (List.Mem.tail _ (List.Mem.tail _ (List.Mem.tail _ (List.Mem.head _))))))
    have HB8 := Lib.hid (ex_trans HB7.out hb8)
    clear u00 u01 u02 u10 u11 u12 u20 u21 u22 u30 u31 u32 z0 z1 z2 z3
    clear hb8
    have u00 := blk_cell? (HR8.out _ (List.Mem.head _)) 0
    have u01 := blk_cell? (HR8.out _ (List.Mem.head _)) 1
    have u02 := blk_cell? (HR8.out _ (List.Mem.head _)) 2
    have z0 := blk_lt (HR8.out _ (List.Mem.head _))
    simp only at z0
    have u10 := blk_cell? (HR8.out _ (List.Mem.tail _ (List.Mem.head _))) 0
    have u11 := blk_cell? (HR8.out _ (List.Mem.tail _ (List.Mem.head _))) 1
    have u12 := blk_cell? (HR8.out _ (List.Mem.tail _ (List.Mem.head _))) 2
    have z1 := blk_lt (HR8.out _ (List.Mem.tail _ (List.Mem.head _)))
    simp only at z1
    have u20 := blk_cell? (HR8.out _ (List.Mem.tail _ (List.Mem.tail _ (List.Mem.head _)))) 0
    have u21 := blk_cell? (HR8.out _ (List.Mem.tail _ (List.Mem.tail _ (List.Mem.head _)))) 1
    have u22 := blk_cell? (HR8.out _ (List.Mem.tail _ (List.Mem.tail _ (List.Mem.head _)))) 2
    have z2 := blk_lt (HR8.out _ (List.Mem.tail _ (List.Mem.tail _ (List.Mem.head _))))
    simp only at z2
    have u30 := blk_cell? (HR8.out _ (List.Mem.tail _ (List.Mem.tail _ (List.Mem.tail _ (List.Mem.head _))))) 0
    have u31 := blk_cell? (HR8.out _ (List.Mem.tail _ (List.Mem.tail _ (List.Mem.tail _ (List.Mem.head _))))) 1
    have u32 := blk_cell? (HR8.out _ (List.Mem.tail _ (List.Mem.tail _ (List.Mem.tail _ (List.Mem.head _))))) 2
    have z3 := blk_lt (HR8.out _ (List.Mem.tail _ (List.Mem.tail _ (List.Mem.tail _ (List.Mem.head _)))))
    simp only at z3
    simp only [List.getElem?_toArray, List.getElem?_cons_zero, List.getElem?_cons_succ] at u00 u01 u02 u10 u11 u12 u20 u21 u22 u30 u31 u32
    cases hok : okVl v with
    | false =>
      obtain rfl : b = false := HQ2.out hok
      clear hok
      cases y with
      | false =>
        go_wp2_with fail
        go_returns
        exact ⟨rfl, HB8.out⟩
      | true =>
        have HF9 := Lib.hid (HQ3.out rfl)
        go_wp2_with fail
        refine (HFx.out _ (tab_on HT.out HB8.out)).mono ?_; rintro e w9 ⟨rfl, hb9⟩
        rw [HF9.out]
        have HB9 := Lib.hid (ex_trans HB8.out hb9)
        have q4 : (t.toList == t.toList) = true := by simp
        clear hb9
        go_wp2_with fail
        go_returns
        exact ⟨rfl, HB9.out⟩
    | true =>
      obtain ⟨rfl, rfl⟩ := HQ1.out hok
      clear hok
      cases y with
      | false =>
        go_wp2_with fail
        go_returns
        exact ⟨rfl, HB8.out⟩
      | true =>
        have HF9 := Lib.hid (HQ3.out rfl)
        go_wp2_with fail
        refine (HFx.out _ (tab_on HT.out HB8.out)).mono ?_; rintro e w9 ⟨rfl, hb9⟩
        rw [HF9.out]
        have HB9 := Lib.hid (ex_trans HB8.out hb9)
        have q4 : (t.toList == t.toList) = true := by simp
        clear hb9
        go_wp2_with fail
        go_returns
        exact ⟨rfl, HB9.out⟩
  · go_enter Tryd.func5, Tryd.ntmps5
    go_wp2_with fail
    refine (laws_big_t A0 n0 c0 _ (by omega)).mono ?_; rintro e w0 ⟨rfl, rfl⟩
    go_wp2_with fail
    go_returns
    exact ⟨rfl, Below.refl _ _⟩
theorem core_FnValueRoundTrip {H : Type} (enc : TypeId × Value → H) (W : World) (base : Nat) (args : Array Value) (ds : List (DataW H)) (p : List MemPlace)
    (hL : laidMetH Tryd.prog Rows.fnValueRoundTripRow.laid W) (hA : DataW.TrodAll enc Tryd.prog W 0 (fun _ => true) true Tryd.f5.params.toList args.toList ds p)
    (hval : ∀ (j : Nat) t v, Tryd.f5.params[j]? = some t → args[j]? = some v → Value.okWide Tryd.prog W .any base t v) :
    Calls Tryd.prog 5 args W fun e W' => e = .returned (.bool true) ∧ Below W.heap.size W W' := by
  rw [Tryd.params5] at hA hval
  obtain ⟨u0, vs0, d0, ds0, p0, q0, hargs, rfl, rfl, h0, r0⟩ := trodAll_cons hA
  obtain ⟨rfl, rfl, rfl⟩ := trodAll_nil r0
  obtain rfl : args = #[u0] := by cases args; simp_all
  obtain ⟨ad0, ln0, cp0, rfl⟩ := okWide_slice Tryd.underlying30 (hval 0 30 u0 rfl rfl)
  obtain ⟨fu0, g0⟩ := h0
  obtain ⟨A0, n0, c0, l0, e0, hn0, _, hS0, hl0⟩ := opens_slice Tryd.underlying30 (by omega) Op_byt g0
  simp only [Value.cells, List.cons.injEq, Value.slice.injEq, and_true] at e0
  obtain ⟨rfl, rfl, rfl⟩ := e0
  have hL' : laidMet Tryd.prog Rows.fnValueRoundTripRow.laid W := by rw [MakeChecks.laidMetH_plain _ _ _ (by kernel_rfl)] at hL; exact hL
  have hT : PowT W := Lib.tabBelow_of_tabIs (laid_tab (rest := Rows.fnValueRoundTripRow.laid.drop 3) (name := "internal/strconv.uint64pow10") (k := .u64) (zs := Lib.pow10Tab) (g := 5) 2 hL' (by kernel_rfl) (by kernel_rfl) (by kernel_rfl) Tryd.underlying122 Tryd.underlying99 (by kernel_rfl) (by kernel_rfl))
  obtain ⟨a91, k91⟩ := laid_err (g := 3) 4 hL' rfl (by kernel_rfl) (by kernel_rfl)
  obtain ⟨a92, k92⟩ := laid_err (g := 4) 3 hL' rfl (by kernel_rfl) (by kernel_rfl)
  have hE : ErrV W := ⟨⟨_, k91, .inr ⟨_, _, rfl⟩⟩, _, k92, .inr ⟨_, _, rfl⟩⟩
  exact walk_FnValueRoundTrip W ad0 ln0 cp0 l0 hS0 hn0 hl0 hT hE
theorem door_FnValueRoundTrip (os : Os) : laidMetH Tryd.prog Rows.fnValueRoundTripRow.laid ((World.doorLaid Tryd.prog 105 os).forCall (fun _ _ => 0) ⟨#[], #[.slice none 0 0], []⟩).memory :=
  laidMetH_of_parts3 (fuel := 8) (laidMet_of_run' 8 (by kernel_rfl) (by kernel_rfl)) (by kernel_rfl) (by kernel_rfl)
theorem some_FnValueRoundTrip (os : Os) {H : Type} (enc : TypeId × Value → H) : (DataW.whole enc Tryd.prog ((World.doorLaid Tryd.prog 105 os).forCall (fun _ _ => 0) ⟨#[], #[.slice none 0 0], []⟩).memory Tryd.f5.params.toList Rows.fnValueRoundTripSpec.vars false #[.slice none 0 0].toList 8).isSome = true := by kernel_rfl
set_option maxRecDepth 100000 in
theorem lifted_FnValueRoundTrip (os : Os) (started : os.Started) (H : Type) (enc : TypeId × Value → H) (F : Stop.Interp) :
    ReturnsInHanded {} Tryd.checked os 5 .any ((OpenSpec.ofChange Rows.fnValueRoundTripSpec).preRow enc Tryd.prog Tryd.f5 Rows.fnValueRoundTripRow.domain false Rows.fnValueRoundTripRow.laid) (((OpenSpec.ofChange Rows.fnValueRoundTripSpec).at F).post enc Tryd.prog Tryd.f5 false true false false) :=
  law_laid (C := Tryd.checked) (tb := 4) (n := 1) F own started (by kernel_rfl) Tryd.func5 rfl (by kernel_rfl) Tryd.underlying4 (by kernel_rfl)
    (fun ds h => by match ds, h with | [_], _ => rfl) laidOut' (by kernel_rfl)
    (witness_row_atRef (enc := enc) (C := Tryd.checked) false (World.doorLaid Tryd.prog 105 os) #[.slice none 0 0] rfl (by kernel_rfl) (by kernel_rfl) (by kernel_rfl)
      (OpenSpec.preRow_of_cond 8 (Option.some_get (some_FnValueRoundTrip os enc)).symm (by kernel_rfl) (fun k hk => by cases hk) (by kernel_rfl) (door_FnValueRoundTrip os)))
    (fun W base args ds p hL hA hval => core_FnValueRoundTrip enc W base args ds p hL hA hval)
theorem said_FnValueRoundTrip : Rows.FnValueRoundTripSaid :=
  OpenClaim.holds_of_cond 5 Tryd.f5 rfl rfl rfl rfl rfl rfl rfl ⟨rfl, rfl, rfl, rfl, rfl⟩ rfl rfl rfl rfl rfl (by kernel_rfl) Tryd.func5 (by kernel_rfl)
    (of_decide_eq_true (by kernel_rfl)) (by unfold Func.isWrapper; first | (rw [if_pos (by decide +kernel)]; kernel_rfl) | (rw [if_neg (by decide +kernel)]; exact ⟨rfl, rfl⟩))
    (fun os started H enc _ F => by rw [OpenClaim.pre_eq_preRow]; exact lifted_FnValueRoundTrip os started H enc F)
theorem plain_FnValueRoundTrip (f : FuncId) (fn : Func) (hf : Tryd.pinned.checked.prog.funcNamed "loop.example/g00976/laws.FnValueRoundTrip" = some f) (hfn : Tryd.pinned.checked.prog.funcs[f]? = some fn) :
    true = Tryd.pinned.checked.prog.looks [] ∧ ∀ (j : Nat) t, fn.params[j]? = some t → Tryd.pinned.checked.prog.wantsStandIn t = false := by
  obtain rfl : f = 5 := Option.some.inj ((show Tryd.prog.funcNamed "loop.example/g00976/laws.FnValueRoundTrip" = some 5 by kernel_rfl).symm.trans hf) |>.symm
  obtain rfl : fn = Tryd.f5 := (Option.some.inj (Tryd.func5.symm.trans hfn)).symm
  refine ⟨by kernel_rfl, fun j t ht => ?_⟩
  have hall : (Tryd.f5.params.toList.all fun u => !Tryd.prog.wantsStandIn u) = true := by kernel_rfl
  have hm : t ∈ Tryd.f5.params.toList := by simpa using Array.mem_of_getElem? ht
  exact (show Tryd.prog.wantsStandIn t = false by simpa using List.all_eq_true.1 hall t hm)
theorem holds_FnValueRoundTrip : Rows.FnValueRoundTripCardSaid :=
  Claim7.holds_tied_plain_at .later [] _ _ _ _ said_FnValueRoundTrip (fun _ h => by cases h) (by kernel_rfl) (fun _ h => by cases h) fnValueRoundTrip_row_tie rfl ⟨rfl, rfl⟩ (by kernel_rfl) rfl plain_FnValueRoundTrip (by kernel_rfl)
end Go.Proofs.YtkoagijliokhlaaDoor
