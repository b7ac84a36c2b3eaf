/-
  CONTRACTS: copies of indexes.
-/
import Derived.WalkKit
import Derived.WalkSpells
import Derived.WalkLawsBesides
import Derived.Lib.Hide
import Derived.Handy
import Derived.StillTailTactics
import Derived.Deep.Light
import Derived.Deep.QuietTactic
import Derived.BigQuiet
import Derived.Deep.RegionHeld3
import Derived.Deep.RegionLaw
import Derived.Sort.Walk0
import Derived.Deep.DeepCutAuto
import Derived.Test.YtjobgnioehkomaaLib
import Derived.Test.YtjobgnioehkomaaOwn
import Derived.Test.YtjobgnioehkomaaRow
import Derived.Test.YtjobgnioehkomaaN0
import Derived.Test.YtjobgnioehkomaaRaw
import Derived.Test.YtjobgnioehkomaaHld
import Derived.Test.YtjobgnioehkomaaM0
import Derived.Test.YtjobgnioehkomaaC1
import Derived.Test.YtjobgnioehkomaaC2
import Derived.Test.YtjobgnioehkomaaT1
import Derived.Test.YtjobgnioehkomaaT2
import Derived.Test.YtjobgnioehkomaaT3
import Derived.Test.YtjobgnioehkomaaT4
import Derived.Test.YtjobgnioehkomaaC3
import Derived.Test.YtjobgnioehkomaaC4
import Derived.Test.YtjobgnioehkomaaC5
import Derived.Test.YtjobgnioehkomaaD1
import Derived.Test.YtjobgnioehkomaaD3
import Derived.Test.YtjobgnioehkomaaD5
import Derived.Test.YtjobgnioehkomaaH1
import Derived.Test.YtjobgnioehkomaaE4
import Derived.Test.YtjobgnioehkomaaE5
import Derived.Test.YtjobgnioehkomaaRows
namespace Go.Proofs.Ytjobgnioehkomaa
open Go.RowKit
set_option linter.unusedVariables false
set_option maxRecDepth 100000
abbrev KPst (eP ei : Nat) : NK Ph Int := ⟨eP, 5, ePh, (·.A), (·.n), (·.c), ei, 1, eInt⟩
def mkP (x : Ph × List Int) : Pst := ⟨x.1.name, x.1.val, x.2⟩
/-- postings of the call's own -/
def PRows (eP ei : Nat) (w : World) (B : Nat) (A : Option Addr) (n c : Nat) (l : List Pst) : Prop := ∃ L, NRow (KPst eP ei) w B A n c L ∧ L.map mkP = l
def NewPsts (eP ei : Nat) (w : World) (l : List Pst) (en : Ending) (w' : World) : Prop :=
  ∃ A c, en = .returned (.slice A l.length c) ∧ PRows eP ei w' w.heap.size A l.length c l ∧ Below w.heap.size w w'
section
variable {eP ei : Nat} {w w' : World} {B B' n c : Nat} {A : Option Addr} {l : List Pst}
theorem PRows.osl (h : PRows eP ei w B A n c l) : ∃ bs, OSl eP 5 (OPst ei) w A n l bs ∧ bs.Nodup ∧ ∀ b ∈ bs, B ≤ b := by
  obtain ⟨L, h1, rfl⟩ := h
  refine NRow.osl (f := mkP) (K := KPst eP ei) encPh h1 fun x hx => ?_
  have hi := h1.2.1 x hx
  have ho := hi.osl (O := OInt) encInt (fun _ => ⟨rfl, rfl⟩)
  exact ⟨x.1.A, x.1.n, x.1.c, rfl, hi.le, ho⟩
theorem PRows.sl (h : PRows eP ei w B A n c l) : Sl 5 RPst w A n l := by
  obtain ⟨bs, h1, _⟩ := h.osl
  exact h1.sl fun h => h.r
theorem PRows.below (h : PRows eP ei w B A n c l) (hb : Below w.heap.size w w') : PRows eP ei w' B A n c l := by
  obtain ⟨L, h1, h2⟩ := h; exact ⟨L, h1.below hb, h2⟩
theorem PRows.lower (h : PRows eP ei w B A n c l) (hb : B' ≤ B) : PRows eP ei w B' A n c l := by
  obtain ⟨L, h1, h2⟩ := h; exact ⟨L, h1.lower hb, h2⟩
theorem PRows.len (h : PRows eP ei w B A n c l) : l.length = n := by
  obtain ⟨L, h1, rfl⟩ := h; simpa using h1.len
theorem PRows.any0 (eP ei : Nat) (w : World) (B : Nat) (A : Option Addr) : PRows eP ei w B A 0 0 [] := ⟨[], NRow.any0 _ _ _ _, rfl⟩
end
theorem NewPsts.v {eP ei : Nat} {w w' : World} {l : List Pst} {en : Ending} (h : NewPsts eP ei w l en w') : NewV id eP 5 (OPst ei) w l en w' := by
  obtain ⟨A, c, h1, h2, h3⟩ := h
  obtain ⟨bs, h4, h5, h6⟩ := h2.osl
  exact ⟨A, c, bs, h1, h4, ⟨h5, h6⟩, h3⟩
/-- a loop's relation -/
def PApp (eP ei : Nat) (w : World) (B k : Nat) (l : List Pst) (v : Value) (wr : World) : Prop := ∃ A c, v = .slice A k c ∧ PRows eP ei wr B A k c l ∧ Below w.heap.size w wr
set_option maxHeartbeats 3200000 in
theorem impl_copyIndex (A : Option Addr) (n c : Nat) (l : List Pst) (w : World) (hT : Sl 5 RPst w A n l) (hn : n ≤ 1073741824) (hok : ∀ p ∈ l, p.ids.length ≤ 1073741824) :
    Calls Try.prog 93 #[.slice A n c] w (NewPsts 107 3 w l) := by
  obtain rfl : l.length = n := hT.len
  have HC := Lib.hid fun (k : Nat) (hk : k < l.length) A n c w' (hS : Sl 1 RInt w' A n l[k].ids) => slices_Clone_int A n c l[k].ids w' hS (by have := hok l[k] (List.getElem_mem hk); have := hS.len; omega)
  obtain ⟨ii, hi, hi0, hi1, hi2⟩ := info_parts info_Posting
  clear hok
  go_enter Try.func93, Try.ntmps93
  go_wp2_with fail
  go_loopw [3, 9] (fun v i wr => ∃ k : Nat, k ≤ l.length ∧ i = .int .i64 k ∧ PApp 107 3 w w.heap.size k (l.take k) v wr) (fun _ i _ => l.length - (intOf i).toNat)
  case atStart => exact ⟨0, Nat.zero_le _, rfl, _, _, rfl, PRows.any0 _ _ _ _ _, by go_grown⟩
  case round =>
    obtain ⟨k, hk2, rfl, A1, c1, rfl, hrow, hb⟩ := hrel
    by_cases hlt : k < l.length
    · obtain ⟨b, off, rfl, bw, bc⟩ := hT.pst (by omega)
      obtain ⟨qA, qn, qc, q0, q1, q2, q3, q4, qS⟩ := bc k (by omega)
      rw [← hb.cell (p := ⟨b, _, none⟩) bw] at q0 q1 q2 q3 q4
      obtain rfl : l[k].ids.length = qn := qS.len
      have QS := Lib.hid (qS.mono mInt hb)
      have i0 : (0 : Int) ≤ (k : Int) := by omega
      have i1 : (k : Int) < (l.length : Int) := by omega
      have HR := Lib.hid hrow
      clear bc hrow qS
      go_wp2_with fail
      refine (HC.out k hlt qA _ qc _ (QS.out.mono mInt (by go_grown))).mono ?_; rintro e w2 ⟨A2, c2, rfl, hr2, hb2⟩
      have hk := below_keep hb2 (hp_new rfl)
      have HK := Lib.hid hk
      have hbx := ex_trans (w := wr) (by go_grown) hb2
      have hz2 : wr.heap.size < w2.heap.size := blk_lt hk
      have u := blk_cell? hk
      have uf := blk_free hk
      have HX := Lib.hid (And.intro hr2 hbx)
      clear hr2 hk hb2 q0 q1 q2 q3 q4
      obtain ⟨L, hL1, hL2⟩ := HR.out
      have HL := Lib.hid (And.intro hL1 hL2)
      clear hL1 hL2
      have hs2 : Chg [wr.heap.size] w2 (w2.setCell ⟨wr.heap.size, 4, none⟩ (.slice A2 l[k].ids.length c2)) := (Chg.refl _ _).set (by simp) _
      have hbs : Below wr.heap.size wr (w2.setCell ⟨wr.heap.size, 4, none⟩ (.slice A2 l[k].ids.length c2)) := Below.mark HX.out.2 hs2 HX.out.2.size (by simp)
      have HS2 := Lib.hid (And.intro hs2 hbs)
      clear hs2 hbs
      go_wp2_with (at_builtin; refine wpList_append_row rfl _ _ _ rfl encPh Try.underlying55 hi hi0 hi1 hi2 rfl rfl rfl (HL.out.1.1.below (ex_alloc HS2.out.2 _)) (src1 encPh _ (⟨l[k].name, l[k].val, A2, l[k].ids.length, c2⟩ : Ph) _ (by simp) rfl) (by unfold maxLen; omega) (by omega) (by have := hb.size; have := HS2.out.2.size; simp; omega) ?_; intro A3 c3 w5 hr5 hc5 hx5)
      have HR2 := Lib.hid (show PApp 107 3 w w.heap.size (k + 1) (l.take (k + 1)) (.slice A3 (k + 1) c3) w5 from ⟨A3, c3, rfl, ⟨L ++ [(⟨l[k].name, l[k].val, A2, l[k].ids.length, c2⟩, l[k].ids)],
        NRow.add (K := KPst 107 3) (x := (⟨l[k].name, l[k].val, A2, l[k].ids.length, c2⟩, l[k].ids)) HL.out.1 (ex_alloc HS2.out.2 _) (((HX.out.1.chg HS2.out.1 (fun b hb' h => by have h1 := (HX.out.1.base b hb').1; simp at h h1; omega)).below (by go_grown)).re (fun b hb' => by have h1 := (HX.out.1.base b hb').1; have h2 := hb.size; simp at h1; omega)) (fun b hb' => by have h1 := (HX.out.1.base b hb').1; simp at h1; omega) hr5 hc5 hx5,
        by rw [List.map_append, HL.out.2, List.take_succ_eq_append_getElem hlt]; rfl⟩, Below.mark (ex_trans hb (ex_alloc HS2.out.2 _)) hc5 (by have := hb.size; have := HS2.out.2.size; simp; omega) (fun b hb' => (HL.out.1.1.base b hb').1)⟩)
      clear hr5
      go_wp2_with fail
      go_roundw
      case rel => exact ⟨k + 1, by omega, by go_num, HR2.out⟩
      case measure => simp [intOf]; omega
    · obtain rfl : l.length = k := by omega
      rw [List.take_of_length_le (by omega)] at hrow
      have HR := Lib.hid hrow
      clear hrow
      go_wp2_with fail
      go_returns
      exact ⟨A1, c1, rfl, HR.out, hb⟩
set_option maxHeartbeats 6400000 in
theorem spec_l07Copy (A : Option Addr) (n c : Nat) (l : List Pst) (w : World) (hT : Sl 5 RPst w A n l) (hn : n ≤ 1073741824) (hok : ∀ p ∈ l, p.ids.length ≤ 1073741824) :
    Calls Try.prog 104 #[.slice A n c] w (NewPsts 107 3 w l) := by
  obtain rfl : l.length = n := hT.len
  have HOK := Lib.hid fun (k : Nat) (hk : k < l.length) => hok l[k] (List.getElem_mem hk)
  obtain ⟨ii, hi, hi0, hi1, hi2⟩ := info_parts info_Posting
  obtain ⟨jj, hj, hj0, hj1, hj2⟩ := info_parts info_int
  clear hok
  go_enter Try.func104, Try.ntmps104
  go_wp2_with fail
  go_loopw [3, 4] (fun v i wr => ∃ k : Nat, k ≤ l.length ∧ i = .int .i64 k ∧ PApp 107 3 w w.heap.size k (l.take k) v wr) (fun _ i _ => l.length - (intOf i).toNat)
  case atStart => exact ⟨0, Nat.zero_le _, rfl, _, _, rfl, PRows.any0 _ _ _ _ _, by go_grown⟩
  case round =>
    obtain ⟨k, hk2, rfl, A1, c1, rfl, hrow, hb⟩ := hrel
    by_cases hlt : k < l.length
    · obtain ⟨b, off, rfl, bw, bc⟩ := hT.pst (by omega)
      obtain ⟨qA, qn, qc, q0, q1, q2, q3, q4, qS⟩ := bc k (by omega)
      rw [← hb.cell (p := ⟨b, _, none⟩) bw] at q0 q1 q2 q3 q4
      obtain rfl : l[k].ids.length = qn := qS.len
      have QS := Lib.hid (qS.mono mInt hb)
      have i0 : (0 : Int) ≤ (k : Int) := by omega
      have i1 : (k : Int) < (l.length : Int) := by omega
      have hidl := HOK.out k hlt
      have bw' := keep_lt hb bw
      have HR := Lib.hid hrow
      clear bc hrow qS
      obtain ⟨L, hL1, hL2⟩ := HR.out
      have HL := Lib.hid (And.intro hL1 hL2)
      clear hL1 hL2
      go_upto_region 5 with fail
      go_region_law (first
        | (refine step_append_row rfl (.tmp 23) (.tmp 28) _ rfl encInt Try.underlying24 hj hj0 hj1 hj2 rfl rfl rfl (FRow.any0 _ _ _ _ wr.heap.size _) (Src.of_sl (R := RInt) encInt (fun h => h) (QS.out.mono mInt (by repeat first | exact Below.refl _ _ | exact hB6 | refine Below.drew ?_ | refine ex_alloc ?_ _))) (by unfold maxLen; omega) (by omega) (by simp <;> omega) ?_; intro A6 c6 w6 hr6 hc6 hx6; have hB6 : Below wr.heap.size wr w6 := (Below.mark (B := wr.heap.size) (w := wr) (by repeat first | exact Below.refl _ _ | exact hB6 | refine Below.drew ?_ | refine ex_alloc ?_ _) hc6 (by simp <;> omega) (by simp [rowBs_zero])); have y0 := keep_cell hB6 q0; have y1 := keep_cell hB6 q1; have y2 := keep_cell hB6 q2; have y3 := keep_cell hB6 q3; have y4 := keep_cell hB6 q4; have HR6 := Lib.hid (show FRow 3 1 eInt w6 wr.heap.size A6 l[k].ids.length c6 l[k].ids by simpa using hr6); clear hr6 hc6 hx6)
        | (refine step_append_row rfl (.tmp 12) (.tmp 31) _ rfl encPh Try.underlying55 hi hi0 hi1 hi2 rfl rfl rfl (HL.out.1.1.below (by repeat first | exact Below.refl _ _ | exact hB6 | refine Below.drew ?_ | refine ex_alloc ?_ _)) (src1 encPh _ (⟨l[k].name, l[k].val, A6, l[k].ids.length, c6⟩ : Ph) _ (by simp) rfl) (by unfold maxLen; omega) (by omega) (by have := hb.size; have := hB6.size; simp <;> omega) ?_; intro A8 c8 w8 hr8 hc8 hx8; have HR8 := Lib.hid (And.intro hr8 (And.intro hc8 hx8)); clear hr8 hc8 hx8))
      all_goals
        have HR2 := Lib.hid (show PApp 107 3 w w.heap.size (k + 1) (l.take (k + 1)) (.slice A8 (k + 1) c8) w8 from ⟨A8, c8, rfl, ⟨L ++ [(⟨l[k].name, l[k].val, A6, l[k].ids.length, c6⟩, l[k].ids)],
          NRow.add (K := KPst 107 3) (x := (⟨l[k].name, l[k].val, A6, l[k].ids.length, c6⟩, l[k].ids)) HL.out.1 (by repeat first | exact Below.refl _ _ | exact hB6 | refine Below.drew ?_ | refine ex_alloc ?_ _) ((HR6.out.below (by repeat first | exact Below.refl _ _ | refine Below.drew ?_ | refine ex_alloc ?_ _)).re (fun b hb' => by have h1 := (HR6.out.base b hb').1; have h2 := hb.size; omega)) (fun b hb' => (HR6.out.base b hb').1) HR8.out.1 HR8.out.2.1 HR8.out.2.2,
          by rw [List.map_append, HL.out.2, List.take_succ_eq_append_getElem hlt]; rfl⟩, Below.mark (ex_trans hb (by repeat first | exact Below.refl _ _ | exact hB6 | refine Below.drew ?_ | refine ex_alloc ?_ _)) HR8.out.2.1 (by have := hb.size; have := hB6.size; simp <;> omega) (fun b hb' => (HL.out.1.1.base b hb').1)⟩)
        clear y0 y1 y2 y3 y4 q0 q1 q2 q3 q4
        go_wp2_with fail
        go_roundw
        case rel => exact ⟨k + 1, by omega, by go_num, HR2.out⟩
        case measure => simp [intOf]; omega
    · obtain rfl : l.length = k := by omega
      rw [List.take_of_length_le (by omega)] at hrow
      have HR := Lib.hid hrow
      clear hrow
      go_wp2_with fail
      go_returns
      exact ⟨A1, c1, rfl, HR.out, hb⟩
end Go.Proofs.Ytjobgnioehkomaa
