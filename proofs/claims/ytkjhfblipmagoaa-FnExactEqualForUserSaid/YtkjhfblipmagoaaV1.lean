/-
  CONTRACTS: the store as a user sees it.
-/
import Derived.WalkKit
import Derived.WalkSpells
import Derived.WalkLawsBesides
import Derived.Lib.Hide
import Derived.Handy
import Derived.StillTailTactics
import Derived.Deep.Light
import Derived.Deep.QuietTactic
import Derived.BigQuiet
import Derived.Deep.RegionHeld3
import Derived.Deep.RegionLaw
import Derived.Sort.Walk0
import Derived.Deep.DeepCutAuto
import Derived.Test.YtkjhfblipmagoaaLib
import Derived.Test.YtkjhfblipmagoaaOwn
import Derived.Test.YtkjhfblipmagoaaRow
import Derived.Test.YtkjhfblipmagoaaN0
import Derived.Test.YtkjhfblipmagoaaRaw
import Derived.Test.YtkjhfblipmagoaaHld
import Derived.Test.YtkjhfblipmagoaaM0
import Derived.Test.YtkjhfblipmagoaaC1
import Derived.Test.YtkjhfblipmagoaaC2
import Derived.Test.YtkjhfblipmagoaaT1
import Derived.Test.YtkjhfblipmagoaaT2
import Derived.Test.YtkjhfblipmagoaaT3
import Derived.Test.YtkjhfblipmagoaaT4
import Derived.Test.YtkjhfblipmagoaaC3
import Derived.Test.YtkjhfblipmagoaaC4
import Derived.Test.YtkjhfblipmagoaaC5
import Derived.Test.YtkjhfblipmagoaaD1
import Derived.Test.YtkjhfblipmagoaaD3
import Derived.Test.YtkjhfblipmagoaaD5
import Derived.Test.YtkjhfblipmagoaaH1
import Derived.Test.YtkjhfblipmagoaaE4
import Derived.Test.YtkjhfblipmagoaaE5
import Derived.Test.YtkjhfblipmagoaaRows
namespace Go.Proofs.Ytkjhfblipmagoaa
open Go.RowKit
set_option linter.unusedVariables false
set_option maxRecDepth 100000
theorem filt1 {α : Type} {p : α → Bool} {x : α} (h : p x = true) : [x].filter p = [x] := by rw [List.filter_cons_of_pos h]; rfl
def visF (s : Sto) (u : Int) : List Fil := s.files.filter fun f => canRead f u
def fixF (fs : List Fil) (f : Fil) : Fil := if fs.any (atId f.link) then f else { f with link := 0 }
def visS (s : Sto) (u : Int) : Sto := ⟨s.schema, (visF s u).map (fixF (visF s u)), s.next⟩
def fixTo (fs : List Fil) (k : Nat) : List Fil := (fs.take k).map (fixF fs) ++ fs.drop k
theorem fixTo_zero (fs : List Fil) : fixTo fs 0 = fs := by simp [fixTo]
theorem fixTo_all (fs : List Fil) : fixTo fs fs.length = fs.map (fixF fs) := by simp [fixTo]
theorem fixTo_length (fs : List Fil) (k : Nat) : (fixTo fs k).length = fs.length := by simp [fixTo]; omega
theorem fixTo_get? (fs : List Fil) (k i : Nat) : (fixTo fs k)[i]? = if i < k then fs[i]?.map (fixF fs) else fs[i]? := by
  unfold fixTo
  by_cases h : i < k
  · rw [if_pos h]
    by_cases hl : i < fs.length
    · rw [List.getElem?_append_left (by simp; omega), List.getElem?_map, List.getElem?_take_of_lt h]
    · rw [List.getElem?_append_right (by simp; omega)]
      rw [List.getElem?_eq_none (by simp; omega), List.getElem?_eq_none (l := fs) (by omega)]; rfl
  · rw [if_neg h]
    by_cases hk : k ≤ fs.length
    · rw [List.getElem?_append_right (by simp; omega), List.getElem?_drop]
      congr 1; simp; omega
    · rw [List.getElem?_eq_none (by simp; omega), List.getElem?_eq_none (by omega)]
theorem fixTo_at (fs : List Fil) (k : Nat) (h : k < fs.length) : (fixTo fs k)[k]'(by rw [fixTo_length]; exact h) = fs[k] := by
  have := fixTo_get? fs k k
  rw [if_neg (by omega), List.getElem?_eq_getElem (by rw [fixTo_length]; exact h), List.getElem?_eq_getElem h] at this
  exact Option.some.inj this
theorem fixTo_step (fs : List Fil) (k : Nat) (h : k < fs.length) : fixTo fs (k + 1) = (fixTo fs k).set k (fixF fs fs[k]) := by
  apply List.ext_getElem?
  intro i
  rw [List.getElem?_set, fixTo_get?, fixTo_get?, fixTo_length]
  by_cases e : k = i
  · subst e
    rw [if_pos (by omega), if_pos rfl, if_pos h, List.getElem?_eq_getElem h]; rfl
  · rw [if_neg e]
    by_cases h1 : i < k
    · rw [if_pos (by omega), if_pos h1]
    · rw [if_neg (by omega), if_neg h1]
theorem fixF_id (fs : List Fil) (f : Fil) : (fixF fs f).id = f.id := by unfold fixF; split <;> rfl
theorem fixTo_idx (fs : List Fil) (k : Nat) (id : Int) : idxI (atId id) (fixTo fs k) = idxI (atId id) fs := idxI_congr (fixTo_length fs k) fun i hi hj => by
  have := fixTo_get? fs k i
  rw [List.getElem?_eq_getElem hj, List.getElem?_eq_getElem hi] at this
  split at this
  · have e := Option.some.inj this
    rw [e]; unfold atId; rw [fixF_id]
  · rw [Option.some.inj this]
theorem fixF_cases (fs : List Fil) (f : Fil) : (idxI (atId f.link) fs = -1 ∧ fixF fs f = { f with link := 0 }) ∨ (0 ≤ idxI (atId f.link) fs ∧ fixF fs f = f) := by
  rcases idx_cases (atId f.link) fs with ⟨h1, h2⟩ | ⟨i, hi, h1, h2, -⟩
  · exact .inl ⟨h1, by unfold fixF; rw [any_of_none h2]; rfl⟩
  · exact .inr ⟨by rw [h1]; omega, by unfold fixF; rw [List.any_eq_true.2 ⟨_, List.getElem_mem hi, h2⟩]; rfl⟩
set_option maxHeartbeats 6400000 in
theorem impl_VisibleStore (s : Sto) (A : Option Addr) (n c : Nat) (B : Option Addr) (m d : Nat) (u : Int) (w : World) (hS : Sl 2 RFld w A n s.schema) (hT : Sl 5 RFil w B m s.files) (hok : s.ok 1073741824) :
    Calls Try.prog 52 #[s.v A n c B m d, .int .i64 u] w (NewStoR id 77 46 91 w (visS s u)) := by
  obtain rfl : s.files.length = m := hT.len
  obtain rfl : s.schema.length = n := hS.len
  have hn := hok.1
  have hm := hok.2.2.1
  obtain ⟨ii, hi, hi0, hi1, hi2⟩ := info_parts info_File
  obtain ⟨jj, hj, hj0, hj1, hj2⟩ := info_parts info_Field
  have HCl := Lib.hid fun w' (hb : Below w.heap.size w w') => slices_Clone_Field A s.schema.length c s.schema w' (hS.mono mFld hb) hn
  have HC4 := Lib.hid fun (k : Nat) (hk : k < s.files.length) A n c w' (hS : Sl 4 RAtr w' A n s.files[k].attrs) => impl_copyFile s.files[k] A n c w' hS (by have := (hok.2.2.2 s.files[k] (List.getElem_mem hk)).1; have := hS.len; omega)
  have HCR := Lib.hid fun (k : Nat) (hk : k < s.files.length) A n c w' => impl_CanRead s.files[k] A n c u w'
  have HAT := Lib.hid fun (Ar : Option Addr) (cr : Nat) (Br : Option Addr) (q dr : Nat) (fl : List Fil) (id : Int) w' (hT : Sl 5 RFil w' Br q fl) (hq : q ≤ 1073741824) => impl_fileAt ⟨s.schema, fl, s.next⟩ Ar s.schema.length cr Br q dr id w' hT hq
  clear hS
  go_enter Try.func52, Try.ntmps52
  go_upto_region 1 with fail
  generalize hW : World.alloc (World.alloc w _) _ = W0
  have hb0 : HasB W0 [(w.heap.size, #[.slice A s.schema.length c, .slice B s.files.length d, .int .i64 s.next], 31), (w.heap.size + 1, #[.slice none 0 0, .slice none 0 0, .int .i64 0], 31)] := by
    rw [← hW]; intro x hx
    simp only [List.mem_cons, List.not_mem_nil, or_false] at hx
    rcases hx with rfl | rfl
    all_goals (simp only; repeat first | exact hp_new (by simp) | rw [hp_old (by simp <;> omega)])
  have hB0 : Below w.heap.size w W0 := by rw [← hW]; go_grown
  have hs0 : w.heap.size + 1 + 1 = W0.heap.size := by rw [← hW]; simp
  clear hW
  have z0 : w.heap.size < W0.heap.size := by omega
  have x0 := blk_cell? (hb0 _ (List.Mem.head _)) 0
  have x1 := blk_cell? (hb0 _ (List.Mem.head _)) 1
  have x2 := blk_cell? (hb0 _ (List.Mem.head _)) 2
  simp only [List.getElem?_toArray, List.getElem?_cons_zero, List.getElem?_cons_succ] at x0 x1 x2
  have HB0 := Lib.hid hb0
  have HHB0 := Lib.hid hB0
  clear hb0
  go_cut [5] (fun s3 w' => ∃ (g : Nat) (A1 : Option Addr) (c1 : Nat), s3 = .pointer (some ⟨g, 0, none⟩) ∧ W0.heap.size ≤ g ∧ w'.heap[g]? = some (.cells #[.slice A1 s.schema.length c1, .slice none 0 0, .int .i64 s.next] 31 (0, 0)) ∧ FRow 77 2 eFld w' W0.heap.size A1 s.schema.length c1 s.schema ∧ g ∉ rowBs A1 c1 ∧ Below W0.heap.size W0 w')
  case first =>
    go_region_held3 (fun w' => Tok w' ∧ w'.cell? ⟨w.heap.size, 0, none⟩ = some (.slice A s.schema.length c) ∧ w'.cell? ⟨w.heap.size, 1, none⟩ = some (.slice B s.files.length d) ∧ w'.cell? ⟨w.heap.size, 2, none⟩ = some (.int .i64 s.next))
      (exact ⟨trivial, by go_simp, by go_simp, by go_simp⟩)
      (first | (go_at_call 106; refine (HCl.out _ (ex_trans HHB0.out (by go_grown))).mono ?_; rintro e w6 ⟨A6, c6, rfl, hr6, hb6⟩; have hc6 := Chg.of_below [] hb6; have hx6 := (fun b hb => Or.inr (hr6.base b hb).1 : ∀ b ∈ rowBs A6 c6, b ∈ ([] : List Nat) ∨ _ ≤ b); have y0 : w6.cell? ⟨w.heap.size, 0, none⟩ = some (.slice A s.schema.length c) := hc6.cell (by go_simp) (by simp); have y1 : w6.cell? ⟨w.heap.size, 1, none⟩ = some (.slice B s.files.length d) := hc6.cell (by go_simp) (by simp); have y2 : w6.cell? ⟨w.heap.size, 2, none⟩ = some (.int .i64 s.next) := hc6.cell (by go_simp) (by simp); have z6 : w.heap.size < w6.heap.size := (by have := hc6.size; simp at this; omega); have HB6 : Below W0.heap.size W0 w6 := (Below.mark (by go_grown) hc6 (by simp <;> omega) (by simp)); have HF6 := Lib.hid (show FRow 77 2 eFld w6 W0.heap.size A6 s.schema.length c6 s.schema by exact hr6.re (fun b hb => by have h1 := (hr6.base b hb).1; simp at h1; omega)); have HC6 := Lib.hid hc6; have HX6 := Lib.hid hx6; obtain ⟨hcc6, hff6⟩ := bcell (Chg.blow hc6); clear hr6 hc6 hx6))
    all_goals
      clear hcc6 hff6
      go_wp2_with fail
      go_meet
      first
        | exact ⟨w6.heap.size, A6, c6, rfl, HB6.size, hp_new rfl, HF6.out.below (by go_grown), fun h => absurd (HF6.out.base _ h).2 (Nat.lt_irrefl _), ex_alloc HB6 _⟩
        | (obtain ⟨m1, m2, m3, m4⟩ := meet_set (T := 31) (zs := #[.slice none 0 0, .slice none 0 0, .int .i64 0]) [.slice A6 s.schema.length c6, .slice none 0 0, .int .i64 s.next] (g := W0.heap.size + 1) (by exact hp_new (by simp)) (by omega) HF6.out HC6.out HX6.out HB6
           exact ⟨W0.heap.size + 1, A6, c6, rfl, by omega, m1, m2, m3, m4⟩)
        | (obtain ⟨m1, m2, m3, m4⟩ := meet_set (T := 31) (zs := #[.slice none 0 0, .slice none 0 0, .int .i64 0]) [.slice A6 s.schema.length c6, .slice none 0 0, .int .i64 s.next] (g := W0.heap.size) (by first | exact (hp_old (by simp)).trans (hp_new rfl) | exact hp_new rfl) (by omega) HF6.out HC6.out HX6.out HB6
           exact ⟨W0.heap.size, A6, c6, rfl, by omega, m1, m2, m3, m4⟩)
  case rest =>
    generalize wc = w1 at *
    obtain ⟨g, A1, c1, rfl, hG, hg, hF, hgn, hB1⟩ := hcut
    have hg1 : g < w1.heap.size := blk_lt hg
    have HBX := Lib.hid (HB0.out.below hB1)
    have HF := Lib.hid hF
    have hBw := ex_trans hB0 hB1
    have HG := Lib.hid hg
    have hB1s := hB1.size
    clear hF hg x0 x1 x2 hi hi0
    obtain ⟨ii, hi, hi0, hi1, hi2⟩ := info_parts info_File
    have hB1w := blk_cell? (HBX.out _ (List.Mem.head _)) 1
    simp only [List.getElem?_toArray, List.getElem?_cons_zero, List.getElem?_cons_succ] at hB1w
    go_wp2_with fail
    clear hB1w
    go_loopw [19] (fun i wr => ∃ (k q : Nat) (B2 : Option Addr) (d2 : Nat), k ≤ s.files.length ∧ q ≤ k ∧ i = .int .i64 k ∧ Chg [g] w1 wr ∧ wr.heap[g]? = some (.cells #[.slice A1 s.schema.length c1, .slice B2 q d2, .int .i64 s.next] 31 (0, 0)) ∧ FRows 46 91 wr w1.heap.size B2 q d2 ((s.files.take k).filter fun f => canRead f u)) (fun i _ => s.files.length - (intOf i).toNat)
    case atStart => exact ⟨0, 0, none, 0, Nat.zero_le _, Nat.le_refl _, rfl, Chg.refl _ _, HG.out, FRows.any0 _ _ _ _ _⟩
    case round =>
      obtain ⟨k, q, B2, d2, hk2, hqk, rfl, hC, hgo, hR⟩ := hrel
      have HC := Lib.hid hC
      have HR := Lib.hid hR
      have HGo := Lib.hid hgo
      have hsz := hC.size
      have HB := Lib.hid (HBX.out.chg hC (fun x hx h => by
        simp only [List.mem_cons, List.not_mem_nil, or_false] at hx
        simp only [List.mem_singleton] at h
        rcases hx with rfl | rfl <;> simp only at h <;> omega))
      have HBw := Lib.hid (Below.mark hBw hC hBw.size (by simp only [List.mem_singleton]; intro b hb; omega))
      have x0 := blk_cell? (HB.out _ (List.Mem.head _)) 0
      have x1 := blk_cell? (HB.out _ (List.Mem.head _)) 1
      have x2 := blk_cell? (HB.out _ (List.Mem.head _)) 2
      simp only [List.getElem?_toArray, List.getElem?_cons_zero, List.getElem?_cons_succ] at x0 x1 x2
      have o1 := blk_cell? hgo
      have of := blk_free hgo
      have zg : g < wr.heap.size := blk_lt hgo
      have zw : w.heap.size < wr.heap.size := by omega
      have ng : ¬ (w.heap.size = g) := by omega
      clear hC hR hgo
      have i0 : (0 : Int) ≤ (k : Int) := by omega
      by_cases hlt : k < s.files.length
      · obtain ⟨b, off, rfl, bw, bc⟩ := hT.fil (by omega)
        obtain ⟨qA, qn, qc, q0, q1, q2, q3, q4, qS⟩ := bc k (by omega)
        obtain rfl : s.files[k].attrs.length = qn := qS.len
        have QS := Lib.hid (qS.mono mAtr HBw.out)
        have HQ := Lib.hid (And.intro q0 (And.intro q1 (And.intro q2 (And.intro q3 q4))))
        rw [← HBw.out.cell (p := ⟨b, _, none⟩) bw] at q0 q1 q2 q3 q4
        have i1 : (k : Int) < (s.files.length : Int) := by omega
        have zb : b < wr.heap.size := by omega
        have nb : ¬ (b = g) := by omega
        clear bc qS
        go_wp2_with fail
        refine (HCR.out k hlt _ _ _ _).mono ?_; rintro e w2 ⟨rfl, hb2⟩
        have hfb := below_keep hb2 (hp_new rfl)
        have hbq : Below wr.heap.size wr w2 := ex_trans (by go_grown) hb2
        have hfs : wr.heap.size < w2.heap.size := blk_lt hfb
        clear hb2
        have hC := HC.out.step (Chg.of_below [g] hbq) (fun b h _ => h)
        have hgo := below_keep hbq HGo.out
        have hR := HR.out.below hbq
        clear x0 x1 x2 o1 of zg zw ng q0 q1 q2 q3 q4
        have HC2 := Lib.hid hC
        have HR2 := Lib.hid hR
        have HGo2 := Lib.hid hgo
        have hsz2 := hC.size
        have HB2 := Lib.hid (HBX.out.chg hC (fun x hx h => by
          simp only [List.mem_cons, List.not_mem_nil, or_false] at hx
          simp only [List.mem_singleton] at h
          rcases hx with rfl | rfl <;> simp only at h <;> omega))
        have HBw2 := Lib.hid (Below.mark hBw hC hBw.size (by simp only [List.mem_singleton]; intro b hb; omega))
        have x0 := blk_cell? (HB2.out _ (List.Mem.head _)) 0
        have x1 := blk_cell? (HB2.out _ (List.Mem.head _)) 1
        have x2 := blk_cell? (HB2.out _ (List.Mem.head _)) 2
        simp only [List.getElem?_toArray, List.getElem?_cons_zero, List.getElem?_cons_succ] at x0 x1 x2
        have o1 := blk_cell? hgo
        have of := blk_free hgo
        have zg : g < w2.heap.size := blk_lt hgo
        have zw : w.heap.size < w2.heap.size := by omega
        have ng : ¬ (w.heap.size = g) := by omega
        clear hC hR hgo
        have hbs := hbq.size
        have zb2 : b < w2.heap.size := by omega
        have QS2 := Lib.hid (QS.out.mono mAtr hbq)
        have hts : s.files.take (k + 1) = s.files.take k ++ [s.files[k]] := List.take_succ_eq_append_getElem hlt
        have HTS := Lib.hid hts
        clear hts
        cases hcr : canRead s.files[k] u with
        | false =>
          have HRel := Lib.hid (show FRows 46 91 w2 w1.heap.size B2 q d2 ((s.files.take (k + 1)).filter fun f => canRead f u) from by rw [HTS.out, List.filter_append, show [s.files[k]].filter (fun f => canRead f u) = [] from by rw [List.filter_cons_of_neg (by rw [hcr]; simp)]; rfl, List.append_nil]; exact HR2.out)
          clear hcr
          go_wp2_with fail
          go_roundw
          case rel => exact ⟨k + 1, q, B2, d2, by omega, by omega, by go_num, HC2.out, HGo2.out, HRel.out⟩
          case measure => simp [intOf]; omega
        | true =>
          have HRl := Lib.hid hcr
          clear hcr
          obtain ⟨L0, hL1, hL2⟩ := HR2.out
          have HL := Lib.hid (And.intro hL1 hL2)
          clear hL1 hL2
          have f0 := blk_cell? hfb 0
          have f1 := blk_cell? hfb 1
          have f2 := blk_cell? hfb 2
          have f3 := blk_cell? hfb 3
          have f4 := blk_cell? hfb 4
          have HFB := Lib.hid hfb
          clear hfb
          simp only [List.getElem?_toArray, List.getElem?_cons_zero, List.getElem?_cons_succ] at f0 f1 f2 f3 f4
          have HNB := Lib.hid (show wr.heap.size ∉ rowBs B2 d2 from fun h => by obtain ⟨Lq, hq1, _⟩ := HR.out; have h1 := (hq1.1.base _ h).2; omega)
          have ngf : ¬ (wr.heap.size = g) := by omega
          go_upto_region 6 with fail
          refine wp_region_held_drew (S := (fun w' => w'.cell? ⟨wr.heap.size, 0, none⟩ = some (.int .i64 s.files[k].id) ∧ w'.cell? ⟨wr.heap.size, 1, none⟩ = some (.int .i64 s.files[k].owner) ∧ w'.cell? ⟨wr.heap.size, 2, none⟩ = some (.bool s.files[k].shared) ∧ w'.cell? ⟨wr.heap.size, 3, none⟩ = some (.int .i64 s.files[k].link) ∧ w'.cell? ⟨wr.heap.size, 4, none⟩ = some (.slice qA s.files[k].attrs.length qc))) (by kernel_rfl) (by (try dsimp only); exact ⟨f0, f1, f2, f3, f4⟩) (fun hHeld => ?_)
          first | (refine held_take 0 rfl (by kernel_rfl) (by kernel_rfl) (by kernel_rfl) (by rfl) (fun _ _ _ h => h) (by assumption) (by intro w hSw; (try dsimp only at hSw); go_simp; first | done | with_reducible rfl) ?_) | (refine held_skip 0 rfl (by kernel_rfl) (by kernel_rfl) (by kernel_rfl) (by rfl) (fun _ _ _ h => h) (by assumption) ?_)
          simp only [Act.put, List.setIfInBounds_toArray, List.set_cons_zero, List.set_cons_succ]
          first | (refine held_take 2 rfl (by kernel_rfl) (by kernel_rfl) (by kernel_rfl) (by rfl) (fun _ _ _ h => h) (by assumption) (by intro w hSw; (try dsimp only at hSw); go_simp; first | done | with_reducible rfl) ?_) | (refine held_skip 2 rfl (by kernel_rfl) (by kernel_rfl) (by kernel_rfl) (by rfl) (fun _ _ _ h => h) (by assumption) ?_)
          simp only [Act.put, List.setIfInBounds_toArray, List.set_cons_zero, List.set_cons_succ]
          refine held_two 1 3 (by kernel_rfl) rfl rfl (fun K hK => ?_) (fun K hK => ?_)
          · go_simp
            refine hK.out _ _ (by (try dsimp only); exact hHeld) (fun hNew => ?_)
            clear hK K hHeld
            have hHeld := hNew
            clear hNew
            try simp only [Act.put, List.setIfInBounds_toArray, List.set_cons_zero, List.set_cons_succ]
            refine held_one 3 (by kernel_rfl) rfl (fun K hK => ?_)
            go_simp
            go_at_call 108
            refine (HC4.out k hlt qA _ qc _ (QS2.out.mono mAtr (by go_grown))).mono ?_; rintro e w3 ⟨A2, c2, rfl, hr2, hb3⟩; have hbx := ex_trans (w := w2) (by go_grown) hb3; have HX := Lib.hid (And.intro hr2 hbx); obtain ⟨hcc2, hff2⟩ := bcell hbx; have zw3 : w.heap.size < w3.heap.size := (by have := hbx.size; omega); have zg3 : g < w3.heap.size := (by have := hbx.size; omega); have zb3 : b < w3.heap.size := (by have := hbx.size; omega); clear hr2
            go_wp2_with fail
            refine hK.out _ _ (by (try dsimp only); exact ⟨keep_cell hb3 hHeld.1, keep_cell hb3 hHeld.2.1, keep_cell hb3 hHeld.2.2.1, keep_cell hb3 hHeld.2.2.2.1, keep_cell hb3 hHeld.2.2.2.2⟩) (fun hNew => ?_)
            clear hK K hHeld
            have hHeld := hNew
            clear hNew
            try simp only [Act.put, List.setIfInBounds_toArray, List.set_cons_zero, List.set_cons_succ]
            refine held_one 4 (by kernel_rfl) rfl (fun K hK => ?_)
            go_simp
            refine hK.out _ _ (by (try dsimp only); exact ⟨keep_cell (ex_alloc (Below.refl _ _) _) hHeld.1, keep_cell (ex_alloc (Below.refl _ _) _) hHeld.2.1, keep_cell (ex_alloc (Below.refl _ _) _) hHeld.2.2.1, keep_cell (ex_alloc (Below.refl _ _) _) hHeld.2.2.2.1, keep_cell (ex_alloc (Below.refl _ _) _) hHeld.2.2.2.2⟩) (fun hNew => ?_)
            clear hK K hHeld
            have hHeld := hNew
            clear hNew
            try simp only [Act.put, List.setIfInBounds_toArray, List.set_cons_zero, List.set_cons_succ]
            refine held_one 5 (by kernel_rfl) rfl (fun K hK => ?_)
            refine step_append_row rfl (.tmp 27) (.tmp 30) _ rfl encFh Try.underlying29 hi hi0 hi1 hi2 rfl rfl rfl (HL.out.1.1.below (ex_alloc HX.out.2 _)) (src1 encFh _ (⟨s.files[k].id, s.files[k].owner, s.files[k].shared, s.files[k].link, A2, s.files[k].attrs.length, c2⟩ : Fh) _ rfl rfl) (by unfold maxLen; omega) (by omega) (by have := HX.out.2.size; simp; omega) ?_; intro A3 c3 w5 hr5 hc5 hx5; have y0 : w5.cell? ⟨wr.heap.size, 0, none⟩ = some (.int .i64 s.files[k].id) := hc5.cell (by go_simp) (fun h => HNB.out h); have y1 : w5.cell? ⟨wr.heap.size, 1, none⟩ = some (.int .i64 s.files[k].owner) := hc5.cell (by go_simp) (fun h => HNB.out h); have y2 : w5.cell? ⟨wr.heap.size, 2, none⟩ = some (.bool s.files[k].shared) := hc5.cell (by go_simp) (fun h => HNB.out h); have y3 : w5.cell? ⟨wr.heap.size, 3, none⟩ = some (.int .i64 s.files[k].link) := hc5.cell (by go_simp) (fun h => HNB.out h); have y4 : w5.cell? ⟨wr.heap.size, 4, none⟩ = some (.slice qA s.files[k].attrs.length qc) := hc5.cell (by go_simp) (fun h => HNB.out h); have hg5 := hc5.keepb ((hp_old (by omega)).trans (below_keep hbx HGo2.out)) (fun h => by have h1 := (HL.out.1.1.base _ h).1; omega); have o5 := blk_cell? hg5; have of5 := blk_free hg5; have HG5 := Lib.hid hg5; have HR5 := Lib.hid (And.intro hr5 (And.intro hc5 hx5)); clear hr5 hc5 hx5 hg5 hcc2 hff2
            refine hK.out _ _ (by (try dsimp only); exact ⟨y0, y1, y2, y3, y4⟩) (fun hNew => ?_)
            clear hK K hHeld
            have hHeld := hNew
            clear hNew
            try simp only [Act.put, List.setIfInBounds_toArray, List.set_cons_zero, List.set_cons_succ]
            first | (refine held_take 6 rfl (by kernel_rfl) (by kernel_rfl) (by kernel_rfl) (by rfl) (fun _ _ _ h => h) (by assumption) (by intro w hSw; (try dsimp only at hSw); go_simp; first | done | with_reducible rfl) ?_) | (refine held_skip 6 rfl (by kernel_rfl) (by kernel_rfl) (by kernel_rfl) (by rfl) (fun _ _ _ h => h) (by assumption) ?_)
            simp only [Act.put, List.setIfInBounds_toArray, List.set_cons_zero, List.set_cons_succ]
            refine held_one 7 (by kernel_rfl) rfl (fun K hK => ?_)
            go_simp
            refine hK.out _ _ (by (try dsimp only); exact ⟨((Chg.refl [g] _).set (by simp) _).cell y0 (fun h => by simp only [List.mem_singleton] at h; omega), ((Chg.refl [g] _).set (by simp) _).cell y1 (fun h => by simp only [List.mem_singleton] at h; omega), ((Chg.refl [g] _).set (by simp) _).cell y2 (fun h => by simp only [List.mem_singleton] at h; omega), ((Chg.refl [g] _).set (by simp) _).cell y3 (fun h => by simp only [List.mem_singleton] at h; omega), ((Chg.refl [g] _).set (by simp) _).cell y4 (fun h => by simp only [List.mem_singleton] at h; omega)⟩) (fun hNew => ?_)
            clear hK K hHeld
            have hHeld := hNew
            clear hNew
            try simp only [Act.put, List.setIfInBounds_toArray, List.set_cons_zero, List.set_cons_succ]
            refine wpAnyH_done (by kernel_rfl) ?_ _
            have hch : Chg [g] w5 (w5.setCell ⟨g, 1, none⟩ (.slice A3 (q + 1) c3)) := (Chg.refl _ _).set (by simp) _
            have hsb := (HL.out.1.1.base)
            have HRel := Lib.hid (show Chg [g] w1 (w5.setCell ⟨g, 1, none⟩ (.slice A3 (q + 1) c3)) ∧ (w5.setCell ⟨g, 1, none⟩ (.slice A3 (q + 1) c3)).heap[g]? = some (.cells #[.slice A1 s.schema.length c1, .slice A3 (q + 1) c3, .int .i64 s.next] 31 (0, 0)) ∧ FRows 46 91 (w5.setCell ⟨g, 1, none⟩ (.slice A3 (q + 1) c3)) w1.heap.size A3 (q + 1) c3 ((s.files.take (k + 1)).filter fun f => canRead f u) from by
              have hN := NRow.add (K := KFil 46 91) (x := (⟨s.files[k].id, s.files[k].owner, s.files[k].shared, s.files[k].link, A2, s.files[k].attrs.length, c2⟩, s.files[k].attrs)) HL.out.1 (ex_alloc HX.out.2 _) ((HX.out.1.below (by go_grown)).re (fun b hb' => by have h1 := (HX.out.1.base b hb').1; have h2 := hsz2; simp at h1; omega)) (fun b hb' => by have h1 := (HX.out.1.base b hb').1; simp at h1; omega) HR5.out.1 HR5.out.2.1 HR5.out.2.2
              refine ⟨?_, blk_set HG5.out 1 _, ⟨L0 ++ [(⟨s.files[k].id, s.files[k].owner, s.files[k].shared, s.files[k].link, A2, s.files[k].attrs.length, c2⟩, s.files[k].attrs)], hN.chg hch (fun b hb' h => ?_), by rw [List.map_append, HL.out.2, HTS.out, List.filter_append, filt1 (p := fun f => canRead f u) HRl.out]; rfl⟩⟩
              · have h2 : Chg [g] w1 w5 := (HC2.out.step (Chg.of_below [g] (ex_alloc HX.out.2 _)) (fun b hb' _ => hb')).step HR5.out.2.1 (fun b hb' hlt' => by have h3 := (hsb b hb').1; omega)
                exact h2.step hch (fun b hb' _ => hb')
              · have h1 := (hN.base b hb').1
                simp only [List.mem_singleton] at h
                omega)
            clear hch hsb
            go_wp2_with fail
            go_roundw
            case rel => exact ⟨k + 1, q + 1, A3, c3, by omega, by omega, by go_num, HRel.out⟩
            case measure => simp [intOf]; omega
          · go_simp
            go_at_call 108
            refine (HC4.out k hlt qA _ qc _ (QS2.out.mono mAtr (by go_grown))).mono ?_; rintro e w3 ⟨A2, c2, rfl, hr2, hb3⟩; have hbx := ex_trans (w := w2) (by go_grown) hb3; have HX := Lib.hid (And.intro hr2 hbx); obtain ⟨hcc2, hff2⟩ := bcell hbx; have zw3 : w.heap.size < w3.heap.size := (by have := hbx.size; omega); have zg3 : g < w3.heap.size := (by have := hbx.size; omega); have zb3 : b < w3.heap.size := (by have := hbx.size; omega); clear hr2
            go_wp2_with fail
            refine hK.out _ _ (by (try dsimp only); exact ⟨keep_cell hb3 hHeld.1, keep_cell hb3 hHeld.2.1, keep_cell hb3 hHeld.2.2.1, keep_cell hb3 hHeld.2.2.2.1, keep_cell hb3 hHeld.2.2.2.2⟩) (fun hNew => ?_)
            clear hK K hHeld
            have hHeld := hNew
            clear hNew
            try simp only [Act.put, List.setIfInBounds_toArray, List.set_cons_zero, List.set_cons_succ]
            refine held_two 1 4 (by kernel_rfl) rfl rfl (fun K hK => ?_) (fun K hK => ?_)
            · go_simp
              refine hK.out _ _ (by (try dsimp only); exact hHeld) (fun hNew => ?_)
              clear hK K hHeld
              have hHeld := hNew
              clear hNew
              try simp only [Act.put, List.setIfInBounds_toArray, List.set_cons_zero, List.set_cons_succ]
              refine held_one 4 (by kernel_rfl) rfl (fun K hK => ?_)
              go_simp
              refine hK.out _ _ (by (try dsimp only); exact ⟨keep_cell (ex_alloc (Below.refl _ _) _) hHeld.1, keep_cell (ex_alloc (Below.refl _ _) _) hHeld.2.1, keep_cell (ex_alloc (Below.refl _ _) _) hHeld.2.2.1, keep_cell (ex_alloc (Below.refl _ _) _) hHeld.2.2.2.1, keep_cell (ex_alloc (Below.refl _ _) _) hHeld.2.2.2.2⟩) (fun hNew => ?_)
              clear hK K hHeld
              have hHeld := hNew
              clear hNew
              try simp only [Act.put, List.setIfInBounds_toArray, List.set_cons_zero, List.set_cons_succ]
              refine held_one 5 (by kernel_rfl) rfl (fun K hK => ?_)
              refine step_append_row rfl (.tmp 27) (.tmp 30) _ rfl encFh Try.underlying29 hi hi0 hi1 hi2 rfl rfl rfl (HL.out.1.1.below (ex_alloc HX.out.2 _)) (src1 encFh _ (⟨s.files[k].id, s.files[k].owner, s.files[k].shared, s.files[k].link, A2, s.files[k].attrs.length, c2⟩ : Fh) _ rfl rfl) (by unfold maxLen; omega) (by omega) (by have := HX.out.2.size; simp; omega) ?_; intro A3 c3 w5 hr5 hc5 hx5; have y0 : w5.cell? ⟨wr.heap.size, 0, none⟩ = some (.int .i64 s.files[k].id) := hc5.cell (by go_simp) (fun h => HNB.out h); have y1 : w5.cell? ⟨wr.heap.size, 1, none⟩ = some (.int .i64 s.files[k].owner) := hc5.cell (by go_simp) (fun h => HNB.out h); have y2 : w5.cell? ⟨wr.heap.size, 2, none⟩ = some (.bool s.files[k].shared) := hc5.cell (by go_simp) (fun h => HNB.out h); have y3 : w5.cell? ⟨wr.heap.size, 3, none⟩ = some (.int .i64 s.files[k].link) := hc5.cell (by go_simp) (fun h => HNB.out h); have y4 : w5.cell? ⟨wr.heap.size, 4, none⟩ = some (.slice qA s.files[k].attrs.length qc) := hc5.cell (by go_simp) (fun h => HNB.out h); have hg5 := hc5.keepb ((hp_old (by omega)).trans (below_keep hbx HGo2.out)) (fun h => by have h1 := (HL.out.1.1.base _ h).1; omega); have o5 := blk_cell? hg5; have of5 := blk_free hg5; have HG5 := Lib.hid hg5; have HR5 := Lib.hid (And.intro hr5 (And.intro hc5 hx5)); clear hr5 hc5 hx5 hg5 hcc2 hff2
              refine hK.out _ _ (by (try dsimp only); exact ⟨y0, y1, y2, y3, y4⟩) (fun hNew => ?_)
              clear hK K hHeld
              have hHeld := hNew
              clear hNew
              try simp only [Act.put, List.setIfInBounds_toArray, List.set_cons_zero, List.set_cons_succ]
              first | (refine held_take 6 rfl (by kernel_rfl) (by kernel_rfl) (by kernel_rfl) (by rfl) (fun _ _ _ h => h) (by assumption) (by intro w hSw; (try dsimp only at hSw); go_simp; first | done | with_reducible rfl) ?_) | (refine held_skip 6 rfl (by kernel_rfl) (by kernel_rfl) (by kernel_rfl) (by rfl) (fun _ _ _ h => h) (by assumption) ?_)
              simp only [Act.put, List.setIfInBounds_toArray, List.set_cons_zero, List.set_cons_succ]
              refine held_one 7 (by kernel_rfl) rfl (fun K hK => ?_)
              go_simp
              refine hK.out _ _ (by (try dsimp only); exact ⟨((Chg.refl [g] _).set (by simp) _).cell y0 (fun h => by simp only [List.mem_singleton] at h; omega), ((Chg.refl [g] _).set (by simp) _).cell y1 (fun h => by simp only [List.mem_singleton] at h; omega), ((Chg.refl [g] _).set (by simp) _).cell y2 (fun h => by simp only [List.mem_singleton] at h; omega), ((Chg.refl [g] _).set (by simp) _).cell y3 (fun h => by simp only [List.mem_singleton] at h; omega), ((Chg.refl [g] _).set (by simp) _).cell y4 (fun h => by simp only [List.mem_singleton] at h; omega)⟩) (fun hNew => ?_)
              clear hK K hHeld
              have hHeld := hNew
              clear hNew
              try simp only [Act.put, List.setIfInBounds_toArray, List.set_cons_zero, List.set_cons_succ]
              refine wpAnyH_done (by kernel_rfl) ?_ _
              have hch : Chg [g] w5 (w5.setCell ⟨g, 1, none⟩ (.slice A3 (q + 1) c3)) := (Chg.refl _ _).set (by simp) _
              have hsb := (HL.out.1.1.base)
              have HRel := Lib.hid (show Chg [g] w1 (w5.setCell ⟨g, 1, none⟩ (.slice A3 (q + 1) c3)) ∧ (w5.setCell ⟨g, 1, none⟩ (.slice A3 (q + 1) c3)).heap[g]? = some (.cells #[.slice A1 s.schema.length c1, .slice A3 (q + 1) c3, .int .i64 s.next] 31 (0, 0)) ∧ FRows 46 91 (w5.setCell ⟨g, 1, none⟩ (.slice A3 (q + 1) c3)) w1.heap.size A3 (q + 1) c3 ((s.files.take (k + 1)).filter fun f => canRead f u) from by
                have hN := NRow.add (K := KFil 46 91) (x := (⟨s.files[k].id, s.files[k].owner, s.files[k].shared, s.files[k].link, A2, s.files[k].attrs.length, c2⟩, s.files[k].attrs)) HL.out.1 (ex_alloc HX.out.2 _) ((HX.out.1.below (by go_grown)).re (fun b hb' => by have h1 := (HX.out.1.base b hb').1; have h2 := hsz2; simp at h1; omega)) (fun b hb' => by have h1 := (HX.out.1.base b hb').1; simp at h1; omega) HR5.out.1 HR5.out.2.1 HR5.out.2.2
                refine ⟨?_, blk_set HG5.out 1 _, ⟨L0 ++ [(⟨s.files[k].id, s.files[k].owner, s.files[k].shared, s.files[k].link, A2, s.files[k].attrs.length, c2⟩, s.files[k].attrs)], hN.chg hch (fun b hb' h => ?_), by rw [List.map_append, HL.out.2, HTS.out, List.filter_append, filt1 (p := fun f => canRead f u) HRl.out]; rfl⟩⟩
                · have h2 : Chg [g] w1 w5 := (HC2.out.step (Chg.of_below [g] (ex_alloc HX.out.2 _)) (fun b hb' _ => hb')).step HR5.out.2.1 (fun b hb' hlt' => by have h3 := (hsb b hb').1; omega)
                  exact h2.step hch (fun b hb' _ => hb')
                · have h1 := (hN.base b hb').1
                  simp only [List.mem_singleton] at h
                  omega)
              clear hch hsb
              go_wp2_with fail
              go_roundw
              case rel => exact ⟨k + 1, q + 1, A3, c3, by omega, by omega, by go_num, HRel.out⟩
              case measure => simp [intOf]; omega
            · go_simp
              refine hK.out _ _ (by (try dsimp only); exact ⟨keep_cell (ex_alloc (Below.refl _ _) _) hHeld.1, keep_cell (ex_alloc (Below.refl _ _) _) hHeld.2.1, keep_cell (ex_alloc (Below.refl _ _) _) hHeld.2.2.1, keep_cell (ex_alloc (Below.refl _ _) _) hHeld.2.2.2.1, keep_cell (ex_alloc (Below.refl _ _) _) hHeld.2.2.2.2⟩) (fun hNew => ?_)
              clear hK K hHeld
              have hHeld := hNew
              clear hNew
              try simp only [Act.put, List.setIfInBounds_toArray, List.set_cons_zero, List.set_cons_succ]
              refine held_one 1 (by kernel_rfl) rfl (fun K hK => ?_)
              go_simp
              refine hK.out _ _ (by (try dsimp only); exact hHeld) (fun hNew => ?_)
              clear hK K hHeld
              have hHeld := hNew
              clear hNew
              try simp only [Act.put, List.setIfInBounds_toArray, List.set_cons_zero, List.set_cons_succ]
              refine held_one 5 (by kernel_rfl) rfl (fun K hK => ?_)
              refine step_append_row rfl (.tmp 27) (.tmp 30) _ rfl encFh Try.underlying29 hi hi0 hi1 hi2 rfl rfl rfl (HL.out.1.1.below (ex_alloc HX.out.2 _)) (src1 encFh _ (⟨s.files[k].id, s.files[k].owner, s.files[k].shared, s.files[k].link, A2, s.files[k].attrs.length, c2⟩ : Fh) _ rfl rfl) (by unfold maxLen; omega) (by omega) (by have := HX.out.2.size; simp; omega) ?_; intro A3 c3 w5 hr5 hc5 hx5; have y0 : w5.cell? ⟨wr.heap.size, 0, none⟩ = some (.int .i64 s.files[k].id) := hc5.cell (by go_simp) (fun h => HNB.out h); have y1 : w5.cell? ⟨wr.heap.size, 1, none⟩ = some (.int .i64 s.files[k].owner) := hc5.cell (by go_simp) (fun h => HNB.out h); have y2 : w5.cell? ⟨wr.heap.size, 2, none⟩ = some (.bool s.files[k].shared) := hc5.cell (by go_simp) (fun h => HNB.out h); have y3 : w5.cell? ⟨wr.heap.size, 3, none⟩ = some (.int .i64 s.files[k].link) := hc5.cell (by go_simp) (fun h => HNB.out h); have y4 : w5.cell? ⟨wr.heap.size, 4, none⟩ = some (.slice qA s.files[k].attrs.length qc) := hc5.cell (by go_simp) (fun h => HNB.out h); have hg5 := hc5.keepb ((hp_old (by omega)).trans (below_keep hbx HGo2.out)) (fun h => by have h1 := (HL.out.1.1.base _ h).1; omega); have o5 := blk_cell? hg5; have of5 := blk_free hg5; have HG5 := Lib.hid hg5; have HR5 := Lib.hid (And.intro hr5 (And.intro hc5 hx5)); clear hr5 hc5 hx5 hg5 hcc2 hff2
              refine hK.out _ _ (by (try dsimp only); exact ⟨y0, y1, y2, y3, y4⟩) (fun hNew => ?_)
              clear hK K hHeld
              have hHeld := hNew
              clear hNew
              try simp only [Act.put, List.setIfInBounds_toArray, List.set_cons_zero, List.set_cons_succ]
              first | (refine held_take 6 rfl (by kernel_rfl) (by kernel_rfl) (by kernel_rfl) (by rfl) (fun _ _ _ h => h) (by assumption) (by intro w hSw; (try dsimp only at hSw); go_simp; first | done | with_reducible rfl) ?_) | (refine held_skip 6 rfl (by kernel_rfl) (by kernel_rfl) (by kernel_rfl) (by rfl) (fun _ _ _ h => h) (by assumption) ?_)
              simp only [Act.put, List.setIfInBounds_toArray, List.set_cons_zero, List.set_cons_succ]
              refine held_one 7 (by kernel_rfl) rfl (fun K hK => ?_)
              go_simp
              refine hK.out _ _ (by (try dsimp only); exact ⟨((Chg.refl [g] _).set (by simp) _).cell y0 (fun h => by simp only [List.mem_singleton] at h; omega), ((Chg.refl [g] _).set (by simp) _).cell y1 (fun h => by simp only [List.mem_singleton] at h; omega), ((Chg.refl [g] _).set (by simp) _).cell y2 (fun h => by simp only [List.mem_singleton] at h; omega), ((Chg.refl [g] _).set (by simp) _).cell y3 (fun h => by simp only [List.mem_singleton] at h; omega), ((Chg.refl [g] _).set (by simp) _).cell y4 (fun h => by simp only [List.mem_singleton] at h; omega)⟩) (fun hNew => ?_)
              clear hK K hHeld
              have hHeld := hNew
              clear hNew
              try simp only [Act.put, List.setIfInBounds_toArray, List.set_cons_zero, List.set_cons_succ]
              refine wpAnyH_done (by kernel_rfl) ?_ _
              have hch : Chg [g] w5 (w5.setCell ⟨g, 1, none⟩ (.slice A3 (q + 1) c3)) := (Chg.refl _ _).set (by simp) _
              have hsb := (HL.out.1.1.base)
              have HRel := Lib.hid (show Chg [g] w1 (w5.setCell ⟨g, 1, none⟩ (.slice A3 (q + 1) c3)) ∧ (w5.setCell ⟨g, 1, none⟩ (.slice A3 (q + 1) c3)).heap[g]? = some (.cells #[.slice A1 s.schema.length c1, .slice A3 (q + 1) c3, .int .i64 s.next] 31 (0, 0)) ∧ FRows 46 91 (w5.setCell ⟨g, 1, none⟩ (.slice A3 (q + 1) c3)) w1.heap.size A3 (q + 1) c3 ((s.files.take (k + 1)).filter fun f => canRead f u) from by
                have hN := NRow.add (K := KFil 46 91) (x := (⟨s.files[k].id, s.files[k].owner, s.files[k].shared, s.files[k].link, A2, s.files[k].attrs.length, c2⟩, s.files[k].attrs)) HL.out.1 (ex_alloc HX.out.2 _) ((HX.out.1.below (by go_grown)).re (fun b hb' => by have h1 := (HX.out.1.base b hb').1; have h2 := hsz2; simp at h1; omega)) (fun b hb' => by have h1 := (HX.out.1.base b hb').1; simp at h1; omega) HR5.out.1 HR5.out.2.1 HR5.out.2.2
                refine ⟨?_, blk_set HG5.out 1 _, ⟨L0 ++ [(⟨s.files[k].id, s.files[k].owner, s.files[k].shared, s.files[k].link, A2, s.files[k].attrs.length, c2⟩, s.files[k].attrs)], hN.chg hch (fun b hb' h => ?_), by rw [List.map_append, HL.out.2, HTS.out, List.filter_append, filt1 (p := fun f => canRead f u) HRl.out]; rfl⟩⟩
                · have h2 : Chg [g] w1 w5 := (HC2.out.step (Chg.of_below [g] (ex_alloc HX.out.2 _)) (fun b hb' _ => hb')).step HR5.out.2.1 (fun b hb' hlt' => by have h3 := (hsb b hb').1; omega)
                  exact h2.step hch (fun b hb' _ => hb')
                · have h1 := (hN.base b hb').1
                  simp only [List.mem_singleton] at h
                  omega)
              clear hch hsb
              go_wp2_with fail
              go_roundw
              case rel => exact ⟨k + 1, q + 1, A3, c3, by omega, by omega, by go_num, HRel.out⟩
              case measure => simp [intOf]; omega
      · obtain rfl : s.files.length = k := by omega
        have hv : (s.files.take s.files.length).filter (fun f => canRead f u) = visF s u := by rw [List.take_of_length_le (Nat.le_refl _)]; rfl
        rw [hv] at HR
        have hql : (visF s u).length = q := HR.out.len
        clear hv hT
        generalize hfs : visF s u = fs at *
        have HFS := Lib.hid hfs
        have HQL := Lib.hid hql
        have hqm : q ≤ 1073741824 := by omega
        clear hfs hql
        obtain ⟨wx, rfl⟩ : ∃ wx, wx = wr := ⟨_, rfl⟩
        go_wp2_with fail
        go_loopw [37] (fun i wr => ∃ k : Nat, k ≤ q ∧ i = .int .i64 k ∧ Chg (rowBs B2 d2) wx wr ∧ FRows 46 91 wr w1.heap.size B2 q d2 (fixTo fs k)) (fun i _ => q - (intOf i).toNat)
        case atStart => exact ⟨0, Nat.zero_le _, rfl, Chg.refl _ _, by rw [fixTo_zero]; exact HR.out⟩
        case round =>
          obtain ⟨k, hkq, rfl, hC3, hR3⟩ := hrel
          have HC3 := Lib.hid hC3
          have HR3 := Lib.hid hR3
          have hrb : ∀ b ∈ rowBs B2 d2, w1.heap.size ≤ b := fun b hb => by obtain ⟨Lq, hq1, _⟩ := HR3.out; exact (hq1.1.base b hb).1
          have HRB := Lib.hid hrb
          have hgz := hC3.keepb HGo.out (fun h => by have h1 := HRB.out g h; omega)
          have hz3 := hC3.size
          have HGz := Lib.hid hgz
          have HBz := Lib.hid (HB.out.chg hC3 (fun x hx h => by
            have h1 := HRB.out _ h
            simp only [List.mem_cons, List.not_mem_nil, or_false] at hx
            rcases hx with rfl | rfl <;> simp only at h1 <;> omega))
          have HBwr := Lib.hid (Below.mark HBw.out hC3 HBw.out.size (fun b hb => by have h1 := HRB.out b hb; omega))
          have o0 := blk_cell? hgz 0
          have o1 := blk_cell? hgz 1
          have o2 := blk_cell? hgz 2
          have of := blk_free hgz
          simp only [List.getElem?_toArray, List.getElem?_cons_zero, List.getElem?_cons_succ] at o0 o1 o2
          have zg : g < wr.heap.size := blk_lt hgz
          clear hC3 hR3 hgz hrb x0 x1 x2
          have i0 : (0 : Int) ≤ (k : Int) := by omega
          by_cases hlt : k < q
          · obtain ⟨Lq, hq1, hq2⟩ := HR3.out
            obtain ⟨gF, rfl, hgB, hgl, hgr, hgf, hgc⟩ := hq1.1.cell encFh (by omega)
            have hLl : Lq.length = q := by have := hq1.1.len; simpa using this
            have hkL : k < (Lq.map (·.1)).length := by simp; omega
            have hkf : k < fs.length := by rw [HQL.out]; exact hlt
            have hmk : mkF Lq[k] = fs[k] := by rw [← fixTo_at fs k hkf]; simp only [← hq2, List.getElem_map]
            have hh0 : Lq[k].1.id = fs[k].id := by rw [← hmk]; rfl
            have hh1 : Lq[k].1.owner = fs[k].owner := by rw [← hmk]; rfl
            have hh2 : Lq[k].1.shared = fs[k].shared := by rw [← hmk]; rfl
            have hh3 : Lq[k].1.link = fs[k].link := by rw [← hmk]; rfl
            have hc0 := hgc k hkL 0 _ (by rw [List.getElem_map]; rfl)
            have hc1 := hgc k hkL 1 _ (by rw [List.getElem_map]; rfl)
            have hc2 := hgc k hkL 2 _ (by rw [List.getElem_map]; rfl)
            have hc3 := hgc k hkL 3 _ (by rw [List.getElem_map]; rfl)
            have hc4 : wr.cell? ⟨gF, k * 5 + 4, none⟩ = some (.slice Lq[k].1.A Lq[k].1.n Lq[k].1.c) := hgc k hkL 4 _ (by rw [List.getElem_map]; rfl)
            rw [hh0] at hc0
            rw [hh1] at hc1
            rw [hh2] at hc2
            rw [hh3] at hc3
            simp only [Nat.add_zero] at hc0
            have HLq := Lib.hid (And.intro hq1 (And.intro hq2 hmk))
            have HGR := Lib.hid hgr
            have ngF : ¬ (gF = g) := by omega
            have i1 : (k : Int) < (q : Int) := by omega
            have HA2 := Lib.hid fun (wa : World) (hb : Below wr.heap.size wr wa) => HAT.out A1 c1 (some ⟨gF, 0, none⟩) q d2 (fixTo fs k) fs[k].link wa (HR3.out.sl.mono mFil hb) hqm
            have hid := fixTo_idx fs k fs[k].link
            rw [hid] at HA2
            clear hgc hq1 hq2 hgr hh0 hh1 hh2 hh3 hid hmk
            have hfx := fixF_cases fs fs[k]
            generalize idxI (atId fs[k].link) fs = z at *
            have HFX := Lib.hid hfx
            clear hfx
            have hcase : (z = -1 ∧ fixF fs fs[k] = { fs[k] with link := 0 }) ∨ (0 ≤ z ∧ fixF fs fs[k] = fs[k]) := HFX.out
            have HFK := Lib.hid (fixTo_step fs k hkf)
            have HKL := Lib.hid hkL
            clear hkL
            rcases hcase with ⟨hz, hfx2⟩ | ⟨hz, hfx2⟩
            · subst hz
              have HFX2 := Lib.hid hfx2
              clear hfx2 HFX
              go_wp2_with fail
              refine (HA2.out _ (by go_grown)).mono ?_; rintro e w8 ⟨rfl, hb8⟩
              have hbz : Below wr.heap.size wr w8 := ex_trans (by go_grown) hb8
              have HC8 := Lib.hid (HC3.out.step (Chg.of_below (rowBs (some ⟨gF, 0, none⟩) d2) hbz) (fun b h _ => h))
              have hg8 := below_keep hbz HGz.out
              have HN8 := Lib.hid (HLq.out.1.below hbz)
              have p3 := keep_cell hbz hc3
              have pf : ∀ j, w8.frozen? ⟨gF, j, none⟩ = false := fun j => (hbz.frozen (p := ⟨gF, j, none⟩) hgl).trans (hgf j)
              have o1 := blk_cell? hg8 1
              have of := blk_free hg8
              simp only [List.getElem?_toArray, List.getElem?_cons_zero, List.getElem?_cons_succ] at o1
              have hz8 := hbz.size
              clear hb8 hbz hg8 hc0 hc1 hc2 hc3 hc4
              have HE := Lib.hid (FRow.set1 (i := k) (j := 3) (u := .int .i64 0) (x := (⟨Lq[k].1.id, Lq[k].1.owner, Lq[k].1.shared, 0, Lq[k].1.A, Lq[k].1.n, Lq[k].1.c⟩ : Fh)) encFh HN8.out.1 rfl (by simp; omega) (by omega) (by rw [List.getElem_map]; rfl))
              have HSC := Lib.hid (show Chg (rowBs (some ⟨gF, 0, none⟩) d2) w8 (w8.setCell ⟨gF, k * 5 + 3, none⟩ (.int .i64 0)) from (Chg.refl _ _).set (by rw [HGR.out]; simp) _)
              have HRel := Lib.hid (show Chg (rowBs (some ⟨gF, 0, none⟩) d2) wx (w8.setCell ⟨gF, k * 5 + 3, none⟩ (.int .i64 0)) ∧ FRows 46 91 (w8.setCell ⟨gF, k * 5 + 3, none⟩ (.int .i64 0)) w1.heap.size (some ⟨gF, 0, none⟩) q d2 (fixTo fs (k + 1)) from by
                refine ⟨HC8.out.trans HSC.out, Lq.set k (⟨Lq[k].1.id, Lq[k].1.owner, Lq[k].1.shared, 0, Lq[k].1.A, Lq[k].1.n, Lq[k].1.c⟩, Lq[k].2), ?_, ?_⟩
                · exact NRow.head (K := KFil 46 91) (i := k) HN8.out (by omega) (h' := (⟨Lq[k].1.id, Lq[k].1.owner, Lq[k].1.shared, 0, Lq[k].1.A, Lq[k].1.n, Lq[k].1.c⟩ : Fh)) rfl rfl rfl (by rw [List.map_set]; exact HE.out) HSC.out
                · rw [HFK.out, HFX2.out, ← HLq.out.2.1, List.map_set]
                  congr 1
                  have hm2 := HLq.out.2.2
                  rw [← hm2]; rfl)
              go_wp2_with fail
              go_roundw
              case rel => exact ⟨k + 1, by omega, by go_num, HRel.out⟩
              case measure => simp [intOf]; omega
            · have hzn : ¬ (z < 0) := by omega
              have hzd : decide (z < 0) = false := by simpa using hz
              have HFX2 := Lib.hid hfx2
              clear hfx2 HFX
              go_wp2_with fail
              refine (HA2.out _ (by go_grown)).mono ?_; rintro e w8 ⟨rfl, hb8⟩
              have hbz : Below wr.heap.size wr w8 := ex_trans (by go_grown) hb8
              have HC8 := Lib.hid (HC3.out.step (Chg.of_below (rowBs (some ⟨gF, 0, none⟩) d2) hbz) (fun b h _ => h))
              have hg8 := below_keep hbz HGz.out
              have HN8 := Lib.hid (HLq.out.1.below hbz)
              have p3 := keep_cell hbz hc3
              have pf : ∀ j, w8.frozen? ⟨gF, j, none⟩ = false := fun j => (hbz.frozen (p := ⟨gF, j, none⟩) hgl).trans (hgf j)
              have o1 := blk_cell? hg8 1
              have of := blk_free hg8
              simp only [List.getElem?_toArray, List.getElem?_cons_zero, List.getElem?_cons_succ] at o1
              have hz8 := hbz.size
              clear hb8 hbz hg8 hc0 hc1 hc2 hc3 hc4
              have HRel := Lib.hid (show FRows 46 91 w8 w1.heap.size (some ⟨gF, 0, none⟩) q d2 (fixTo fs (k + 1)) from ⟨Lq, HN8.out, by rw [HLq.out.2.1, HFK.out, HFX2.out]; rw [← fixTo_at fs k (by rw [HQL.out]; exact hlt)]; exact (List.set_getElem_self _).symm⟩)
              go_wp2_with fail
              go_roundw
              case rel => exact ⟨k + 1, by omega, by go_num, HC8.out, HRel.out⟩
              case measure => simp [intOf]; omega
          · obtain rfl : q = k := by omega
            have hr := blk_cell? (HBz.out _ (List.Mem.tail _ (List.Mem.head _)))
            have hf := blk_free (HBz.out _ (List.Mem.tail _ (List.Mem.head _)))
            have hall : fixTo fs q = fs.map (fixF fs) := by rw [← HQL.out]; exact fixTo_all fs
            have HALL := Lib.hid hall
            clear hall
            have hrl : w.heap.size + 1 < wr.heap.size := by omega
            go_wp2_with fail
            refine bodyPost_ret (v := .agg #[.slice A1 s.schema.length c1, .slice B2 q d2, .int .i64 s.next]) (by simp [results, Try.results52, go_sem, hr]) rfl ?_
            have hch : Chg [w.heap.size + 1] wr (sets wr (w.heap.size + 1) 0 [.slice A1 s.schema.length c1, .slice B2 q d2, .int .i64 s.next]) := sets_chg (bs := [w.heap.size + 1]) (g := w.heap.size + 1) (w := wr) (w1 := wr) (by simp) _ _ 0 (Chg.refl _ _)
            have hF1 := HF.out.base
            have hFw := (HF.out.chg HC.out (fun b hb h => by simp only [List.mem_singleton] at h; subst h; exact hgn hb)).chg HC3.out (fun b hb h => by have h1 := HRB.out b h; have h2 := (hF1 b hb).2; omega)
            have hFz := (hFw.chg hch (fun b hb h => by have h1 := (hF1 b hb).1; simp only [List.mem_singleton] at h; omega)).re (B' := w.heap.size) (fun b hb => by have h1 := (hF1 b hb).1; omega)
            obtain ⟨Lq, hq1, hq2⟩ := HR3.out
            rw [HALL.out] at hq2
            have hvl : (visS s u).files.length = q := by show ((visF s u).map _).length = q; rw [List.length_map, HFS.out]; exact HQL.out
            have hvf : (visS s u).files = fs.map (fixF fs) := by show (visF s u).map _ = _; rw [HFS.out]
            refine ⟨A1, c1, B2, d2, w1.heap.size, by rw [hvl]; rfl, hFz, fun b hb => (hF1 b hb).2, by omega, Nat.le_trans (by omega) hch.size, ⟨Lq, by rw [hvl]; exact hq1.chg hch (fun b hb h => by have h1 := (hq1.base b hb).1; simp only [List.mem_singleton] at h; omega), by rw [hvf]; exact hq2⟩, Below.mark HBwr.out hch HBwr.out.size (by simp only [List.mem_singleton]; intro b hb; omega)⟩
set_option maxHeartbeats 6400000 in
theorem spec_VisibleStore (s : Sto) (A : Option Addr) (n c : Nat) (B : Option Addr) (m d : Nat) (u : Int) (w : World) (hS : Sl 2 RFld w A n s.schema) (hT : Sl 5 RFil w B m s.files) (hok : s.ok 1073741824) :
    Calls Try.prog 48 #[s.v A n c B m d, .int .i64 u] w (NewStoR id 77 46 91 w (visS s u)) := by
  obtain rfl : s.files.length = m := hT.len
  obtain rfl : s.schema.length = n := hS.len
  have hn := hok.1
  have hm := hok.2.2.1
  obtain ⟨ii, hi, hi0, hi1, hi2⟩ := info_parts info_File
  obtain ⟨jj, hj, hj0, hj1, hj2⟩ := info_parts info_Field
  have HS := Lib.hid hS
  have HC4 := Lib.hid fun (k : Nat) (hk : k < s.files.length) A n c w' (hS : Sl 4 RAtr w' A n s.files[k].attrs) => spec_l04Copy s.files[k] A n c w' hS (by have := (hok.2.2.2 s.files[k] (List.getElem_mem hk)).1; have := hS.len; omega)
  have HCR := Lib.hid fun (k : Nat) (hk : k < s.files.length) A n c w' => spec_CanRead s.files[k] A n c u w'
  have HAT := Lib.hid fun (Ar : Option Addr) (cr : Nat) (Br : Option Addr) (q dr : Nat) (fl : List Fil) (id : Int) w' (hT : Sl 5 RFil w' Br q fl) (hq : q ≤ 1073741824) => spec_l05Place ⟨s.schema, fl, s.next⟩ Ar s.schema.length cr Br q dr id w' hT hq
  clear hS
  go_enter Try.func48, Try.ntmps48
  go_upto_region 1 with fail
  generalize hW : World.alloc (World.alloc w _) _ = W0
  have hb0 : HasB W0 [(w.heap.size, #[.slice A s.schema.length c, .slice B s.files.length d, .int .i64 s.next], 31), (w.heap.size + 1, #[.slice none 0 0, .slice none 0 0, .int .i64 0], 31)] := by
    rw [← hW]; intro x hx
    simp only [List.mem_cons, List.not_mem_nil, or_false] at hx
    rcases hx with rfl | rfl
    all_goals (simp only; repeat first | exact hp_new (by simp) | rw [hp_old (by simp <;> omega)])
  have hB0 : Below w.heap.size w W0 := by rw [← hW]; go_grown
  have hs0 : w.heap.size + 1 + 1 = W0.heap.size := by rw [← hW]; simp
  clear hW
  have z0 : w.heap.size < W0.heap.size := by omega
  have x0 := blk_cell? (hb0 _ (List.Mem.head _)) 0
  have x1 := blk_cell? (hb0 _ (List.Mem.head _)) 1
  have x2 := blk_cell? (hb0 _ (List.Mem.head _)) 2
  simp only [List.getElem?_toArray, List.getElem?_cons_zero, List.getElem?_cons_succ] at x0 x1 x2
  have HB0 := Lib.hid hb0
  have HS0 := Lib.hid (HS.out.mono mFld hB0)
  clear hb0
  go_cut [5] (fun s3 w' => ∃ (g : Nat) (A1 : Option Addr) (c1 : Nat), s3 = .pointer (some ⟨g, 0, none⟩) ∧ W0.heap.size ≤ g ∧ w'.heap[g]? = some (.cells #[.slice A1 s.schema.length c1, .slice none 0 0, .int .i64 s.next] 31 (0, 0)) ∧ FRow 77 2 eFld w' W0.heap.size A1 s.schema.length c1 s.schema ∧ g ∉ rowBs A1 c1 ∧ Below W0.heap.size W0 w')
  case first =>
    go_region_held3 (fun w' => Tok w' ∧ w'.cell? ⟨w.heap.size, 0, none⟩ = some (.slice A s.schema.length c) ∧ w'.cell? ⟨w.heap.size, 1, none⟩ = some (.slice B s.files.length d) ∧ w'.cell? ⟨w.heap.size, 2, none⟩ = some (.int .i64 s.next))
      (exact ⟨trivial, by go_simp, by go_simp, by go_simp⟩)
      (first | (refine step_append_row rfl (.tmp 8) (.tmp 10) _ rfl encFld Try.underlying28 hj hj0 hj1 hj2 rfl rfl rfl (FRow.any0 _ _ _ _ W0.heap.size _) (Src.of_sl (R := RFld) encFld (fun h => h) (HS0.out.mono mFld (by go_grown))) (by unfold maxLen; omega) (by omega) (by simp <;> omega) ?_; intro A6 c6 w6 hr6 hc6 hx6; have y0 : w6.cell? ⟨w.heap.size, 0, none⟩ = some (.slice A s.schema.length c) := hc6.cell (by go_simp) (by simp [rowBs_zero]); have y1 : w6.cell? ⟨w.heap.size, 1, none⟩ = some (.slice B s.files.length d) := hc6.cell (by go_simp) (by simp [rowBs_zero]); have y2 : w6.cell? ⟨w.heap.size, 2, none⟩ = some (.int .i64 s.next) := hc6.cell (by go_simp) (by simp [rowBs_zero]); have z6 : w.heap.size < w6.heap.size := (by have := hc6.size; simp at this; omega); have HB6 : Below W0.heap.size W0 w6 := (Below.mark (by go_grown) hc6 (by simp <;> omega) (by simp [rowBs_zero])); have HF6 := Lib.hid (show FRow 77 2 eFld w6 W0.heap.size A6 s.schema.length c6 s.schema by simpa using hr6); have HC6 := Lib.hid hc6; have HX6 := Lib.hid hx6; obtain ⟨hcc6, hff6⟩ := bcell (Chg.blow hc6); clear hr6 hc6 hx6))
    all_goals
      clear hcc6 hff6
      go_wp2_with fail
      go_meet
      first
        | exact ⟨w6.heap.size, A6, c6, rfl, HB6.size, hp_new rfl, HF6.out.below (by go_grown), fun h => absurd (HF6.out.base _ h).2 (Nat.lt_irrefl _), ex_alloc HB6 _⟩
        | (obtain ⟨m1, m2, m3, m4⟩ := meet_set (T := 31) (zs := #[.slice none 0 0, .slice none 0 0, .int .i64 0]) [.slice A6 s.schema.length c6, .slice none 0 0, .int .i64 s.next] (g := W0.heap.size + 1) (by exact hp_new (by simp)) (by omega) HF6.out HC6.out HX6.out HB6
           exact ⟨W0.heap.size + 1, A6, c6, rfl, by omega, m1, m2, m3, m4⟩)
        | (obtain ⟨m1, m2, m3, m4⟩ := meet_set (T := 31) (zs := #[.slice none 0 0, .slice none 0 0, .int .i64 0]) [.slice A6 s.schema.length c6, .slice none 0 0, .int .i64 s.next] (g := W0.heap.size) (by first | exact (hp_old (by simp)).trans (hp_new rfl) | exact hp_new rfl) (by omega) HF6.out HC6.out HX6.out HB6
           exact ⟨W0.heap.size, A6, c6, rfl, by omega, m1, m2, m3, m4⟩)
  case rest =>
    generalize wc = w1 at *
    obtain ⟨g, A1, c1, rfl, hG, hg, hF, hgn, hB1⟩ := hcut
    have hg1 : g < w1.heap.size := blk_lt hg
    have HBX := Lib.hid (HB0.out.below hB1)
    have HF := Lib.hid hF
    have hBw := ex_trans hB0 hB1
    have HG := Lib.hid hg
    have hB1s := hB1.size
    clear hF hg x0 x1 x2 hi hi0
    obtain ⟨ii, hi, hi0, hi1, hi2⟩ := info_parts info_File
    go_wp2_with fail
    go_loopw [6] (fun i wr => ∃ (k q : Nat) (B2 : Option Addr) (d2 : Nat), k ≤ s.files.length ∧ q ≤ k ∧ i = .int .i64 k ∧ Chg [g] w1 wr ∧ wr.heap[g]? = some (.cells #[.slice A1 s.schema.length c1, .slice B2 q d2, .int .i64 s.next] 31 (0, 0)) ∧ FRows 46 91 wr w1.heap.size B2 q d2 ((s.files.take k).filter fun f => canRead f u)) (fun i _ => s.files.length - (intOf i).toNat)
    case atStart => exact ⟨0, 0, none, 0, Nat.zero_le _, Nat.le_refl _, rfl, Chg.refl _ _, HG.out, FRows.any0 _ _ _ _ _⟩
    case round =>
      obtain ⟨k, q, B2, d2, hk2, hqk, rfl, hC, hgo, hR⟩ := hrel
      have HC := Lib.hid hC
      have HR := Lib.hid hR
      have HGo := Lib.hid hgo
      have hsz := hC.size
      have HB := Lib.hid (HBX.out.chg hC (fun x hx h => by
        simp only [List.mem_cons, List.not_mem_nil, or_false] at hx
        simp only [List.mem_singleton] at h
        rcases hx with rfl | rfl <;> simp only at h <;> omega))
      have HBw := Lib.hid (Below.mark hBw hC hBw.size (by simp only [List.mem_singleton]; intro b hb; omega))
      have x0 := blk_cell? (HB.out _ (List.Mem.head _)) 0
      have x1 := blk_cell? (HB.out _ (List.Mem.head _)) 1
      have x2 := blk_cell? (HB.out _ (List.Mem.head _)) 2
      simp only [List.getElem?_toArray, List.getElem?_cons_zero, List.getElem?_cons_succ] at x0 x1 x2
      have o1 := blk_cell? hgo
      have of := blk_free hgo
      have zg : g < wr.heap.size := blk_lt hgo
      have zw : w.heap.size < wr.heap.size := by omega
      have ng : ¬ (w.heap.size = g) := by omega
      clear hC hR hgo
      have i0 : (0 : Int) ≤ (k : Int) := by omega
      by_cases hlt : k < s.files.length
      · obtain ⟨b, off, rfl, bw, bc⟩ := hT.fil (by omega)
        obtain ⟨qA, qn, qc, q0, q1, q2, q3, q4, qS⟩ := bc k (by omega)
        obtain rfl : s.files[k].attrs.length = qn := qS.len
        have QS := Lib.hid (qS.mono mAtr HBw.out)
        have HQ := Lib.hid (And.intro q0 (And.intro q1 (And.intro q2 (And.intro q3 q4))))
        rw [← HBw.out.cell (p := ⟨b, _, none⟩) bw] at q0 q1 q2 q3 q4
        have i1 : (k : Int) < (s.files.length : Int) := by omega
        have zb : b < wr.heap.size := by omega
        have nb : ¬ (b = g) := by omega
        clear bc qS
        go_wp2_with fail
        refine (HCR.out k hlt _ _ _ _).mono ?_; rintro e w2 ⟨rfl, hb2⟩
        have hbq : Below wr.heap.size wr w2 := hb2
        clear hb2
        have hC := HC.out.step (Chg.of_below [g] hbq) (fun b h _ => h)
        have hgo := below_keep hbq HGo.out
        have hR := HR.out.below hbq
        clear x0 x1 x2 o1 of zg zw ng q0 q1 q2 q3 q4
        have HC2 := Lib.hid hC
        have HR2 := Lib.hid hR
        have HGo2 := Lib.hid hgo
        have hsz2 := hC.size
        have HB2 := Lib.hid (HBX.out.chg hC (fun x hx h => by
          simp only [List.mem_cons, List.not_mem_nil, or_false] at hx
          simp only [List.mem_singleton] at h
          rcases hx with rfl | rfl <;> simp only at h <;> omega))
        have HBw2 := Lib.hid (Below.mark hBw hC hBw.size (by simp only [List.mem_singleton]; intro b hb; omega))
        have x0 := blk_cell? (HB2.out _ (List.Mem.head _)) 0
        have x1 := blk_cell? (HB2.out _ (List.Mem.head _)) 1
        have x2 := blk_cell? (HB2.out _ (List.Mem.head _)) 2
        simp only [List.getElem?_toArray, List.getElem?_cons_zero, List.getElem?_cons_succ] at x0 x1 x2
        have o1 := blk_cell? hgo
        have of := blk_free hgo
        have zg : g < w2.heap.size := blk_lt hgo
        have zw : w.heap.size < w2.heap.size := by omega
        have ng : ¬ (w.heap.size = g) := by omega
        clear hC hR hgo
        have hbs := hbq.size
        have zb2 : b < w2.heap.size := by omega
        have QS2 := Lib.hid (QS.out.mono mAtr hbq)
        have hts : s.files.take (k + 1) = s.files.take k ++ [s.files[k]] := List.take_succ_eq_append_getElem hlt
        have HTS := Lib.hid hts
        clear hts
        cases hcr : canRead s.files[k] u with
        | false =>
          have HRel := Lib.hid (show FRows 46 91 w2 w1.heap.size B2 q d2 ((s.files.take (k + 1)).filter fun f => canRead f u) from by rw [HTS.out, List.filter_append, show [s.files[k]].filter (fun f => canRead f u) = [] from by rw [List.filter_cons_of_neg (by rw [hcr]; simp)]; rfl, List.append_nil]; exact HR2.out)
          clear hcr
          go_wp2_with fail
          go_roundw
          case rel => exact ⟨k + 1, q, B2, d2, by omega, by omega, by go_num, HC2.out, HGo2.out, HRel.out⟩
          case measure => simp [intOf]; omega
        | true =>
          have HRl := Lib.hid hcr
          clear hcr
          obtain ⟨L0, hL1, hL2⟩ := HR2.out
          have HL := Lib.hid (And.intro hL1 hL2)
          clear hL1 hL2
          obtain ⟨q0, q1, q2, q3, q4⟩ := HQ.out
          rw [← HBw2.out.cell (p := ⟨b, _, none⟩) bw] at q0 q1 q2 q3 q4
          go_upto_region 6 with fail
          refine wp_region_held_drew (S := (fun w' => w'.cell? ⟨w.heap.size, 1, none⟩ = some (.slice (some ⟨b, off, none⟩) s.files.length d) ∧ w'.cell? ⟨b, off + k * 5, none⟩ = some (.int .i64 s.files[k].id) ∧ w'.cell? ⟨b, off + k * 5 + 1, none⟩ = some (.int .i64 s.files[k].owner) ∧ w'.cell? ⟨b, off + k * 5 + 2, none⟩ = some (.bool s.files[k].shared) ∧ w'.cell? ⟨b, off + k * 5 + 3, none⟩ = some (.int .i64 s.files[k].link) ∧ w'.cell? ⟨b, off + k * 5 + 4, none⟩ = some (.slice qA s.files[k].attrs.length qc))) (by kernel_rfl) (by (try dsimp only); exact ⟨x1, q0, q1, q2, q3, q4⟩) (fun hHeld => ?_)
          first | (refine held_take 0 rfl (by kernel_rfl) (by kernel_rfl) (by kernel_rfl) (by rfl) (fun _ _ _ h => h) (by assumption) (by intro w hSw; (try dsimp only at hSw); go_simp; first | done | with_reducible rfl) ?_) | (refine held_skip 0 rfl (by kernel_rfl) (by kernel_rfl) (by kernel_rfl) (by rfl) (fun _ _ _ h => h) (by assumption) ?_)
          simp only [Act.put, List.setIfInBounds_toArray, List.set_cons_zero, List.set_cons_succ]
          first | (refine held_take 2 rfl (by kernel_rfl) (by kernel_rfl) (by kernel_rfl) (by rfl) (fun _ _ _ h => h) (by assumption) (by intro w hSw; (try dsimp only at hSw); go_simp; first | done | with_reducible rfl) ?_) | (refine held_skip 2 rfl (by kernel_rfl) (by kernel_rfl) (by kernel_rfl) (by rfl) (fun _ _ _ h => h) (by assumption) ?_)
          simp only [Act.put, List.setIfInBounds_toArray, List.set_cons_zero, List.set_cons_succ]
          first | (refine held_take 3 rfl (by kernel_rfl) (by kernel_rfl) (by kernel_rfl) (by rfl) (fun _ _ _ h => h) (by assumption) (by intro w hSw; (try dsimp only at hSw); go_simp; first | done | with_reducible rfl) ?_) | (refine held_skip 3 rfl (by kernel_rfl) (by kernel_rfl) (by kernel_rfl) (by rfl) (fun _ _ _ h => h) (by assumption) ?_)
          simp only [Act.put, List.setIfInBounds_toArray, List.set_cons_zero, List.set_cons_succ]
          first | (refine held_take 4 rfl (by kernel_rfl) (by kernel_rfl) (by kernel_rfl) (by rfl) (fun _ _ _ h => h) (by assumption) (by intro w hSw; (try dsimp only at hSw); go_simp; first | done | with_reducible rfl) ?_) | (refine held_skip 4 rfl (by kernel_rfl) (by kernel_rfl) (by kernel_rfl) (by rfl) (fun _ _ _ h => h) (by assumption) ?_)
          simp only [Act.put, List.setIfInBounds_toArray, List.set_cons_zero, List.set_cons_succ]
          first | (refine held_take 5 rfl (by kernel_rfl) (by kernel_rfl) (by kernel_rfl) (by rfl) (fun _ _ _ h => h) (by assumption) (by intro w hSw; (try dsimp only at hSw); go_simp; first | done | with_reducible rfl) ?_) | (refine held_skip 5 rfl (by kernel_rfl) (by kernel_rfl) (by kernel_rfl) (by rfl) (fun _ _ _ h => h) (by assumption) ?_)
          simp only [Act.put, List.setIfInBounds_toArray, List.set_cons_zero, List.set_cons_succ]
          first | (refine held_take 6 rfl (by kernel_rfl) (by kernel_rfl) (by kernel_rfl) (by rfl) (fun _ _ _ h => h) (by assumption) (by intro w hSw; (try dsimp only at hSw); go_simp; first | done | with_reducible rfl) ?_) | (refine held_skip 6 rfl (by kernel_rfl) (by kernel_rfl) (by kernel_rfl) (by rfl) (fun _ _ _ h => h) (by assumption) ?_)
          simp only [Act.put, List.setIfInBounds_toArray, List.set_cons_zero, List.set_cons_succ]
          refine held_two 1 7 (by kernel_rfl) rfl rfl (fun K hK => ?_) (fun K hK => ?_)
          · go_simp
            refine hK.out _ _ (by (try dsimp only); exact hHeld) (fun hNew => ?_)
            clear hK K hHeld
            have hHeld := hNew
            clear hNew
            try simp only [Act.put, List.setIfInBounds_toArray, List.set_cons_zero, List.set_cons_succ]
            refine held_one 7 (by kernel_rfl) rfl (fun K hK => ?_)
            go_simp
            go_at_call 101
            refine (HC4.out k hlt qA _ qc _ (QS2.out.mono mAtr (by go_grown))).mono ?_; rintro e w3 ⟨A2, c2, rfl, hr2, hb3⟩; have hbx := ex_trans (w := w2) (by go_grown) hb3; have HX := Lib.hid (And.intro hr2 hbx); obtain ⟨hcc2, hff2⟩ := bcell hbx; have zw3 : w.heap.size < w3.heap.size := (by have := hbx.size; omega); have zg3 : g < w3.heap.size := (by have := hbx.size; omega); have zb3 : b < w3.heap.size := (by have := hbx.size; omega); clear hr2
            go_wp2_with fail
            refine hK.out _ _ (by (try dsimp only); exact ⟨keep_cell hb3 hHeld.1, keep_cell hb3 hHeld.2.1, keep_cell hb3 hHeld.2.2.1, keep_cell hb3 hHeld.2.2.2.1, keep_cell hb3 hHeld.2.2.2.2.1, keep_cell hb3 hHeld.2.2.2.2.2⟩) (fun hNew => ?_)
            clear hK K hHeld
            have hHeld := hNew
            clear hNew
            try simp only [Act.put, List.setIfInBounds_toArray, List.set_cons_zero, List.set_cons_succ]
            refine held_one 8 (by kernel_rfl) rfl (fun K hK => ?_)
            go_simp
            refine hK.out _ _ (by (try dsimp only); exact ⟨keep_cell (ex_alloc (Below.refl _ _) _) hHeld.1, keep_cell (ex_alloc (Below.refl _ _) _) hHeld.2.1, keep_cell (ex_alloc (Below.refl _ _) _) hHeld.2.2.1, keep_cell (ex_alloc (Below.refl _ _) _) hHeld.2.2.2.1, keep_cell (ex_alloc (Below.refl _ _) _) hHeld.2.2.2.2.1, keep_cell (ex_alloc (Below.refl _ _) _) hHeld.2.2.2.2.2⟩) (fun hNew => ?_)
            clear hK K hHeld
            have hHeld := hNew
            clear hNew
            try simp only [Act.put, List.setIfInBounds_toArray, List.set_cons_zero, List.set_cons_succ]
            refine held_one 9 (by kernel_rfl) rfl (fun K hK => ?_)
            refine step_append_row rfl (.tmp 30) (.tmp 37) _ rfl encFh Try.underlying29 hi hi0 hi1 hi2 rfl rfl rfl (HL.out.1.1.below (ex_alloc HX.out.2 _)) (src1 encFh _ (⟨s.files[k].id, s.files[k].owner, s.files[k].shared, s.files[k].link, A2, s.files[k].attrs.length, c2⟩ : Fh) _ rfl rfl) (by unfold maxLen; omega) (by omega) (by have := HX.out.2.size; simp; omega) ?_; intro A3 c3 w5 hr5 hc5 hx5; have y0 : w5.cell? ⟨w.heap.size, 1, none⟩ = some (.slice (some ⟨b, off, none⟩) s.files.length d) := hc5.cell (by go_simp) (fun h => by have h1 := (HL.out.1.1.base _ h).1; simp only at h1; omega); have y1 : w5.cell? ⟨b, off + k * 5, none⟩ = some (.int .i64 s.files[k].id) := hc5.cell (by go_simp) (fun h => by have h1 := (HL.out.1.1.base _ h).1; simp only at h1; omega); have y2 : w5.cell? ⟨b, off + k * 5 + 1, none⟩ = some (.int .i64 s.files[k].owner) := hc5.cell (by go_simp) (fun h => by have h1 := (HL.out.1.1.base _ h).1; simp only at h1; omega); have y3 : w5.cell? ⟨b, off + k * 5 + 2, none⟩ = some (.bool s.files[k].shared) := hc5.cell (by go_simp) (fun h => by have h1 := (HL.out.1.1.base _ h).1; simp only at h1; omega); have y4 : w5.cell? ⟨b, off + k * 5 + 3, none⟩ = some (.int .i64 s.files[k].link) := hc5.cell (by go_simp) (fun h => by have h1 := (HL.out.1.1.base _ h).1; simp only at h1; omega); have y5 : w5.cell? ⟨b, off + k * 5 + 4, none⟩ = some (.slice qA s.files[k].attrs.length qc) := hc5.cell (by go_simp) (fun h => by have h1 := (HL.out.1.1.base _ h).1; simp only at h1; omega); have hg5 := hc5.keepb ((hp_old (by omega)).trans (below_keep hbx HGo2.out)) (fun h => by have h1 := (HL.out.1.1.base _ h).1; omega); have o5 := blk_cell? hg5; have of5 := blk_free hg5; have HG5 := Lib.hid hg5; have HR5 := Lib.hid (And.intro hr5 (And.intro hc5 hx5)); clear hr5 hc5 hx5 hg5 hcc2 hff2
            refine hK.out _ _ (by (try dsimp only); exact ⟨y0, y1, y2, y3, y4, y5⟩) (fun hNew => ?_)
            clear hK K hHeld
            have hHeld := hNew
            clear hNew
            try simp only [Act.put, List.setIfInBounds_toArray, List.set_cons_zero, List.set_cons_succ]
            first | (refine held_take 10 rfl (by kernel_rfl) (by kernel_rfl) (by kernel_rfl) (by rfl) (fun _ _ _ h => h) (by assumption) (by intro w hSw; (try dsimp only at hSw); go_simp; first | done | with_reducible rfl) ?_) | (refine held_skip 10 rfl (by kernel_rfl) (by kernel_rfl) (by kernel_rfl) (by rfl) (fun _ _ _ h => h) (by assumption) ?_)
            simp only [Act.put, List.setIfInBounds_toArray, List.set_cons_zero, List.set_cons_succ]
            refine held_one 11 (by kernel_rfl) rfl (fun K hK => ?_)
            go_simp
            refine hK.out _ _ (by (try dsimp only); exact ⟨((Chg.refl [g] _).set (by simp) _).cell y0 (fun h => by simp only [List.mem_singleton] at h; omega), ((Chg.refl [g] _).set (by simp) _).cell y1 (fun h => by simp only [List.mem_singleton] at h; omega), ((Chg.refl [g] _).set (by simp) _).cell y2 (fun h => by simp only [List.mem_singleton] at h; omega), ((Chg.refl [g] _).set (by simp) _).cell y3 (fun h => by simp only [List.mem_singleton] at h; omega), ((Chg.refl [g] _).set (by simp) _).cell y4 (fun h => by simp only [List.mem_singleton] at h; omega), ((Chg.refl [g] _).set (by simp) _).cell y5 (fun h => by simp only [List.mem_singleton] at h; omega)⟩) (fun hNew => ?_)
            clear hK K hHeld
            have hHeld := hNew
            clear hNew
            try simp only [Act.put, List.setIfInBounds_toArray, List.set_cons_zero, List.set_cons_succ]
            refine wpAnyH_done (by kernel_rfl) ?_ _
            have hch : Chg [g] w5 (w5.setCell ⟨g, 1, none⟩ (.slice A3 (q + 1) c3)) := (Chg.refl _ _).set (by simp) _
            have hsb := (HL.out.1.1.base)
            have HRel := Lib.hid (show Chg [g] w1 (w5.setCell ⟨g, 1, none⟩ (.slice A3 (q + 1) c3)) ∧ (w5.setCell ⟨g, 1, none⟩ (.slice A3 (q + 1) c3)).heap[g]? = some (.cells #[.slice A1 s.schema.length c1, .slice A3 (q + 1) c3, .int .i64 s.next] 31 (0, 0)) ∧ FRows 46 91 (w5.setCell ⟨g, 1, none⟩ (.slice A3 (q + 1) c3)) w1.heap.size A3 (q + 1) c3 ((s.files.take (k + 1)).filter fun f => canRead f u) from by
              have hN := NRow.add (K := KFil 46 91) (x := (⟨s.files[k].id, s.files[k].owner, s.files[k].shared, s.files[k].link, A2, s.files[k].attrs.length, c2⟩, s.files[k].attrs)) HL.out.1 (ex_alloc HX.out.2 _) ((HX.out.1.below (by go_grown)).re (fun b hb' => by have h1 := (HX.out.1.base b hb').1; have h2 := hsz2; simp at h1; omega)) (fun b hb' => by have h1 := (HX.out.1.base b hb').1; simp at h1; omega) HR5.out.1 HR5.out.2.1 HR5.out.2.2
              refine ⟨?_, blk_set HG5.out 1 _, ⟨L0 ++ [(⟨s.files[k].id, s.files[k].owner, s.files[k].shared, s.files[k].link, A2, s.files[k].attrs.length, c2⟩, s.files[k].attrs)], hN.chg hch (fun b hb' h => ?_), by rw [List.map_append, HL.out.2, HTS.out, List.filter_append, filt1 (p := fun f => canRead f u) HRl.out]; rfl⟩⟩
              · have h2 : Chg [g] w1 w5 := (HC2.out.step (Chg.of_below [g] (ex_alloc HX.out.2 _)) (fun b hb' _ => hb')).step HR5.out.2.1 (fun b hb' hlt' => by have h3 := (hsb b hb').1; omega)
                exact h2.step hch (fun b hb' _ => hb')
              · have h1 := (hN.base b hb').1
                simp only [List.mem_singleton] at h
                omega)
            clear hch hsb
            go_wp2_with fail
            go_roundw
            case rel => exact ⟨k + 1, q + 1, A3, c3, by omega, by omega, by go_num, HRel.out⟩
            case measure => simp [intOf]; omega
          · go_simp
            go_at_call 101
            refine (HC4.out k hlt qA _ qc _ (QS2.out.mono mAtr (by go_grown))).mono ?_; rintro e w3 ⟨A2, c2, rfl, hr2, hb3⟩; have hbx := ex_trans (w := w2) (by go_grown) hb3; have HX := Lib.hid (And.intro hr2 hbx); obtain ⟨hcc2, hff2⟩ := bcell hbx; have zw3 : w.heap.size < w3.heap.size := (by have := hbx.size; omega); have zg3 : g < w3.heap.size := (by have := hbx.size; omega); have zb3 : b < w3.heap.size := (by have := hbx.size; omega); clear hr2
            go_wp2_with fail
            refine hK.out _ _ (by (try dsimp only); exact ⟨keep_cell hb3 hHeld.1, keep_cell hb3 hHeld.2.1, keep_cell hb3 hHeld.2.2.1, keep_cell hb3 hHeld.2.2.2.1, keep_cell hb3 hHeld.2.2.2.2.1, keep_cell hb3 hHeld.2.2.2.2.2⟩) (fun hNew => ?_)
            clear hK K hHeld
            have hHeld := hNew
            clear hNew
            try simp only [Act.put, List.setIfInBounds_toArray, List.set_cons_zero, List.set_cons_succ]
            refine held_two 1 8 (by kernel_rfl) rfl rfl (fun K hK => ?_) (fun K hK => ?_)
            · go_simp
              refine hK.out _ _ (by (try dsimp only); exact hHeld) (fun hNew => ?_)
              clear hK K hHeld
              have hHeld := hNew
              clear hNew
              try simp only [Act.put, List.setIfInBounds_toArray, List.set_cons_zero, List.set_cons_succ]
              refine held_one 8 (by kernel_rfl) rfl (fun K hK => ?_)
              go_simp
              refine hK.out _ _ (by (try dsimp only); exact ⟨keep_cell (ex_alloc (Below.refl _ _) _) hHeld.1, keep_cell (ex_alloc (Below.refl _ _) _) hHeld.2.1, keep_cell (ex_alloc (Below.refl _ _) _) hHeld.2.2.1, keep_cell (ex_alloc (Below.refl _ _) _) hHeld.2.2.2.1, keep_cell (ex_alloc (Below.refl _ _) _) hHeld.2.2.2.2.1, keep_cell (ex_alloc (Below.refl _ _) _) hHeld.2.2.2.2.2⟩) (fun hNew => ?_)
              clear hK K hHeld
              have hHeld := hNew
              clear hNew
              try simp only [Act.put, List.setIfInBounds_toArray, List.set_cons_zero, List.set_cons_succ]
              refine held_one 9 (by kernel_rfl) rfl (fun K hK => ?_)
              refine step_append_row rfl (.tmp 30) (.tmp 37) _ rfl encFh Try.underlying29 hi hi0 hi1 hi2 rfl rfl rfl (HL.out.1.1.below (ex_alloc HX.out.2 _)) (src1 encFh _ (⟨s.files[k].id, s.files[k].owner, s.files[k].shared, s.files[k].link, A2, s.files[k].attrs.length, c2⟩ : Fh) _ rfl rfl) (by unfold maxLen; omega) (by omega) (by have := HX.out.2.size; simp; omega) ?_; intro A3 c3 w5 hr5 hc5 hx5; have y0 : w5.cell? ⟨w.heap.size, 1, none⟩ = some (.slice (some ⟨b, off, none⟩) s.files.length d) := hc5.cell (by go_simp) (fun h => by have h1 := (HL.out.1.1.base _ h).1; simp only at h1; omega); have y1 : w5.cell? ⟨b, off + k * 5, none⟩ = some (.int .i64 s.files[k].id) := hc5.cell (by go_simp) (fun h => by have h1 := (HL.out.1.1.base _ h).1; simp only at h1; omega); have y2 : w5.cell? ⟨b, off + k * 5 + 1, none⟩ = some (.int .i64 s.files[k].owner) := hc5.cell (by go_simp) (fun h => by have h1 := (HL.out.1.1.base _ h).1; simp only at h1; omega); have y3 : w5.cell? ⟨b, off + k * 5 + 2, none⟩ = some (.bool s.files[k].shared) := hc5.cell (by go_simp) (fun h => by have h1 := (HL.out.1.1.base _ h).1; simp only at h1; omega); have y4 : w5.cell? ⟨b, off + k * 5 + 3, none⟩ = some (.int .i64 s.files[k].link) := hc5.cell (by go_simp) (fun h => by have h1 := (HL.out.1.1.base _ h).1; simp only at h1; omega); have y5 : w5.cell? ⟨b, off + k * 5 + 4, none⟩ = some (.slice qA s.files[k].attrs.length qc) := hc5.cell (by go_simp) (fun h => by have h1 := (HL.out.1.1.base _ h).1; simp only at h1; omega); have hg5 := hc5.keepb ((hp_old (by omega)).trans (below_keep hbx HGo2.out)) (fun h => by have h1 := (HL.out.1.1.base _ h).1; omega); have o5 := blk_cell? hg5; have of5 := blk_free hg5; have HG5 := Lib.hid hg5; have HR5 := Lib.hid (And.intro hr5 (And.intro hc5 hx5)); clear hr5 hc5 hx5 hg5 hcc2 hff2
              refine hK.out _ _ (by (try dsimp only); exact ⟨y0, y1, y2, y3, y4, y5⟩) (fun hNew => ?_)
              clear hK K hHeld
              have hHeld := hNew
              clear hNew
              try simp only [Act.put, List.setIfInBounds_toArray, List.set_cons_zero, List.set_cons_succ]
              first | (refine held_take 10 rfl (by kernel_rfl) (by kernel_rfl) (by kernel_rfl) (by rfl) (fun _ _ _ h => h) (by assumption) (by intro w hSw; (try dsimp only at hSw); go_simp; first | done | with_reducible rfl) ?_) | (refine held_skip 10 rfl (by kernel_rfl) (by kernel_rfl) (by kernel_rfl) (by rfl) (fun _ _ _ h => h) (by assumption) ?_)
              simp only [Act.put, List.setIfInBounds_toArray, List.set_cons_zero, List.set_cons_succ]
              refine held_one 11 (by kernel_rfl) rfl (fun K hK => ?_)
              go_simp
              refine hK.out _ _ (by (try dsimp only); exact ⟨((Chg.refl [g] _).set (by simp) _).cell y0 (fun h => by simp only [List.mem_singleton] at h; omega), ((Chg.refl [g] _).set (by simp) _).cell y1 (fun h => by simp only [List.mem_singleton] at h; omega), ((Chg.refl [g] _).set (by simp) _).cell y2 (fun h => by simp only [List.mem_singleton] at h; omega), ((Chg.refl [g] _).set (by simp) _).cell y3 (fun h => by simp only [List.mem_singleton] at h; omega), ((Chg.refl [g] _).set (by simp) _).cell y4 (fun h => by simp only [List.mem_singleton] at h; omega), ((Chg.refl [g] _).set (by simp) _).cell y5 (fun h => by simp only [List.mem_singleton] at h; omega)⟩) (fun hNew => ?_)
              clear hK K hHeld
              have hHeld := hNew
              clear hNew
              try simp only [Act.put, List.setIfInBounds_toArray, List.set_cons_zero, List.set_cons_succ]
              refine wpAnyH_done (by kernel_rfl) ?_ _
              have hch : Chg [g] w5 (w5.setCell ⟨g, 1, none⟩ (.slice A3 (q + 1) c3)) := (Chg.refl _ _).set (by simp) _
              have hsb := (HL.out.1.1.base)
              have HRel := Lib.hid (show Chg [g] w1 (w5.setCell ⟨g, 1, none⟩ (.slice A3 (q + 1) c3)) ∧ (w5.setCell ⟨g, 1, none⟩ (.slice A3 (q + 1) c3)).heap[g]? = some (.cells #[.slice A1 s.schema.length c1, .slice A3 (q + 1) c3, .int .i64 s.next] 31 (0, 0)) ∧ FRows 46 91 (w5.setCell ⟨g, 1, none⟩ (.slice A3 (q + 1) c3)) w1.heap.size A3 (q + 1) c3 ((s.files.take (k + 1)).filter fun f => canRead f u) from by
                have hN := NRow.add (K := KFil 46 91) (x := (⟨s.files[k].id, s.files[k].owner, s.files[k].shared, s.files[k].link, A2, s.files[k].attrs.length, c2⟩, s.files[k].attrs)) HL.out.1 (ex_alloc HX.out.2 _) ((HX.out.1.below (by go_grown)).re (fun b hb' => by have h1 := (HX.out.1.base b hb').1; have h2 := hsz2; simp at h1; omega)) (fun b hb' => by have h1 := (HX.out.1.base b hb').1; simp at h1; omega) HR5.out.1 HR5.out.2.1 HR5.out.2.2
                refine ⟨?_, blk_set HG5.out 1 _, ⟨L0 ++ [(⟨s.files[k].id, s.files[k].owner, s.files[k].shared, s.files[k].link, A2, s.files[k].attrs.length, c2⟩, s.files[k].attrs)], hN.chg hch (fun b hb' h => ?_), by rw [List.map_append, HL.out.2, HTS.out, List.filter_append, filt1 (p := fun f => canRead f u) HRl.out]; rfl⟩⟩
                · have h2 : Chg [g] w1 w5 := (HC2.out.step (Chg.of_below [g] (ex_alloc HX.out.2 _)) (fun b hb' _ => hb')).step HR5.out.2.1 (fun b hb' hlt' => by have h3 := (hsb b hb').1; omega)
                  exact h2.step hch (fun b hb' _ => hb')
                · have h1 := (hN.base b hb').1
                  simp only [List.mem_singleton] at h
                  omega)
              clear hch hsb
              go_wp2_with fail
              go_roundw
              case rel => exact ⟨k + 1, q + 1, A3, c3, by omega, by omega, by go_num, HRel.out⟩
              case measure => simp [intOf]; omega
            · go_simp
              refine hK.out _ _ (by (try dsimp only); exact ⟨keep_cell (ex_alloc (Below.refl _ _) _) hHeld.1, keep_cell (ex_alloc (Below.refl _ _) _) hHeld.2.1, keep_cell (ex_alloc (Below.refl _ _) _) hHeld.2.2.1, keep_cell (ex_alloc (Below.refl _ _) _) hHeld.2.2.2.1, keep_cell (ex_alloc (Below.refl _ _) _) hHeld.2.2.2.2.1, keep_cell (ex_alloc (Below.refl _ _) _) hHeld.2.2.2.2.2⟩) (fun hNew => ?_)
              clear hK K hHeld
              have hHeld := hNew
              clear hNew
              try simp only [Act.put, List.setIfInBounds_toArray, List.set_cons_zero, List.set_cons_succ]
              refine held_one 1 (by kernel_rfl) rfl (fun K hK => ?_)
              go_simp
              refine hK.out _ _ (by (try dsimp only); exact hHeld) (fun hNew => ?_)
              clear hK K hHeld
              have hHeld := hNew
              clear hNew
              try simp only [Act.put, List.setIfInBounds_toArray, List.set_cons_zero, List.set_cons_succ]
              refine held_one 9 (by kernel_rfl) rfl (fun K hK => ?_)
              refine step_append_row rfl (.tmp 30) (.tmp 37) _ rfl encFh Try.underlying29 hi hi0 hi1 hi2 rfl rfl rfl (HL.out.1.1.below (ex_alloc HX.out.2 _)) (src1 encFh _ (⟨s.files[k].id, s.files[k].owner, s.files[k].shared, s.files[k].link, A2, s.files[k].attrs.length, c2⟩ : Fh) _ rfl rfl) (by unfold maxLen; omega) (by omega) (by have := HX.out.2.size; simp; omega) ?_; intro A3 c3 w5 hr5 hc5 hx5; have y0 : w5.cell? ⟨w.heap.size, 1, none⟩ = some (.slice (some ⟨b, off, none⟩) s.files.length d) := hc5.cell (by go_simp) (fun h => by have h1 := (HL.out.1.1.base _ h).1; simp only at h1; omega); have y1 : w5.cell? ⟨b, off + k * 5, none⟩ = some (.int .i64 s.files[k].id) := hc5.cell (by go_simp) (fun h => by have h1 := (HL.out.1.1.base _ h).1; simp only at h1; omega); have y2 : w5.cell? ⟨b, off + k * 5 + 1, none⟩ = some (.int .i64 s.files[k].owner) := hc5.cell (by go_simp) (fun h => by have h1 := (HL.out.1.1.base _ h).1; simp only at h1; omega); have y3 : w5.cell? ⟨b, off + k * 5 + 2, none⟩ = some (.bool s.files[k].shared) := hc5.cell (by go_simp) (fun h => by have h1 := (HL.out.1.1.base _ h).1; simp only at h1; omega); have y4 : w5.cell? ⟨b, off + k * 5 + 3, none⟩ = some (.int .i64 s.files[k].link) := hc5.cell (by go_simp) (fun h => by have h1 := (HL.out.1.1.base _ h).1; simp only at h1; omega); have y5 : w5.cell? ⟨b, off + k * 5 + 4, none⟩ = some (.slice qA s.files[k].attrs.length qc) := hc5.cell (by go_simp) (fun h => by have h1 := (HL.out.1.1.base _ h).1; simp only at h1; omega); have hg5 := hc5.keepb ((hp_old (by omega)).trans (below_keep hbx HGo2.out)) (fun h => by have h1 := (HL.out.1.1.base _ h).1; omega); have o5 := blk_cell? hg5; have of5 := blk_free hg5; have HG5 := Lib.hid hg5; have HR5 := Lib.hid (And.intro hr5 (And.intro hc5 hx5)); clear hr5 hc5 hx5 hg5 hcc2 hff2
              refine hK.out _ _ (by (try dsimp only); exact ⟨y0, y1, y2, y3, y4, y5⟩) (fun hNew => ?_)
              clear hK K hHeld
              have hHeld := hNew
              clear hNew
              try simp only [Act.put, List.setIfInBounds_toArray, List.set_cons_zero, List.set_cons_succ]
              first | (refine held_take 10 rfl (by kernel_rfl) (by kernel_rfl) (by kernel_rfl) (by rfl) (fun _ _ _ h => h) (by assumption) (by intro w hSw; (try dsimp only at hSw); go_simp; first | done | with_reducible rfl) ?_) | (refine held_skip 10 rfl (by kernel_rfl) (by kernel_rfl) (by kernel_rfl) (by rfl) (fun _ _ _ h => h) (by assumption) ?_)
              simp only [Act.put, List.setIfInBounds_toArray, List.set_cons_zero, List.set_cons_succ]
              refine held_one 11 (by kernel_rfl) rfl (fun K hK => ?_)
              go_simp
              refine hK.out _ _ (by (try dsimp only); exact ⟨((Chg.refl [g] _).set (by simp) _).cell y0 (fun h => by simp only [List.mem_singleton] at h; omega), ((Chg.refl [g] _).set (by simp) _).cell y1 (fun h => by simp only [List.mem_singleton] at h; omega), ((Chg.refl [g] _).set (by simp) _).cell y2 (fun h => by simp only [List.mem_singleton] at h; omega), ((Chg.refl [g] _).set (by simp) _).cell y3 (fun h => by simp only [List.mem_singleton] at h; omega), ((Chg.refl [g] _).set (by simp) _).cell y4 (fun h => by simp only [List.mem_singleton] at h; omega), ((Chg.refl [g] _).set (by simp) _).cell y5 (fun h => by simp only [List.mem_singleton] at h; omega)⟩) (fun hNew => ?_)
              clear hK K hHeld
              have hHeld := hNew
              clear hNew
              try simp only [Act.put, List.setIfInBounds_toArray, List.set_cons_zero, List.set_cons_succ]
              refine wpAnyH_done (by kernel_rfl) ?_ _
              have hch : Chg [g] w5 (w5.setCell ⟨g, 1, none⟩ (.slice A3 (q + 1) c3)) := (Chg.refl _ _).set (by simp) _
              have hsb := (HL.out.1.1.base)
              have HRel := Lib.hid (show Chg [g] w1 (w5.setCell ⟨g, 1, none⟩ (.slice A3 (q + 1) c3)) ∧ (w5.setCell ⟨g, 1, none⟩ (.slice A3 (q + 1) c3)).heap[g]? = some (.cells #[.slice A1 s.schema.length c1, .slice A3 (q + 1) c3, .int .i64 s.next] 31 (0, 0)) ∧ FRows 46 91 (w5.setCell ⟨g, 1, none⟩ (.slice A3 (q + 1) c3)) w1.heap.size A3 (q + 1) c3 ((s.files.take (k + 1)).filter fun f => canRead f u) from by
                have hN := NRow.add (K := KFil 46 91) (x := (⟨s.files[k].id, s.files[k].owner, s.files[k].shared, s.files[k].link, A2, s.files[k].attrs.length, c2⟩, s.files[k].attrs)) HL.out.1 (ex_alloc HX.out.2 _) ((HX.out.1.below (by go_grown)).re (fun b hb' => by have h1 := (HX.out.1.base b hb').1; have h2 := hsz2; simp at h1; omega)) (fun b hb' => by have h1 := (HX.out.1.base b hb').1; simp at h1; omega) HR5.out.1 HR5.out.2.1 HR5.out.2.2
                refine ⟨?_, blk_set HG5.out 1 _, ⟨L0 ++ [(⟨s.files[k].id, s.files[k].owner, s.files[k].shared, s.files[k].link, A2, s.files[k].attrs.length, c2⟩, s.files[k].attrs)], hN.chg hch (fun b hb' h => ?_), by rw [List.map_append, HL.out.2, HTS.out, List.filter_append, filt1 (p := fun f => canRead f u) HRl.out]; rfl⟩⟩
                · have h2 : Chg [g] w1 w5 := (HC2.out.step (Chg.of_below [g] (ex_alloc HX.out.2 _)) (fun b hb' _ => hb')).step HR5.out.2.1 (fun b hb' hlt' => by have h3 := (hsb b hb').1; omega)
                  exact h2.step hch (fun b hb' _ => hb')
                · have h1 := (hN.base b hb').1
                  simp only [List.mem_singleton] at h
                  omega)
              clear hch hsb
              go_wp2_with fail
              go_roundw
              case rel => exact ⟨k + 1, q + 1, A3, c3, by omega, by omega, by go_num, HRel.out⟩
              case measure => simp [intOf]; omega
      · obtain rfl : s.files.length = k := by omega
        have hv : (s.files.take s.files.length).filter (fun f => canRead f u) = visF s u := by rw [List.take_of_length_le (Nat.le_refl _)]; rfl
        rw [hv] at HR
        have hql : (visF s u).length = q := HR.out.len
        clear hv hT
        generalize hfs : visF s u = fs at *
        have HFS := Lib.hid hfs
        have HQL := Lib.hid hql
        have hqm : q ≤ 1073741824 := by omega
        clear hfs hql
        obtain ⟨wx, rfl⟩ : ∃ wx, wx = wr := ⟨_, rfl⟩
        go_wp2_with fail
        go_loopw [7] (fun i wr => ∃ k : Nat, k ≤ q ∧ i = .int .i64 k ∧ Chg (rowBs B2 d2) wx wr ∧ FRows 46 91 wr w1.heap.size B2 q d2 (fixTo fs k)) (fun i _ => q - (intOf i).toNat)
        case atStart => exact ⟨0, Nat.zero_le _, rfl, Chg.refl _ _, by rw [fixTo_zero]; exact HR.out⟩
        case round =>
          obtain ⟨k, hkq, rfl, hC3, hR3⟩ := hrel
          have HC3 := Lib.hid hC3
          have HR3 := Lib.hid hR3
          have hrb : ∀ b ∈ rowBs B2 d2, w1.heap.size ≤ b := fun b hb => by obtain ⟨Lq, hq1, _⟩ := HR3.out; exact (hq1.1.base b hb).1
          have HRB := Lib.hid hrb
          have hgz := hC3.keepb HGo.out (fun h => by have h1 := HRB.out g h; omega)
          have hz3 := hC3.size
          have HGz := Lib.hid hgz
          have HBz := Lib.hid (HB.out.chg hC3 (fun x hx h => by
            have h1 := HRB.out _ h
            simp only [List.mem_cons, List.not_mem_nil, or_false] at hx
            rcases hx with rfl | rfl <;> simp only at h1 <;> omega))
          have HBwr := Lib.hid (Below.mark HBw.out hC3 HBw.out.size (fun b hb => by have h1 := HRB.out b hb; omega))
          have o0 := blk_cell? hgz 0
          have o1 := blk_cell? hgz 1
          have o2 := blk_cell? hgz 2
          have of := blk_free hgz
          simp only [List.getElem?_toArray, List.getElem?_cons_zero, List.getElem?_cons_succ] at o0 o1 o2
          have zg : g < wr.heap.size := blk_lt hgz
          clear hC3 hR3 hgz hrb x0 x1 x2
          have i0 : (0 : Int) ≤ (k : Int) := by omega
          by_cases hlt : k < q
          · obtain ⟨Lq, hq1, hq2⟩ := HR3.out
            obtain ⟨gF, rfl, hgB, hgl, hgr, hgf, hgc⟩ := hq1.1.cell encFh (by omega)
            have hLl : Lq.length = q := by have := hq1.1.len; simpa using this
            have hkL : k < (Lq.map (·.1)).length := by simp; omega
            have hkf : k < fs.length := by rw [HQL.out]; exact hlt
            have hmk : mkF Lq[k] = fs[k] := by rw [← fixTo_at fs k hkf]; simp only [← hq2, List.getElem_map]
            have hh0 : Lq[k].1.id = fs[k].id := by rw [← hmk]; rfl
            have hh1 : Lq[k].1.owner = fs[k].owner := by rw [← hmk]; rfl
            have hh2 : Lq[k].1.shared = fs[k].shared := by rw [← hmk]; rfl
            have hh3 : Lq[k].1.link = fs[k].link := by rw [← hmk]; rfl
            have hc0 := hgc k hkL 0 _ (by rw [List.getElem_map]; rfl)
            have hc1 := hgc k hkL 1 _ (by rw [List.getElem_map]; rfl)
            have hc2 := hgc k hkL 2 _ (by rw [List.getElem_map]; rfl)
            have hc3 := hgc k hkL 3 _ (by rw [List.getElem_map]; rfl)
            have hc4 : wr.cell? ⟨gF, k * 5 + 4, none⟩ = some (.slice Lq[k].1.A Lq[k].1.n Lq[k].1.c) := hgc k hkL 4 _ (by rw [List.getElem_map]; rfl)
            rw [hh0] at hc0
            rw [hh1] at hc1
            rw [hh2] at hc2
            rw [hh3] at hc3
            simp only [Nat.add_zero] at hc0
            have HLq := Lib.hid (And.intro hq1 (And.intro hq2 hmk))
            have HGR := Lib.hid hgr
            have ngF : ¬ (gF = g) := by omega
            have i1 : (k : Int) < (q : Int) := by omega
            have HA2 := Lib.hid fun (wa : World) (hb : Below wr.heap.size wr wa) => HAT.out A1 c1 (some ⟨gF, 0, none⟩) q d2 (fixTo fs k) fs[k].link wa (HR3.out.sl.mono mFil hb) hqm
            have hid := fixTo_idx fs k fs[k].link
            rw [hid] at HA2
            clear hgc hq1 hq2 hgr hh0 hh1 hh2 hh3 hid hmk
            have hfx := fixF_cases fs fs[k]
            generalize idxI (atId fs[k].link) fs = z at *
            have HFX := Lib.hid hfx
            clear hfx
            have hcase : (z = -1 ∧ fixF fs fs[k] = { fs[k] with link := 0 }) ∨ (0 ≤ z ∧ fixF fs fs[k] = fs[k]) := HFX.out
            have HFK := Lib.hid (fixTo_step fs k hkf)
            have HKL := Lib.hid hkL
            clear hkL
            rcases hcase with ⟨hz, hfx2⟩ | ⟨hz, hfx2⟩
            · subst hz
              have HFX2 := Lib.hid hfx2
              clear hfx2 HFX
              go_upto_region 10 with fail
              refine wp_region_held_drew (S := (fun w' => w'.cell? ⟨g, 0, none⟩ = some (.slice A1 s.schema.length c1) ∧ w'.cell? ⟨g, 1, none⟩ = some (.slice (some ⟨gF, 0, none⟩) q d2) ∧ w'.cell? ⟨g, 2, none⟩ = some (.int .i64 s.next) ∧ w'.cell? ⟨gF, k * 5 + 3, none⟩ = some (.int .i64 fs[k].link))) (by kernel_rfl) (by (try dsimp only); exact ⟨o0, o1, o2, hc3⟩) (fun hHeld => ?_)
              first | (refine held_take 0 rfl (by kernel_rfl) (by kernel_rfl) (by kernel_rfl) (by rfl) (fun _ _ _ h => h) (by assumption) (by intro w hSw; (try dsimp only at hSw); go_simp; first | done | with_reducible rfl) ?_) | (refine held_skip 0 rfl (by kernel_rfl) (by kernel_rfl) (by kernel_rfl) (by rfl) (fun _ _ _ h => h) (by assumption) ?_)
              simp only [Act.put, List.setIfInBounds_toArray, List.set_cons_zero, List.set_cons_succ]
              first | (refine held_take 1 rfl (by kernel_rfl) (by kernel_rfl) (by kernel_rfl) (by rfl) (fun _ _ _ h => h) (by assumption) (by intro w hSw; (try dsimp only at hSw); go_simp; first | done | with_reducible rfl) ?_) | (refine held_skip 1 rfl (by kernel_rfl) (by kernel_rfl) (by kernel_rfl) (by rfl) (fun _ _ _ h => h) (by assumption) ?_)
              simp only [Act.put, List.setIfInBounds_toArray, List.set_cons_zero, List.set_cons_succ]
              first | (refine held_take 2 rfl (by kernel_rfl) (by kernel_rfl) (by kernel_rfl) (by rfl) (fun _ _ _ h => h) (by assumption) (by intro w hSw; (try dsimp only at hSw); go_simp; first | done | with_reducible rfl) ?_) | (refine held_skip 2 rfl (by kernel_rfl) (by kernel_rfl) (by kernel_rfl) (by rfl) (fun _ _ _ h => h) (by assumption) ?_)
              simp only [Act.put, List.setIfInBounds_toArray, List.set_cons_zero, List.set_cons_succ]
              first | (refine held_take 3 rfl (by kernel_rfl) (by kernel_rfl) (by kernel_rfl) (by rfl) (fun _ _ _ h => h) (by assumption) (by intro w hSw; (try dsimp only at hSw); go_simp; first | done | with_reducible rfl) ?_) | (refine held_skip 3 rfl (by kernel_rfl) (by kernel_rfl) (by kernel_rfl) (by rfl) (fun _ _ _ h => h) (by assumption) ?_)
              simp only [Act.put, List.setIfInBounds_toArray, List.set_cons_zero, List.set_cons_succ]
              first | (refine held_take 4 rfl (by kernel_rfl) (by kernel_rfl) (by kernel_rfl) (by rfl) (fun _ _ _ h => h) (by assumption) (by intro w hSw; (try dsimp only at hSw); go_simp; first | done | with_reducible rfl) ?_) | (refine held_skip 4 rfl (by kernel_rfl) (by kernel_rfl) (by kernel_rfl) (by rfl) (fun _ _ _ h => h) (by assumption) ?_)
              simp only [Act.put, List.setIfInBounds_toArray, List.set_cons_zero, List.set_cons_succ]
              first | (refine held_take 5 rfl (by kernel_rfl) (by kernel_rfl) (by kernel_rfl) (by rfl) (fun _ _ _ h => h) (by assumption) (by intro w hSw; (try dsimp only at hSw); go_simp; first | done | with_reducible rfl) ?_) | (refine held_skip 5 rfl (by kernel_rfl) (by kernel_rfl) (by kernel_rfl) (by rfl) (fun _ _ _ h => h) (by assumption) ?_)
              simp only [Act.put, List.setIfInBounds_toArray, List.set_cons_zero, List.set_cons_succ]
              first | (refine held_take 6 rfl (by kernel_rfl) (by kernel_rfl) (by kernel_rfl) (by rfl) (fun _ _ _ h => h) (by assumption) (by intro w hSw; (try dsimp only at hSw); go_simp; first | done | with_reducible rfl) ?_) | (refine held_skip 6 rfl (by kernel_rfl) (by kernel_rfl) (by kernel_rfl) (by rfl) (fun _ _ _ h => h) (by assumption) ?_)
              simp only [Act.put, List.setIfInBounds_toArray, List.set_cons_zero, List.set_cons_succ]
              refine held_one 7 (by kernel_rfl) rfl (fun K hK => ?_)
              go_simp
              go_at_call 102
              refine (HA2.out _ (by go_grown)).mono ?_; rintro e w8 ⟨rfl, hb8⟩
              go_wp2_with fail
              refine hK.out _ _ (by (try dsimp only); exact ⟨keep_cell hb8 hHeld.1, keep_cell hb8 hHeld.2.1, keep_cell hb8 hHeld.2.2.1, keep_cell hb8 hHeld.2.2.2⟩) (fun hNew => ?_)
              clear hK K hHeld
              have hHeld := hNew
              clear hNew
              try simp only [Act.put, List.setIfInBounds_toArray, List.set_cons_zero, List.set_cons_succ]
              have hbz : Below wr.heap.size wr w8 := ex_trans (by go_grown) hb8
              first | (refine held_take 8 rfl (by kernel_rfl) (by kernel_rfl) (by kernel_rfl) (by rfl) (fun _ _ _ h => h) (by assumption) (by intro w hSw; (try dsimp only at hSw); go_simp; first | done | with_reducible rfl) ?_) | (refine held_skip 8 rfl (by kernel_rfl) (by kernel_rfl) (by kernel_rfl) (by rfl) (fun _ _ _ h => h) (by assumption) ?_)
              simp only [Act.put, List.setIfInBounds_toArray, List.set_cons_zero, List.set_cons_succ]
              refine wpAnyH_done (by kernel_rfl) ?_ _
              clear hHeld
              have HC8 := Lib.hid (HC3.out.step (Chg.of_below (rowBs (some ⟨gF, 0, none⟩) d2) hbz) (fun b h _ => h))
              have hg8 := below_keep hbz HGz.out
              have HN8 := Lib.hid (HLq.out.1.below hbz)
              have p3 := keep_cell hbz hc3
              have pf : ∀ j, w8.frozen? ⟨gF, j, none⟩ = false := fun j => (hbz.frozen (p := ⟨gF, j, none⟩) hgl).trans (hgf j)
              have o1 := blk_cell? hg8 1
              have of := blk_free hg8
              simp only [List.getElem?_toArray, List.getElem?_cons_zero, List.getElem?_cons_succ] at o1
              have hz8 := hbz.size
              clear hb8 hbz hg8 hc0 hc1 hc2 hc3 hc4
              have HE := Lib.hid (FRow.set1 (i := k) (j := 3) (u := .int .i64 0) (x := (⟨Lq[k].1.id, Lq[k].1.owner, Lq[k].1.shared, 0, Lq[k].1.A, Lq[k].1.n, Lq[k].1.c⟩ : Fh)) encFh HN8.out.1 rfl (by simp; omega) (by omega) (by rw [List.getElem_map]; rfl))
              have HSC := Lib.hid (show Chg (rowBs (some ⟨gF, 0, none⟩) d2) w8 (w8.setCell ⟨gF, k * 5 + 3, none⟩ (.int .i64 0)) from (Chg.refl _ _).set (by rw [HGR.out]; simp) _)
              have HRel := Lib.hid (show Chg (rowBs (some ⟨gF, 0, none⟩) d2) wx (w8.setCell ⟨gF, k * 5 + 3, none⟩ (.int .i64 0)) ∧ FRows 46 91 (w8.setCell ⟨gF, k * 5 + 3, none⟩ (.int .i64 0)) w1.heap.size (some ⟨gF, 0, none⟩) q d2 (fixTo fs (k + 1)) from by
                refine ⟨HC8.out.trans HSC.out, Lq.set k (⟨Lq[k].1.id, Lq[k].1.owner, Lq[k].1.shared, 0, Lq[k].1.A, Lq[k].1.n, Lq[k].1.c⟩, Lq[k].2), ?_, ?_⟩
                · exact NRow.head (K := KFil 46 91) (i := k) HN8.out (by omega) (h' := (⟨Lq[k].1.id, Lq[k].1.owner, Lq[k].1.shared, 0, Lq[k].1.A, Lq[k].1.n, Lq[k].1.c⟩ : Fh)) rfl rfl rfl (by rw [List.map_set]; exact HE.out) HSC.out
                · rw [HFK.out, HFX2.out, ← HLq.out.2.1, List.map_set]
                  congr 1
                  have hm2 := HLq.out.2.2
                  rw [← hm2]; rfl)
              go_wp2_with fail
              go_roundw
              case rel => exact ⟨k + 1, by omega, by go_num, HRel.out⟩
              case measure => simp [intOf]; omega
            · have hzn : ¬ (z < 0) := by omega
              have hzd : decide (z < 0) = false := by simpa using hz
              have HFX2 := Lib.hid hfx2
              clear hfx2 HFX
              go_upto_region 10 with fail
              refine wp_region_held_drew (S := (fun w' => w'.cell? ⟨g, 0, none⟩ = some (.slice A1 s.schema.length c1) ∧ w'.cell? ⟨g, 1, none⟩ = some (.slice (some ⟨gF, 0, none⟩) q d2) ∧ w'.cell? ⟨g, 2, none⟩ = some (.int .i64 s.next) ∧ w'.cell? ⟨gF, k * 5 + 3, none⟩ = some (.int .i64 fs[k].link))) (by kernel_rfl) (by (try dsimp only); exact ⟨o0, o1, o2, hc3⟩) (fun hHeld => ?_)
              first | (refine held_take 0 rfl (by kernel_rfl) (by kernel_rfl) (by kernel_rfl) (by rfl) (fun _ _ _ h => h) (by assumption) (by intro w hSw; (try dsimp only at hSw); go_simp; first | done | with_reducible rfl) ?_) | (refine held_skip 0 rfl (by kernel_rfl) (by kernel_rfl) (by kernel_rfl) (by rfl) (fun _ _ _ h => h) (by assumption) ?_)
              simp only [Act.put, List.setIfInBounds_toArray, List.set_cons_zero, List.set_cons_succ]
              first | (refine held_take 1 rfl (by kernel_rfl) (by kernel_rfl) (by kernel_rfl) (by rfl) (fun _ _ _ h => h) (by assumption) (by intro w hSw; (try dsimp only at hSw); go_simp; first | done | with_reducible rfl) ?_) | (refine held_skip 1 rfl (by kernel_rfl) (by kernel_rfl) (by kernel_rfl) (by rfl) (fun _ _ _ h => h) (by assumption) ?_)
              simp only [Act.put, List.setIfInBounds_toArray, List.set_cons_zero, List.set_cons_succ]
              first | (refine held_take 2 rfl (by kernel_rfl) (by kernel_rfl) (by kernel_rfl) (by rfl) (fun _ _ _ h => h) (by assumption) (by intro w hSw; (try dsimp only at hSw); go_simp; first | done | with_reducible rfl) ?_) | (refine held_skip 2 rfl (by kernel_rfl) (by kernel_rfl) (by kernel_rfl) (by rfl) (fun _ _ _ h => h) (by assumption) ?_)
              simp only [Act.put, List.setIfInBounds_toArray, List.set_cons_zero, List.set_cons_succ]
              first | (refine held_take 3 rfl (by kernel_rfl) (by kernel_rfl) (by kernel_rfl) (by rfl) (fun _ _ _ h => h) (by assumption) (by intro w hSw; (try dsimp only at hSw); go_simp; first | done | with_reducible rfl) ?_) | (refine held_skip 3 rfl (by kernel_rfl) (by kernel_rfl) (by kernel_rfl) (by rfl) (fun _ _ _ h => h) (by assumption) ?_)
              simp only [Act.put, List.setIfInBounds_toArray, List.set_cons_zero, List.set_cons_succ]
              first | (refine held_take 4 rfl (by kernel_rfl) (by kernel_rfl) (by kernel_rfl) (by rfl) (fun _ _ _ h => h) (by assumption) (by intro w hSw; (try dsimp only at hSw); go_simp; first | done | with_reducible rfl) ?_) | (refine held_skip 4 rfl (by kernel_rfl) (by kernel_rfl) (by kernel_rfl) (by rfl) (fun _ _ _ h => h) (by assumption) ?_)
              simp only [Act.put, List.setIfInBounds_toArray, List.set_cons_zero, List.set_cons_succ]
              first | (refine held_take 5 rfl (by kernel_rfl) (by kernel_rfl) (by kernel_rfl) (by rfl) (fun _ _ _ h => h) (by assumption) (by intro w hSw; (try dsimp only at hSw); go_simp; first | done | with_reducible rfl) ?_) | (refine held_skip 5 rfl (by kernel_rfl) (by kernel_rfl) (by kernel_rfl) (by rfl) (fun _ _ _ h => h) (by assumption) ?_)
              simp only [Act.put, List.setIfInBounds_toArray, List.set_cons_zero, List.set_cons_succ]
              first | (refine held_take 6 rfl (by kernel_rfl) (by kernel_rfl) (by kernel_rfl) (by rfl) (fun _ _ _ h => h) (by assumption) (by intro w hSw; (try dsimp only at hSw); go_simp; first | done | with_reducible rfl) ?_) | (refine held_skip 6 rfl (by kernel_rfl) (by kernel_rfl) (by kernel_rfl) (by rfl) (fun _ _ _ h => h) (by assumption) ?_)
              simp only [Act.put, List.setIfInBounds_toArray, List.set_cons_zero, List.set_cons_succ]
              refine held_one 7 (by kernel_rfl) rfl (fun K hK => ?_)
              go_simp
              go_at_call 102
              refine (HA2.out _ (by go_grown)).mono ?_; rintro e w8 ⟨rfl, hb8⟩
              go_wp2_with fail
              refine hK.out _ _ (by (try dsimp only); exact ⟨keep_cell hb8 hHeld.1, keep_cell hb8 hHeld.2.1, keep_cell hb8 hHeld.2.2.1, keep_cell hb8 hHeld.2.2.2⟩) (fun hNew => ?_)
              clear hK K hHeld
              have hHeld := hNew
              clear hNew
              try simp only [Act.put, List.setIfInBounds_toArray, List.set_cons_zero, List.set_cons_succ]
              have hbz : Below wr.heap.size wr w8 := ex_trans (by go_grown) hb8
              first | (refine held_take 8 rfl (by kernel_rfl) (by kernel_rfl) (by kernel_rfl) (by rfl) (fun _ _ _ h => h) (by assumption) (by intro w hSw; (try dsimp only at hSw); go_simp; first | done | with_reducible rfl) ?_) | (refine held_skip 8 rfl (by kernel_rfl) (by kernel_rfl) (by kernel_rfl) (by rfl) (fun _ _ _ h => h) (by assumption) ?_)
              simp only [Act.put, List.setIfInBounds_toArray, List.set_cons_zero, List.set_cons_succ]
              refine wpAnyH_done (by kernel_rfl) ?_ _
              clear hHeld
              have HC8 := Lib.hid (HC3.out.step (Chg.of_below (rowBs (some ⟨gF, 0, none⟩) d2) hbz) (fun b h _ => h))
              have hg8 := below_keep hbz HGz.out
              have HN8 := Lib.hid (HLq.out.1.below hbz)
              have p3 := keep_cell hbz hc3
              have pf : ∀ j, w8.frozen? ⟨gF, j, none⟩ = false := fun j => (hbz.frozen (p := ⟨gF, j, none⟩) hgl).trans (hgf j)
              have o1 := blk_cell? hg8 1
              have of := blk_free hg8
              simp only [List.getElem?_toArray, List.getElem?_cons_zero, List.getElem?_cons_succ] at o1
              have hz8 := hbz.size
              clear hb8 hbz hg8 hc0 hc1 hc2 hc3 hc4
              have HRel := Lib.hid (show FRows 46 91 w8 w1.heap.size (some ⟨gF, 0, none⟩) q d2 (fixTo fs (k + 1)) from ⟨Lq, HN8.out, by rw [HLq.out.2.1, HFK.out, HFX2.out]; rw [← fixTo_at fs k (by rw [HQL.out]; exact hlt)]; exact (List.set_getElem_self _).symm⟩)
              go_wp2_with fail
              go_roundw
              case rel => exact ⟨k + 1, by omega, by go_num, HC8.out, HRel.out⟩
              case measure => simp [intOf]; omega
          · obtain rfl : q = k := by omega
            have hr := blk_cell? (HBz.out _ (List.Mem.tail _ (List.Mem.head _)))
            have hf := blk_free (HBz.out _ (List.Mem.tail _ (List.Mem.head _)))
            have hall : fixTo fs q = fs.map (fixF fs) := by rw [← HQL.out]; exact fixTo_all fs
            have HALL := Lib.hid hall
            clear hall
            have hrl : w.heap.size + 1 < wr.heap.size := by omega
            go_wp2_with fail
            refine bodyPost_ret (v := .agg #[.slice A1 s.schema.length c1, .slice B2 q d2, .int .i64 s.next]) (by simp [results, Try.results48, go_sem, hr]) rfl ?_
            have hch : Chg [w.heap.size + 1] wr (sets wr (w.heap.size + 1) 0 [.slice A1 s.schema.length c1, .slice B2 q d2, .int .i64 s.next]) := sets_chg (bs := [w.heap.size + 1]) (g := w.heap.size + 1) (w := wr) (w1 := wr) (by simp) _ _ 0 (Chg.refl _ _)
            have hF1 := HF.out.base
            have hFw := (HF.out.chg HC.out (fun b hb h => by simp only [List.mem_singleton] at h; subst h; exact hgn hb)).chg HC3.out (fun b hb h => by have h1 := HRB.out b h; have h2 := (hF1 b hb).2; omega)
            have hFz := (hFw.chg hch (fun b hb h => by have h1 := (hF1 b hb).1; simp only [List.mem_singleton] at h; omega)).re (B' := w.heap.size) (fun b hb => by have h1 := (hF1 b hb).1; omega)
            obtain ⟨Lq, hq1, hq2⟩ := HR3.out
            rw [HALL.out] at hq2
            have hvl : (visS s u).files.length = q := by show ((visF s u).map _).length = q; rw [List.length_map, HFS.out]; exact HQL.out
            have hvf : (visS s u).files = fs.map (fixF fs) := by show (visF s u).map _ = _; rw [HFS.out]
            refine ⟨A1, c1, B2, d2, w1.heap.size, by rw [hvl]; rfl, hFz, fun b hb => (hF1 b hb).2, by omega, Nat.le_trans (by omega) hch.size, ⟨Lq, by rw [hvl]; exact hq1.chg hch (fun b hb h => by have h1 := (hq1.base b hb).1; simp only [List.mem_singleton] at h; omega), by rw [hvf]; exact hq2⟩, Below.mark HBwr.out hch HBwr.out.size (by simp only [List.mem_singleton]; intro b hb; omega)⟩
end Go.Proofs.Ytkjhfblipmagoaa
