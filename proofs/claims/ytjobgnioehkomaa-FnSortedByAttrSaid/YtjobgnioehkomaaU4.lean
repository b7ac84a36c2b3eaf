/-
  CONTRACTS: the program's files by an attribute, in order.
-/
import Derived.WalkKit
import Derived.WalkSpells
import Derived.WalkLawsBesides
import Derived.Lib.Hide
import Derived.Handy
import Derived.StillTailTactics
import Derived.Deep.Light
import Derived.Deep.QuietTactic
import Derived.BigQuiet
import Derived.Deep.RegionHeld3
import Derived.Deep.DeepCutAuto
import Derived.Test.YtjobgnioehkomaaLib
import Derived.Test.YtjobgnioehkomaaOwn
import Derived.Test.YtjobgnioehkomaaRow
import Derived.Test.YtjobgnioehkomaaN0
import Derived.Test.YtjobgnioehkomaaRaw
import Derived.Test.YtjobgnioehkomaaHld
import Derived.Test.YtjobgnioehkomaaHl2
import Derived.Test.YtjobgnioehkomaaHl3
import Derived.Test.YtjobgnioehkomaaM0
import Derived.Test.YtjobgnioehkomaaC1
import Derived.Test.YtjobgnioehkomaaC2
import Derived.Test.YtjobgnioehkomaaT1
import Derived.Test.YtjobgnioehkomaaT2
import Derived.Test.YtjobgnioehkomaaT3
import Derived.Test.YtjobgnioehkomaaT4
import Derived.Test.YtjobgnioehkomaaC3
import Derived.Test.YtjobgnioehkomaaC4
import Derived.Test.YtjobgnioehkomaaC5
import Derived.Test.YtjobgnioehkomaaD1
import Derived.Test.YtjobgnioehkomaaD3
import Derived.Test.YtjobgnioehkomaaH1
import Derived.Test.YtjobgnioehkomaaU0
import Derived.Test.YtjobgnioehkomaaU1
import Derived.Test.YtjobgnioehkomaaU2
import Derived.Test.YtjobgnioehkomaaU3
import Derived.Test.YtjobgnioehkomaaRows
namespace Go.Proofs.Ytjobgnioehkomaa
open Go.RowKit
set_option linter.unusedVariables false
set_option maxRecDepth 100000
/-- a header with its file -/
abbrev HF := Fh × Fil
def hasZ (nm : ByteArray) (p : HF) : Bool := hasI p.2.attrs nm
def intZ (nm : ByteArray) (p : HF) : Int := intA p.2.attrs nm
def sortZ (nm : ByteArray) (zs : List HF) : List HF := srt (intZ nm) (zs.filter (hasZ nm))
def sortF (nm : ByteArray) (fs : List Fil) : List Fil := srt (fun f => intA f.attrs nm) (fs.filter fun f => hasI f.attrs nm)
def toHk (nm : ByteArray) (p : HF) : HK := (p.1, intZ nm p)
theorem sortZ_map (nm : ByteArray) (zs : List HF) : (sortZ nm zs).map (·.2) = sortF nm (zs.map (·.2)) := by
  unfold sortZ sortF
  have e : (zs.map (·.2)).filter (fun f => hasI f.attrs nm) = (zs.filter (hasZ nm)).map (·.2) := by rw [List.filter_map]; rfl
  rw [e, ← srt_map (key := fun f : Fil => intA f.attrs nm) (f := fun p : HF => p.2)]
  rfl
theorem sortZ_hk (nm : ByteArray) (zs : List HF) : srt hkey ((zs.filter (hasZ nm)).map (toHk nm)) = (sortZ nm zs).map (toHk nm) := by
  unfold sortZ
  rw [← srt_map (key := hkey) (f := toHk nm)]
  rfl
theorem sortZ_mem {nm : ByteArray} {zs : List HF} {p : HF} (h : p ∈ sortZ nm zs) : p ∈ zs ∧ hasZ nm p = true := by
  unfold sortZ at h
  exact List.mem_filter.1 (srt_mem.1 h)
theorem sortZ_len (nm : ByteArray) (zs : List HF) : (sortZ nm zs).length ≤ zs.length := by
  unfold sortZ; rw [srt_len]; exact List.length_filter_le _ _
/-- the elements that may be compared: their attributes lie in w -/
def okK (w : World) (nm : ByteArray) (x : HK) : Prop := ∃ l : List Atr, Sl 4 RAtr w x.1.A x.1.n l ∧ x.1.n ≤ 1073741824 ∧ x.2 = (getA l nm).int
theorem Fh.is.okK {w : World} {nm : ByteArray} {p : HF} (h : p.1.is w p.2) (hn : p.2.attrs.length ≤ 1073741824) (hi : hasZ nm p = true) : okK w nm (toHk nm p) := by
  refine ⟨p.2.attrs, h.2.2.2.2, by rw [show (toHk nm p).1 = p.1 from rfl, ← h.2.2.2.2.len]; exact hn, ?_⟩
  unfold hasZ hasI at hi
  show intA p.2.attrs nm = _
  unfold intA
  rw [if_pos (by simpa using hi)]
theorem encFh' (p : HF) : eFh p.1 = eHk (p.1, 0) := rfl
theorem FRow.mapped {α β : Type} {e size : Nat} {enc : β → List Value} {w : World} {B n c : Nat} {A : Option Addr} {l : List α} (g : α → β) (h : FRow e size enc w B A n c (l.map g)) : FRow e size (fun a => enc (g a)) w B A n c l := by
  obtain ⟨h1, h2, h3, h4⟩ := h
  refine ⟨by simpa using h1, h2, h3, ?_⟩
  rcases h4 with h4 | ⟨g', cur, hA, hB, hg, hs, ht⟩
  · exact .inl h4
  · exact .inr ⟨g', cur, hA, hB, hg, hs, by rw [ht, List.flatMap_map]⟩
theorem cmp_neg (a b : Int) : decide (cmpI a b < 0) = decide (a < b) := by
  unfold cmpI
  by_cases h : a < b
  · rw [if_pos h]; simp [h]
  · rw [if_neg h]
    by_cases h2 : b < a
    · rw [if_pos h2]; simp [h]
    · rw [if_neg h2]; simp [h]
set_option maxHeartbeats 3200000 in
theorem impl_filesByAttr_1 (nm : ByteArray) (b o : Nat) (w0 : World) (hc : w0.cell? ⟨b, o, none⟩ = some (.string nm)) : Cmp2 Try.prog 152 #[.pointer (some ⟨b, o, none⟩)] (okK w0 nm) w0.heap.size w0 := by
  intro w hb0 x y hx hy
  obtain ⟨lx, hsx, hnx, hkx⟩ := hx
  obtain ⟨ly, hsy, hny, hky⟩ := hy
  have c0 := keep_cell hb0 hc
  have hl := World.block_lt_of_cell? w _ c0
  simp only at hl
  have GX := Lib.hid fun w' (hb : Below w.heap.size w w') => (impl_GetAttr ⟨x.1.id, x.1.owner, x.1.shared, x.1.link, lx⟩ x.1.A x.1.n x.1.c nm w' ((hsx.mono mAtr hb0).mono mAtr hb) hnx).mono (fun e w'' h => (show e = .returned (.agg #[.int .i64 (getA lx nm).kind, .int .i64 (getA lx nm).int, .string (getA lx nm).str]) ∧ Below w'.heap.size w' w'' from h))
  have GY := Lib.hid fun w' (hb : Below w.heap.size w w') => (impl_GetAttr ⟨y.1.id, y.1.owner, y.1.shared, y.1.link, ly⟩ y.1.A y.1.n y.1.c nm w' ((hsy.mono mAtr hb0).mono mAtr hb) hny).mono (fun e w'' h => (show e = .returned (.agg #[.int .i64 (getA ly nm).kind, .int .i64 (getA ly nm).int, .string (getA ly nm).str]) ∧ Below w'.heap.size w' w'' from h))
  have HZ := Lib.hid (show decide (cmpI (getA lx nm).int (getA ly nm).int < 0) = decide (x.2 < y.2) by rw [hkx, hky, cmp_neg])
  clear hsx hsy hkx hky hc hb0
  show Calls Try.prog 152 #[.agg #[.int .i64 x.1.id, .int .i64 x.1.owner, .bool x.1.shared, .int .i64 x.1.link, .slice x.1.A x.1.n x.1.c], .agg #[.int .i64 y.1.id, .int .i64 y.1.owner, .bool y.1.shared, .int .i64 y.1.link, .slice y.1.A y.1.n y.1.c], .pointer (some ⟨b, o, none⟩)] w _
  have hfl : ∀ (k i : Int) (s : ByteArray) (w : World), (Instr.field 30 (.agg #[.int .i64 k, .int .i64 i, .string s]) 1).run Try.prog w = .ok (.int .i64 i) w := fun _ _ _ _ => by kernel_rfl
  go_enter Try.func152, Try.ntmps152
  go_upto_region 1 with fail
  generalize hW : World.alloc (World.alloc w _) _ = W0
  have hp : W0.heap[w.heap.size]? = some (.cells #[.int .i64 x.1.id, .int .i64 x.1.owner, .bool x.1.shared, .int .i64 x.1.link, .slice x.1.A x.1.n x.1.c] 28 (0, 0)) := by rw [← hW]; exact (hp_old (by simp)).trans (hp_new rfl)
  have hq : W0.heap[w.heap.size + 1]? = some (.cells #[.int .i64 y.1.id, .int .i64 y.1.owner, .bool y.1.shared, .int .i64 y.1.link, .slice y.1.A y.1.n y.1.c] 28 (0, 0)) := by rw [← hW]; exact hp_new (by simp)
  have hbw : Below w.heap.size w W0 := by rw [← hW]; go_grown
  clear hW
  have p0 := blk_cell? hp 0
  have p1 := blk_cell? hp 1
  have p2 := blk_cell? hp 2
  have p3 := blk_cell? hp 3
  have p4 := blk_cell? hp 4
  have q0 := blk_cell? hq 0
  have q1 := blk_cell? hq 1
  have q2 := blk_cell? hq 2
  have q3 := blk_cell? hq 3
  have q4 := blk_cell? hq 4
  simp only [List.getElem?_toArray, List.getElem?_cons_zero, List.getElem?_cons_succ] at p0 p1 p2 p3 p4 q0 q1 q2 q3 q4
  replace c0 := keep_cell hbw c0
  refine wp_region_held_drew (S := (fun w' => w'.cell? ⟨w.heap.size, 0, none⟩ = some (.int .i64 x.1.id) ∧ w'.cell? ⟨w.heap.size, 1, none⟩ = some (.int .i64 x.1.owner) ∧ w'.cell? ⟨w.heap.size, 2, none⟩ = some (.bool x.1.shared) ∧ w'.cell? ⟨w.heap.size, 3, none⟩ = some (.int .i64 x.1.link) ∧ w'.cell? ⟨w.heap.size, 4, none⟩ = some (.slice x.1.A x.1.n x.1.c) ∧ w'.cell? ⟨w.heap.size + 1, 0, none⟩ = some (.int .i64 y.1.id) ∧ w'.cell? ⟨w.heap.size + 1, 1, none⟩ = some (.int .i64 y.1.owner) ∧ w'.cell? ⟨w.heap.size + 1, 2, none⟩ = some (.bool y.1.shared) ∧ w'.cell? ⟨w.heap.size + 1, 3, none⟩ = some (.int .i64 y.1.link) ∧ w'.cell? ⟨w.heap.size + 1, 4, none⟩ = some (.slice y.1.A y.1.n y.1.c) ∧ w'.cell? ⟨b, o, none⟩ = some (.string nm) ∧ Below w.heap.size w w')) (by kernel_rfl) (by (try dsimp only); exact ⟨p0, p1, p2, p3, p4, q0, q1, q2, q3, q4, c0, hbw.drew⟩) (fun hHeld => ?_)
  first | (refine held_take 0 rfl (by kernel_rfl) (by kernel_rfl) (by kernel_rfl) (by rfl) (fun _ _ _ h => h) (by assumption) (by intro w hSw; (try dsimp only at hSw); go_simp; first | done | with_reducible rfl) ?_) | (refine held_skip 0 rfl (by kernel_rfl) (by kernel_rfl) (by kernel_rfl) (by rfl) (fun _ _ _ h => h) (by assumption) ?_)
  simp only [Act.put, List.setIfInBounds_toArray, List.set_cons_zero, List.set_cons_succ]
  first | (refine held_take 1 rfl (by kernel_rfl) (by kernel_rfl) (by kernel_rfl) (by rfl) (fun _ _ _ h => h) (by assumption) (by intro w hSw; (try dsimp only at hSw); go_simp; first | done | with_reducible rfl) ?_) | (refine held_skip 1 rfl (by kernel_rfl) (by kernel_rfl) (by kernel_rfl) (by rfl) (fun _ _ _ h => h) (by assumption) ?_)
  simp only [Act.put, List.setIfInBounds_toArray, List.set_cons_zero, List.set_cons_succ]
  first | (refine held_take 4 rfl (by kernel_rfl) (by kernel_rfl) (by kernel_rfl) (by rfl) (fun _ _ _ h => h) (by assumption) (by intro w hSw; (try dsimp only at hSw); go_simp; first | done | with_reducible rfl) ?_) | (refine held_skip 4 rfl (by kernel_rfl) (by kernel_rfl) (by kernel_rfl) (by rfl) (fun _ _ _ h => h) (by assumption) ?_)
  simp only [Act.put, List.setIfInBounds_toArray, List.set_cons_zero, List.set_cons_succ]
  first | (refine held_take 5 rfl (by kernel_rfl) (by kernel_rfl) (by kernel_rfl) (by rfl) (fun _ _ _ h => h) (by assumption) (by intro w hSw; (try dsimp only at hSw); go_simp; first | done | with_reducible rfl) ?_) | (refine held_skip 5 rfl (by kernel_rfl) (by kernel_rfl) (by kernel_rfl) (by rfl) (fun _ _ _ h => h) (by assumption) ?_)
  simp only [Act.put, List.setIfInBounds_toArray, List.set_cons_zero, List.set_cons_succ]
  refine held_one 2 (by kernel_rfl) rfl (fun K hK => ?_)
  go_simp
  go_at_call 13
  refine (GX.out _ hHeld.2.2.2.2.2.2.2.2.2.2.2).mono ?_; rintro e w1 ⟨rfl, hb1⟩
  go_wp2_with fail
  refine hK.out _ _ (by (try dsimp only); obtain ⟨y0, y1, y2, y3, y4, y5, y6, y7, y8, y9, y10, yb⟩ := hHeld; exact ⟨keep_cell hb1 y0, keep_cell hb1 y1, keep_cell hb1 y2, keep_cell hb1 y3, keep_cell hb1 y4, keep_cell hb1 y5, keep_cell hb1 y6, keep_cell hb1 y7, keep_cell hb1 y8, keep_cell hb1 y9, keep_cell hb1 y10, ex_trans yb hb1⟩) (fun hNew => ?_)
  clear hK K hHeld
  have hHeld := hNew
  clear hNew
  try simp only [Act.put, List.setIfInBounds_toArray, List.set_cons_zero, List.set_cons_succ]
  first | (refine held_take 3 rfl (by kernel_rfl) (by kernel_rfl) (by kernel_rfl) (by rfl) (fun _ _ _ h => h) (by assumption) (by intro w hSw; (try dsimp only at hSw); go_simp; first | done | with_reducible rfl) ?_) | (refine held_skip 3 rfl (by kernel_rfl) (by kernel_rfl) (by kernel_rfl) (by rfl) (fun _ _ _ h => h) (by assumption) ?_)
  simp only [Act.put, List.setIfInBounds_toArray, List.set_cons_zero, List.set_cons_succ]
  refine held_one 6 (by kernel_rfl) rfl (fun K hK => ?_)
  go_simp
  go_at_call 13
  refine (GY.out _ hHeld.2.2.2.2.2.2.2.2.2.2.2).mono ?_; rintro e w2 ⟨rfl, hb2⟩
  go_wp2_with fail
  refine hK.out _ _ (by (try dsimp only); obtain ⟨y0, y1, y2, y3, y4, y5, y6, y7, y8, y9, y10, yb⟩ := hHeld; exact ⟨keep_cell hb2 y0, keep_cell hb2 y1, keep_cell hb2 y2, keep_cell hb2 y3, keep_cell hb2 y4, keep_cell hb2 y5, keep_cell hb2 y6, keep_cell hb2 y7, keep_cell hb2 y8, keep_cell hb2 y9, keep_cell hb2 y10, ex_trans yb hb2⟩) (fun hNew => ?_)
  clear hK K hHeld
  have hHeld := hNew
  clear hNew
  try simp only [Act.put, List.setIfInBounds_toArray, List.set_cons_zero, List.set_cons_succ]
  first | (refine held_take 7 rfl (by kernel_rfl) (by kernel_rfl) (by kernel_rfl) (by rfl) (fun _ _ _ h => h) (by assumption) (by intro w hSw; (try dsimp only at hSw); go_simp; first | done | with_reducible rfl) ?_) | (refine held_skip 7 rfl (by kernel_rfl) (by kernel_rfl) (by kernel_rfl) (by rfl) (fun _ _ _ h => h) (by assumption) ?_)
  simp only [Act.put, List.setIfInBounds_toArray, List.set_cons_zero, List.set_cons_succ]
  refine held_one 8 (by kernel_rfl) rfl (fun K hK => ?_)
  go_simp
  go_at_call 145
  refine (cmp_Compare_int _ _ _).mono ?_; rintro e w' ⟨rfl, rfl⟩
  go_wp2_with fail
  refine hK.out _ _ (by (try dsimp only); exact hHeld) (fun hNew => ?_)
  clear hK K hHeld
  have hHeld := hNew
  clear hNew
  try simp only [Act.put, List.setIfInBounds_toArray, List.set_cons_zero, List.set_cons_succ]
  first | (refine held_take 9 rfl (by kernel_rfl) (by kernel_rfl) (by kernel_rfl) (by rfl) (fun _ _ _ h => h) (by assumption) (by intro w hSw; (try dsimp only at hSw); go_simp; first | done | with_reducible rfl) ?_) | (refine held_skip 9 rfl (by kernel_rfl) (by kernel_rfl) (by kernel_rfl) (by rfl) (fun _ _ _ h => h) (by assumption) ?_)
  simp only [Act.put, List.setIfInBounds_toArray, List.set_cons_zero, List.set_cons_succ]
  refine wpAnyH_done (by kernel_rfl) ?_ _
  go_wp2_with fail
  go_returns
  exact ⟨_, rfl, HZ.out, hHeld.2.2.2.2.2.2.2.2.2.2.2⟩
set_option maxHeartbeats 3200000 in
theorem impl_filesByAttr (s : Sto) (A : Option Addr) (n c : Nat) (B : Option Addr) (m d : Nat) (nm : ByteArray) (w : World) (zs : List HF) (hT : Sl 5 RFh w B m (zs.map (·.1))) (hZ : ∀ p ∈ zs, p.1.is w p.2) (hm : m ≤ 1073741824) (hok : ∀ p ∈ zs, p.2.attrs.length ≤ 1073741824) :
    Calls Try.prog 118 #[s.v A n c B m d, .string nm] w fun e w' => ∃ (A' : Option Addr) (c' : Nat), e = .returned (.slice A' (sortZ nm zs).length c') ∧ Sl 5 RFh w' A' (sortZ nm zs).length ((sortZ nm zs).map (·.1)) ∧ Below w.heap.size w w' := by
  obtain rfl : zs.length = m := by rw [← hT.len]; simp
  obtain ⟨ii, hi, hi0, hi1, hi2⟩ := info_parts info_File
  have HZ := Lib.hid hZ
  have HOK := Lib.hid hok
  have HT := Lib.hid hT
  clear hT hZ hok
  go_enter Try.func118, Try.ntmps118
  go_upto_region 1 with fail
  generalize hW : World.alloc (World.alloc w _) _ = W1
  have hp : W1.heap[w.heap.size]? = some (.cells #[.slice A n c, .slice B zs.length d, .int .i64 s.next] 40 (0, 0)) := by rw [← hW]; exact (hp_old (by simp)).trans (hp_new rfl)
  have hq : W1.heap[w.heap.size + 1]? = some (.cells #[.string nm] 9 (0, 0)) := by rw [← hW]; exact hp_new (by simp)
  have hbw : Below w.heap.size w W1 := by rw [← hW]; go_grown
  clear hW
  have p1 := blk_cell? hp 1
  have q0 := blk_cell? hq 0
  simp only [List.getElem?_toArray, List.getElem?_cons_zero, List.getElem?_cons_succ] at p1 q0
  have hlp := blk_lt hp
  have hlq := blk_lt hq
  have HCM := Lib.hid (impl_filesByAttr_1 nm (w.heap.size + 1) 0 W1 q0)
  have HB := Lib.hid hbw
  have HZ1 := Lib.hid fun (p : HF) (h : p ∈ zs) => (HZ.out p h).mono hbw
  clear hp hq hbw
  generalize w.heap.size + 1 = nb at *
  go_wp2_with fail
  go_loopw [5, 14] (fun v i wr => ∃ k q : Nat, k ≤ zs.length ∧ q ≤ k ∧ i = .int .i64 k ∧ AppB 28 5 eHk W1 W1.heap.size q (((zs.take k).filter (hasZ nm)).map (toHk nm)) v wr) (fun _ i _ => zs.length - (intOf i).toNat)
  case atStart => exact ⟨0, 0, Nat.zero_le _, Nat.le_refl _, rfl, _, _, rfl, FRow.any0 _ _ _ _ _ _, by go_grown⟩
  case round =>
    obtain ⟨k, q, hk, hq, rfl, A1, c1, rfl, hrow, hb⟩ := hrel
    have hzr := hb.size
    have hnb := keep_lt hb hlq
    have qn := keep_cell hb q0
    by_cases hlt : k < zs.length
    · obtain ⟨g, off, rfl, bw, bc⟩ := HT.out.fh (by omega)
      obtain ⟨x0, x1, x2, x3, x4⟩ := bc k (by rw [List.length_map]; exact hlt)
      have hbw := ex_trans HB.out hb
      rw [← hbw.cell (p := ⟨g, _, none⟩) bw] at x0 x1 x2 x3 x4
      simp only [List.getElem_map] at x0 x1 x2 x3 x4
      have i0 : (0 : Int) ≤ (k : Int) := by omega
      have i1 : (k : Int) < (zs.length : Int) := by omega
      have HR := Lib.hid hrow
      have hpis := (HZ1.out zs[k] (List.getElem_mem _)).mono hb
      have hpl := HOK.out zs[k] (List.getElem_mem _)
      have HC := Lib.hid fun w' (hb' : Below wr.heap.size wr w') => impl_IntAttr ⟨zs[k].1.id, zs[k].1.owner, zs[k].1.shared, zs[k].1.link, zs[k].2.attrs⟩ zs[k].1.A zs[k].1.n zs[k].1.c nm w' (hpis.2.2.2.2.mono mAtr hb') (by rw [← hpis.2.2.2.2.len]; exact hpl)
      have HBr := Lib.hid hb
      clear bc hrow hpis hpl hbw hb
      cases hf : hasZ nm zs[k] with
      | true =>
        have HTK := Lib.hid (show ((zs.take (k + 1)).filter (hasZ nm)).map (toHk nm) = ((zs.take k).filter (hasZ nm)).map (toHk nm) ++ [toHk nm zs[k]] by rw [take_filter_succ _ _ hlt, hf]; simp)
        have hf' : hasI zs[k].2.attrs nm = true := hf
        have HF' := Lib.hid hf'
        clear hf hf'
        go_wp2_with fail
        refine (HC.out _ (by go_grown)).mono ?_; rintro e w1 ⟨rfl, hb1⟩
        rw [HF'.out]
        have hB1 := ex_trans (w := wr) (by go_grown) hb1
        have y0 := hb1.cell (p := ⟨wr.heap.size, 0, none⟩) (by simp)
        have y1 := hb1.cell (p := ⟨wr.heap.size, 1, none⟩) (by simp)
        have y2 := hb1.cell (p := ⟨wr.heap.size, 2, none⟩) (by simp)
        have y3 := hb1.cell (p := ⟨wr.heap.size, 3, none⟩) (by simp)
        have y4 := hb1.cell (p := ⟨wr.heap.size, 4, none⟩) (by simp)
        have hz1 := hb1.size
        simp at hz1
        go_simp
        have HR1 := Lib.hid (HR.out.below hB1)
        have HB1 := Lib.hid hB1
        clear hb1 hB1
        go_wp2_with (at_builtin; refine wpList_append_row rfl _ _ _ rfl encHk Try.underlying38 hi hi0 hi1 hi2 rfl rfl rfl (HR1.out.below (by go_grown)) (src1 encHk _ (toHk nm zs[k]) _ (by simp) rfl) (by unfold maxLen; omega) (by omega) (by simp; omega) ?_; intro A2 c2 w2 hr2 hc2 hx2)
        have HR2 := Lib.hid (show AppB 28 5 eHk W1 W1.heap.size (q + 1) (((zs.take (k + 1)).filter (hasZ nm)).map (toHk nm)) (.slice A2 (q + 1) c2) w2 from ⟨A2, c2, rfl, by rw [HTK.out]; exact hr2, Below.mark (ex_trans (ex_trans HBr.out HB1.out) (by go_grown)) hc2 (by simp; omega) (fun b hb' => (HR.out.base b hb').1)⟩)
        clear hr2 hc2 hx2
        go_wp2_with fail
        go_roundw
        case rel => exact ⟨k + 1, q + 1, by omega, by omega, by go_num, HR2.out⟩
        case measure => simp [intOf]; omega
      | false =>
        have HTK := Lib.hid (show ((zs.take (k + 1)).filter (hasZ nm)).map (toHk nm) = ((zs.take k).filter (hasZ nm)).map (toHk nm) by rw [take_filter_succ _ _ hlt, hf]; simp)
        have hf' : hasI zs[k].2.attrs nm = false := hf
        have HF' := Lib.hid hf'
        clear hf hf'
        go_wp2_with fail
        refine (HC.out _ (by go_grown)).mono ?_; rintro e w1 ⟨rfl, hb1⟩
        rw [HF'.out]
        have HB1 := Lib.hid (ex_trans (w := wr) (by go_grown) hb1)
        clear hb1
        go_wp2_with fail
        go_roundw
        case rel => exact ⟨k + 1, q, by omega, by omega, by go_num, A1, c1, rfl, by rw [HTK.out]; exact HR.out.below HB1.out, ex_trans HBr.out HB1.out⟩
        case measure => simp [intOf]; omega
    · rw [List.take_of_length_le (by omega)] at hrow
      have hqn : q ≤ 1073741824 := by omega
      have HR := Lib.hid hrow
      have HBr := Lib.hid hb
      have HL := Lib.hid (show (sortZ nm zs).length = q by rw [← hrow.len, List.length_map]; unfold sortZ; rw [srt_len])
      have HK := Lib.hid fun (W : World) (h : FRow 28 5 eHk W W1.heap.size A1 q c1 ((zs.filter (hasZ nm)).map (toHk nm))) (hb : Below W1.heap.size W1 W) => slices_SortStable_File A1 q c1 ((zs.filter (hasZ nm)).map (toHk nm)) 152 #[.pointer (some ⟨nb, 0, none⟩)] (okK W1 nm) W1.heap.size W h hqn (fun x hx => by obtain ⟨p, hp, rfl⟩ := List.mem_map.1 hx; obtain ⟨hp1, hp2⟩ := List.mem_filter.1 hp; exact (HZ1.out p hp1).okK (HOK.out p hp1) hp2) hb.size (fun _ _ => by kernel_rfl) (HCM.out.on hb)
      clear hrow hb
      go_wp2_with fail
      refine (HK.out _ (HR.out.below (by go_grown)) (ex_trans HBr.out (by go_grown))).mono ?_; rintro e w1 ⟨rfl, hF1, hC1⟩
      rw [sortZ_hk] at hF1
      have HF1 := Lib.hid (And.intro hF1 hC1)
      have HB0 := Lib.hid (Below.mark (ex_trans HBr.out (by go_grown)) hC1 (by have := HBr.out.size; simp; omega) (fun b hb' => (HR.out.base b hb').1))
      clear hF1 hC1
      go_wp2_with fail
      go_returns
      refine ⟨A1, c1, by rw [HL.out]; rfl, ?_, HB.out.trans (HB0.out.mono HB.out.size)⟩
      have h9 := FRow.mapped (g := fun p : HF => toHk nm p) HF1.out.1
      have h8 : FRow 28 5 eFh w1 W1.heap.size A1 q c1 ((sortZ nm zs).map (·.1)) := by
        obtain ⟨k1, k2, k3, k4⟩ := h9
        refine ⟨by simpa using k1, k2, k3, ?_⟩
        rcases k4 with k4 | ⟨g', cur, hA, hB, hg, hs, ht⟩
        · exact .inl k4
        · exact .inr ⟨g', cur, hA, hB, hg, hs, by rw [ht, List.flatMap_map]; rfl⟩
      rw [HL.out]
      exact h8.sl (R := RFh) encFh (fun _ => rfl)
end Go.Proofs.Ytjobgnioehkomaa
