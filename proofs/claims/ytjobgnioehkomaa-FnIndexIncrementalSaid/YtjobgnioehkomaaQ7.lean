/-
  CONTRACTS: the reference's AddToIndex.
-/
import Derived.WalkKit
import Derived.WalkSpells
import Derived.WalkLawsBesides
import Derived.Lib.Hide
import Derived.Handy
import Derived.StillTailTactics
import Derived.Deep.Light
import Derived.Deep.QuietTactic
import Derived.BigQuiet
import Derived.Deep.RegionHeld3
import Derived.Deep.RegionLaw
import Derived.Sort.Walk0
import Derived.Deep.DeepCutAuto
import Derived.Test.YtjobgnioehkomaaLib
import Derived.Test.YtjobgnioehkomaaOwn
import Derived.Test.YtjobgnioehkomaaRow
import Derived.Test.YtjobgnioehkomaaN0
import Derived.Test.YtjobgnioehkomaaRaw
import Derived.Test.YtjobgnioehkomaaHld
import Derived.Test.YtjobgnioehkomaaHl2
import Derived.Test.YtjobgnioehkomaaM0
import Derived.Test.YtjobgnioehkomaaC1
import Derived.Test.YtjobgnioehkomaaC2
import Derived.Test.YtjobgnioehkomaaT1
import Derived.Test.YtjobgnioehkomaaT2
import Derived.Test.YtjobgnioehkomaaT3
import Derived.Test.YtjobgnioehkomaaT4
import Derived.Test.YtjobgnioehkomaaC3
import Derived.Test.YtjobgnioehkomaaC4
import Derived.Test.YtjobgnioehkomaaC5
import Derived.Test.YtjobgnioehkomaaD1
import Derived.Test.YtjobgnioehkomaaD3
import Derived.Test.YtjobgnioehkomaaD5
import Derived.Test.YtjobgnioehkomaaD7
import Derived.Test.YtjobgnioehkomaaH1
import Derived.Test.YtjobgnioehkomaaI1
import Derived.Test.YtjobgnioehkomaaI3
import Derived.Test.YtjobgnioehkomaaI4
import Derived.Test.YtjobgnioehkomaaE4
import Derived.Test.YtjobgnioehkomaaE5
import Derived.Test.YtjobgnioehkomaaQ0
import Derived.Test.YtjobgnioehkomaaQ2
import Derived.Test.YtjobgnioehkomaaQ3
import Derived.Test.YtjobgnioehkomaaQ5
import Derived.Test.YtjobgnioehkomaaQ6
import Derived.Test.YtjobgnioehkomaaRows
namespace Go.Proofs.Ytjobgnioehkomaa
open Go.RowKit
section
variable {P : Program} {L : List Oper} {Q : Exit → Act → World → Prop} {md : Region.Mode} {S : World → Prop}
private theorem tkA (i : Nat) {oi : Oper} {tl : List Oper} {v : Value} {fuel : Nat} {listed : Array Bool} {a : Act} {w : World}
    (h : wpAnyH P md L.toArray Q S fuel (listed.setIfInBounds i true) (a.put oi.dst v) w) (hd : L.drop i = oi :: tl := by exact rfl)
    (hs : Region.noSelect L.toArray = true := by kernel_rfl) (hf : Region.free md L.toArray listed i = true := by kernel_rfl) (hr : (Region.ready md L.toArray listed).contains i = true := by kernel_rfl)
    (hw : Region.wanted oi (yielded L.toArray a.tmps) = true := by rfl) (hQ : ∀ c a w, Q (.panic c) (a.put oi.dst v) w → Q (.panic c) a w := by exact fun _ _ _ h => h) (hS : S w := by assumption)
    (hy : ∀ w, S w → (execOp a.eval oi).run P w = .ok (.value v) w := by intro w hSw; (try dsimp only at hSw); go_simp; first | done | with_reducible rfl) : wpAnyH P md L.toArray Q S (fuel + 1) listed a w :=
  held_take i hd hs hf hr hw hQ hS hy h
private theorem skA (i : Nat) {oi : Oper} {tl : List Oper} {fuel : Nat} {listed : Array Bool} {a : Act} {w : World}
    (h : wpAnyH P md L.toArray Q S fuel (listed.setIfInBounds i true) (a.put oi.dst undef) w) (hd : L.drop i = oi :: tl := by exact rfl)
    (hs : Region.noSelect L.toArray = true := by kernel_rfl) (hf : Region.free md L.toArray listed i = true := by kernel_rfl) (hr : (Region.ready md L.toArray listed).contains i = true := by kernel_rfl)
    (hw : Region.wanted oi (yielded L.toArray a.tmps) = false := by rfl) (hQ : ∀ c a w, Q (.panic c) (a.put oi.dst undef) w → Q (.panic c) a w := by exact fun _ _ _ h => h) (hS : S w := by assumption) : wpAnyH P md L.toArray Q S (fuel + 1) listed a w :=
  held_skip i hd hs hf hr hw hQ hS h
end
set_option linter.unusedVariables false
set_option maxRecDepth 100000
/-- a row of headers made anew, one element and its own row put between -/
theorem NRow.fresh_ins {H β : Type} {K : NK H β} {W w' : World} {B n c n' c' k : Nat} {A A' : Option Addr} {L : List (H × List β)} {x : H × List β} (h : NRow K W B A n c L) (hb : Below W.heap.size W w') (hBW : B ≤ W.heap.size) (hr : FRow K.e K.size K.enc w' W.heap.size A' n' c' ((insL L x k).map (·.1)))
    (hx : K.inner w' W.heap.size x) (hne : K.e ≠ K.e2) : NRow K w' B A' n' c' (insL L x k) := by
  have h1 := h.below hb
  have hp : (insL L x k).Perm (x :: L) := by
    unfold insL
    refine List.Perm.trans List.perm_middle ?_
    rw [List.take_append_drop]
  have hxb := FRow.base hx
  have hbase := h.base
  refine ⟨hr.re (fun b hm => Nat.le_trans hBW (hr.base b hm).1), fun y hy => ?_, ?_⟩
  · rcases insL_mem hy with hy | rfl
    · exact h1.2.1 y hy
    · exact FRow.re hx (fun b hm => Nat.le_trans hBW (hxb b hm).1)
  · have hold : (rowBs A' c' ++ K.all (x :: L)).Nodup := by
      have e : K.all (x :: L) = K.bs x.1 ++ K.all L := by unfold NK.all; rw [List.flatMap_cons]
      rw [e, List.nodup_append, List.nodup_append]
      refine ⟨rowBs_nd _ _, ⟨rowBs_nd _ _, (List.nodup_append.1 h.2.2).2.1, fun a ha b hb' e => ?_⟩, fun a ha b hb' e => ?_⟩
      · subst e
        have h2 := (hxb a ha).1
        have h3 := (hbase a (List.mem_append_right _ hb')).2
        omega
      · subst e
        have h2 := (hr.base a ha).1
        rcases List.mem_append.1 hb' with h4 | h4
        · have hc0 : 0 < c' := by
            rcases Nat.eq_zero_or_pos c' with rfl | h0
            · simp [rowBs_zero] at ha
            · exact h0
          obtain ⟨g', -, -, -, hr', cur, hcur, -⟩ := hr.row hc0
          rw [hr'] at ha
          obtain rfl : a = g' := by simpa using ha
          exact FRow.apart hx hcur hne h4
        · have h3 := (hbase a (List.mem_append_right _ h4)).2
          omega
    exact NRow.perm hp hold
theorem src_ph {w : World} {g : Nat} (x : Ph) (h0 : w.cell? ⟨g, 0, none⟩ = some (.string x.name)) (h1 : w.cell? ⟨g, 1, none⟩ = some (.int .i64 x.val.kind)) (h2 : w.cell? ⟨g, 2, none⟩ = some (.int .i64 x.val.int)) (h3 : w.cell? ⟨g, 3, none⟩ = some (.string x.val.str)) (h4 : w.cell? ⟨g, 4, none⟩ = some (.slice x.A x.n x.c)) : Src 5 ePh w (some ⟨g, 0, none⟩) 1 [x] :=
  Src.of_cells (World.block_lt_of_cell? w _ h0) fun j u hu => by
    rw [Addr.add_lit, Nat.zero_add]
    match j, hu with
    | 0, hu => obtain rfl : _ = u := by simpa [ePh] using hu
               exact h0
    | 1, hu => obtain rfl : _ = u := by simpa [ePh] using hu
               exact h1
    | 2, hu => obtain rfl : _ = u := by simpa [ePh] using hu
               exact h2
    | 3, hu => obtain rfl : _ = u := by simpa [ePh] using hu
               exact h3
    | 4, hu => obtain rfl : _ = u := by simpa [ePh] using hu
               exact h4
    | (j + 5), hu => simp [ePh] at hu
theorem FRow.one {w : World} {g ei : Nat} {B : Nat} (x : Int) (hB : B ≤ g) (h : w.heap[g]? = some (.cells #[.int .i64 x] ei (0, 0))) : FRow ei 1 eInt w B (some ⟨g, 0, none⟩) 1 1 [x] :=
  ⟨rfl, Nat.le_refl _, by unfold maxLen; omega, .inr ⟨g, _, rfl, hB, h, rfl, rfl⟩⟩
set_option maxHeartbeats 12800000 in
theorem spec_AddToIndex (M : Nat) (A : Option Addr) (n c : Nat) (l : List Pst) (f : Fil) (A2 : Option Addr) (n2 c2 : Nat) (w : World) (hT : Sl 5 RPst w A n l) (hS : Sl 4 RAtr w A2 n2 f.attrs) (hw : Wide M l) (hM : M + n2 ≤ 1073741822) :
    Calls Try.prog 39 #[.slice A n c, f.v A2 n2 c2] w (NewPsts 107 3 w (addX l f)) := by
  obtain rfl : l.length = n := hT.len
  obtain rfl : f.attrs.length = n2 := hS.len
  obtain ⟨ii, hi, hi0, hi1, hi2⟩ := info_parts info_Posting
  have HC := Lib.hid fun w' (hb : Below w.heap.size w w') => spec_l07Copy A l.length c l w' (hT.mono mPst hb) (by have := hw.1; omega) (fun p hp => by have := hw.2.1 p hp; omega)
  have HWD := Lib.hid fun (k : Nat) => foldA_wide (id := f.id) (f.attrs.take k) M l hw
  clear hT hw
  go_enter Try.func39, Try.ntmps39
  go_wp2_with fail
  refine (HC.out _ (by go_grown)).mono ?_; rintro e w1 ⟨A1, c1, rfl, hr1, hb1⟩
  have hB1 := ex_trans (w := w) (by go_grown) hb1
  have kf := below_keep hb1 (hp_new rfl)
  have hzf : w.heap.size < w1.heap.size := blk_lt kf
  have HR1 := Lib.hid (hr1.lower (show w.heap.size + 1 ≤ _ by simp))
  have HKF := Lib.hid kf
  have HB1 := Lib.hid hB1
  clear hr1 hb1 kf hB1
  go_wp2_with fail
  go_loopw [0, 5] (fun v i wr => ∃ (k n1 : Nat) (A1 : Option Addr) (c1 : Nat), k ≤ f.attrs.length ∧ i = .int .i64 k ∧ v = .slice A1 n1 c1 ∧ HasB wr [(w.heap.size, #[.int .i64 f.id, .int .i64 f.owner, .bool f.shared, .int .i64 f.link, .slice A2 f.attrs.length c2], 28)] ∧ PRows 107 3 wr (w.heap.size + 1) A1 n1 c1 ((f.attrs.take k).foldl (addA f.id) l) ∧ Below w.heap.size w wr) (fun _ i _ => f.attrs.length - (intOf i).toNat)
  case atStart => exact ⟨0, _, A1, c1, Nat.zero_le _, rfl, rfl, fun x hx => by simp only [List.mem_singleton] at hx; subst hx; exact HKF.out, HR1.out, HB1.out⟩
  case round =>
    obtain ⟨k, n1, A1, c1, hk2, rfl, rfl, hbf, hrow, hb⟩ := hrel
    have HBF := Lib.hid hbf
    have uf := blk_cell? (hbf _ (List.Mem.head _))
    have lf := blk_lt (hbf _ (List.Mem.head _))
    simp only at lf
    clear hbf
    by_cases hlt : k < f.attrs.length
    · obtain ⟨b, off, rfl, bw, bc⟩ := hS.atr (by omega)
      obtain ⟨q0, q1, q2, q3⟩ := bc k (by omega)
      rw [← hb.cell (p := ⟨b, _, none⟩) bw] at q0 q1 q2 q3
      have i0 : (0 : Int) ≤ (k : Int) := by omega
      have i1 : (k : Int) < (f.attrs.length : Int) := by omega
      have bw' := keep_lt hb bw
      clear bc
      obtain ⟨m, hm⟩ : ∃ m, m = (f.attrs.take k).foldl (addA f.id) l := ⟨_, rfl⟩
      rw [← hm] at hrow
      obtain rfl : m.length = n1 := hrow.len
      have hwd := HWD.out k
      rw [← hm, List.length_take, Nat.min_eq_left hk2] at hwd
      have hml : m.length ≤ 1073741821 := by have := hwd.1; omega
      have HWI := Lib.hid hwd.2.1
      have HMS := Lib.hid (show (f.attrs.take (k + 1)).foldl (addA f.id) l = addA f.id m f.attrs[k] by rw [hm, List.take_succ_eq_append_getElem hlt, List.foldl_append]; rfl)
      have HRM := Lib.hid hrow
      clear hm hwd hrow
      obtain ⟨W1, rfl⟩ : ∃ W1, W1 = wr := ⟨_, rfl⟩
      go_upto_region 6 with fail
      generalize hW2 : World.alloc W1 _ = W2
      have hb12 : Below W1.heap.size W1 W2 := by rw [← hW2]; go_grown
      have ka : W2.heap[W1.heap.size]? = some (.cells #[.string f.attrs[k].name, .int .i64 f.attrs[k].val.kind, .int .i64 f.attrs[k].val.int, .string f.attrs[k].val.str] 84 (0, 0)) := by rw [← hW2]; exact hp_new rfl
      clear hW2
      have kf := below_keep hb12 (HBF.out _ (List.Mem.head _))
      have HH2 := Lib.hid (show HasB W2 [(w.heap.size, #[.int .i64 f.id, .int .i64 f.owner, .bool f.shared, .int .i64 f.link, .slice (some ⟨b, off, none⟩) f.attrs.length c2], 28), (W1.heap.size, #[.string f.attrs[k].name, .int .i64 f.attrs[k].val.kind, .int .i64 f.attrs[k].val.int, .string f.attrs[k].val.str], 84)] from fun x hx => by
        simp only [List.mem_cons, List.not_mem_nil, or_false] at hx
        rcases hx with rfl | rfl
        · exact kf
        · exact ka)
      obtain ⟨L, hL1, hL2⟩ := HRM.out.below hb12
      have hLl : L.length = m.length := hL1.len
      have HL := Lib.hid (And.intro hL1 hL2)
      have HB2 := Lib.hid (ex_trans hb hb12)
      have bw2 := keep_lt hb12 bw'
      have a0 := blk_cell? ka 0
      have a1 := blk_cell? ka 1
      have a2 := blk_cell? ka 2
      have a3 := blk_cell? ka 3
      have la := blk_lt ka
      have f0 := blk_cell? kf 0
      have f4 := blk_cell? kf 4
      have lf2 := blk_lt kf
      simp only [List.getElem?_toArray, List.getElem?_cons_zero, List.getElem?_cons_succ] at a0 a1 a2 a3 f0 f4
      clear q0 q1 q2 q3 uf lf hb12 ka kf hL1 hL2 HRM HBF
      have HA := Lib.hid (And.intro a0 (And.intro a1 (And.intro a2 a3)))
      have HF0 := Lib.hid (And.intro f0 f4)
      go_wp2_with fail
      go_loopw [7] (fun i wr => ∃ j : Nat, j ≤ m.length ∧ i = .int .i64 j ∧ noneTo (isPst f.attrs[k].name f.attrs[k].val) m j ∧ Below W2.heap.size W2 wr) (fun i _ => m.length - (intOf i).toNat)
      case atStart => exact ⟨0, Nat.zero_le _, rfl, noneTo_zero _ _, Below.refl _ _⟩
      case round =>
        obtain ⟨j, hj2, rfl, hT, hb2⟩ := hrel
        have HT := Lib.hid hT
        clear hT a0 a1 a2 a3 f0 f4
        have a0 := keep_cell hb2 HA.out.1
        have a1 := keep_cell hb2 HA.out.2.1
        have a2 := keep_cell hb2 HA.out.2.2.1
        have a3 := keep_cell hb2 HA.out.2.2.2
        have f0 := keep_cell hb2 HF0.out.1
        have la2 := keep_lt hb2 la
        have i2 : (0 : Int) ≤ (j : Int) := by omega
        by_cases hjl : j < m.length
        · have i3 : (j : Int) < (m.length : Int) := by omega
          have hd : decide ((j : Int) < (m.length : Int)) = true := decide_eq_true i3
          obtain ⟨g, rfl, hBg, hgw0, hrb, hfr0, hcell⟩ := HL.out.1.hcell encPh (by omega)
          have y0 := hcell j (by omega) 0 _ rfl
          have y1 := hcell j (by omega) 1 _ rfl
          have y2 := hcell j (by omega) 2 _ rfl
          have y3 := hcell j (by omega) 3 _ rfl
          have hmj : mkP (L[j]'(by omega)) = m[j] := by
            have h9 : (L.map mkP)[j]? = m[j]? := by rw [HL.out.2]
            rw [List.getElem?_map, List.getElem?_eq_getElem (by omega), List.getElem?_eq_getElem hjl] at h9
            simpa using h9
          obtain ⟨x, hx⟩ : ∃ x, L[j]'(by omega) = x := ⟨_, rfl⟩
          rw [hx] at y0 y1 y2 y3 hmj
          obtain ⟨h, ids⟩ := x
          simp only [Nat.add_zero] at y0
          replace y0 := keep_cell hb2 y0
          replace y1 := keep_cell hb2 y1
          replace y2 := keep_cell hb2 y2
          replace y3 := keep_cell hb2 y3
          have HMJ := Lib.hid hmj
          have HX := Lib.hid hx
          have HGL := Lib.hid (And.intro hgw0 (And.intro hfr0 hrb))
          clear hmj hx hcell hfr0 hrb
          cases h0 : (h.name.toList == f.attrs[k].name.toList) with
          | false =>
            have hne : (h.name.toList != f.attrs[k].name.toList) = true := by simp [bne, h0]
            go_wp2_with fail
            refine wp_region_held_drew (S := (fun w' => w'.cell? ⟨g, j * 5, none⟩ = some (.string h.name) ∧ w'.cell? ⟨g, j * 5 + 1, none⟩ = some (.int .i64 h.val.kind) ∧ w'.cell? ⟨g, j * 5 + 2, none⟩ = some (.int .i64 h.val.int) ∧ w'.cell? ⟨g, j * 5 + 3, none⟩ = some (.string h.val.str) ∧ w'.cell? ⟨W1.heap.size, 0, none⟩ = some (.string f.attrs[k].name) ∧ w'.cell? ⟨W1.heap.size, 1, none⟩ = some (.int .i64 f.attrs[k].val.kind) ∧ w'.cell? ⟨W1.heap.size, 2, none⟩ = some (.int .i64 f.attrs[k].val.int) ∧ w'.cell? ⟨W1.heap.size, 3, none⟩ = some (.string f.attrs[k].val.str))) (by kernel_rfl) (by (try dsimp only); exact ⟨y0, y1, y2, y3, a0, a1, a2, a3⟩) (fun hHeld => ?_)
            first | refine tkA 0 ?_ | refine skA 0 ?_
            simp only [Act.put, List.setIfInBounds_toArray, List.set_cons_zero, List.set_cons_succ]
            first | refine tkA 1 ?_ | refine skA 1 ?_
            simp only [Act.put, List.setIfInBounds_toArray, List.set_cons_zero, List.set_cons_succ]
            first | refine tkA 2 ?_ | refine skA 2 ?_
            simp only [Act.put, List.setIfInBounds_toArray, List.set_cons_zero, List.set_cons_succ]
            first | refine tkA 3 ?_ | refine skA 3 ?_
            simp only [Act.put, List.setIfInBounds_toArray, List.set_cons_zero, List.set_cons_succ]
            first | refine tkA 4 ?_ | refine skA 4 ?_
            simp only [Act.put, List.setIfInBounds_toArray, List.set_cons_zero, List.set_cons_succ]
            first | refine tkA 5 ?_ | refine skA 5 ?_
            simp only [Act.put, List.setIfInBounds_toArray, List.set_cons_zero, List.set_cons_succ]
            first | refine tkA 6 ?_ | refine skA 6 ?_
            simp only [Act.put, List.setIfInBounds_toArray, List.set_cons_zero, List.set_cons_succ]
            first | refine tkA 7 ?_ | refine skA 7 ?_
            simp only [Act.put, List.setIfInBounds_toArray, List.set_cons_zero, List.set_cons_succ]
            first | refine tkA 8 ?_ | refine skA 8 ?_
            simp only [Act.put, List.setIfInBounds_toArray, List.set_cons_zero, List.set_cons_succ]
            first | refine tkA 9 ?_ | refine skA 9 ?_
            simp only [Act.put, List.setIfInBounds_toArray, List.set_cons_zero, List.set_cons_succ]
            first | refine tkA 10 ?_ | refine skA 10 ?_
            simp only [Act.put, List.setIfInBounds_toArray, List.set_cons_zero, List.set_cons_succ]
            first | refine tkA 11 ?_ | refine skA 11 ?_
            simp only [Act.put, List.setIfInBounds_toArray, List.set_cons_zero, List.set_cons_succ]
            first | refine tkA 12 ?_ | refine skA 12 ?_
            simp only [Act.put, List.setIfInBounds_toArray, List.set_cons_zero, List.set_cons_succ]
            first | refine tkA 13 ?_ | refine skA 13 ?_
            simp only [Act.put, List.setIfInBounds_toArray, List.set_cons_zero, List.set_cons_succ]
            first | refine tkA 14 ?_ | refine skA 14 ?_
            simp only [Act.put, List.setIfInBounds_toArray, List.set_cons_zero, List.set_cons_succ]
            first | refine tkA 15 ?_ | refine skA 15 ?_
            simp only [Act.put, List.setIfInBounds_toArray, List.set_cons_zero, List.set_cons_succ]
            first | refine tkA 16 ?_ | refine skA 16 ?_
            simp only [Act.put, List.setIfInBounds_toArray, List.set_cons_zero, List.set_cons_succ]
            first | refine tkA 17 ?_ | refine skA 17 ?_
            simp only [Act.put, List.setIfInBounds_toArray, List.set_cons_zero, List.set_cons_succ]
            first | refine tkA 18 ?_ | refine skA 18 ?_
            simp only [Act.put, List.setIfInBounds_toArray, List.set_cons_zero, List.set_cons_succ]
            first | refine tkA 19 ?_ | refine skA 19 ?_
            simp only [Act.put, List.setIfInBounds_toArray, List.set_cons_zero, List.set_cons_succ]
            first | refine tkA 20 ?_ | refine skA 20 ?_
            simp only [Act.put, List.setIfInBounds_toArray, List.set_cons_zero, List.set_cons_succ]
            first | refine tkA 21 ?_ | refine skA 21 ?_
            simp only [Act.put, List.setIfInBounds_toArray, List.set_cons_zero, List.set_cons_succ]
            first | refine tkA 22 ?_ | refine skA 22 ?_
            simp only [Act.put, List.setIfInBounds_toArray, List.set_cons_zero, List.set_cons_succ]
            first | refine tkA 23 ?_ | refine skA 23 ?_
            simp only [Act.put, List.setIfInBounds_toArray, List.set_cons_zero, List.set_cons_succ]
            refine wpAnyH_done (by kernel_rfl) ?_ _
            clear hHeld
            have HN := Lib.hid (noneTo_succ HT.out (fun _ => show isPst f.attrs[k].name f.attrs[k].val m[j] = false by rw [← HMJ.out]; simp [isPst, eqS, Vl.eqb, mkP, h0]))
            go_wp2_with fail
            go_roundw
            case rel => exact ⟨j + 1, by omega, by go_num, HN.out, hb2.drew⟩
            case measure => simp [intOf]; omega
          | true =>
            have hne : (h.name.toList != f.attrs[k].name.toList) = false := by simp [bne, h0]
            cases h1 : (h.val.kind == f.attrs[k].val.kind) with
            | false =>
              go_wp2_with fail
              refine wp_region_held_drew (S := (fun w' => w'.cell? ⟨g, j * 5, none⟩ = some (.string h.name) ∧ w'.cell? ⟨g, j * 5 + 1, none⟩ = some (.int .i64 h.val.kind) ∧ w'.cell? ⟨g, j * 5 + 2, none⟩ = some (.int .i64 h.val.int) ∧ w'.cell? ⟨g, j * 5 + 3, none⟩ = some (.string h.val.str) ∧ w'.cell? ⟨W1.heap.size, 0, none⟩ = some (.string f.attrs[k].name) ∧ w'.cell? ⟨W1.heap.size, 1, none⟩ = some (.int .i64 f.attrs[k].val.kind) ∧ w'.cell? ⟨W1.heap.size, 2, none⟩ = some (.int .i64 f.attrs[k].val.int) ∧ w'.cell? ⟨W1.heap.size, 3, none⟩ = some (.string f.attrs[k].val.str))) (by kernel_rfl) (by (try dsimp only); exact ⟨y0, y1, y2, y3, a0, a1, a2, a3⟩) (fun hHeld => ?_)
              first | refine tkA 0 ?_ | refine skA 0 ?_
              simp only [Act.put, List.setIfInBounds_toArray, List.set_cons_zero, List.set_cons_succ]
              first | refine tkA 1 ?_ | refine skA 1 ?_
              simp only [Act.put, List.setIfInBounds_toArray, List.set_cons_zero, List.set_cons_succ]
              first | refine tkA 2 ?_ | refine skA 2 ?_
              simp only [Act.put, List.setIfInBounds_toArray, List.set_cons_zero, List.set_cons_succ]
              first | refine tkA 3 ?_ | refine skA 3 ?_
              simp only [Act.put, List.setIfInBounds_toArray, List.set_cons_zero, List.set_cons_succ]
              first | refine tkA 4 ?_ | refine skA 4 ?_
              simp only [Act.put, List.setIfInBounds_toArray, List.set_cons_zero, List.set_cons_succ]
              first | refine tkA 5 ?_ | refine skA 5 ?_
              simp only [Act.put, List.setIfInBounds_toArray, List.set_cons_zero, List.set_cons_succ]
              first | refine tkA 6 ?_ | refine skA 6 ?_
              simp only [Act.put, List.setIfInBounds_toArray, List.set_cons_zero, List.set_cons_succ]
              first | refine tkA 7 ?_ | refine skA 7 ?_
              simp only [Act.put, List.setIfInBounds_toArray, List.set_cons_zero, List.set_cons_succ]
              first | refine tkA 8 ?_ | refine skA 8 ?_
              simp only [Act.put, List.setIfInBounds_toArray, List.set_cons_zero, List.set_cons_succ]
              first | refine tkA 9 ?_ | refine skA 9 ?_
              simp only [Act.put, List.setIfInBounds_toArray, List.set_cons_zero, List.set_cons_succ]
              first | refine tkA 10 ?_ | refine skA 10 ?_
              simp only [Act.put, List.setIfInBounds_toArray, List.set_cons_zero, List.set_cons_succ]
              first | refine tkA 11 ?_ | refine skA 11 ?_
              simp only [Act.put, List.setIfInBounds_toArray, List.set_cons_zero, List.set_cons_succ]
              first | refine tkA 12 ?_ | refine skA 12 ?_
              simp only [Act.put, List.setIfInBounds_toArray, List.set_cons_zero, List.set_cons_succ]
              first | refine tkA 13 ?_ | refine skA 13 ?_
              simp only [Act.put, List.setIfInBounds_toArray, List.set_cons_zero, List.set_cons_succ]
              first | refine tkA 14 ?_ | refine skA 14 ?_
              simp only [Act.put, List.setIfInBounds_toArray, List.set_cons_zero, List.set_cons_succ]
              first | refine tkA 15 ?_ | refine skA 15 ?_
              simp only [Act.put, List.setIfInBounds_toArray, List.set_cons_zero, List.set_cons_succ]
              first | refine tkA 16 ?_ | refine skA 16 ?_
              simp only [Act.put, List.setIfInBounds_toArray, List.set_cons_zero, List.set_cons_succ]
              first | refine tkA 17 ?_ | refine skA 17 ?_
              simp only [Act.put, List.setIfInBounds_toArray, List.set_cons_zero, List.set_cons_succ]
              first | refine tkA 18 ?_ | refine skA 18 ?_
              simp only [Act.put, List.setIfInBounds_toArray, List.set_cons_zero, List.set_cons_succ]
              first | refine tkA 19 ?_ | refine skA 19 ?_
              simp only [Act.put, List.setIfInBounds_toArray, List.set_cons_zero, List.set_cons_succ]
              first | refine tkA 20 ?_ | refine skA 20 ?_
              simp only [Act.put, List.setIfInBounds_toArray, List.set_cons_zero, List.set_cons_succ]
              first | refine tkA 21 ?_ | refine skA 21 ?_
              simp only [Act.put, List.setIfInBounds_toArray, List.set_cons_zero, List.set_cons_succ]
              first | refine tkA 22 ?_ | refine skA 22 ?_
              simp only [Act.put, List.setIfInBounds_toArray, List.set_cons_zero, List.set_cons_succ]
              first | refine tkA 23 ?_ | refine skA 23 ?_
              simp only [Act.put, List.setIfInBounds_toArray, List.set_cons_zero, List.set_cons_succ]
              refine wpAnyH_done (by kernel_rfl) ?_ _
              clear hHeld
              have HN := Lib.hid (noneTo_succ HT.out (fun _ => show isPst f.attrs[k].name f.attrs[k].val m[j] = false by rw [← HMJ.out]; simp [isPst, eqS, Vl.eqb, mkP, h1]))
              go_wp2_with fail
              go_roundw
              case rel => exact ⟨j + 1, by omega, by go_num, HN.out, hb2.drew⟩
              case measure => simp [intOf]; omega
            | true =>
              cases h2 : (h.val.int == f.attrs[k].val.int) with
              | false =>
                go_wp2_with fail
                refine wp_region_held_drew (S := (fun w' => w'.cell? ⟨g, j * 5, none⟩ = some (.string h.name) ∧ w'.cell? ⟨g, j * 5 + 1, none⟩ = some (.int .i64 h.val.kind) ∧ w'.cell? ⟨g, j * 5 + 2, none⟩ = some (.int .i64 h.val.int) ∧ w'.cell? ⟨g, j * 5 + 3, none⟩ = some (.string h.val.str) ∧ w'.cell? ⟨W1.heap.size, 0, none⟩ = some (.string f.attrs[k].name) ∧ w'.cell? ⟨W1.heap.size, 1, none⟩ = some (.int .i64 f.attrs[k].val.kind) ∧ w'.cell? ⟨W1.heap.size, 2, none⟩ = some (.int .i64 f.attrs[k].val.int) ∧ w'.cell? ⟨W1.heap.size, 3, none⟩ = some (.string f.attrs[k].val.str))) (by kernel_rfl) (by (try dsimp only); exact ⟨y0, y1, y2, y3, a0, a1, a2, a3⟩) (fun hHeld => ?_)
                first | refine tkA 0 ?_ | refine skA 0 ?_
                simp only [Act.put, List.setIfInBounds_toArray, List.set_cons_zero, List.set_cons_succ]
                first | refine tkA 1 ?_ | refine skA 1 ?_
                simp only [Act.put, List.setIfInBounds_toArray, List.set_cons_zero, List.set_cons_succ]
                first | refine tkA 2 ?_ | refine skA 2 ?_
                simp only [Act.put, List.setIfInBounds_toArray, List.set_cons_zero, List.set_cons_succ]
                first | refine tkA 3 ?_ | refine skA 3 ?_
                simp only [Act.put, List.setIfInBounds_toArray, List.set_cons_zero, List.set_cons_succ]
                first | refine tkA 4 ?_ | refine skA 4 ?_
                simp only [Act.put, List.setIfInBounds_toArray, List.set_cons_zero, List.set_cons_succ]
                first | refine tkA 5 ?_ | refine skA 5 ?_
                simp only [Act.put, List.setIfInBounds_toArray, List.set_cons_zero, List.set_cons_succ]
                first | refine tkA 6 ?_ | refine skA 6 ?_
                simp only [Act.put, List.setIfInBounds_toArray, List.set_cons_zero, List.set_cons_succ]
                first | refine tkA 7 ?_ | refine skA 7 ?_
                simp only [Act.put, List.setIfInBounds_toArray, List.set_cons_zero, List.set_cons_succ]
                first | refine tkA 8 ?_ | refine skA 8 ?_
                simp only [Act.put, List.setIfInBounds_toArray, List.set_cons_zero, List.set_cons_succ]
                first | refine tkA 9 ?_ | refine skA 9 ?_
                simp only [Act.put, List.setIfInBounds_toArray, List.set_cons_zero, List.set_cons_succ]
                first | refine tkA 10 ?_ | refine skA 10 ?_
                simp only [Act.put, List.setIfInBounds_toArray, List.set_cons_zero, List.set_cons_succ]
                first | refine tkA 11 ?_ | refine skA 11 ?_
                simp only [Act.put, List.setIfInBounds_toArray, List.set_cons_zero, List.set_cons_succ]
                first | refine tkA 12 ?_ | refine skA 12 ?_
                simp only [Act.put, List.setIfInBounds_toArray, List.set_cons_zero, List.set_cons_succ]
                first | refine tkA 13 ?_ | refine skA 13 ?_
                simp only [Act.put, List.setIfInBounds_toArray, List.set_cons_zero, List.set_cons_succ]
                first | refine tkA 14 ?_ | refine skA 14 ?_
                simp only [Act.put, List.setIfInBounds_toArray, List.set_cons_zero, List.set_cons_succ]
                first | refine tkA 15 ?_ | refine skA 15 ?_
                simp only [Act.put, List.setIfInBounds_toArray, List.set_cons_zero, List.set_cons_succ]
                first | refine tkA 16 ?_ | refine skA 16 ?_
                simp only [Act.put, List.setIfInBounds_toArray, List.set_cons_zero, List.set_cons_succ]
                first | refine tkA 17 ?_ | refine skA 17 ?_
                simp only [Act.put, List.setIfInBounds_toArray, List.set_cons_zero, List.set_cons_succ]
                first | refine tkA 18 ?_ | refine skA 18 ?_
                simp only [Act.put, List.setIfInBounds_toArray, List.set_cons_zero, List.set_cons_succ]
                first | refine tkA 19 ?_ | refine skA 19 ?_
                simp only [Act.put, List.setIfInBounds_toArray, List.set_cons_zero, List.set_cons_succ]
                first | refine tkA 20 ?_ | refine skA 20 ?_
                simp only [Act.put, List.setIfInBounds_toArray, List.set_cons_zero, List.set_cons_succ]
                first | refine tkA 21 ?_ | refine skA 21 ?_
                simp only [Act.put, List.setIfInBounds_toArray, List.set_cons_zero, List.set_cons_succ]
                first | refine tkA 22 ?_ | refine skA 22 ?_
                simp only [Act.put, List.setIfInBounds_toArray, List.set_cons_zero, List.set_cons_succ]
                first | refine tkA 23 ?_ | refine skA 23 ?_
                simp only [Act.put, List.setIfInBounds_toArray, List.set_cons_zero, List.set_cons_succ]
                refine wpAnyH_done (by kernel_rfl) ?_ _
                clear hHeld
                have HN := Lib.hid (noneTo_succ HT.out (fun _ => show isPst f.attrs[k].name f.attrs[k].val m[j] = false by rw [← HMJ.out]; simp [isPst, eqS, Vl.eqb, mkP, h2]))
                go_wp2_with fail
                go_roundw
                case rel => exact ⟨j + 1, by omega, by go_num, HN.out, hb2.drew⟩
                case measure => simp [intOf]; omega
              | true =>
                cases h3 : (h.val.str.toList == f.attrs[k].val.str.toList) with
                | false =>
                  go_wp2_with fail
                  refine wp_region_held_drew (S := (fun w' => w'.cell? ⟨g, j * 5, none⟩ = some (.string h.name) ∧ w'.cell? ⟨g, j * 5 + 1, none⟩ = some (.int .i64 h.val.kind) ∧ w'.cell? ⟨g, j * 5 + 2, none⟩ = some (.int .i64 h.val.int) ∧ w'.cell? ⟨g, j * 5 + 3, none⟩ = some (.string h.val.str) ∧ w'.cell? ⟨W1.heap.size, 0, none⟩ = some (.string f.attrs[k].name) ∧ w'.cell? ⟨W1.heap.size, 1, none⟩ = some (.int .i64 f.attrs[k].val.kind) ∧ w'.cell? ⟨W1.heap.size, 2, none⟩ = some (.int .i64 f.attrs[k].val.int) ∧ w'.cell? ⟨W1.heap.size, 3, none⟩ = some (.string f.attrs[k].val.str))) (by kernel_rfl) (by (try dsimp only); exact ⟨y0, y1, y2, y3, a0, a1, a2, a3⟩) (fun hHeld => ?_)
                  first | refine tkA 0 ?_ | refine skA 0 ?_
                  simp only [Act.put, List.setIfInBounds_toArray, List.set_cons_zero, List.set_cons_succ]
                  first | refine tkA 1 ?_ | refine skA 1 ?_
                  simp only [Act.put, List.setIfInBounds_toArray, List.set_cons_zero, List.set_cons_succ]
                  first | refine tkA 2 ?_ | refine skA 2 ?_
                  simp only [Act.put, List.setIfInBounds_toArray, List.set_cons_zero, List.set_cons_succ]
                  first | refine tkA 3 ?_ | refine skA 3 ?_
                  simp only [Act.put, List.setIfInBounds_toArray, List.set_cons_zero, List.set_cons_succ]
                  first | refine tkA 4 ?_ | refine skA 4 ?_
                  simp only [Act.put, List.setIfInBounds_toArray, List.set_cons_zero, List.set_cons_succ]
                  first | refine tkA 5 ?_ | refine skA 5 ?_
                  simp only [Act.put, List.setIfInBounds_toArray, List.set_cons_zero, List.set_cons_succ]
                  first | refine tkA 6 ?_ | refine skA 6 ?_
                  simp only [Act.put, List.setIfInBounds_toArray, List.set_cons_zero, List.set_cons_succ]
                  first | refine tkA 7 ?_ | refine skA 7 ?_
                  simp only [Act.put, List.setIfInBounds_toArray, List.set_cons_zero, List.set_cons_succ]
                  first | refine tkA 8 ?_ | refine skA 8 ?_
                  simp only [Act.put, List.setIfInBounds_toArray, List.set_cons_zero, List.set_cons_succ]
                  first | refine tkA 9 ?_ | refine skA 9 ?_
                  simp only [Act.put, List.setIfInBounds_toArray, List.set_cons_zero, List.set_cons_succ]
                  first | refine tkA 10 ?_ | refine skA 10 ?_
                  simp only [Act.put, List.setIfInBounds_toArray, List.set_cons_zero, List.set_cons_succ]
                  first | refine tkA 11 ?_ | refine skA 11 ?_
                  simp only [Act.put, List.setIfInBounds_toArray, List.set_cons_zero, List.set_cons_succ]
                  first | refine tkA 12 ?_ | refine skA 12 ?_
                  simp only [Act.put, List.setIfInBounds_toArray, List.set_cons_zero, List.set_cons_succ]
                  first | refine tkA 13 ?_ | refine skA 13 ?_
                  simp only [Act.put, List.setIfInBounds_toArray, List.set_cons_zero, List.set_cons_succ]
                  first | refine tkA 14 ?_ | refine skA 14 ?_
                  simp only [Act.put, List.setIfInBounds_toArray, List.set_cons_zero, List.set_cons_succ]
                  first | refine tkA 15 ?_ | refine skA 15 ?_
                  simp only [Act.put, List.setIfInBounds_toArray, List.set_cons_zero, List.set_cons_succ]
                  first | refine tkA 16 ?_ | refine skA 16 ?_
                  simp only [Act.put, List.setIfInBounds_toArray, List.set_cons_zero, List.set_cons_succ]
                  first | refine tkA 17 ?_ | refine skA 17 ?_
                  simp only [Act.put, List.setIfInBounds_toArray, List.set_cons_zero, List.set_cons_succ]
                  first | refine tkA 18 ?_ | refine skA 18 ?_
                  simp only [Act.put, List.setIfInBounds_toArray, List.set_cons_zero, List.set_cons_succ]
                  first | refine tkA 19 ?_ | refine skA 19 ?_
                  simp only [Act.put, List.setIfInBounds_toArray, List.set_cons_zero, List.set_cons_succ]
                  first | refine tkA 20 ?_ | refine skA 20 ?_
                  simp only [Act.put, List.setIfInBounds_toArray, List.set_cons_zero, List.set_cons_succ]
                  first | refine tkA 21 ?_ | refine skA 21 ?_
                  simp only [Act.put, List.setIfInBounds_toArray, List.set_cons_zero, List.set_cons_succ]
                  first | refine tkA 22 ?_ | refine skA 22 ?_
                  simp only [Act.put, List.setIfInBounds_toArray, List.set_cons_zero, List.set_cons_succ]
                  first | refine tkA 23 ?_ | refine skA 23 ?_
                  simp only [Act.put, List.setIfInBounds_toArray, List.set_cons_zero, List.set_cons_succ]
                  refine wpAnyH_done (by kernel_rfl) ?_ _
                  clear hHeld
                  have HN := Lib.hid (noneTo_succ HT.out (fun _ => show isPst f.attrs[k].name f.attrs[k].val m[j] = false by rw [← HMJ.out]; simp [isPst, eqS, Vl.eqb, mkP, h3]))
                  go_wp2_with fail
                  go_roundw
                  case rel => exact ⟨j + 1, by omega, by go_num, HN.out, hb2.drew⟩
                  case measure => simp [intOf]; omega
                | true =>
                  have HFI := Lib.hid (show m.findIdx (isPst f.attrs[k].name f.attrs[k].val) = j from findIdx_at hj2 HT.out (fun _ => by rw [← HMJ.out]; simp [isPst, eqS, Vl.eqb, mkP, h0, h1, h2, h3]))
                  go_wp2_with fail
                  refine wp_region_held_drew (S := (fun w' => w'.cell? ⟨g, j * 5, none⟩ = some (.string h.name) ∧ w'.cell? ⟨g, j * 5 + 1, none⟩ = some (.int .i64 h.val.kind) ∧ w'.cell? ⟨g, j * 5 + 2, none⟩ = some (.int .i64 h.val.int) ∧ w'.cell? ⟨g, j * 5 + 3, none⟩ = some (.string h.val.str) ∧ w'.cell? ⟨W1.heap.size, 0, none⟩ = some (.string f.attrs[k].name) ∧ w'.cell? ⟨W1.heap.size, 1, none⟩ = some (.int .i64 f.attrs[k].val.kind) ∧ w'.cell? ⟨W1.heap.size, 2, none⟩ = some (.int .i64 f.attrs[k].val.int) ∧ w'.cell? ⟨W1.heap.size, 3, none⟩ = some (.string f.attrs[k].val.str))) (by kernel_rfl) (by (try dsimp only); exact ⟨y0, y1, y2, y3, a0, a1, a2, a3⟩) (fun hHeld => ?_)
                  first | refine tkA 0 ?_ | refine skA 0 ?_
                  simp only [Act.put, List.setIfInBounds_toArray, List.set_cons_zero, List.set_cons_succ]
                  first | refine tkA 1 ?_ | refine skA 1 ?_
                  simp only [Act.put, List.setIfInBounds_toArray, List.set_cons_zero, List.set_cons_succ]
                  first | refine tkA 2 ?_ | refine skA 2 ?_
                  simp only [Act.put, List.setIfInBounds_toArray, List.set_cons_zero, List.set_cons_succ]
                  first | refine tkA 3 ?_ | refine skA 3 ?_
                  simp only [Act.put, List.setIfInBounds_toArray, List.set_cons_zero, List.set_cons_succ]
                  first | refine tkA 4 ?_ | refine skA 4 ?_
                  simp only [Act.put, List.setIfInBounds_toArray, List.set_cons_zero, List.set_cons_succ]
                  first | refine tkA 5 ?_ | refine skA 5 ?_
                  simp only [Act.put, List.setIfInBounds_toArray, List.set_cons_zero, List.set_cons_succ]
                  first | refine tkA 6 ?_ | refine skA 6 ?_
                  simp only [Act.put, List.setIfInBounds_toArray, List.set_cons_zero, List.set_cons_succ]
                  first | refine tkA 7 ?_ | refine skA 7 ?_
                  simp only [Act.put, List.setIfInBounds_toArray, List.set_cons_zero, List.set_cons_succ]
                  first | refine tkA 8 ?_ | refine skA 8 ?_
                  simp only [Act.put, List.setIfInBounds_toArray, List.set_cons_zero, List.set_cons_succ]
                  first | refine tkA 9 ?_ | refine skA 9 ?_
                  simp only [Act.put, List.setIfInBounds_toArray, List.set_cons_zero, List.set_cons_succ]
                  first | refine tkA 10 ?_ | refine skA 10 ?_
                  simp only [Act.put, List.setIfInBounds_toArray, List.set_cons_zero, List.set_cons_succ]
                  first | refine tkA 11 ?_ | refine skA 11 ?_
                  simp only [Act.put, List.setIfInBounds_toArray, List.set_cons_zero, List.set_cons_succ]
                  first | refine tkA 12 ?_ | refine skA 12 ?_
                  simp only [Act.put, List.setIfInBounds_toArray, List.set_cons_zero, List.set_cons_succ]
                  first | refine tkA 13 ?_ | refine skA 13 ?_
                  simp only [Act.put, List.setIfInBounds_toArray, List.set_cons_zero, List.set_cons_succ]
                  first | refine tkA 14 ?_ | refine skA 14 ?_
                  simp only [Act.put, List.setIfInBounds_toArray, List.set_cons_zero, List.set_cons_succ]
                  first | refine tkA 15 ?_ | refine skA 15 ?_
                  simp only [Act.put, List.setIfInBounds_toArray, List.set_cons_zero, List.set_cons_succ]
                  first | refine tkA 16 ?_ | refine skA 16 ?_
                  simp only [Act.put, List.setIfInBounds_toArray, List.set_cons_zero, List.set_cons_succ]
                  first | refine tkA 17 ?_ | refine skA 17 ?_
                  simp only [Act.put, List.setIfInBounds_toArray, List.set_cons_zero, List.set_cons_succ]
                  first | refine tkA 18 ?_ | refine skA 18 ?_
                  simp only [Act.put, List.setIfInBounds_toArray, List.set_cons_zero, List.set_cons_succ]
                  first | refine tkA 19 ?_ | refine skA 19 ?_
                  simp only [Act.put, List.setIfInBounds_toArray, List.set_cons_zero, List.set_cons_succ]
                  first | refine tkA 20 ?_ | refine skA 20 ?_
                  simp only [Act.put, List.setIfInBounds_toArray, List.set_cons_zero, List.set_cons_succ]
                  first | refine tkA 21 ?_ | refine skA 21 ?_
                  simp only [Act.put, List.setIfInBounds_toArray, List.set_cons_zero, List.set_cons_succ]
                  first | refine tkA 22 ?_ | refine skA 22 ?_
                  simp only [Act.put, List.setIfInBounds_toArray, List.set_cons_zero, List.set_cons_succ]
                  first | refine tkA 23 ?_ | refine skA 23 ?_
                  simp only [Act.put, List.setIfInBounds_toArray, List.set_cons_zero, List.set_cons_succ]
                  refine wpAnyH_done (by kernel_rfl) ?_ _
                  clear hHeld
                  generalize hW3 : World.drew wr = W3
                  have hb23 : Below W2.heap.size W2 W3 := by rw [← hW3]; exact hb2.drew
                  have HMU := Lib.hid (show addA f.id m f.attrs[k] = putAt m j f.id by rw [addA_found (by rw [HFI.out]; exact hjl), HFI.out])
                  have hjL : j < L.length := by omega
                  clear hW3 y0 y1 y2 y3 a0 a1 a2 a3 f0 HFI
                  have HL3 := Lib.hid (HL.out.1.below hb23)
                  have HH3 := Lib.hid (HH2.out.below hb23)
                  have HB3 := Lib.hid (ex_trans HB2.out hb23)
                  have hin := HL3.out.fil j hjL
                  rw [HX.out] at hin
                  simp only [NK.inner] at hin
                  obtain ⟨g', hg', -, hgw, -, hfr, hcell⟩ := HL3.out.hcell encPh (by omega)
                  obtain rfl : g = g' := by simpa using hg'
                  have y4 := hcell j hjL 4 _ rfl
                  rw [HX.out] at y4
                  have HIN := Lib.hid hin
                  have hHn : h.n ≤ 1073741822 := by
                    rw [← hin.len]
                    have h9 := HWI.out m[j] (List.getElem_mem hjl)
                    rw [← HMJ.out] at h9
                    exact Nat.le_trans h9 (by omega)
                  have HGN := Lib.hid (show g ∉ rowBs h.A h.c from by
                    have h9 := HL3.out.gapart hjL g (by rw [HGL.out.2.2]; simp)
                    rw [HX.out] at h9
                    exact h9)
                  have f0 : W3.cell? ⟨w.heap.size, 0, none⟩ = some (.int .i64 f.id) := blk_cell? (HH3.out _ (List.Mem.head _)) 0
                  have hrb := HGL.out.2.2
                  clear hin hg' hcell hb2
                  go_upto_region 10 with fail
                  refine region_F (S := (fun w' => w'.cell? ⟨g, j * 5 + 4, none⟩ = some (.slice h.A h.n h.c) ∧ w'.cell? ⟨w.heap.size, 0, none⟩ = some (.int .i64 f.id))) [12] (by kernel_rfl) (by (try dsimp only); exact ⟨y4, f0⟩) (fun hHeld => ?_)
                  refine heldF_take 0 rfl (by kernel_rfl) (by kernel_rfl) (by kernel_rfl) (by kernel_rfl) (by kernel_rfl) (by rfl) (fun _ _ _ h => h) (by assumption) (by intro w hSw; (try dsimp only at hSw); go_simp; first | done | with_reducible rfl) ?_
                  simp only [Act.put, List.setIfInBounds_toArray, List.set_cons_zero, List.set_cons_succ]
                  refine heldF_take 1 rfl (by kernel_rfl) (by kernel_rfl) (by kernel_rfl) (by kernel_rfl) (by kernel_rfl) (by rfl) (fun _ _ _ h => h) (by assumption) (by intro w hSw; (try dsimp only at hSw); go_simp; first | done | with_reducible rfl) ?_
                  simp only [Act.put, List.setIfInBounds_toArray, List.set_cons_zero, List.set_cons_succ]
                  refine heldF_take 2 rfl (by kernel_rfl) (by kernel_rfl) (by kernel_rfl) (by kernel_rfl) (by kernel_rfl) (by rfl) (fun _ _ _ h => h) (by assumption) (by intro w hSw; (try dsimp only at hSw); go_simp; first | done | with_reducible rfl) ?_
                  simp only [Act.put, List.setIfInBounds_toArray, List.set_cons_zero, List.set_cons_succ]
                  refine heldF_take 3 rfl (by kernel_rfl) (by kernel_rfl) (by kernel_rfl) (by kernel_rfl) (by kernel_rfl) (by rfl) (fun _ _ _ h => h) (by assumption) (by intro w hSw; (try dsimp only at hSw); go_simp; first | done | with_reducible rfl) ?_
                  simp only [Act.put, List.setIfInBounds_toArray, List.set_cons_zero, List.set_cons_succ]
                  refine heldF_take 4 rfl (by kernel_rfl) (by kernel_rfl) (by kernel_rfl) (by kernel_rfl) (by kernel_rfl) (by rfl) (fun _ _ _ h => h) (by assumption) (by intro w hSw; (try dsimp only at hSw); go_simp; first | done | with_reducible rfl) ?_
                  simp only [Act.put, List.setIfInBounds_toArray, List.set_cons_zero, List.set_cons_succ]
                  refine heldF_take 5 rfl (by kernel_rfl) (by kernel_rfl) (by kernel_rfl) (by kernel_rfl) (by kernel_rfl) (by rfl) (fun _ _ _ h => h) (by assumption) (by intro w hSw; (try dsimp only at hSw); go_simp; first | done | with_reducible rfl) ?_
                  simp only [Act.put, List.setIfInBounds_toArray, List.set_cons_zero, List.set_cons_succ]
                  refine heldF_take 6 rfl (by kernel_rfl) (by kernel_rfl) (by kernel_rfl) (by kernel_rfl) (by kernel_rfl) (by rfl) (fun _ _ _ h => h) (by assumption) (by intro w hSw; (try dsimp only at hSw); go_simp; first | done | with_reducible rfl) ?_
                  simp only [Act.put, List.setIfInBounds_toArray, List.set_cons_zero, List.set_cons_succ]
                  refine heldF_take 7 rfl (by kernel_rfl) (by kernel_rfl) (by kernel_rfl) (by kernel_rfl) (by kernel_rfl) (by rfl) (fun _ _ _ h => h) (by assumption) (by intro w hSw; (try dsimp only at hSw); go_simp; first | done | with_reducible rfl) ?_
                  simp only [Act.put, List.setIfInBounds_toArray, List.set_cons_zero, List.set_cons_succ]
                  refine heldF_take 8 rfl (by kernel_rfl) (by kernel_rfl) (by kernel_rfl) (by kernel_rfl) (by kernel_rfl) (by rfl) (fun _ _ _ h => h) (by assumption) (by intro w hSw; (try dsimp only at hSw); go_simp; first | done | with_reducible rfl) ?_
                  simp only [Act.put, List.setIfInBounds_toArray, List.set_cons_zero, List.set_cons_succ]
                  refine heldF_one 9 (by kernel_rfl) rfl (fun K hK => ?_)
                  go_simp
                  go_at_call 105
                  refine (spec_l07PutId h.A h.n h.c ids f.id (w.heap.size + 1) _ (HIN.out.below (Below.refl _ _).drew) (by omega) (by have h9 := blk_lt (HH3.out _ (List.Mem.head _)); exact h9)).mono ?_; rintro e w8 ⟨A8, c8, rfl, hr8, hb8, hx8⟩
                  have z8 := keep_cell hb8 hHeld.1
                  have fr8 : ∀ j, w8.frozen? ⟨g, j, none⟩ = false := fun j => (hb8.frozen (p := ⟨g, j, none⟩) hgw).trans (hfr j)
                  have lg8 : g < w8.heap.size := World.block_lt_of_cell? w8 _ z8
                  have HR8 := Lib.hid (And.intro hr8 (And.intro hb8 hx8))
                  go_wp2_with fail
                  refine hK.out _ _ (fun _ => by (try dsimp only); exact ⟨keep_cell hb8 hHeld.1, keep_cell hb8 hHeld.2⟩) (fun hNew => ?_)
                  clear hK K hHeld
                  have hHeld := hNew rfl
                  clear hNew
                  try simp only [Act.put, List.setIfInBounds_toArray, List.set_cons_zero, List.set_cons_succ]
                  clear hr8 hx8
                  refine heldF_one 10 (by kernel_rfl) rfl (fun K hK => ?_)
                  go_simp
                  refine hK.out _ _ (fun _ => by (try dsimp only); exact hHeld) (fun hNew => ?_)
                  clear hK K hHeld
                  have hHeld := hNew rfl
                  clear hNew
                  try simp only [Act.put, List.setIfInBounds_toArray, List.set_cons_zero, List.set_cons_succ]
                  refine heldF_one 11 (by kernel_rfl) rfl (fun K hK => ?_)
                  go_simp
                  refine hK.out _ _ (fun _ => by (try dsimp only); exact hHeld) (fun hNew => ?_)
                  clear hK K hHeld
                  have hHeld := hNew rfl
                  clear hNew
                  try simp only [Act.put, List.setIfInBounds_toArray, List.set_cons_zero, List.set_cons_succ]
                  refine heldF_one 12 (by kernel_rfl) rfl (fun K hK => ?_)
                  go_simp
                  refine hK.out _ _ (fun h => by cases (show true = false from h)) (fun _ => ?_)
                  clear hK K
                  try clear hHeld
                  try simp only [Act.put, List.setIfInBounds_toArray, List.set_cons_zero, List.set_cons_succ]
                  refine anyF_done (by kernel_rfl) ?_ _
                  have HREL := Lib.hid (add_done HL3.out HIN.out HH3.out HB3.out (W0 := _) (Below.refl _ _).drew hjL HX.out HR8.out.1 (Chg.of_below _ HR8.out.2.1) HR8.out.2.2 hrb (by omega) (fun x hx => by
                    simp only [List.mem_cons, List.not_mem_nil, or_false] at hx
                    rcases hx with rfl | rfl
                    · exact ⟨(by decide : (28 : Nat) ≠ 107), (by decide : (28 : Nat) ≠ 3)⟩
                    · exact ⟨(by decide : (84 : Nat) ≠ 107), (by decide : (84 : Nat) ≠ 3)⟩))
                  go_wp2_with fail
                  go_roundw
                  case rel => exact ⟨k + 1, m.length, _, c1, by omega, by go_num, rfl, fun x hx => HREL.out.1 x (by obtain rfl := List.mem_singleton.1 hx; exact List.Mem.head _), ⟨_, HREL.out.2.1, by rw [HMS.out, HMU.out, ← HL.out.2, ← putAt_map hjL HX.out f.id (⟨h.name, h.val, A8, (putI ids f.id).length, c8⟩ : Ph) rfl rfl]⟩, HREL.out.2.2⟩
                  case measure => simp [intOf]; omega
        · obtain rfl : j = m.length := by omega
          have hd : decide ((m.length : Int) < (m.length : Int)) = false := decide_eq_false (by omega)
          have HNF := Lib.hid (show m.findIdx (isPst f.attrs[k].name f.attrs[k].val) = m.length from findIdx_at (Nat.le_refl _) HT.out (fun h => absurd h (by omega)))
          have hd2 : ¬ ((m.length : Int) < (m.length : Int)) := by omega
          go_wp2_with fail
          refine wp_region_held_drew (S := (fun w' => w'.cell? ⟨W1.heap.size, 0, none⟩ = some (.string f.attrs[k].name))) (by kernel_rfl) (by (try dsimp only); exact a0) (fun hHeld => ?_)
          first | refine tkA 0 ?_ | refine skA 0 ?_
          simp only [Act.put, List.setIfInBounds_toArray, List.set_cons_zero, List.set_cons_succ]
          first | refine tkA 1 ?_ | refine skA 1 ?_
          simp only [Act.put, List.setIfInBounds_toArray, List.set_cons_zero, List.set_cons_succ]
          first | refine tkA 2 ?_ | refine skA 2 ?_
          simp only [Act.put, List.setIfInBounds_toArray, List.set_cons_zero, List.set_cons_succ]
          first | refine tkA 3 ?_ | refine skA 3 ?_
          simp only [Act.put, List.setIfInBounds_toArray, List.set_cons_zero, List.set_cons_succ]
          first | refine tkA 4 ?_ | refine skA 4 ?_
          simp only [Act.put, List.setIfInBounds_toArray, List.set_cons_zero, List.set_cons_succ]
          first | refine tkA 5 ?_ | refine skA 5 ?_
          simp only [Act.put, List.setIfInBounds_toArray, List.set_cons_zero, List.set_cons_succ]
          first | refine tkA 6 ?_ | refine skA 6 ?_
          simp only [Act.put, List.setIfInBounds_toArray, List.set_cons_zero, List.set_cons_succ]
          first | refine tkA 7 ?_ | refine skA 7 ?_
          simp only [Act.put, List.setIfInBounds_toArray, List.set_cons_zero, List.set_cons_succ]
          first | refine tkA 8 ?_ | refine skA 8 ?_
          simp only [Act.put, List.setIfInBounds_toArray, List.set_cons_zero, List.set_cons_succ]
          first | refine tkA 9 ?_ | refine skA 9 ?_
          simp only [Act.put, List.setIfInBounds_toArray, List.set_cons_zero, List.set_cons_succ]
          first | refine tkA 10 ?_ | refine skA 10 ?_
          simp only [Act.put, List.setIfInBounds_toArray, List.set_cons_zero, List.set_cons_succ]
          first | refine tkA 11 ?_ | refine skA 11 ?_
          simp only [Act.put, List.setIfInBounds_toArray, List.set_cons_zero, List.set_cons_succ]
          first | refine tkA 12 ?_ | refine skA 12 ?_
          simp only [Act.put, List.setIfInBounds_toArray, List.set_cons_zero, List.set_cons_succ]
          first | refine tkA 13 ?_ | refine skA 13 ?_
          simp only [Act.put, List.setIfInBounds_toArray, List.set_cons_zero, List.set_cons_succ]
          first | refine tkA 14 ?_ | refine skA 14 ?_
          simp only [Act.put, List.setIfInBounds_toArray, List.set_cons_zero, List.set_cons_succ]
          first | refine tkA 15 ?_ | refine skA 15 ?_
          simp only [Act.put, List.setIfInBounds_toArray, List.set_cons_zero, List.set_cons_succ]
          first | refine tkA 16 ?_ | refine skA 16 ?_
          simp only [Act.put, List.setIfInBounds_toArray, List.set_cons_zero, List.set_cons_succ]
          first | refine tkA 17 ?_ | refine skA 17 ?_
          simp only [Act.put, List.setIfInBounds_toArray, List.set_cons_zero, List.set_cons_succ]
          first | refine tkA 18 ?_ | refine skA 18 ?_
          simp only [Act.put, List.setIfInBounds_toArray, List.set_cons_zero, List.set_cons_succ]
          first | refine tkA 19 ?_ | refine skA 19 ?_
          simp only [Act.put, List.setIfInBounds_toArray, List.set_cons_zero, List.set_cons_succ]
          first | refine tkA 20 ?_ | refine skA 20 ?_
          simp only [Act.put, List.setIfInBounds_toArray, List.set_cons_zero, List.set_cons_succ]
          first | refine tkA 21 ?_ | refine skA 21 ?_
          simp only [Act.put, List.setIfInBounds_toArray, List.set_cons_zero, List.set_cons_succ]
          first | refine tkA 22 ?_ | refine skA 22 ?_
          simp only [Act.put, List.setIfInBounds_toArray, List.set_cons_zero, List.set_cons_succ]
          first | refine tkA 23 ?_ | refine skA 23 ?_
          simp only [Act.put, List.setIfInBounds_toArray, List.set_cons_zero, List.set_cons_succ]
          refine wpAnyH_done (by kernel_rfl) ?_ _
          clear hHeld
          go_wp2_with fail
          go_loopw [7] (fun i wr => ∃ q : Nat, q ≤ m.length ∧ i = .int .i64 q ∧ noneTo (gtP f.attrs[k].name f.attrs[k].val) m q ∧ Below W2.heap.size W2 wr) (fun i _ => m.length - (intOf i).toNat)
          case atStart => exact ⟨0, Nat.zero_le _, rfl, noneTo_zero _ _, hb2.drew⟩
          case round =>
            obtain ⟨q, hq2, rfl, hT3, hb3⟩ := hrel
            have HT3 := Lib.hid hT3
            clear hT3 a0 a1 a2 a3 f0 hb2
            have a0 := keep_cell hb3 HA.out.1
            have a1 := keep_cell hb3 HA.out.2.1
            have a2 := keep_cell hb3 HA.out.2.2.1
            have a3 := keep_cell hb3 HA.out.2.2.2
            have la3 := keep_lt hb3 la
            have i4 : (0 : Int) ≤ (q : Int) := by omega
            have i5 : (q : Int) ≤ (m.length : Int) := by omega
            by_cases hql : q < m.length
            · have i3 : (q : Int) < (m.length : Int) := by omega
              have hd3 : decide ((q : Int) < (m.length : Int)) = true := decide_eq_true i3
              obtain ⟨g, rfl, hBg, hgw0, hrb, hfr0, hcell⟩ := HL.out.1.hcell encPh (by omega)
              have y0 := hcell q (by omega) 0 _ rfl
              have y1 := hcell q (by omega) 1 _ rfl
              have y2 := hcell q (by omega) 2 _ rfl
              have y3 := hcell q (by omega) 3 _ rfl
              have y4 := hcell q (by omega) 4 _ rfl
              have hmj : mkP (L[q]'(by omega)) = m[q] := by
                have h9 : (L.map mkP)[q]? = m[q]? := by rw [HL.out.2]
                rw [List.getElem?_map, List.getElem?_eq_getElem (by omega), List.getElem?_eq_getElem hql] at h9
                simpa using h9
              obtain ⟨x, hx⟩ : ∃ x, L[q]'(by omega) = x := ⟨_, rfl⟩
              rw [hx] at y0 y1 y2 y3 y4 hmj
              obtain ⟨h, ids⟩ := x
              simp only [Nat.add_zero] at y0
              replace y0 := keep_cell hb3 y0
              replace y1 := keep_cell hb3 y1
              replace y2 := keep_cell hb3 y2
              replace y3 := keep_cell hb3 y3
              replace y4 := keep_cell hb3 y4
              have hcq := HL.out.1.le
              have i6 : (q : Int) ≤ (c1 : Int) := by omega
              have hgq : gtP f.attrs[k].name f.attrs[k].val m[q] = gtP f.attrs[k].name f.attrs[k].val ⟨h.name, h.val, []⟩ := by rw [← hmj]; rfl
              clear hmj hx hcell hfr0 hrb hgw0
              cases hg : gtP f.attrs[k].name f.attrs[k].val m[q] with
              | false =>
                have hg' : gtP f.attrs[k].name f.attrs[k].val ⟨h.name, h.val, []⟩ = false := hgq.symm.trans hg
                have HN := Lib.hid (noneTo_succ HT3.out (fun _ => hg))
                clear hgq hg
                go_wp2_with fail
                refine wp_region_held_drew (S := (fun w' => w'.cell? ⟨g, q * 5, none⟩ = some (.string h.name) ∧ w'.cell? ⟨g, q * 5 + 1, none⟩ = some (.int .i64 h.val.kind) ∧ w'.cell? ⟨g, q * 5 + 2, none⟩ = some (.int .i64 h.val.int) ∧ w'.cell? ⟨g, q * 5 + 3, none⟩ = some (.string h.val.str) ∧ w'.cell? ⟨g, q * 5 + 4, none⟩ = some (.slice h.A h.n h.c) ∧ w'.cell? ⟨W1.heap.size, 0, none⟩ = some (.string f.attrs[k].name) ∧ w'.cell? ⟨W1.heap.size, 1, none⟩ = some (.int .i64 f.attrs[k].val.kind) ∧ w'.cell? ⟨W1.heap.size, 2, none⟩ = some (.int .i64 f.attrs[k].val.int) ∧ w'.cell? ⟨W1.heap.size, 3, none⟩ = some (.string f.attrs[k].val.str) ∧ Below W2.heap.size W2 w')) (by kernel_rfl) (by (try dsimp only); exact ⟨y0, y1, y2, y3, y4, a0, a1, a2, a3, hb3.drew⟩) (fun hHeld => ?_)
                first | refine tkA 0 ?_ | refine skA 0 ?_
                simp only [Act.put, List.setIfInBounds_toArray, List.set_cons_zero, List.set_cons_succ]
                first | refine tkA 1 ?_ | refine skA 1 ?_
                simp only [Act.put, List.setIfInBounds_toArray, List.set_cons_zero, List.set_cons_succ]
                first | refine tkA 2 ?_ | refine skA 2 ?_
                simp only [Act.put, List.setIfInBounds_toArray, List.set_cons_zero, List.set_cons_succ]
                first | refine tkA 3 ?_ | refine skA 3 ?_
                simp only [Act.put, List.setIfInBounds_toArray, List.set_cons_zero, List.set_cons_succ]
                first | refine tkA 4 ?_ | refine skA 4 ?_
                simp only [Act.put, List.setIfInBounds_toArray, List.set_cons_zero, List.set_cons_succ]
                first | refine tkA 5 ?_ | refine skA 5 ?_
                simp only [Act.put, List.setIfInBounds_toArray, List.set_cons_zero, List.set_cons_succ]
                first | refine tkA 6 ?_ | refine skA 6 ?_
                simp only [Act.put, List.setIfInBounds_toArray, List.set_cons_zero, List.set_cons_succ]
                first | refine tkA 7 ?_ | refine skA 7 ?_
                simp only [Act.put, List.setIfInBounds_toArray, List.set_cons_zero, List.set_cons_succ]
                first | refine tkA 8 ?_ | refine skA 8 ?_
                simp only [Act.put, List.setIfInBounds_toArray, List.set_cons_zero, List.set_cons_succ]
                first | refine tkA 9 ?_ | refine skA 9 ?_
                simp only [Act.put, List.setIfInBounds_toArray, List.set_cons_zero, List.set_cons_succ]
                first | refine tkA 10 ?_ | refine skA 10 ?_
                simp only [Act.put, List.setIfInBounds_toArray, List.set_cons_zero, List.set_cons_succ]
                first | refine tkA 11 ?_ | refine skA 11 ?_
                simp only [Act.put, List.setIfInBounds_toArray, List.set_cons_zero, List.set_cons_succ]
                first | refine tkA 12 ?_ | refine skA 12 ?_
                simp only [Act.put, List.setIfInBounds_toArray, List.set_cons_zero, List.set_cons_succ]
                refine held_one 13 (by kernel_rfl) rfl (fun K hK => ?_)
                go_simp
                go_at_call 106
                refine (spec_l07Behind h f.attrs[k].name f.attrs[k].val _).mono ?_; rintro e w5 ⟨rfl, hb5⟩
                rw [hg']
                go_wp2_with fail
                refine hK.out _ _ (by (try dsimp only); exact ⟨keep_cell hb5 hHeld.1, keep_cell hb5 hHeld.2.1, keep_cell hb5 hHeld.2.2.1, keep_cell hb5 hHeld.2.2.2.1, keep_cell hb5 hHeld.2.2.2.2.1, keep_cell hb5 hHeld.2.2.2.2.2.1, keep_cell hb5 hHeld.2.2.2.2.2.2.1, keep_cell hb5 hHeld.2.2.2.2.2.2.2.1, keep_cell hb5 hHeld.2.2.2.2.2.2.2.2.1, ex_trans hHeld.2.2.2.2.2.2.2.2.2 hb5⟩) (fun hNew => ?_)
                clear hK K hHeld
                have hHeld := hNew
                clear hNew
                try simp only [Act.put, List.setIfInBounds_toArray, List.set_cons_zero, List.set_cons_succ]
                first | refine tkA 14 ?_ | refine skA 14 ?_
                simp only [Act.put, List.setIfInBounds_toArray, List.set_cons_zero, List.set_cons_succ]
                first | refine tkA 15 ?_ | refine skA 15 ?_
                simp only [Act.put, List.setIfInBounds_toArray, List.set_cons_zero, List.set_cons_succ]
                refine wpAnyH_done (by kernel_rfl) ?_ _
                have hb25 := hHeld.2.2.2.2.2.2.2.2.2
                clear hHeld
                go_wp2_with fail
                go_roundw
                case rel => exact ⟨q + 1, by omega, by go_num, HN.out, hb25⟩
                case measure => simp [intOf]; omega
              | true =>
                have hg' : gtP f.attrs[k].name f.attrs[k].val ⟨h.name, h.val, []⟩ = true := hgq.symm.trans hg
                have HFI := Lib.hid (findIdx_at hq2 HT3.out (fun _ => hg))
                clear hgq hg
                go_wp2_with fail
                refine wp_region_held_drew (S := (fun w' => w'.cell? ⟨g, q * 5, none⟩ = some (.string h.name) ∧ w'.cell? ⟨g, q * 5 + 1, none⟩ = some (.int .i64 h.val.kind) ∧ w'.cell? ⟨g, q * 5 + 2, none⟩ = some (.int .i64 h.val.int) ∧ w'.cell? ⟨g, q * 5 + 3, none⟩ = some (.string h.val.str) ∧ w'.cell? ⟨g, q * 5 + 4, none⟩ = some (.slice h.A h.n h.c) ∧ w'.cell? ⟨W1.heap.size, 0, none⟩ = some (.string f.attrs[k].name) ∧ w'.cell? ⟨W1.heap.size, 1, none⟩ = some (.int .i64 f.attrs[k].val.kind) ∧ w'.cell? ⟨W1.heap.size, 2, none⟩ = some (.int .i64 f.attrs[k].val.int) ∧ w'.cell? ⟨W1.heap.size, 3, none⟩ = some (.string f.attrs[k].val.str) ∧ Below W2.heap.size W2 w')) (by kernel_rfl) (by (try dsimp only); exact ⟨y0, y1, y2, y3, y4, a0, a1, a2, a3, hb3.drew⟩) (fun hHeld => ?_)
                first | refine tkA 0 ?_ | refine skA 0 ?_
                simp only [Act.put, List.setIfInBounds_toArray, List.set_cons_zero, List.set_cons_succ]
                first | refine tkA 1 ?_ | refine skA 1 ?_
                simp only [Act.put, List.setIfInBounds_toArray, List.set_cons_zero, List.set_cons_succ]
                first | refine tkA 2 ?_ | refine skA 2 ?_
                simp only [Act.put, List.setIfInBounds_toArray, List.set_cons_zero, List.set_cons_succ]
                first | refine tkA 3 ?_ | refine skA 3 ?_
                simp only [Act.put, List.setIfInBounds_toArray, List.set_cons_zero, List.set_cons_succ]
                first | refine tkA 4 ?_ | refine skA 4 ?_
                simp only [Act.put, List.setIfInBounds_toArray, List.set_cons_zero, List.set_cons_succ]
                first | refine tkA 5 ?_ | refine skA 5 ?_
                simp only [Act.put, List.setIfInBounds_toArray, List.set_cons_zero, List.set_cons_succ]
                first | refine tkA 6 ?_ | refine skA 6 ?_
                simp only [Act.put, List.setIfInBounds_toArray, List.set_cons_zero, List.set_cons_succ]
                first | refine tkA 7 ?_ | refine skA 7 ?_
                simp only [Act.put, List.setIfInBounds_toArray, List.set_cons_zero, List.set_cons_succ]
                first | refine tkA 8 ?_ | refine skA 8 ?_
                simp only [Act.put, List.setIfInBounds_toArray, List.set_cons_zero, List.set_cons_succ]
                first | refine tkA 9 ?_ | refine skA 9 ?_
                simp only [Act.put, List.setIfInBounds_toArray, List.set_cons_zero, List.set_cons_succ]
                first | refine tkA 10 ?_ | refine skA 10 ?_
                simp only [Act.put, List.setIfInBounds_toArray, List.set_cons_zero, List.set_cons_succ]
                first | refine tkA 11 ?_ | refine skA 11 ?_
                simp only [Act.put, List.setIfInBounds_toArray, List.set_cons_zero, List.set_cons_succ]
                first | refine tkA 12 ?_ | refine skA 12 ?_
                simp only [Act.put, List.setIfInBounds_toArray, List.set_cons_zero, List.set_cons_succ]
                refine held_one 13 (by kernel_rfl) rfl (fun K hK => ?_)
                go_simp
                go_at_call 106
                refine (spec_l07Behind h f.attrs[k].name f.attrs[k].val _).mono ?_; rintro e w5 ⟨rfl, hb5⟩
                rw [hg']
                go_wp2_with fail
                refine hK.out _ _ (by (try dsimp only); exact ⟨keep_cell hb5 hHeld.1, keep_cell hb5 hHeld.2.1, keep_cell hb5 hHeld.2.2.1, keep_cell hb5 hHeld.2.2.2.1, keep_cell hb5 hHeld.2.2.2.2.1, keep_cell hb5 hHeld.2.2.2.2.2.1, keep_cell hb5 hHeld.2.2.2.2.2.2.1, keep_cell hb5 hHeld.2.2.2.2.2.2.2.1, keep_cell hb5 hHeld.2.2.2.2.2.2.2.2.1, ex_trans hHeld.2.2.2.2.2.2.2.2.2 hb5⟩) (fun hNew => ?_)
                clear hK K hHeld
                have hHeld := hNew
                clear hNew
                try simp only [Act.put, List.setIfInBounds_toArray, List.set_cons_zero, List.set_cons_succ]
                first | refine tkA 14 ?_ | refine skA 14 ?_
                simp only [Act.put, List.setIfInBounds_toArray, List.set_cons_zero, List.set_cons_succ]
                first | refine tkA 15 ?_ | refine skA 15 ?_
                simp only [Act.put, List.setIfInBounds_toArray, List.set_cons_zero, List.set_cons_succ]
                refine wpAnyH_done (by kernel_rfl) ?_ _
                have hb25 := hHeld.2.2.2.2.2.2.2.2.2
                clear hHeld
                obtain ⟨W5, rfl⟩ : ∃ W5, W5 = w5 := ⟨_, rfl⟩
                clear y0 y1 y2 y3 y4 a0 a1 a2 a3 hb3 hb5
                have HL5 := Lib.hid (HL.out.1.below hb25)
                have HH5 := Lib.hid (HH2.out.below hb25)
                have HB5 := Lib.hid (ex_trans HB2.out hb25)
                have a0 := keep_cell hb25 HA.out.1
                have a1 := keep_cell hb25 HA.out.2.1
                have a2 := keep_cell hb25 HA.out.2.2.1
                have a3 := keep_cell hb25 HA.out.2.2.2
                have f0 := keep_cell hb25 HF0.out.1
                have la5 := keep_lt hb25 la
                have lf5 := keep_lt hb25 lf2
                have hz5 := HB5.out.size
                have hck : ¬ (c1 = q) := by omega
                go_upto_region 14 with fail
                go_cut [8] (fun s8 w' => ∃ (A8 : Option Addr) (c8 gI : Nat), s8 = .slice A8 (q + 1) c8 ∧ FRow 107 5 ePh w' W5.heap.size A8 (q + 1) c8 ((L.map (·.1)).take q ++ [⟨f.attrs[k].name, f.attrs[k].val, some ⟨gI, 0, none⟩, 1, 1⟩]) ∧ FRow 3 1 eInt w' W5.heap.size (some ⟨gI, 0, none⟩) 1 1 [f.id] ∧ Below W5.heap.size W5 w')
                case first =>
                  refine wp_region_held_drew (S := (fun w' => w'.cell? ⟨W1.heap.size, 0, none⟩ = some (.string f.attrs[k].name) ∧ w'.cell? ⟨W1.heap.size, 1, none⟩ = some (.int .i64 f.attrs[k].val.kind) ∧ w'.cell? ⟨W1.heap.size, 2, none⟩ = some (.int .i64 f.attrs[k].val.int) ∧ w'.cell? ⟨W1.heap.size, 3, none⟩ = some (.string f.attrs[k].val.str) ∧ w'.cell? ⟨w.heap.size, 0, none⟩ = some (.int .i64 f.id) ∧ Below W5.heap.size W5 w')) (by kernel_rfl) (by (try dsimp only); exact ⟨a0, a1, a2, a3, f0, (Below.refl _ _).drew⟩) (fun hHeld => ?_)
                  first | refine tkA 1 ?_ | refine skA 1 ?_
                  simp only [Act.put, List.setIfInBounds_toArray, List.set_cons_zero, List.set_cons_succ]
                  first | refine tkA 2 ?_ | refine skA 2 ?_
                  simp only [Act.put, List.setIfInBounds_toArray, List.set_cons_zero, List.set_cons_succ]
                  first | refine tkA 3 ?_ | refine skA 3 ?_
                  simp only [Act.put, List.setIfInBounds_toArray, List.set_cons_zero, List.set_cons_succ]
                  first | refine tkA 5 ?_ | refine skA 5 ?_
                  simp only [Act.put, List.setIfInBounds_toArray, List.set_cons_zero, List.set_cons_succ]
                  first | refine tkA 6 ?_ | refine skA 6 ?_
                  simp only [Act.put, List.setIfInBounds_toArray, List.set_cons_zero, List.set_cons_succ]
                  first | refine tkA 7 ?_ | refine skA 7 ?_
                  simp only [Act.put, List.setIfInBounds_toArray, List.set_cons_zero, List.set_cons_succ]
                  first | refine tkA 8 ?_ | refine skA 8 ?_
                  simp only [Act.put, List.setIfInBounds_toArray, List.set_cons_zero, List.set_cons_succ]
                  first | refine tkA 9 ?_ | refine skA 9 ?_
                  simp only [Act.put, List.setIfInBounds_toArray, List.set_cons_zero, List.set_cons_succ]
                  first | refine tkA 10 ?_ | refine skA 10 ?_
                  simp only [Act.put, List.setIfInBounds_toArray, List.set_cons_zero, List.set_cons_succ]
                  generalize hWd : World.drew W5 = Wd at hHeld ⊢
                  clear hWd
                  refine held_two 0 11 (by kernel_rfl) rfl rfl (fun K hK => ?_) (fun K hK => ?_)
                  · go_simp
                    generalize hwa : World.alloc Wd _ = wa_1
                    have hba : Below Wd.heap.size Wd wa_1 := by rw [← hwa]; exact (Below.refl _ _).alloc (Nat.le_refl _) _
                    refine hK.out _ _ (by (try dsimp only); exact ⟨keep_cell hba hHeld.1, keep_cell hba hHeld.2.1, keep_cell hba hHeld.2.2.1, keep_cell hba hHeld.2.2.2.1, keep_cell hba hHeld.2.2.2.2.1, ex_trans hHeld.2.2.2.2.2 hba⟩) (fun hNew => ?_)
                    clear hK K hHeld
                    have hHeld := hNew
                    clear hNew
                    try simp only [Act.put, List.setIfInBounds_toArray, List.set_cons_zero, List.set_cons_succ]
                    clear hwa hba
                    refine held_two 4 11 (by kernel_rfl) rfl rfl (fun K hK => ?_) (fun K hK => ?_)
                    · refine step_append_row rfl (.tmp 83) (.tmp 86) _ rfl encPh Try.underlying55 hi hi0 hi1 hi2 rfl rfl rfl (FRow.any0 _ _ _ _ W5.heap.size _) (((Src.of_row encPh HL5.out.1).below hHeld.2.2.2.2.2).take encPh (k := q) (by omega)) (by unfold maxLen; omega) (by omega) hHeld.2.2.2.2.2.size ?_; intro A6 c6 w6_2 hr6 hc6 hx6
                      have hb6 : Below wa_1.heap.size wa_1 w6_2 := (show Chg [] wa_1 w6_2 from hc6.mono (by simp [rowBs_zero])).blow
                      have HR6 := Lib.hid (show FRow 107 5 ePh w6_2 W5.heap.size A6 q c6 ((L.map (·.1)).take q) by simpa using hr6)
                      refine hK.out _ _ (by (try dsimp only); exact ⟨keep_cell hb6 hHeld.1, keep_cell hb6 hHeld.2.1, keep_cell hb6 hHeld.2.2.1, keep_cell hb6 hHeld.2.2.2.1, keep_cell hb6 hHeld.2.2.2.2.1, ex_trans hHeld.2.2.2.2.2 hb6⟩) (fun hNew => ?_)
                      clear hK K hHeld
                      have hHeld := hNew
                      clear hNew
                      try simp only [Act.put, List.setIfInBounds_toArray, List.set_cons_zero, List.set_cons_succ]
                      clear hr6 hc6 hx6 hb6
                      try simp only [Nat.zero_add]
                      refine held_one 11 (by kernel_rfl) rfl (fun K hK => ?_)
                      go_simp
                      generalize hwa : World.alloc w6_2 _ = wa_3
                      have hba : Below w6_2.heap.size w6_2 wa_3 := by rw [← hwa]; exact (Below.refl _ _).alloc (Nat.le_refl _) _
                      have HR6 := Lib.hid (HR6.out.below hba)
                      have HI := Lib.hid (show wa_3.heap[w6_2.heap.size]? = some (.cells #[.int .i64 f.id] 3 (0, 0)) by rw [← hwa]; exact hp_new rfl)
                      have HGI := Lib.hid (show W5.heap.size ≤ w6_2.heap.size from hHeld.2.2.2.2.2.size)
                      refine hK.out _ _ (by (try dsimp only); exact ⟨keep_cell hba hHeld.1, keep_cell hba hHeld.2.1, keep_cell hba hHeld.2.2.1, keep_cell hba hHeld.2.2.2.1, keep_cell hba hHeld.2.2.2.2.1, ex_trans hHeld.2.2.2.2.2 hba⟩) (fun hNew => ?_)
                      clear hK K hHeld
                      have hHeld := hNew
                      clear hNew
                      try simp only [Act.put, List.setIfInBounds_toArray, List.set_cons_zero, List.set_cons_succ]
                      clear hwa hba
                      first | refine tkA 12 ?_ | refine skA 12 ?_
                      simp only [Act.put, List.setIfInBounds_toArray, List.set_cons_zero, List.set_cons_succ]
                      refine held_one 13 (by kernel_rfl) rfl (fun K hK => ?_)
                      go_simp
                      generalize hwa : World.alloc wa_3 _ = wa_4
                      have hba : Below wa_3.heap.size wa_3 wa_4 := by rw [← hwa]; exact (Below.refl _ _).alloc (Nat.le_refl _) _
                      have HR6 := Lib.hid (HR6.out.below hba)
                      have HI := Lib.hid (below_keep hba HI.out)
                      have HD := Lib.hid (show wa_4.heap[wa_3.heap.size]? = some (.cells #[.string f.attrs[k].name, .int .i64 f.attrs[k].val.kind, .int .i64 f.attrs[k].val.int, .string f.attrs[k].val.str, .slice (some ⟨w6_2.heap.size, 0, none⟩) 1 1] 107 (0, 0)) by rw [← hwa]; exact hp_new rfl)
                      refine hK.out _ _ (by (try dsimp only); exact ⟨keep_cell hba hHeld.1, keep_cell hba hHeld.2.1, keep_cell hba hHeld.2.2.1, keep_cell hba hHeld.2.2.2.1, keep_cell hba hHeld.2.2.2.2.1, ex_trans hHeld.2.2.2.2.2 hba⟩) (fun hNew => ?_)
                      clear hK K hHeld
                      have hHeld := hNew
                      clear hNew
                      try simp only [Act.put, List.setIfInBounds_toArray, List.set_cons_zero, List.set_cons_succ]
                      clear hwa hba
                      refine held_one 14 (by kernel_rfl) rfl (fun K hK => ?_)
                      refine step_append_row rfl (.tmp 87) (.tmp 96) _ rfl encPh Try.underlying55 hi hi0 hi1 hi2 rfl rfl rfl HR6.out (src_ph (⟨f.attrs[k].name, f.attrs[k].val, some ⟨w6_2.heap.size, 0, none⟩, 1, 1⟩ : Ph) (blk_cell? HD.out 0) (blk_cell? HD.out 1) (blk_cell? HD.out 2) (blk_cell? HD.out 3) (blk_cell? HD.out 4)) (by unfold maxLen; omega) (by omega) hHeld.2.2.2.2.2.size ?_; intro A8 c8 w8 hr8 hc8 hx8
                      have HI8 := Lib.hid (hc8.keepb HI.out (HR6.out.apart HI.out (by decide)))
                      have HR8 := Lib.hid hr8
                      refine hK.out _ _ (by (try dsimp only); exact ⟨hc8.cell hHeld.1 (fun h => by have h1 := (HR6.out.base _ h).1; simp only at h1; omega), hc8.cell hHeld.2.1 (fun h => by have h1 := (HR6.out.base _ h).1; simp only at h1; omega), hc8.cell hHeld.2.2.1 (fun h => by have h1 := (HR6.out.base _ h).1; simp only at h1; omega), hc8.cell hHeld.2.2.2.1 (fun h => by have h1 := (HR6.out.base _ h).1; simp only at h1; omega), hc8.cell hHeld.2.2.2.2.1 (fun h => by have h1 := (HR6.out.base _ h).1; simp only at h1; omega), Below.mark hHeld.2.2.2.2.2 hc8 hHeld.2.2.2.2.2.size (fun b hb => (HR6.out.base b hb).1)⟩) (fun hNew => ?_)
                      clear hK K hHeld
                      have hHeld := hNew
                      clear hNew
                      try simp only [Act.put, List.setIfInBounds_toArray, List.set_cons_zero, List.set_cons_succ]
                      clear hr8 hc8 hx8
                      first | refine tkA 15 ?_ | refine skA 15 ?_
                      simp only [Act.put, List.setIfInBounds_toArray, List.set_cons_zero, List.set_cons_succ]
                      refine wpAnyH_done (by kernel_rfl) ?_ _
                      go_wp2_with fail
                      go_meet
                      exact ⟨A8, c8, w6_2.heap.size, rfl, HR8.out, FRow.one f.id HGI.out HI8.out, hHeld.2.2.2.2.2⟩
                    · go_simp
                      generalize hwa : World.alloc wa_1 _ = wa_5
                      have hba : Below wa_1.heap.size wa_1 wa_5 := by rw [← hwa]; exact (Below.refl _ _).alloc (Nat.le_refl _) _
                      have HI := Lib.hid (show wa_5.heap[wa_1.heap.size]? = some (.cells #[.int .i64 f.id] 3 (0, 0)) by rw [← hwa]; exact hp_new rfl)
                      have HGI := Lib.hid (show W5.heap.size ≤ wa_1.heap.size from hHeld.2.2.2.2.2.size)
                      refine hK.out _ _ (by (try dsimp only); exact ⟨keep_cell hba hHeld.1, keep_cell hba hHeld.2.1, keep_cell hba hHeld.2.2.1, keep_cell hba hHeld.2.2.2.1, keep_cell hba hHeld.2.2.2.2.1, ex_trans hHeld.2.2.2.2.2 hba⟩) (fun hNew => ?_)
                      clear hK K hHeld
                      have hHeld := hNew
                      clear hNew
                      try simp only [Act.put, List.setIfInBounds_toArray, List.set_cons_zero, List.set_cons_succ]
                      clear hwa hba
                      first | refine tkA 12 ?_ | refine skA 12 ?_
                      simp only [Act.put, List.setIfInBounds_toArray, List.set_cons_zero, List.set_cons_succ]
                      refine held_two 4 13 (by kernel_rfl) rfl rfl (fun K hK => ?_) (fun K hK => ?_)
                      · refine step_append_row rfl (.tmp 83) (.tmp 86) _ rfl encPh Try.underlying55 hi hi0 hi1 hi2 rfl rfl rfl (FRow.any0 _ _ _ _ W5.heap.size _) (((Src.of_row encPh HL5.out.1).below hHeld.2.2.2.2.2).take encPh (k := q) (by omega)) (by unfold maxLen; omega) (by omega) hHeld.2.2.2.2.2.size ?_; intro A6 c6 w6_6 hr6 hc6 hx6
                        have hb6 : Below wa_5.heap.size wa_5 w6_6 := (show Chg [] wa_5 w6_6 from hc6.mono (by simp [rowBs_zero])).blow
                        have HI := Lib.hid (below_keep hb6 HI.out)
                        have HR6 := Lib.hid (show FRow 107 5 ePh w6_6 W5.heap.size A6 q c6 ((L.map (·.1)).take q) by simpa using hr6)
                        refine hK.out _ _ (by (try dsimp only); exact ⟨keep_cell hb6 hHeld.1, keep_cell hb6 hHeld.2.1, keep_cell hb6 hHeld.2.2.1, keep_cell hb6 hHeld.2.2.2.1, keep_cell hb6 hHeld.2.2.2.2.1, ex_trans hHeld.2.2.2.2.2 hb6⟩) (fun hNew => ?_)
                        clear hK K hHeld
                        have hHeld := hNew
                        clear hNew
                        try simp only [Act.put, List.setIfInBounds_toArray, List.set_cons_zero, List.set_cons_succ]
                        clear hr6 hc6 hx6 hb6
                        try simp only [Nat.zero_add]
                        refine held_one 13 (by kernel_rfl) rfl (fun K hK => ?_)
                        go_simp
                        generalize hwa : World.alloc w6_6 _ = wa_7
                        have hba : Below w6_6.heap.size w6_6 wa_7 := by rw [← hwa]; exact (Below.refl _ _).alloc (Nat.le_refl _) _
                        have HR6 := Lib.hid (HR6.out.below hba)
                        have HI := Lib.hid (below_keep hba HI.out)
                        have HD := Lib.hid (show wa_7.heap[w6_6.heap.size]? = some (.cells #[.string f.attrs[k].name, .int .i64 f.attrs[k].val.kind, .int .i64 f.attrs[k].val.int, .string f.attrs[k].val.str, .slice (some ⟨wa_1.heap.size, 0, none⟩) 1 1] 107 (0, 0)) by rw [← hwa]; exact hp_new rfl)
                        refine hK.out _ _ (by (try dsimp only); exact ⟨keep_cell hba hHeld.1, keep_cell hba hHeld.2.1, keep_cell hba hHeld.2.2.1, keep_cell hba hHeld.2.2.2.1, keep_cell hba hHeld.2.2.2.2.1, ex_trans hHeld.2.2.2.2.2 hba⟩) (fun hNew => ?_)
                        clear hK K hHeld
                        have hHeld := hNew
                        clear hNew
                        try simp only [Act.put, List.setIfInBounds_toArray, List.set_cons_zero, List.set_cons_succ]
                        clear hwa hba
                        refine held_one 14 (by kernel_rfl) rfl (fun K hK => ?_)
                        refine step_append_row rfl (.tmp 87) (.tmp 96) _ rfl encPh Try.underlying55 hi hi0 hi1 hi2 rfl rfl rfl HR6.out (src_ph (⟨f.attrs[k].name, f.attrs[k].val, some ⟨wa_1.heap.size, 0, none⟩, 1, 1⟩ : Ph) (blk_cell? HD.out 0) (blk_cell? HD.out 1) (blk_cell? HD.out 2) (blk_cell? HD.out 3) (blk_cell? HD.out 4)) (by unfold maxLen; omega) (by omega) hHeld.2.2.2.2.2.size ?_; intro A8 c8 w8 hr8 hc8 hx8
                        have HI8 := Lib.hid (hc8.keepb HI.out (HR6.out.apart HI.out (by decide)))
                        have HR8 := Lib.hid hr8
                        refine hK.out _ _ (by (try dsimp only); exact ⟨hc8.cell hHeld.1 (fun h => by have h1 := (HR6.out.base _ h).1; simp only at h1; omega), hc8.cell hHeld.2.1 (fun h => by have h1 := (HR6.out.base _ h).1; simp only at h1; omega), hc8.cell hHeld.2.2.1 (fun h => by have h1 := (HR6.out.base _ h).1; simp only at h1; omega), hc8.cell hHeld.2.2.2.1 (fun h => by have h1 := (HR6.out.base _ h).1; simp only at h1; omega), hc8.cell hHeld.2.2.2.2.1 (fun h => by have h1 := (HR6.out.base _ h).1; simp only at h1; omega), Below.mark hHeld.2.2.2.2.2 hc8 hHeld.2.2.2.2.2.size (fun b hb => (HR6.out.base b hb).1)⟩) (fun hNew => ?_)
                        clear hK K hHeld
                        have hHeld := hNew
                        clear hNew
                        try simp only [Act.put, List.setIfInBounds_toArray, List.set_cons_zero, List.set_cons_succ]
                        clear hr8 hc8 hx8
                        first | refine tkA 15 ?_ | refine skA 15 ?_
                        simp only [Act.put, List.setIfInBounds_toArray, List.set_cons_zero, List.set_cons_succ]
                        refine wpAnyH_done (by kernel_rfl) ?_ _
                        go_wp2_with fail
                        go_meet
                        exact ⟨A8, c8, wa_1.heap.size, rfl, HR8.out, FRow.one f.id HGI.out HI8.out, hHeld.2.2.2.2.2⟩
                      · go_simp
                        generalize hwa : World.alloc wa_5 _ = wa_8
                        have hba : Below wa_5.heap.size wa_5 wa_8 := by rw [← hwa]; exact (Below.refl _ _).alloc (Nat.le_refl _) _
                        have HI := Lib.hid (below_keep hba HI.out)
                        have HD := Lib.hid (show wa_8.heap[wa_5.heap.size]? = some (.cells #[.string f.attrs[k].name, .int .i64 f.attrs[k].val.kind, .int .i64 f.attrs[k].val.int, .string f.attrs[k].val.str, .slice (some ⟨wa_1.heap.size, 0, none⟩) 1 1] 107 (0, 0)) by rw [← hwa]; exact hp_new rfl)
                        refine hK.out _ _ (by (try dsimp only); exact ⟨keep_cell hba hHeld.1, keep_cell hba hHeld.2.1, keep_cell hba hHeld.2.2.1, keep_cell hba hHeld.2.2.2.1, keep_cell hba hHeld.2.2.2.2.1, ex_trans hHeld.2.2.2.2.2 hba⟩) (fun hNew => ?_)
                        clear hK K hHeld
                        have hHeld := hNew
                        clear hNew
                        try simp only [Act.put, List.setIfInBounds_toArray, List.set_cons_zero, List.set_cons_succ]
                        clear hwa hba
                        refine held_one 4 (by kernel_rfl) rfl (fun K hK => ?_)
                        refine step_append_row rfl (.tmp 83) (.tmp 86) _ rfl encPh Try.underlying55 hi hi0 hi1 hi2 rfl rfl rfl (FRow.any0 _ _ _ _ W5.heap.size _) (((Src.of_row encPh HL5.out.1).below hHeld.2.2.2.2.2).take encPh (k := q) (by omega)) (by unfold maxLen; omega) (by omega) hHeld.2.2.2.2.2.size ?_; intro A6 c6 w6_9 hr6 hc6 hx6
                        have hb6 : Below wa_8.heap.size wa_8 w6_9 := (show Chg [] wa_8 w6_9 from hc6.mono (by simp [rowBs_zero])).blow
                        have HI := Lib.hid (below_keep hb6 HI.out)
                        have HD := Lib.hid (below_keep hb6 HD.out)
                        have HR6 := Lib.hid (show FRow 107 5 ePh w6_9 W5.heap.size A6 q c6 ((L.map (·.1)).take q) by simpa using hr6)
                        refine hK.out _ _ (by (try dsimp only); exact ⟨keep_cell hb6 hHeld.1, keep_cell hb6 hHeld.2.1, keep_cell hb6 hHeld.2.2.1, keep_cell hb6 hHeld.2.2.2.1, keep_cell hb6 hHeld.2.2.2.2.1, ex_trans hHeld.2.2.2.2.2 hb6⟩) (fun hNew => ?_)
                        clear hK K hHeld
                        have hHeld := hNew
                        clear hNew
                        try simp only [Act.put, List.setIfInBounds_toArray, List.set_cons_zero, List.set_cons_succ]
                        clear hr6 hc6 hx6 hb6
                        try simp only [Nat.zero_add]
                        refine held_one 14 (by kernel_rfl) rfl (fun K hK => ?_)
                        refine step_append_row rfl (.tmp 87) (.tmp 96) _ rfl encPh Try.underlying55 hi hi0 hi1 hi2 rfl rfl rfl HR6.out (src_ph (⟨f.attrs[k].name, f.attrs[k].val, some ⟨wa_1.heap.size, 0, none⟩, 1, 1⟩ : Ph) (blk_cell? HD.out 0) (blk_cell? HD.out 1) (blk_cell? HD.out 2) (blk_cell? HD.out 3) (blk_cell? HD.out 4)) (by unfold maxLen; omega) (by omega) hHeld.2.2.2.2.2.size ?_; intro A8 c8 w8 hr8 hc8 hx8
                        have HI8 := Lib.hid (hc8.keepb HI.out (HR6.out.apart HI.out (by decide)))
                        have HR8 := Lib.hid hr8
                        refine hK.out _ _ (by (try dsimp only); exact ⟨hc8.cell hHeld.1 (fun h => by have h1 := (HR6.out.base _ h).1; simp only at h1; omega), hc8.cell hHeld.2.1 (fun h => by have h1 := (HR6.out.base _ h).1; simp only at h1; omega), hc8.cell hHeld.2.2.1 (fun h => by have h1 := (HR6.out.base _ h).1; simp only at h1; omega), hc8.cell hHeld.2.2.2.1 (fun h => by have h1 := (HR6.out.base _ h).1; simp only at h1; omega), hc8.cell hHeld.2.2.2.2.1 (fun h => by have h1 := (HR6.out.base _ h).1; simp only at h1; omega), Below.mark hHeld.2.2.2.2.2 hc8 hHeld.2.2.2.2.2.size (fun b hb => (HR6.out.base b hb).1)⟩) (fun hNew => ?_)
                        clear hK K hHeld
                        have hHeld := hNew
                        clear hNew
                        try simp only [Act.put, List.setIfInBounds_toArray, List.set_cons_zero, List.set_cons_succ]
                        clear hr8 hc8 hx8
                        first | refine tkA 15 ?_ | refine skA 15 ?_
                        simp only [Act.put, List.setIfInBounds_toArray, List.set_cons_zero, List.set_cons_succ]
                        refine wpAnyH_done (by kernel_rfl) ?_ _
                        go_wp2_with fail
                        go_meet
                        exact ⟨A8, c8, wa_1.heap.size, rfl, HR8.out, FRow.one f.id HGI.out HI8.out, hHeld.2.2.2.2.2⟩
                  · go_simp
                    generalize hwa : World.alloc Wd _ = wa_10
                    have hba : Below Wd.heap.size Wd wa_10 := by rw [← hwa]; exact (Below.refl _ _).alloc (Nat.le_refl _) _
                    have HI := Lib.hid (show wa_10.heap[Wd.heap.size]? = some (.cells #[.int .i64 f.id] 3 (0, 0)) by rw [← hwa]; exact hp_new rfl)
                    have HGI := Lib.hid (show W5.heap.size ≤ Wd.heap.size from hHeld.2.2.2.2.2.size)
                    refine hK.out _ _ (by (try dsimp only); exact ⟨keep_cell hba hHeld.1, keep_cell hba hHeld.2.1, keep_cell hba hHeld.2.2.1, keep_cell hba hHeld.2.2.2.1, keep_cell hba hHeld.2.2.2.2.1, ex_trans hHeld.2.2.2.2.2 hba⟩) (fun hNew => ?_)
                    clear hK K hHeld
                    have hHeld := hNew
                    clear hNew
                    try simp only [Act.put, List.setIfInBounds_toArray, List.set_cons_zero, List.set_cons_succ]
                    clear hwa hba
                    first | refine tkA 12 ?_ | refine skA 12 ?_
                    simp only [Act.put, List.setIfInBounds_toArray, List.set_cons_zero, List.set_cons_succ]
                    refine held_two 0 13 (by kernel_rfl) rfl rfl (fun K hK => ?_) (fun K hK => ?_)
                    · go_simp
                      generalize hwa : World.alloc wa_10 _ = wa_11
                      have hba : Below wa_10.heap.size wa_10 wa_11 := by rw [← hwa]; exact (Below.refl _ _).alloc (Nat.le_refl _) _
                      have HI := Lib.hid (below_keep hba HI.out)
                      refine hK.out _ _ (by (try dsimp only); exact ⟨keep_cell hba hHeld.1, keep_cell hba hHeld.2.1, keep_cell hba hHeld.2.2.1, keep_cell hba hHeld.2.2.2.1, keep_cell hba hHeld.2.2.2.2.1, ex_trans hHeld.2.2.2.2.2 hba⟩) (fun hNew => ?_)
                      clear hK K hHeld
                      have hHeld := hNew
                      clear hNew
                      try simp only [Act.put, List.setIfInBounds_toArray, List.set_cons_zero, List.set_cons_succ]
                      clear hwa hba
                      refine held_two 4 13 (by kernel_rfl) rfl rfl (fun K hK => ?_) (fun K hK => ?_)
                      · refine step_append_row rfl (.tmp 83) (.tmp 86) _ rfl encPh Try.underlying55 hi hi0 hi1 hi2 rfl rfl rfl (FRow.any0 _ _ _ _ W5.heap.size _) (((Src.of_row encPh HL5.out.1).below hHeld.2.2.2.2.2).take encPh (k := q) (by omega)) (by unfold maxLen; omega) (by omega) hHeld.2.2.2.2.2.size ?_; intro A6 c6 w6_12 hr6 hc6 hx6
                        have hb6 : Below wa_11.heap.size wa_11 w6_12 := (show Chg [] wa_11 w6_12 from hc6.mono (by simp [rowBs_zero])).blow
                        have HI := Lib.hid (below_keep hb6 HI.out)
                        have HR6 := Lib.hid (show FRow 107 5 ePh w6_12 W5.heap.size A6 q c6 ((L.map (·.1)).take q) by simpa using hr6)
                        refine hK.out _ _ (by (try dsimp only); exact ⟨keep_cell hb6 hHeld.1, keep_cell hb6 hHeld.2.1, keep_cell hb6 hHeld.2.2.1, keep_cell hb6 hHeld.2.2.2.1, keep_cell hb6 hHeld.2.2.2.2.1, ex_trans hHeld.2.2.2.2.2 hb6⟩) (fun hNew => ?_)
                        clear hK K hHeld
                        have hHeld := hNew
                        clear hNew
                        try simp only [Act.put, List.setIfInBounds_toArray, List.set_cons_zero, List.set_cons_succ]
                        clear hr6 hc6 hx6 hb6
                        try simp only [Nat.zero_add]
                        refine held_one 13 (by kernel_rfl) rfl (fun K hK => ?_)
                        go_simp
                        generalize hwa : World.alloc w6_12 _ = wa_13
                        have hba : Below w6_12.heap.size w6_12 wa_13 := by rw [← hwa]; exact (Below.refl _ _).alloc (Nat.le_refl _) _
                        have HR6 := Lib.hid (HR6.out.below hba)
                        have HI := Lib.hid (below_keep hba HI.out)
                        have HD := Lib.hid (show wa_13.heap[w6_12.heap.size]? = some (.cells #[.string f.attrs[k].name, .int .i64 f.attrs[k].val.kind, .int .i64 f.attrs[k].val.int, .string f.attrs[k].val.str, .slice (some ⟨Wd.heap.size, 0, none⟩) 1 1] 107 (0, 0)) by rw [← hwa]; exact hp_new rfl)
                        refine hK.out _ _ (by (try dsimp only); exact ⟨keep_cell hba hHeld.1, keep_cell hba hHeld.2.1, keep_cell hba hHeld.2.2.1, keep_cell hba hHeld.2.2.2.1, keep_cell hba hHeld.2.2.2.2.1, ex_trans hHeld.2.2.2.2.2 hba⟩) (fun hNew => ?_)
                        clear hK K hHeld
                        have hHeld := hNew
                        clear hNew
                        try simp only [Act.put, List.setIfInBounds_toArray, List.set_cons_zero, List.set_cons_succ]
                        clear hwa hba
                        refine held_one 14 (by kernel_rfl) rfl (fun K hK => ?_)
                        refine step_append_row rfl (.tmp 87) (.tmp 96) _ rfl encPh Try.underlying55 hi hi0 hi1 hi2 rfl rfl rfl HR6.out (src_ph (⟨f.attrs[k].name, f.attrs[k].val, some ⟨Wd.heap.size, 0, none⟩, 1, 1⟩ : Ph) (blk_cell? HD.out 0) (blk_cell? HD.out 1) (blk_cell? HD.out 2) (blk_cell? HD.out 3) (blk_cell? HD.out 4)) (by unfold maxLen; omega) (by omega) hHeld.2.2.2.2.2.size ?_; intro A8 c8 w8 hr8 hc8 hx8
                        have HI8 := Lib.hid (hc8.keepb HI.out (HR6.out.apart HI.out (by decide)))
                        have HR8 := Lib.hid hr8
                        refine hK.out _ _ (by (try dsimp only); exact ⟨hc8.cell hHeld.1 (fun h => by have h1 := (HR6.out.base _ h).1; simp only at h1; omega), hc8.cell hHeld.2.1 (fun h => by have h1 := (HR6.out.base _ h).1; simp only at h1; omega), hc8.cell hHeld.2.2.1 (fun h => by have h1 := (HR6.out.base _ h).1; simp only at h1; omega), hc8.cell hHeld.2.2.2.1 (fun h => by have h1 := (HR6.out.base _ h).1; simp only at h1; omega), hc8.cell hHeld.2.2.2.2.1 (fun h => by have h1 := (HR6.out.base _ h).1; simp only at h1; omega), Below.mark hHeld.2.2.2.2.2 hc8 hHeld.2.2.2.2.2.size (fun b hb => (HR6.out.base b hb).1)⟩) (fun hNew => ?_)
                        clear hK K hHeld
                        have hHeld := hNew
                        clear hNew
                        try simp only [Act.put, List.setIfInBounds_toArray, List.set_cons_zero, List.set_cons_succ]
                        clear hr8 hc8 hx8
                        first | refine tkA 15 ?_ | refine skA 15 ?_
                        simp only [Act.put, List.setIfInBounds_toArray, List.set_cons_zero, List.set_cons_succ]
                        refine wpAnyH_done (by kernel_rfl) ?_ _
                        go_wp2_with fail
                        go_meet
                        exact ⟨A8, c8, Wd.heap.size, rfl, HR8.out, FRow.one f.id HGI.out HI8.out, hHeld.2.2.2.2.2⟩
                      · go_simp
                        generalize hwa : World.alloc wa_11 _ = wa_14
                        have hba : Below wa_11.heap.size wa_11 wa_14 := by rw [← hwa]; exact (Below.refl _ _).alloc (Nat.le_refl _) _
                        have HI := Lib.hid (below_keep hba HI.out)
                        have HD := Lib.hid (show wa_14.heap[wa_11.heap.size]? = some (.cells #[.string f.attrs[k].name, .int .i64 f.attrs[k].val.kind, .int .i64 f.attrs[k].val.int, .string f.attrs[k].val.str, .slice (some ⟨Wd.heap.size, 0, none⟩) 1 1] 107 (0, 0)) by rw [← hwa]; exact hp_new rfl)
                        refine hK.out _ _ (by (try dsimp only); exact ⟨keep_cell hba hHeld.1, keep_cell hba hHeld.2.1, keep_cell hba hHeld.2.2.1, keep_cell hba hHeld.2.2.2.1, keep_cell hba hHeld.2.2.2.2.1, ex_trans hHeld.2.2.2.2.2 hba⟩) (fun hNew => ?_)
                        clear hK K hHeld
                        have hHeld := hNew
                        clear hNew
                        try simp only [Act.put, List.setIfInBounds_toArray, List.set_cons_zero, List.set_cons_succ]
                        clear hwa hba
                        refine held_one 4 (by kernel_rfl) rfl (fun K hK => ?_)
                        refine step_append_row rfl (.tmp 83) (.tmp 86) _ rfl encPh Try.underlying55 hi hi0 hi1 hi2 rfl rfl rfl (FRow.any0 _ _ _ _ W5.heap.size _) (((Src.of_row encPh HL5.out.1).below hHeld.2.2.2.2.2).take encPh (k := q) (by omega)) (by unfold maxLen; omega) (by omega) hHeld.2.2.2.2.2.size ?_; intro A6 c6 w6_15 hr6 hc6 hx6
                        have hb6 : Below wa_14.heap.size wa_14 w6_15 := (show Chg [] wa_14 w6_15 from hc6.mono (by simp [rowBs_zero])).blow
                        have HI := Lib.hid (below_keep hb6 HI.out)
                        have HD := Lib.hid (below_keep hb6 HD.out)
                        have HR6 := Lib.hid (show FRow 107 5 ePh w6_15 W5.heap.size A6 q c6 ((L.map (·.1)).take q) by simpa using hr6)
                        refine hK.out _ _ (by (try dsimp only); exact ⟨keep_cell hb6 hHeld.1, keep_cell hb6 hHeld.2.1, keep_cell hb6 hHeld.2.2.1, keep_cell hb6 hHeld.2.2.2.1, keep_cell hb6 hHeld.2.2.2.2.1, ex_trans hHeld.2.2.2.2.2 hb6⟩) (fun hNew => ?_)
                        clear hK K hHeld
                        have hHeld := hNew
                        clear hNew
                        try simp only [Act.put, List.setIfInBounds_toArray, List.set_cons_zero, List.set_cons_succ]
                        clear hr6 hc6 hx6 hb6
                        try simp only [Nat.zero_add]
                        refine held_one 14 (by kernel_rfl) rfl (fun K hK => ?_)
                        refine step_append_row rfl (.tmp 87) (.tmp 96) _ rfl encPh Try.underlying55 hi hi0 hi1 hi2 rfl rfl rfl HR6.out (src_ph (⟨f.attrs[k].name, f.attrs[k].val, some ⟨Wd.heap.size, 0, none⟩, 1, 1⟩ : Ph) (blk_cell? HD.out 0) (blk_cell? HD.out 1) (blk_cell? HD.out 2) (blk_cell? HD.out 3) (blk_cell? HD.out 4)) (by unfold maxLen; omega) (by omega) hHeld.2.2.2.2.2.size ?_; intro A8 c8 w8 hr8 hc8 hx8
                        have HI8 := Lib.hid (hc8.keepb HI.out (HR6.out.apart HI.out (by decide)))
                        have HR8 := Lib.hid hr8
                        refine hK.out _ _ (by (try dsimp only); exact ⟨hc8.cell hHeld.1 (fun h => by have h1 := (HR6.out.base _ h).1; simp only at h1; omega), hc8.cell hHeld.2.1 (fun h => by have h1 := (HR6.out.base _ h).1; simp only at h1; omega), hc8.cell hHeld.2.2.1 (fun h => by have h1 := (HR6.out.base _ h).1; simp only at h1; omega), hc8.cell hHeld.2.2.2.1 (fun h => by have h1 := (HR6.out.base _ h).1; simp only at h1; omega), hc8.cell hHeld.2.2.2.2.1 (fun h => by have h1 := (HR6.out.base _ h).1; simp only at h1; omega), Below.mark hHeld.2.2.2.2.2 hc8 hHeld.2.2.2.2.2.size (fun b hb => (HR6.out.base b hb).1)⟩) (fun hNew => ?_)
                        clear hK K hHeld
                        have hHeld := hNew
                        clear hNew
                        try simp only [Act.put, List.setIfInBounds_toArray, List.set_cons_zero, List.set_cons_succ]
                        clear hr8 hc8 hx8
                        first | refine tkA 15 ?_ | refine skA 15 ?_
                        simp only [Act.put, List.setIfInBounds_toArray, List.set_cons_zero, List.set_cons_succ]
                        refine wpAnyH_done (by kernel_rfl) ?_ _
                        go_wp2_with fail
                        go_meet
                        exact ⟨A8, c8, Wd.heap.size, rfl, HR8.out, FRow.one f.id HGI.out HI8.out, hHeld.2.2.2.2.2⟩
                    · go_simp
                      generalize hwa : World.alloc wa_10 _ = wa_16
                      have hba : Below wa_10.heap.size wa_10 wa_16 := by rw [← hwa]; exact (Below.refl _ _).alloc (Nat.le_refl _) _
                      have HI := Lib.hid (below_keep hba HI.out)
                      have HD := Lib.hid (show wa_16.heap[wa_10.heap.size]? = some (.cells #[.string f.attrs[k].name, .int .i64 f.attrs[k].val.kind, .int .i64 f.attrs[k].val.int, .string f.attrs[k].val.str, .slice (some ⟨Wd.heap.size, 0, none⟩) 1 1] 107 (0, 0)) by rw [← hwa]; exact hp_new rfl)
                      refine hK.out _ _ (by (try dsimp only); exact ⟨keep_cell hba hHeld.1, keep_cell hba hHeld.2.1, keep_cell hba hHeld.2.2.1, keep_cell hba hHeld.2.2.2.1, keep_cell hba hHeld.2.2.2.2.1, ex_trans hHeld.2.2.2.2.2 hba⟩) (fun hNew => ?_)
                      clear hK K hHeld
                      have hHeld := hNew
                      clear hNew
                      try simp only [Act.put, List.setIfInBounds_toArray, List.set_cons_zero, List.set_cons_succ]
                      clear hwa hba
                      refine held_one 0 (by kernel_rfl) rfl (fun K hK => ?_)
                      go_simp
                      generalize hwa : World.alloc wa_16 _ = wa_17
                      have hba : Below wa_16.heap.size wa_16 wa_17 := by rw [← hwa]; exact (Below.refl _ _).alloc (Nat.le_refl _) _
                      have HI := Lib.hid (below_keep hba HI.out)
                      have HD := Lib.hid (below_keep hba HD.out)
                      refine hK.out _ _ (by (try dsimp only); exact ⟨keep_cell hba hHeld.1, keep_cell hba hHeld.2.1, keep_cell hba hHeld.2.2.1, keep_cell hba hHeld.2.2.2.1, keep_cell hba hHeld.2.2.2.2.1, ex_trans hHeld.2.2.2.2.2 hba⟩) (fun hNew => ?_)
                      clear hK K hHeld
                      have hHeld := hNew
                      clear hNew
                      try simp only [Act.put, List.setIfInBounds_toArray, List.set_cons_zero, List.set_cons_succ]
                      clear hwa hba
                      refine held_one 4 (by kernel_rfl) rfl (fun K hK => ?_)
                      refine step_append_row rfl (.tmp 83) (.tmp 86) _ rfl encPh Try.underlying55 hi hi0 hi1 hi2 rfl rfl rfl (FRow.any0 _ _ _ _ W5.heap.size _) (((Src.of_row encPh HL5.out.1).below hHeld.2.2.2.2.2).take encPh (k := q) (by omega)) (by unfold maxLen; omega) (by omega) hHeld.2.2.2.2.2.size ?_; intro A6 c6 w6_18 hr6 hc6 hx6
                      have hb6 : Below wa_17.heap.size wa_17 w6_18 := (show Chg [] wa_17 w6_18 from hc6.mono (by simp [rowBs_zero])).blow
                      have HI := Lib.hid (below_keep hb6 HI.out)
                      have HD := Lib.hid (below_keep hb6 HD.out)
                      have HR6 := Lib.hid (show FRow 107 5 ePh w6_18 W5.heap.size A6 q c6 ((L.map (·.1)).take q) by simpa using hr6)
                      refine hK.out _ _ (by (try dsimp only); exact ⟨keep_cell hb6 hHeld.1, keep_cell hb6 hHeld.2.1, keep_cell hb6 hHeld.2.2.1, keep_cell hb6 hHeld.2.2.2.1, keep_cell hb6 hHeld.2.2.2.2.1, ex_trans hHeld.2.2.2.2.2 hb6⟩) (fun hNew => ?_)
                      clear hK K hHeld
                      have hHeld := hNew
                      clear hNew
                      try simp only [Act.put, List.setIfInBounds_toArray, List.set_cons_zero, List.set_cons_succ]
                      clear hr6 hc6 hx6 hb6
                      try simp only [Nat.zero_add]
                      refine held_one 14 (by kernel_rfl) rfl (fun K hK => ?_)
                      refine step_append_row rfl (.tmp 87) (.tmp 96) _ rfl encPh Try.underlying55 hi hi0 hi1 hi2 rfl rfl rfl HR6.out (src_ph (⟨f.attrs[k].name, f.attrs[k].val, some ⟨Wd.heap.size, 0, none⟩, 1, 1⟩ : Ph) (blk_cell? HD.out 0) (blk_cell? HD.out 1) (blk_cell? HD.out 2) (blk_cell? HD.out 3) (blk_cell? HD.out 4)) (by unfold maxLen; omega) (by omega) hHeld.2.2.2.2.2.size ?_; intro A8 c8 w8 hr8 hc8 hx8
                      have HI8 := Lib.hid (hc8.keepb HI.out (HR6.out.apart HI.out (by decide)))
                      have HR8 := Lib.hid hr8
                      refine hK.out _ _ (by (try dsimp only); exact ⟨hc8.cell hHeld.1 (fun h => by have h1 := (HR6.out.base _ h).1; simp only at h1; omega), hc8.cell hHeld.2.1 (fun h => by have h1 := (HR6.out.base _ h).1; simp only at h1; omega), hc8.cell hHeld.2.2.1 (fun h => by have h1 := (HR6.out.base _ h).1; simp only at h1; omega), hc8.cell hHeld.2.2.2.1 (fun h => by have h1 := (HR6.out.base _ h).1; simp only at h1; omega), hc8.cell hHeld.2.2.2.2.1 (fun h => by have h1 := (HR6.out.base _ h).1; simp only at h1; omega), Below.mark hHeld.2.2.2.2.2 hc8 hHeld.2.2.2.2.2.size (fun b hb => (HR6.out.base b hb).1)⟩) (fun hNew => ?_)
                      clear hK K hHeld
                      have hHeld := hNew
                      clear hNew
                      try simp only [Act.put, List.setIfInBounds_toArray, List.set_cons_zero, List.set_cons_succ]
                      clear hr8 hc8 hx8
                      first | refine tkA 15 ?_ | refine skA 15 ?_
                      simp only [Act.put, List.setIfInBounds_toArray, List.set_cons_zero, List.set_cons_succ]
                      refine wpAnyH_done (by kernel_rfl) ?_ _
                      go_wp2_with fail
                      go_meet
                      exact ⟨A8, c8, Wd.heap.size, rfl, HR8.out, FRow.one f.id HGI.out HI8.out, hHeld.2.2.2.2.2⟩
                case rest =>
                  generalize wc = W8 at *
                  obtain ⟨A8, c8, gI, rfl, hr8, hi8, hb8⟩ := hcut
                  have HR8 := Lib.hid hr8
                  have HI8 := Lib.hid hi8
                  have HB8 := Lib.hid hb8
                  have hz8 := hb8.size
                  clear hr8 hi8 hb8 a0 a1 a2 a3 f0
                  go_wp2_with (at_builtin; refine wpList_append_row rfl (.tmp 98) (.tmp 101) _ rfl encPh Try.underlying55 hi hi0 hi1 hi2 rfl rfl rfl HR8.out (by have hh := Src.drop2 encPh ((Src.of_row encPh HL5.out.1).below HB8.out) (k := q) (by omega); rw [Nat.zero_add] at hh; exact hh) (by unfold maxLen; omega) (by omega) (by omega) ?_; intro A9 c9 w9 hr9 hc9 hx9; have hB9 : Below W5.heap.size W5 w9 := (Below.mark (B := W5.heap.size) (w := W5) HB8.out hc9 HB8.out.size (fun b hb => (HR8.out.base b hb).1)); have HZ := Lib.hid (And.intro hr9 (And.intro hc9 hB9)); clear hr9 hc9 hx9)
                  all_goals
                    have hins : (insL L (⟨f.attrs[k].name, f.attrs[k].val, some ⟨gI, 0, none⟩, 1, 1⟩, [f.id]) q).map (·.1) = (L.map (·.1)).take q ++ [⟨f.attrs[k].name, f.attrs[k].val, some ⟨gI, 0, none⟩, 1, 1⟩] ++ (L.map (·.1)).drop q := by rw [insL_map]; simp [insL]
                    have hri : FRow 3 1 eInt w9 W5.heap.size (some ⟨gI, 0, none⟩) 1 1 [f.id] := HI8.out.chg HZ.out.2.1 (fun b hb hm => by
                      obtain ⟨g9, -, -, -, hr9', cur, hcur, -⟩ := HI8.out.row (by omega)
                      rw [hr9'] at hb
                      obtain rfl : b = g9 := by simpa using hb
                      exact HR8.out.apart hcur (by decide) hm)
                    have HN9 := Lib.hid (NRow.fresh_ins (K := (KPst 107 3)) (k := q) (x := (⟨f.attrs[k].name, f.attrs[k].val, some ⟨gI, 0, none⟩, 1, 1⟩, [f.id])) (n' := m.length + 1) (A' := A9) (c' := c9) HL5.out HZ.out.2.2 (by omega) (by rw [hins]; have h9 := HZ.out.1; rw [show q + 1 + (m.length - q) = m.length + 1 by omega] at h9; exact h9) hri (by decide))
                    have HMU := Lib.hid (show addA f.id m f.attrs[k] = (insL L (⟨f.attrs[k].name, f.attrs[k].val, some ⟨gI, 0, none⟩, 1, 1⟩, [f.id]) q).map mkP by
                      rw [insL_map, HL.out.2]
                      unfold addA
                      rw [dif_neg (by rw [HNF.out]; omega), HFI.out]
                      rfl)
                    have HBX := Lib.hid (ex_trans HB5.out HZ.out.2.2)
                    have HHX := Lib.hid (HH5.out.below HZ.out.2.2)
                    clear hins hri
                    go_wp2_with fail
                    go_roundw
                    case rel => exact ⟨k + 1, m.length + 1, A9, c9, by omega, by go_num, by rw [show q + 1 + (m.length - q) = m.length + 1 by omega], fun x hx => HHX.out x (by obtain rfl := List.mem_singleton.1 hx; exact List.Mem.head _), ⟨_, HN9.out, by rw [HMS.out, HMU.out]⟩, HBX.out⟩
                    case measure => simp [intOf]; omega
            · obtain rfl : q = m.length := by omega
              have HFI := Lib.hid (findIdx_at (Nat.le_refl _) HT3.out (fun h => absurd h (by omega)))
              have hd3 : decide ((m.length : Int) < (m.length : Int)) = false := decide_eq_false (by omega)
              have hcq := HL.out.1.le
              have i6 : (m.length : Int) ≤ (c1 : Int) := by omega
              go_wp2_with fail
              refine wp_region_held_drew (S := (fun w' => w'.cell? ⟨W1.heap.size, 0, none⟩ = some (.string f.attrs[k].name))) (by kernel_rfl) (by (try dsimp only); exact a0) (fun hHeld => ?_)
              first | refine tkA 0 ?_ | refine skA 0 ?_
              simp only [Act.put, List.setIfInBounds_toArray, List.set_cons_zero, List.set_cons_succ]
              first | refine tkA 1 ?_ | refine skA 1 ?_
              simp only [Act.put, List.setIfInBounds_toArray, List.set_cons_zero, List.set_cons_succ]
              first | refine tkA 2 ?_ | refine skA 2 ?_
              simp only [Act.put, List.setIfInBounds_toArray, List.set_cons_zero, List.set_cons_succ]
              first | refine tkA 3 ?_ | refine skA 3 ?_
              simp only [Act.put, List.setIfInBounds_toArray, List.set_cons_zero, List.set_cons_succ]
              first | refine tkA 4 ?_ | refine skA 4 ?_
              simp only [Act.put, List.setIfInBounds_toArray, List.set_cons_zero, List.set_cons_succ]
              first | refine tkA 5 ?_ | refine skA 5 ?_
              simp only [Act.put, List.setIfInBounds_toArray, List.set_cons_zero, List.set_cons_succ]
              first | refine tkA 6 ?_ | refine skA 6 ?_
              simp only [Act.put, List.setIfInBounds_toArray, List.set_cons_zero, List.set_cons_succ]
              first | refine tkA 7 ?_ | refine skA 7 ?_
              simp only [Act.put, List.setIfInBounds_toArray, List.set_cons_zero, List.set_cons_succ]
              first | refine tkA 8 ?_ | refine skA 8 ?_
              simp only [Act.put, List.setIfInBounds_toArray, List.set_cons_zero, List.set_cons_succ]
              first | refine tkA 9 ?_ | refine skA 9 ?_
              simp only [Act.put, List.setIfInBounds_toArray, List.set_cons_zero, List.set_cons_succ]
              first | refine tkA 10 ?_ | refine skA 10 ?_
              simp only [Act.put, List.setIfInBounds_toArray, List.set_cons_zero, List.set_cons_succ]
              first | refine tkA 11 ?_ | refine skA 11 ?_
              simp only [Act.put, List.setIfInBounds_toArray, List.set_cons_zero, List.set_cons_succ]
              first | refine tkA 12 ?_ | refine skA 12 ?_
              simp only [Act.put, List.setIfInBounds_toArray, List.set_cons_zero, List.set_cons_succ]
              first | refine tkA 13 ?_ | refine skA 13 ?_
              simp only [Act.put, List.setIfInBounds_toArray, List.set_cons_zero, List.set_cons_succ]
              first | refine tkA 14 ?_ | refine skA 14 ?_
              simp only [Act.put, List.setIfInBounds_toArray, List.set_cons_zero, List.set_cons_succ]
              first | refine tkA 15 ?_ | refine skA 15 ?_
              simp only [Act.put, List.setIfInBounds_toArray, List.set_cons_zero, List.set_cons_succ]
              refine wpAnyH_done (by kernel_rfl) ?_ _
              clear hHeld
              generalize hW5 : World.drew wr = W5
              have hb25 : Below W2.heap.size W2 W5 := by rw [← hW5]; exact hb3.drew
              clear hW5 a0 a1 a2 a3 hb3
              have HL5 := Lib.hid (HL.out.1.below hb25)
              have HH5 := Lib.hid (HH2.out.below hb25)
              have HB5 := Lib.hid (ex_trans HB2.out hb25)
              have a0 := keep_cell hb25 HA.out.1
              have a1 := keep_cell hb25 HA.out.2.1
              have a2 := keep_cell hb25 HA.out.2.2.1
              have a3 := keep_cell hb25 HA.out.2.2.2
              have f0 := keep_cell hb25 HF0.out.1
              have la5 := keep_lt hb25 la
              have lf5 := keep_lt hb25 lf2
              have hz5 := HB5.out.size
              go_upto_region 14 with fail
              go_cut [8] (fun s8 w' => ∃ (A8 : Option Addr) (c8 gI : Nat), s8 = .slice A8 (m.length + 1) c8 ∧ FRow 107 5 ePh w' W5.heap.size A8 (m.length + 1) c8 ((L.map (·.1)).take m.length ++ [⟨f.attrs[k].name, f.attrs[k].val, some ⟨gI, 0, none⟩, 1, 1⟩]) ∧ FRow 3 1 eInt w' W5.heap.size (some ⟨gI, 0, none⟩) 1 1 [f.id] ∧ Below W5.heap.size W5 w')
              case first =>
                refine wp_region_held_drew (S := (fun w' => w'.cell? ⟨W1.heap.size, 0, none⟩ = some (.string f.attrs[k].name) ∧ w'.cell? ⟨W1.heap.size, 1, none⟩ = some (.int .i64 f.attrs[k].val.kind) ∧ w'.cell? ⟨W1.heap.size, 2, none⟩ = some (.int .i64 f.attrs[k].val.int) ∧ w'.cell? ⟨W1.heap.size, 3, none⟩ = some (.string f.attrs[k].val.str) ∧ w'.cell? ⟨w.heap.size, 0, none⟩ = some (.int .i64 f.id) ∧ Below W5.heap.size W5 w')) (by kernel_rfl) (by (try dsimp only); exact ⟨a0, a1, a2, a3, f0, (Below.refl _ _).drew⟩) (fun hHeld => ?_)
                first | refine tkA 1 ?_ | refine skA 1 ?_
                simp only [Act.put, List.setIfInBounds_toArray, List.set_cons_zero, List.set_cons_succ]
                first | refine tkA 2 ?_ | refine skA 2 ?_
                simp only [Act.put, List.setIfInBounds_toArray, List.set_cons_zero, List.set_cons_succ]
                first | refine tkA 3 ?_ | refine skA 3 ?_
                simp only [Act.put, List.setIfInBounds_toArray, List.set_cons_zero, List.set_cons_succ]
                first | refine tkA 5 ?_ | refine skA 5 ?_
                simp only [Act.put, List.setIfInBounds_toArray, List.set_cons_zero, List.set_cons_succ]
                first | refine tkA 6 ?_ | refine skA 6 ?_
                simp only [Act.put, List.setIfInBounds_toArray, List.set_cons_zero, List.set_cons_succ]
                first | refine tkA 7 ?_ | refine skA 7 ?_
                simp only [Act.put, List.setIfInBounds_toArray, List.set_cons_zero, List.set_cons_succ]
                first | refine tkA 8 ?_ | refine skA 8 ?_
                simp only [Act.put, List.setIfInBounds_toArray, List.set_cons_zero, List.set_cons_succ]
                first | refine tkA 9 ?_ | refine skA 9 ?_
                simp only [Act.put, List.setIfInBounds_toArray, List.set_cons_zero, List.set_cons_succ]
                first | refine tkA 10 ?_ | refine skA 10 ?_
                simp only [Act.put, List.setIfInBounds_toArray, List.set_cons_zero, List.set_cons_succ]
                generalize hWd : World.drew W5 = Wd at hHeld ⊢
                clear hWd
                refine held_two 0 11 (by kernel_rfl) rfl rfl (fun K hK => ?_) (fun K hK => ?_)
                · go_simp
                  generalize hwa : World.alloc Wd _ = wa_1
                  have hba : Below Wd.heap.size Wd wa_1 := by rw [← hwa]; exact (Below.refl _ _).alloc (Nat.le_refl _) _
                  refine hK.out _ _ (by (try dsimp only); exact ⟨keep_cell hba hHeld.1, keep_cell hba hHeld.2.1, keep_cell hba hHeld.2.2.1, keep_cell hba hHeld.2.2.2.1, keep_cell hba hHeld.2.2.2.2.1, ex_trans hHeld.2.2.2.2.2 hba⟩) (fun hNew => ?_)
                  clear hK K hHeld
                  have hHeld := hNew
                  clear hNew
                  try simp only [Act.put, List.setIfInBounds_toArray, List.set_cons_zero, List.set_cons_succ]
                  clear hwa hba
                  refine held_two 4 11 (by kernel_rfl) rfl rfl (fun K hK => ?_) (fun K hK => ?_)
                  · refine step_append_row rfl (.tmp 83) (.tmp 86) _ rfl encPh Try.underlying55 hi hi0 hi1 hi2 rfl rfl rfl (FRow.any0 _ _ _ _ W5.heap.size _) (((Src.of_row encPh HL5.out.1).below hHeld.2.2.2.2.2).take encPh (k := m.length) (by omega)) (by unfold maxLen; omega) (by omega) hHeld.2.2.2.2.2.size ?_; intro A6 c6 w6_2 hr6 hc6 hx6
                    have hb6 : Below wa_1.heap.size wa_1 w6_2 := (show Chg [] wa_1 w6_2 from hc6.mono (by simp [rowBs_zero])).blow
                    have HR6 := Lib.hid (show FRow 107 5 ePh w6_2 W5.heap.size A6 m.length c6 ((L.map (·.1)).take m.length) by simpa using hr6)
                    refine hK.out _ _ (by (try dsimp only); exact ⟨keep_cell hb6 hHeld.1, keep_cell hb6 hHeld.2.1, keep_cell hb6 hHeld.2.2.1, keep_cell hb6 hHeld.2.2.2.1, keep_cell hb6 hHeld.2.2.2.2.1, ex_trans hHeld.2.2.2.2.2 hb6⟩) (fun hNew => ?_)
                    clear hK K hHeld
                    have hHeld := hNew
                    clear hNew
                    try simp only [Act.put, List.setIfInBounds_toArray, List.set_cons_zero, List.set_cons_succ]
                    clear hr6 hc6 hx6 hb6
                    try simp only [Nat.zero_add]
                    refine held_one 11 (by kernel_rfl) rfl (fun K hK => ?_)
                    go_simp
                    generalize hwa : World.alloc w6_2 _ = wa_3
                    have hba : Below w6_2.heap.size w6_2 wa_3 := by rw [← hwa]; exact (Below.refl _ _).alloc (Nat.le_refl _) _
                    have HR6 := Lib.hid (HR6.out.below hba)
                    have HI := Lib.hid (show wa_3.heap[w6_2.heap.size]? = some (.cells #[.int .i64 f.id] 3 (0, 0)) by rw [← hwa]; exact hp_new rfl)
                    have HGI := Lib.hid (show W5.heap.size ≤ w6_2.heap.size from hHeld.2.2.2.2.2.size)
                    refine hK.out _ _ (by (try dsimp only); exact ⟨keep_cell hba hHeld.1, keep_cell hba hHeld.2.1, keep_cell hba hHeld.2.2.1, keep_cell hba hHeld.2.2.2.1, keep_cell hba hHeld.2.2.2.2.1, ex_trans hHeld.2.2.2.2.2 hba⟩) (fun hNew => ?_)
                    clear hK K hHeld
                    have hHeld := hNew
                    clear hNew
                    try simp only [Act.put, List.setIfInBounds_toArray, List.set_cons_zero, List.set_cons_succ]
                    clear hwa hba
                    first | refine tkA 12 ?_ | refine skA 12 ?_
                    simp only [Act.put, List.setIfInBounds_toArray, List.set_cons_zero, List.set_cons_succ]
                    refine held_one 13 (by kernel_rfl) rfl (fun K hK => ?_)
                    go_simp
                    generalize hwa : World.alloc wa_3 _ = wa_4
                    have hba : Below wa_3.heap.size wa_3 wa_4 := by rw [← hwa]; exact (Below.refl _ _).alloc (Nat.le_refl _) _
                    have HR6 := Lib.hid (HR6.out.below hba)
                    have HI := Lib.hid (below_keep hba HI.out)
                    have HD := Lib.hid (show wa_4.heap[wa_3.heap.size]? = some (.cells #[.string f.attrs[k].name, .int .i64 f.attrs[k].val.kind, .int .i64 f.attrs[k].val.int, .string f.attrs[k].val.str, .slice (some ⟨w6_2.heap.size, 0, none⟩) 1 1] 107 (0, 0)) by rw [← hwa]; exact hp_new rfl)
                    refine hK.out _ _ (by (try dsimp only); exact ⟨keep_cell hba hHeld.1, keep_cell hba hHeld.2.1, keep_cell hba hHeld.2.2.1, keep_cell hba hHeld.2.2.2.1, keep_cell hba hHeld.2.2.2.2.1, ex_trans hHeld.2.2.2.2.2 hba⟩) (fun hNew => ?_)
                    clear hK K hHeld
                    have hHeld := hNew
                    clear hNew
                    try simp only [Act.put, List.setIfInBounds_toArray, List.set_cons_zero, List.set_cons_succ]
                    clear hwa hba
                    refine held_one 14 (by kernel_rfl) rfl (fun K hK => ?_)
                    refine step_append_row rfl (.tmp 87) (.tmp 96) _ rfl encPh Try.underlying55 hi hi0 hi1 hi2 rfl rfl rfl HR6.out (src_ph (⟨f.attrs[k].name, f.attrs[k].val, some ⟨w6_2.heap.size, 0, none⟩, 1, 1⟩ : Ph) (blk_cell? HD.out 0) (blk_cell? HD.out 1) (blk_cell? HD.out 2) (blk_cell? HD.out 3) (blk_cell? HD.out 4)) (by unfold maxLen; omega) (by omega) hHeld.2.2.2.2.2.size ?_; intro A8 c8 w8 hr8 hc8 hx8
                    have HI8 := Lib.hid (hc8.keepb HI.out (HR6.out.apart HI.out (by decide)))
                    have HR8 := Lib.hid hr8
                    refine hK.out _ _ (by (try dsimp only); exact ⟨hc8.cell hHeld.1 (fun h => by have h1 := (HR6.out.base _ h).1; simp only at h1; omega), hc8.cell hHeld.2.1 (fun h => by have h1 := (HR6.out.base _ h).1; simp only at h1; omega), hc8.cell hHeld.2.2.1 (fun h => by have h1 := (HR6.out.base _ h).1; simp only at h1; omega), hc8.cell hHeld.2.2.2.1 (fun h => by have h1 := (HR6.out.base _ h).1; simp only at h1; omega), hc8.cell hHeld.2.2.2.2.1 (fun h => by have h1 := (HR6.out.base _ h).1; simp only at h1; omega), Below.mark hHeld.2.2.2.2.2 hc8 hHeld.2.2.2.2.2.size (fun b hb => (HR6.out.base b hb).1)⟩) (fun hNew => ?_)
                    clear hK K hHeld
                    have hHeld := hNew
                    clear hNew
                    try simp only [Act.put, List.setIfInBounds_toArray, List.set_cons_zero, List.set_cons_succ]
                    clear hr8 hc8 hx8
                    first | refine tkA 15 ?_ | refine skA 15 ?_
                    simp only [Act.put, List.setIfInBounds_toArray, List.set_cons_zero, List.set_cons_succ]
                    refine wpAnyH_done (by kernel_rfl) ?_ _
                    go_wp2_with fail
                    go_meet
                    exact ⟨A8, c8, w6_2.heap.size, rfl, HR8.out, FRow.one f.id HGI.out HI8.out, hHeld.2.2.2.2.2⟩
                  · go_simp
                    generalize hwa : World.alloc wa_1 _ = wa_5
                    have hba : Below wa_1.heap.size wa_1 wa_5 := by rw [← hwa]; exact (Below.refl _ _).alloc (Nat.le_refl _) _
                    have HI := Lib.hid (show wa_5.heap[wa_1.heap.size]? = some (.cells #[.int .i64 f.id] 3 (0, 0)) by rw [← hwa]; exact hp_new rfl)
                    have HGI := Lib.hid (show W5.heap.size ≤ wa_1.heap.size from hHeld.2.2.2.2.2.size)
                    refine hK.out _ _ (by (try dsimp only); exact ⟨keep_cell hba hHeld.1, keep_cell hba hHeld.2.1, keep_cell hba hHeld.2.2.1, keep_cell hba hHeld.2.2.2.1, keep_cell hba hHeld.2.2.2.2.1, ex_trans hHeld.2.2.2.2.2 hba⟩) (fun hNew => ?_)
                    clear hK K hHeld
                    have hHeld := hNew
                    clear hNew
                    try simp only [Act.put, List.setIfInBounds_toArray, List.set_cons_zero, List.set_cons_succ]
                    clear hwa hba
                    first | refine tkA 12 ?_ | refine skA 12 ?_
                    simp only [Act.put, List.setIfInBounds_toArray, List.set_cons_zero, List.set_cons_succ]
                    refine held_two 4 13 (by kernel_rfl) rfl rfl (fun K hK => ?_) (fun K hK => ?_)
                    · refine step_append_row rfl (.tmp 83) (.tmp 86) _ rfl encPh Try.underlying55 hi hi0 hi1 hi2 rfl rfl rfl (FRow.any0 _ _ _ _ W5.heap.size _) (((Src.of_row encPh HL5.out.1).below hHeld.2.2.2.2.2).take encPh (k := m.length) (by omega)) (by unfold maxLen; omega) (by omega) hHeld.2.2.2.2.2.size ?_; intro A6 c6 w6_6 hr6 hc6 hx6
                      have hb6 : Below wa_5.heap.size wa_5 w6_6 := (show Chg [] wa_5 w6_6 from hc6.mono (by simp [rowBs_zero])).blow
                      have HI := Lib.hid (below_keep hb6 HI.out)
                      have HR6 := Lib.hid (show FRow 107 5 ePh w6_6 W5.heap.size A6 m.length c6 ((L.map (·.1)).take m.length) by simpa using hr6)
                      refine hK.out _ _ (by (try dsimp only); exact ⟨keep_cell hb6 hHeld.1, keep_cell hb6 hHeld.2.1, keep_cell hb6 hHeld.2.2.1, keep_cell hb6 hHeld.2.2.2.1, keep_cell hb6 hHeld.2.2.2.2.1, ex_trans hHeld.2.2.2.2.2 hb6⟩) (fun hNew => ?_)
                      clear hK K hHeld
                      have hHeld := hNew
                      clear hNew
                      try simp only [Act.put, List.setIfInBounds_toArray, List.set_cons_zero, List.set_cons_succ]
                      clear hr6 hc6 hx6 hb6
                      try simp only [Nat.zero_add]
                      refine held_one 13 (by kernel_rfl) rfl (fun K hK => ?_)
                      go_simp
                      generalize hwa : World.alloc w6_6 _ = wa_7
                      have hba : Below w6_6.heap.size w6_6 wa_7 := by rw [← hwa]; exact (Below.refl _ _).alloc (Nat.le_refl _) _
                      have HR6 := Lib.hid (HR6.out.below hba)
                      have HI := Lib.hid (below_keep hba HI.out)
                      have HD := Lib.hid (show wa_7.heap[w6_6.heap.size]? = some (.cells #[.string f.attrs[k].name, .int .i64 f.attrs[k].val.kind, .int .i64 f.attrs[k].val.int, .string f.attrs[k].val.str, .slice (some ⟨wa_1.heap.size, 0, none⟩) 1 1] 107 (0, 0)) by rw [← hwa]; exact hp_new rfl)
                      refine hK.out _ _ (by (try dsimp only); exact ⟨keep_cell hba hHeld.1, keep_cell hba hHeld.2.1, keep_cell hba hHeld.2.2.1, keep_cell hba hHeld.2.2.2.1, keep_cell hba hHeld.2.2.2.2.1, ex_trans hHeld.2.2.2.2.2 hba⟩) (fun hNew => ?_)
                      clear hK K hHeld
                      have hHeld := hNew
                      clear hNew
                      try simp only [Act.put, List.setIfInBounds_toArray, List.set_cons_zero, List.set_cons_succ]
                      clear hwa hba
                      refine held_one 14 (by kernel_rfl) rfl (fun K hK => ?_)
                      refine step_append_row rfl (.tmp 87) (.tmp 96) _ rfl encPh Try.underlying55 hi hi0 hi1 hi2 rfl rfl rfl HR6.out (src_ph (⟨f.attrs[k].name, f.attrs[k].val, some ⟨wa_1.heap.size, 0, none⟩, 1, 1⟩ : Ph) (blk_cell? HD.out 0) (blk_cell? HD.out 1) (blk_cell? HD.out 2) (blk_cell? HD.out 3) (blk_cell? HD.out 4)) (by unfold maxLen; omega) (by omega) hHeld.2.2.2.2.2.size ?_; intro A8 c8 w8 hr8 hc8 hx8
                      have HI8 := Lib.hid (hc8.keepb HI.out (HR6.out.apart HI.out (by decide)))
                      have HR8 := Lib.hid hr8
                      refine hK.out _ _ (by (try dsimp only); exact ⟨hc8.cell hHeld.1 (fun h => by have h1 := (HR6.out.base _ h).1; simp only at h1; omega), hc8.cell hHeld.2.1 (fun h => by have h1 := (HR6.out.base _ h).1; simp only at h1; omega), hc8.cell hHeld.2.2.1 (fun h => by have h1 := (HR6.out.base _ h).1; simp only at h1; omega), hc8.cell hHeld.2.2.2.1 (fun h => by have h1 := (HR6.out.base _ h).1; simp only at h1; omega), hc8.cell hHeld.2.2.2.2.1 (fun h => by have h1 := (HR6.out.base _ h).1; simp only at h1; omega), Below.mark hHeld.2.2.2.2.2 hc8 hHeld.2.2.2.2.2.size (fun b hb => (HR6.out.base b hb).1)⟩) (fun hNew => ?_)
                      clear hK K hHeld
                      have hHeld := hNew
                      clear hNew
                      try simp only [Act.put, List.setIfInBounds_toArray, List.set_cons_zero, List.set_cons_succ]
                      clear hr8 hc8 hx8
                      first | refine tkA 15 ?_ | refine skA 15 ?_
                      simp only [Act.put, List.setIfInBounds_toArray, List.set_cons_zero, List.set_cons_succ]
                      refine wpAnyH_done (by kernel_rfl) ?_ _
                      go_wp2_with fail
                      go_meet
                      exact ⟨A8, c8, wa_1.heap.size, rfl, HR8.out, FRow.one f.id HGI.out HI8.out, hHeld.2.2.2.2.2⟩
                    · go_simp
                      generalize hwa : World.alloc wa_5 _ = wa_8
                      have hba : Below wa_5.heap.size wa_5 wa_8 := by rw [← hwa]; exact (Below.refl _ _).alloc (Nat.le_refl _) _
                      have HI := Lib.hid (below_keep hba HI.out)
                      have HD := Lib.hid (show wa_8.heap[wa_5.heap.size]? = some (.cells #[.string f.attrs[k].name, .int .i64 f.attrs[k].val.kind, .int .i64 f.attrs[k].val.int, .string f.attrs[k].val.str, .slice (some ⟨wa_1.heap.size, 0, none⟩) 1 1] 107 (0, 0)) by rw [← hwa]; exact hp_new rfl)
                      refine hK.out _ _ (by (try dsimp only); exact ⟨keep_cell hba hHeld.1, keep_cell hba hHeld.2.1, keep_cell hba hHeld.2.2.1, keep_cell hba hHeld.2.2.2.1, keep_cell hba hHeld.2.2.2.2.1, ex_trans hHeld.2.2.2.2.2 hba⟩) (fun hNew => ?_)
                      clear hK K hHeld
                      have hHeld := hNew
                      clear hNew
                      try simp only [Act.put, List.setIfInBounds_toArray, List.set_cons_zero, List.set_cons_succ]
                      clear hwa hba
                      refine held_one 4 (by kernel_rfl) rfl (fun K hK => ?_)
                      refine step_append_row rfl (.tmp 83) (.tmp 86) _ rfl encPh Try.underlying55 hi hi0 hi1 hi2 rfl rfl rfl (FRow.any0 _ _ _ _ W5.heap.size _) (((Src.of_row encPh HL5.out.1).below hHeld.2.2.2.2.2).take encPh (k := m.length) (by omega)) (by unfold maxLen; omega) (by omega) hHeld.2.2.2.2.2.size ?_; intro A6 c6 w6_9 hr6 hc6 hx6
                      have hb6 : Below wa_8.heap.size wa_8 w6_9 := (show Chg [] wa_8 w6_9 from hc6.mono (by simp [rowBs_zero])).blow
                      have HI := Lib.hid (below_keep hb6 HI.out)
                      have HD := Lib.hid (below_keep hb6 HD.out)
                      have HR6 := Lib.hid (show FRow 107 5 ePh w6_9 W5.heap.size A6 m.length c6 ((L.map (·.1)).take m.length) by simpa using hr6)
                      refine hK.out _ _ (by (try dsimp only); exact ⟨keep_cell hb6 hHeld.1, keep_cell hb6 hHeld.2.1, keep_cell hb6 hHeld.2.2.1, keep_cell hb6 hHeld.2.2.2.1, keep_cell hb6 hHeld.2.2.2.2.1, ex_trans hHeld.2.2.2.2.2 hb6⟩) (fun hNew => ?_)
                      clear hK K hHeld
                      have hHeld := hNew
                      clear hNew
                      try simp only [Act.put, List.setIfInBounds_toArray, List.set_cons_zero, List.set_cons_succ]
                      clear hr6 hc6 hx6 hb6
                      try simp only [Nat.zero_add]
                      refine held_one 14 (by kernel_rfl) rfl (fun K hK => ?_)
                      refine step_append_row rfl (.tmp 87) (.tmp 96) _ rfl encPh Try.underlying55 hi hi0 hi1 hi2 rfl rfl rfl HR6.out (src_ph (⟨f.attrs[k].name, f.attrs[k].val, some ⟨wa_1.heap.size, 0, none⟩, 1, 1⟩ : Ph) (blk_cell? HD.out 0) (blk_cell? HD.out 1) (blk_cell? HD.out 2) (blk_cell? HD.out 3) (blk_cell? HD.out 4)) (by unfold maxLen; omega) (by omega) hHeld.2.2.2.2.2.size ?_; intro A8 c8 w8 hr8 hc8 hx8
                      have HI8 := Lib.hid (hc8.keepb HI.out (HR6.out.apart HI.out (by decide)))
                      have HR8 := Lib.hid hr8
                      refine hK.out _ _ (by (try dsimp only); exact ⟨hc8.cell hHeld.1 (fun h => by have h1 := (HR6.out.base _ h).1; simp only at h1; omega), hc8.cell hHeld.2.1 (fun h => by have h1 := (HR6.out.base _ h).1; simp only at h1; omega), hc8.cell hHeld.2.2.1 (fun h => by have h1 := (HR6.out.base _ h).1; simp only at h1; omega), hc8.cell hHeld.2.2.2.1 (fun h => by have h1 := (HR6.out.base _ h).1; simp only at h1; omega), hc8.cell hHeld.2.2.2.2.1 (fun h => by have h1 := (HR6.out.base _ h).1; simp only at h1; omega), Below.mark hHeld.2.2.2.2.2 hc8 hHeld.2.2.2.2.2.size (fun b hb => (HR6.out.base b hb).1)⟩) (fun hNew => ?_)
                      clear hK K hHeld
                      have hHeld := hNew
                      clear hNew
                      try simp only [Act.put, List.setIfInBounds_toArray, List.set_cons_zero, List.set_cons_succ]
                      clear hr8 hc8 hx8
                      first | refine tkA 15 ?_ | refine skA 15 ?_
                      simp only [Act.put, List.setIfInBounds_toArray, List.set_cons_zero, List.set_cons_succ]
                      refine wpAnyH_done (by kernel_rfl) ?_ _
                      go_wp2_with fail
                      go_meet
                      exact ⟨A8, c8, wa_1.heap.size, rfl, HR8.out, FRow.one f.id HGI.out HI8.out, hHeld.2.2.2.2.2⟩
                · go_simp
                  generalize hwa : World.alloc Wd _ = wa_10
                  have hba : Below Wd.heap.size Wd wa_10 := by rw [← hwa]; exact (Below.refl _ _).alloc (Nat.le_refl _) _
                  have HI := Lib.hid (show wa_10.heap[Wd.heap.size]? = some (.cells #[.int .i64 f.id] 3 (0, 0)) by rw [← hwa]; exact hp_new rfl)
                  have HGI := Lib.hid (show W5.heap.size ≤ Wd.heap.size from hHeld.2.2.2.2.2.size)
                  refine hK.out _ _ (by (try dsimp only); exact ⟨keep_cell hba hHeld.1, keep_cell hba hHeld.2.1, keep_cell hba hHeld.2.2.1, keep_cell hba hHeld.2.2.2.1, keep_cell hba hHeld.2.2.2.2.1, ex_trans hHeld.2.2.2.2.2 hba⟩) (fun hNew => ?_)
                  clear hK K hHeld
                  have hHeld := hNew
                  clear hNew
                  try simp only [Act.put, List.setIfInBounds_toArray, List.set_cons_zero, List.set_cons_succ]
                  clear hwa hba
                  first | refine tkA 12 ?_ | refine skA 12 ?_
                  simp only [Act.put, List.setIfInBounds_toArray, List.set_cons_zero, List.set_cons_succ]
                  refine held_two 0 13 (by kernel_rfl) rfl rfl (fun K hK => ?_) (fun K hK => ?_)
                  · go_simp
                    generalize hwa : World.alloc wa_10 _ = wa_11
                    have hba : Below wa_10.heap.size wa_10 wa_11 := by rw [← hwa]; exact (Below.refl _ _).alloc (Nat.le_refl _) _
                    have HI := Lib.hid (below_keep hba HI.out)
                    refine hK.out _ _ (by (try dsimp only); exact ⟨keep_cell hba hHeld.1, keep_cell hba hHeld.2.1, keep_cell hba hHeld.2.2.1, keep_cell hba hHeld.2.2.2.1, keep_cell hba hHeld.2.2.2.2.1, ex_trans hHeld.2.2.2.2.2 hba⟩) (fun hNew => ?_)
                    clear hK K hHeld
                    have hHeld := hNew
                    clear hNew
                    try simp only [Act.put, List.setIfInBounds_toArray, List.set_cons_zero, List.set_cons_succ]
                    clear hwa hba
                    refine held_two 4 13 (by kernel_rfl) rfl rfl (fun K hK => ?_) (fun K hK => ?_)
                    · refine step_append_row rfl (.tmp 83) (.tmp 86) _ rfl encPh Try.underlying55 hi hi0 hi1 hi2 rfl rfl rfl (FRow.any0 _ _ _ _ W5.heap.size _) (((Src.of_row encPh HL5.out.1).below hHeld.2.2.2.2.2).take encPh (k := m.length) (by omega)) (by unfold maxLen; omega) (by omega) hHeld.2.2.2.2.2.size ?_; intro A6 c6 w6_12 hr6 hc6 hx6
                      have hb6 : Below wa_11.heap.size wa_11 w6_12 := (show Chg [] wa_11 w6_12 from hc6.mono (by simp [rowBs_zero])).blow
                      have HI := Lib.hid (below_keep hb6 HI.out)
                      have HR6 := Lib.hid (show FRow 107 5 ePh w6_12 W5.heap.size A6 m.length c6 ((L.map (·.1)).take m.length) by simpa using hr6)
                      refine hK.out _ _ (by (try dsimp only); exact ⟨keep_cell hb6 hHeld.1, keep_cell hb6 hHeld.2.1, keep_cell hb6 hHeld.2.2.1, keep_cell hb6 hHeld.2.2.2.1, keep_cell hb6 hHeld.2.2.2.2.1, ex_trans hHeld.2.2.2.2.2 hb6⟩) (fun hNew => ?_)
                      clear hK K hHeld
                      have hHeld := hNew
                      clear hNew
                      try simp only [Act.put, List.setIfInBounds_toArray, List.set_cons_zero, List.set_cons_succ]
                      clear hr6 hc6 hx6 hb6
                      try simp only [Nat.zero_add]
                      refine held_one 13 (by kernel_rfl) rfl (fun K hK => ?_)
                      go_simp
                      generalize hwa : World.alloc w6_12 _ = wa_13
                      have hba : Below w6_12.heap.size w6_12 wa_13 := by rw [← hwa]; exact (Below.refl _ _).alloc (Nat.le_refl _) _
                      have HR6 := Lib.hid (HR6.out.below hba)
                      have HI := Lib.hid (below_keep hba HI.out)
                      have HD := Lib.hid (show wa_13.heap[w6_12.heap.size]? = some (.cells #[.string f.attrs[k].name, .int .i64 f.attrs[k].val.kind, .int .i64 f.attrs[k].val.int, .string f.attrs[k].val.str, .slice (some ⟨Wd.heap.size, 0, none⟩) 1 1] 107 (0, 0)) by rw [← hwa]; exact hp_new rfl)
                      refine hK.out _ _ (by (try dsimp only); exact ⟨keep_cell hba hHeld.1, keep_cell hba hHeld.2.1, keep_cell hba hHeld.2.2.1, keep_cell hba hHeld.2.2.2.1, keep_cell hba hHeld.2.2.2.2.1, ex_trans hHeld.2.2.2.2.2 hba⟩) (fun hNew => ?_)
                      clear hK K hHeld
                      have hHeld := hNew
                      clear hNew
                      try simp only [Act.put, List.setIfInBounds_toArray, List.set_cons_zero, List.set_cons_succ]
                      clear hwa hba
                      refine held_one 14 (by kernel_rfl) rfl (fun K hK => ?_)
                      refine step_append_row rfl (.tmp 87) (.tmp 96) _ rfl encPh Try.underlying55 hi hi0 hi1 hi2 rfl rfl rfl HR6.out (src_ph (⟨f.attrs[k].name, f.attrs[k].val, some ⟨Wd.heap.size, 0, none⟩, 1, 1⟩ : Ph) (blk_cell? HD.out 0) (blk_cell? HD.out 1) (blk_cell? HD.out 2) (blk_cell? HD.out 3) (blk_cell? HD.out 4)) (by unfold maxLen; omega) (by omega) hHeld.2.2.2.2.2.size ?_; intro A8 c8 w8 hr8 hc8 hx8
                      have HI8 := Lib.hid (hc8.keepb HI.out (HR6.out.apart HI.out (by decide)))
                      have HR8 := Lib.hid hr8
                      refine hK.out _ _ (by (try dsimp only); exact ⟨hc8.cell hHeld.1 (fun h => by have h1 := (HR6.out.base _ h).1; simp only at h1; omega), hc8.cell hHeld.2.1 (fun h => by have h1 := (HR6.out.base _ h).1; simp only at h1; omega), hc8.cell hHeld.2.2.1 (fun h => by have h1 := (HR6.out.base _ h).1; simp only at h1; omega), hc8.cell hHeld.2.2.2.1 (fun h => by have h1 := (HR6.out.base _ h).1; simp only at h1; omega), hc8.cell hHeld.2.2.2.2.1 (fun h => by have h1 := (HR6.out.base _ h).1; simp only at h1; omega), Below.mark hHeld.2.2.2.2.2 hc8 hHeld.2.2.2.2.2.size (fun b hb => (HR6.out.base b hb).1)⟩) (fun hNew => ?_)
                      clear hK K hHeld
                      have hHeld := hNew
                      clear hNew
                      try simp only [Act.put, List.setIfInBounds_toArray, List.set_cons_zero, List.set_cons_succ]
                      clear hr8 hc8 hx8
                      first | refine tkA 15 ?_ | refine skA 15 ?_
                      simp only [Act.put, List.setIfInBounds_toArray, List.set_cons_zero, List.set_cons_succ]
                      refine wpAnyH_done (by kernel_rfl) ?_ _
                      go_wp2_with fail
                      go_meet
                      exact ⟨A8, c8, Wd.heap.size, rfl, HR8.out, FRow.one f.id HGI.out HI8.out, hHeld.2.2.2.2.2⟩
                    · go_simp
                      generalize hwa : World.alloc wa_11 _ = wa_14
                      have hba : Below wa_11.heap.size wa_11 wa_14 := by rw [← hwa]; exact (Below.refl _ _).alloc (Nat.le_refl _) _
                      have HI := Lib.hid (below_keep hba HI.out)
                      have HD := Lib.hid (show wa_14.heap[wa_11.heap.size]? = some (.cells #[.string f.attrs[k].name, .int .i64 f.attrs[k].val.kind, .int .i64 f.attrs[k].val.int, .string f.attrs[k].val.str, .slice (some ⟨Wd.heap.size, 0, none⟩) 1 1] 107 (0, 0)) by rw [← hwa]; exact hp_new rfl)
                      refine hK.out _ _ (by (try dsimp only); exact ⟨keep_cell hba hHeld.1, keep_cell hba hHeld.2.1, keep_cell hba hHeld.2.2.1, keep_cell hba hHeld.2.2.2.1, keep_cell hba hHeld.2.2.2.2.1, ex_trans hHeld.2.2.2.2.2 hba⟩) (fun hNew => ?_)
                      clear hK K hHeld
                      have hHeld := hNew
                      clear hNew
                      try simp only [Act.put, List.setIfInBounds_toArray, List.set_cons_zero, List.set_cons_succ]
                      clear hwa hba
                      refine held_one 4 (by kernel_rfl) rfl (fun K hK => ?_)
                      refine step_append_row rfl (.tmp 83) (.tmp 86) _ rfl encPh Try.underlying55 hi hi0 hi1 hi2 rfl rfl rfl (FRow.any0 _ _ _ _ W5.heap.size _) (((Src.of_row encPh HL5.out.1).below hHeld.2.2.2.2.2).take encPh (k := m.length) (by omega)) (by unfold maxLen; omega) (by omega) hHeld.2.2.2.2.2.size ?_; intro A6 c6 w6_15 hr6 hc6 hx6
                      have hb6 : Below wa_14.heap.size wa_14 w6_15 := (show Chg [] wa_14 w6_15 from hc6.mono (by simp [rowBs_zero])).blow
                      have HI := Lib.hid (below_keep hb6 HI.out)
                      have HD := Lib.hid (below_keep hb6 HD.out)
                      have HR6 := Lib.hid (show FRow 107 5 ePh w6_15 W5.heap.size A6 m.length c6 ((L.map (·.1)).take m.length) by simpa using hr6)
                      refine hK.out _ _ (by (try dsimp only); exact ⟨keep_cell hb6 hHeld.1, keep_cell hb6 hHeld.2.1, keep_cell hb6 hHeld.2.2.1, keep_cell hb6 hHeld.2.2.2.1, keep_cell hb6 hHeld.2.2.2.2.1, ex_trans hHeld.2.2.2.2.2 hb6⟩) (fun hNew => ?_)
                      clear hK K hHeld
                      have hHeld := hNew
                      clear hNew
                      try simp only [Act.put, List.setIfInBounds_toArray, List.set_cons_zero, List.set_cons_succ]
                      clear hr6 hc6 hx6 hb6
                      try simp only [Nat.zero_add]
                      refine held_one 14 (by kernel_rfl) rfl (fun K hK => ?_)
                      refine step_append_row rfl (.tmp 87) (.tmp 96) _ rfl encPh Try.underlying55 hi hi0 hi1 hi2 rfl rfl rfl HR6.out (src_ph (⟨f.attrs[k].name, f.attrs[k].val, some ⟨Wd.heap.size, 0, none⟩, 1, 1⟩ : Ph) (blk_cell? HD.out 0) (blk_cell? HD.out 1) (blk_cell? HD.out 2) (blk_cell? HD.out 3) (blk_cell? HD.out 4)) (by unfold maxLen; omega) (by omega) hHeld.2.2.2.2.2.size ?_; intro A8 c8 w8 hr8 hc8 hx8
                      have HI8 := Lib.hid (hc8.keepb HI.out (HR6.out.apart HI.out (by decide)))
                      have HR8 := Lib.hid hr8
                      refine hK.out _ _ (by (try dsimp only); exact ⟨hc8.cell hHeld.1 (fun h => by have h1 := (HR6.out.base _ h).1; simp only at h1; omega), hc8.cell hHeld.2.1 (fun h => by have h1 := (HR6.out.base _ h).1; simp only at h1; omega), hc8.cell hHeld.2.2.1 (fun h => by have h1 := (HR6.out.base _ h).1; simp only at h1; omega), hc8.cell hHeld.2.2.2.1 (fun h => by have h1 := (HR6.out.base _ h).1; simp only at h1; omega), hc8.cell hHeld.2.2.2.2.1 (fun h => by have h1 := (HR6.out.base _ h).1; simp only at h1; omega), Below.mark hHeld.2.2.2.2.2 hc8 hHeld.2.2.2.2.2.size (fun b hb => (HR6.out.base b hb).1)⟩) (fun hNew => ?_)
                      clear hK K hHeld
                      have hHeld := hNew
                      clear hNew
                      try simp only [Act.put, List.setIfInBounds_toArray, List.set_cons_zero, List.set_cons_succ]
                      clear hr8 hc8 hx8
                      first | refine tkA 15 ?_ | refine skA 15 ?_
                      simp only [Act.put, List.setIfInBounds_toArray, List.set_cons_zero, List.set_cons_succ]
                      refine wpAnyH_done (by kernel_rfl) ?_ _
                      go_wp2_with fail
                      go_meet
                      exact ⟨A8, c8, Wd.heap.size, rfl, HR8.out, FRow.one f.id HGI.out HI8.out, hHeld.2.2.2.2.2⟩
                  · go_simp
                    generalize hwa : World.alloc wa_10 _ = wa_16
                    have hba : Below wa_10.heap.size wa_10 wa_16 := by rw [← hwa]; exact (Below.refl _ _).alloc (Nat.le_refl _) _
                    have HI := Lib.hid (below_keep hba HI.out)
                    have HD := Lib.hid (show wa_16.heap[wa_10.heap.size]? = some (.cells #[.string f.attrs[k].name, .int .i64 f.attrs[k].val.kind, .int .i64 f.attrs[k].val.int, .string f.attrs[k].val.str, .slice (some ⟨Wd.heap.size, 0, none⟩) 1 1] 107 (0, 0)) by rw [← hwa]; exact hp_new rfl)
                    refine hK.out _ _ (by (try dsimp only); exact ⟨keep_cell hba hHeld.1, keep_cell hba hHeld.2.1, keep_cell hba hHeld.2.2.1, keep_cell hba hHeld.2.2.2.1, keep_cell hba hHeld.2.2.2.2.1, ex_trans hHeld.2.2.2.2.2 hba⟩) (fun hNew => ?_)
                    clear hK K hHeld
                    have hHeld := hNew
                    clear hNew
                    try simp only [Act.put, List.setIfInBounds_toArray, List.set_cons_zero, List.set_cons_succ]
                    clear hwa hba
                    refine held_one 0 (by kernel_rfl) rfl (fun K hK => ?_)
                    go_simp
                    generalize hwa : World.alloc wa_16 _ = wa_17
                    have hba : Below wa_16.heap.size wa_16 wa_17 := by rw [← hwa]; exact (Below.refl _ _).alloc (Nat.le_refl _) _
                    have HI := Lib.hid (below_keep hba HI.out)
                    have HD := Lib.hid (below_keep hba HD.out)
                    refine hK.out _ _ (by (try dsimp only); exact ⟨keep_cell hba hHeld.1, keep_cell hba hHeld.2.1, keep_cell hba hHeld.2.2.1, keep_cell hba hHeld.2.2.2.1, keep_cell hba hHeld.2.2.2.2.1, ex_trans hHeld.2.2.2.2.2 hba⟩) (fun hNew => ?_)
                    clear hK K hHeld
                    have hHeld := hNew
                    clear hNew
                    try simp only [Act.put, List.setIfInBounds_toArray, List.set_cons_zero, List.set_cons_succ]
                    clear hwa hba
                    refine held_one 4 (by kernel_rfl) rfl (fun K hK => ?_)
                    refine step_append_row rfl (.tmp 83) (.tmp 86) _ rfl encPh Try.underlying55 hi hi0 hi1 hi2 rfl rfl rfl (FRow.any0 _ _ _ _ W5.heap.size _) (((Src.of_row encPh HL5.out.1).below hHeld.2.2.2.2.2).take encPh (k := m.length) (by omega)) (by unfold maxLen; omega) (by omega) hHeld.2.2.2.2.2.size ?_; intro A6 c6 w6_18 hr6 hc6 hx6
                    have hb6 : Below wa_17.heap.size wa_17 w6_18 := (show Chg [] wa_17 w6_18 from hc6.mono (by simp [rowBs_zero])).blow
                    have HI := Lib.hid (below_keep hb6 HI.out)
                    have HD := Lib.hid (below_keep hb6 HD.out)
                    have HR6 := Lib.hid (show FRow 107 5 ePh w6_18 W5.heap.size A6 m.length c6 ((L.map (·.1)).take m.length) by simpa using hr6)
                    refine hK.out _ _ (by (try dsimp only); exact ⟨keep_cell hb6 hHeld.1, keep_cell hb6 hHeld.2.1, keep_cell hb6 hHeld.2.2.1, keep_cell hb6 hHeld.2.2.2.1, keep_cell hb6 hHeld.2.2.2.2.1, ex_trans hHeld.2.2.2.2.2 hb6⟩) (fun hNew => ?_)
                    clear hK K hHeld
                    have hHeld := hNew
                    clear hNew
                    try simp only [Act.put, List.setIfInBounds_toArray, List.set_cons_zero, List.set_cons_succ]
                    clear hr6 hc6 hx6 hb6
                    try simp only [Nat.zero_add]
                    refine held_one 14 (by kernel_rfl) rfl (fun K hK => ?_)
                    refine step_append_row rfl (.tmp 87) (.tmp 96) _ rfl encPh Try.underlying55 hi hi0 hi1 hi2 rfl rfl rfl HR6.out (src_ph (⟨f.attrs[k].name, f.attrs[k].val, some ⟨Wd.heap.size, 0, none⟩, 1, 1⟩ : Ph) (blk_cell? HD.out 0) (blk_cell? HD.out 1) (blk_cell? HD.out 2) (blk_cell? HD.out 3) (blk_cell? HD.out 4)) (by unfold maxLen; omega) (by omega) hHeld.2.2.2.2.2.size ?_; intro A8 c8 w8 hr8 hc8 hx8
                    have HI8 := Lib.hid (hc8.keepb HI.out (HR6.out.apart HI.out (by decide)))
                    have HR8 := Lib.hid hr8
                    refine hK.out _ _ (by (try dsimp only); exact ⟨hc8.cell hHeld.1 (fun h => by have h1 := (HR6.out.base _ h).1; simp only at h1; omega), hc8.cell hHeld.2.1 (fun h => by have h1 := (HR6.out.base _ h).1; simp only at h1; omega), hc8.cell hHeld.2.2.1 (fun h => by have h1 := (HR6.out.base _ h).1; simp only at h1; omega), hc8.cell hHeld.2.2.2.1 (fun h => by have h1 := (HR6.out.base _ h).1; simp only at h1; omega), hc8.cell hHeld.2.2.2.2.1 (fun h => by have h1 := (HR6.out.base _ h).1; simp only at h1; omega), Below.mark hHeld.2.2.2.2.2 hc8 hHeld.2.2.2.2.2.size (fun b hb => (HR6.out.base b hb).1)⟩) (fun hNew => ?_)
                    clear hK K hHeld
                    have hHeld := hNew
                    clear hNew
                    try simp only [Act.put, List.setIfInBounds_toArray, List.set_cons_zero, List.set_cons_succ]
                    clear hr8 hc8 hx8
                    first | refine tkA 15 ?_ | refine skA 15 ?_
                    simp only [Act.put, List.setIfInBounds_toArray, List.set_cons_zero, List.set_cons_succ]
                    refine wpAnyH_done (by kernel_rfl) ?_ _
                    go_wp2_with fail
                    go_meet
                    exact ⟨A8, c8, Wd.heap.size, rfl, HR8.out, FRow.one f.id HGI.out HI8.out, hHeld.2.2.2.2.2⟩
              case rest =>
                generalize wc = W8 at *
                obtain ⟨A8, c8, gI, rfl, hr8, hi8, hb8⟩ := hcut
                have HR8 := Lib.hid hr8
                have HI8 := Lib.hid hi8
                have HB8 := Lib.hid hb8
                have hz8 := hb8.size
                clear hr8 hi8 hb8 a0 a1 a2 a3 f0
                go_wp2_with (at_builtin; refine wpList_append_row rfl (.tmp 98) (.tmp 101) _ rfl encPh Try.underlying55 hi hi0 hi1 hi2 rfl rfl rfl HR8.out (Src.none0 _ _) (by unfold maxLen; omega) (by omega) (by omega) ?_; intro A9 c9 w9 hr9 hc9 hx9; have hB9 : Below W5.heap.size W5 w9 := (Below.mark (B := W5.heap.size) (w := W5) HB8.out hc9 HB8.out.size (fun b hb => (HR8.out.base b hb).1)); have HZ := Lib.hid (And.intro hr9 (And.intro hc9 hB9)); clear hr9 hc9 hx9)
                all_goals
                  have hins : (insL L (⟨f.attrs[k].name, f.attrs[k].val, some ⟨gI, 0, none⟩, 1, 1⟩, [f.id]) m.length).map (·.1) = (L.map (·.1)).take m.length ++ [⟨f.attrs[k].name, f.attrs[k].val, some ⟨gI, 0, none⟩, 1, 1⟩] ++ (L.map (·.1)).drop m.length := by rw [insL_map]; simp [insL]
                  have hri : FRow 3 1 eInt w9 W5.heap.size (some ⟨gI, 0, none⟩) 1 1 [f.id] := HI8.out.chg HZ.out.2.1 (fun b hb hm => by
                    obtain ⟨g9, -, -, -, hr9', cur, hcur, -⟩ := HI8.out.row (by omega)
                    rw [hr9'] at hb
                    obtain rfl : b = g9 := by simpa using hb
                    exact HR8.out.apart hcur (by decide) hm)
                  have HN9 := Lib.hid (NRow.fresh_ins (K := (KPst 107 3)) (k := m.length) (x := (⟨f.attrs[k].name, f.attrs[k].val, some ⟨gI, 0, none⟩, 1, 1⟩, [f.id])) (n' := m.length + 1) (A' := A9) (c' := c9) HL5.out HZ.out.2.2 (by omega) (by rw [hins]; have h9 := HZ.out.1; rw [List.drop_of_length_le (by rw [List.length_map]; omega)]; simpa using h9) hri (by decide))
                  have HMU := Lib.hid (show addA f.id m f.attrs[k] = (insL L (⟨f.attrs[k].name, f.attrs[k].val, some ⟨gI, 0, none⟩, 1, 1⟩, [f.id]) m.length).map mkP by
                    rw [insL_map, HL.out.2]
                    unfold addA
                    rw [dif_neg (by rw [HNF.out]; omega), HFI.out]
                    rfl)
                  have HBX := Lib.hid (ex_trans HB5.out HZ.out.2.2)
                  have HHX := Lib.hid (HH5.out.below HZ.out.2.2)
                  clear hins hri
                  go_wp2_with fail
                  go_roundw
                  case rel => exact ⟨k + 1, m.length + 1, A9, c9, by omega, by go_num, rfl, fun x hx => HHX.out x (by obtain rfl := List.mem_singleton.1 hx; exact List.Mem.head _), ⟨_, HN9.out, by rw [HMS.out, HMU.out]⟩, HBX.out⟩
                  case measure => simp [intOf]; omega
    · obtain rfl : f.attrs.length = k := by omega
      rw [List.take_of_length_le (Nat.le_refl _)] at hrow
      have hrow' : PRows 107 3 wr (w.heap.size + 1) A1 n1 c1 (addX l f) := hrow
      have HR := Lib.hid (And.intro hrow' hrow'.len)
      clear hrow hrow'
      go_wp2_with fail
      go_returns
      obtain ⟨⟨L9, h8, h9⟩, h7⟩ := HR.out
      exact ⟨A1, c1, by rw [h7]; rfl, ⟨L9, by rw [h7]; exact h8.re (fun b hb => by have := (h8.base b hb).1; omega), h9⟩, hb⟩
end Go.Proofs.Ytjobgnioehkomaa
