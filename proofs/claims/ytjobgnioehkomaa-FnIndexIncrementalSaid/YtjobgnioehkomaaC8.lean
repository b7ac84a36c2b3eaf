/-
  CONTRACTS: a file is valid; sums.
-/
import Derived.WalkKit
import Derived.WalkSpells
import Derived.WalkLawsBesides
import Derived.Lib.Hide
import Derived.Handy
import Derived.StillTailTactics
import Derived.Deep.Light
import Derived.Deep.QuietTactic
import Derived.BigQuiet
import Derived.Deep.RegionHeld3
import Derived.Test.YtjobgnioehkomaaLib
import Derived.Test.YtjobgnioehkomaaHld
import Derived.Test.YtjobgnioehkomaaOwn
import Derived.Test.YtjobgnioehkomaaC1
import Derived.Test.YtjobgnioehkomaaC2
import Derived.Test.YtjobgnioehkomaaT1
import Derived.Test.YtjobgnioehkomaaT2
import Derived.Test.YtjobgnioehkomaaT3
import Derived.Test.YtjobgnioehkomaaC3
import Derived.Test.YtjobgnioehkomaaC4
import Derived.Test.YtjobgnioehkomaaC5
import Derived.Test.YtjobgnioehkomaaSz
import Derived.Test.YtjobgnioehkomaaRows
namespace Go.Proofs.Ytjobgnioehkomaa
open Go.RowKit
section
variable {P : Program} {L : List Oper} {Q : Exit → Act → World → Prop} {md : Region.Mode} {S : World → Prop}
private theorem tkA (i : Nat) {oi : Oper} {tl : List Oper} {v : Value} {fuel : Nat} {listed : Array Bool} {a : Act} {w : World}
    (h : wpAnyH P md L.toArray Q S fuel (listed.setIfInBounds i true) (a.put oi.dst v) w) (hd : L.drop i = oi :: tl := by exact rfl)
    (hs : Region.noSelect L.toArray = true := by kernel_rfl) (hf : Region.free md L.toArray listed i = true := by kernel_rfl) (hr : (Region.ready md L.toArray listed).contains i = true := by kernel_rfl)
    (hw : Region.wanted oi (yielded L.toArray a.tmps) = true := by rfl) (hQ : ∀ c a w, Q (.panic c) (a.put oi.dst v) w → Q (.panic c) a w := by exact fun _ _ _ h => h) (hS : S w := by assumption)
    (hy : ∀ w, S w → (execOp a.eval oi).run P w = .ok (.value v) w := by intro w hSw; (try dsimp only at hSw); go_simp; first | done | with_reducible rfl) : wpAnyH P md L.toArray Q S (fuel + 1) listed a w :=
  held_take i hd hs hf hr hw hQ hS hy h
private theorem skA (i : Nat) {oi : Oper} {tl : List Oper} {fuel : Nat} {listed : Array Bool} {a : Act} {w : World}
    (h : wpAnyH P md L.toArray Q S fuel (listed.setIfInBounds i true) (a.put oi.dst undef) w) (hd : L.drop i = oi :: tl := by exact rfl)
    (hs : Region.noSelect L.toArray = true := by kernel_rfl) (hf : Region.free md L.toArray listed i = true := by kernel_rfl) (hr : (Region.ready md L.toArray listed).contains i = true := by kernel_rfl)
    (hw : Region.wanted oi (yielded L.toArray a.tmps) = false := by rfl) (hQ : ∀ c a w, Q (.panic c) (a.put oi.dst undef) w → Q (.panic c) a w := by exact fun _ _ _ h => h) (hS : S w := by assumption) : wpAnyH P md L.toArray Q S (fuel + 1) listed a w :=
  held_skip i hd hs hf hr hw hQ hS h
end
set_option linter.unusedVariables false
set_option maxRecDepth 100000
noncomputable def attrBad (s : List Fld) (l : List Atr) (k : Nat) : Bool :=
  if h : k < l.length then (decide (0 < k) && !Op.bytesLess (l[k - 1]'(by omega)).name.toList l[k].name.toList) || !matchF s l[k].name l[k].val else false
def goodA (s : List Fld) (l : List Atr) (k : Nat) : Prop := ∀ i, i < k → attrBad s l i = false
open Classical in
noncomputable def validA (s : List Fld) (l : List Atr) : Bool := decide (goodA s l l.length)
theorem goodA_zero (s : List Fld) (l : List Atr) : goodA s l 0 := fun i h => by omega
theorem goodA_succ {s : List Fld} {l : List Atr} {k : Nat} (h : goodA s l k) (hk : attrBad s l k = false) : goodA s l (k + 1) := fun i hi => by
  by_cases e : i = k
  · rw [e]; exact hk
  · exact h i (by omega)
theorem validA_bad {s : List Fld} {l : List Atr} {k : Nat} (hk : k < l.length) (h : attrBad s l k = true) : validA s l = false := by
  classical
  simp only [validA, decide_eq_false_iff_not]
  intro hg
  rw [hg k hk] at h
  cases h
theorem validA_all {s : List Fld} {l : List Atr} (h : goodA s l l.length) : validA s l = true := by
  classical
  simpa only [validA, decide_eq_true_eq] using h
noncomputable def validF (s : List Fld) (f : Fil) : Bool := validA s f.attrs && (inB f.id 1 60 && inB f.owner 0 2 && inB f.link 0 60 && okSchema s)
set_option maxHeartbeats 4000000 in
theorem impl_IsValidFile (A : Option Addr) (n c : Nat) (l : List Fld) (f : Fil) (B : Option Addr) (m d : Nat) (w : World) (hS : Sl 2 RFld w A n l) (hn : n ≤ 1073741824) (hT : Sl 4 RAtr w B m f.attrs) (hl : ∀ y ∈ l, y.ok 1073741824) (hf : f.ok 1073741824) :
    Calls Try.prog 26 #[.slice A n c, f.v B m d] w fun e w' => e = .returned (.bool (validF l f)) ∧ Below w.heap.size w w' := by
  obtain rfl : f.attrs.length = m := hT.len
  have hm : f.attrs.length ≤ 1073741824 := hf.1
  have HI := Lib.hid fun w' (hb : Below w.heap.size w w') => impl_IsValidSchema A n c l w' (hS.mono mFld hb) hn hl
  clear hl
  go_enter Try.func26, Try.ntmps26
  go_wp2_with fail
  go_loopw [10] (fun i wr => ∃ k : Nat, k ≤ f.attrs.length ∧ i = .int .i64 k ∧ goodA l f.attrs k ∧ wr.cell? ⟨w.heap.size, 0, none⟩ = some (.int .i64 f.id) ∧ wr.cell? ⟨w.heap.size, 1, none⟩ = some (.int .i64 f.owner) ∧ wr.cell? ⟨w.heap.size, 3, none⟩ = some (.int .i64 f.link) ∧ wr.cell? ⟨w.heap.size, 4, none⟩ = some (.slice B f.attrs.length d) ∧ Below w.heap.size w wr) (fun i _ => f.attrs.length - (intOf i).toNat)
  case atStart => exact ⟨0, Nat.zero_le _, rfl, goodA_zero _ _, by go_simp, by go_simp, by go_simp, by go_simp, by go_grown⟩
  case round =>
    obtain ⟨k, hk, rfl, hG, x0, x1, x3, x4, hb⟩ := hrel
    have hzw : w.heap.size < wr.heap.size := World.block_lt_of_cell? wr ⟨w.heap.size, 0, none⟩ x0
    by_cases hlt : k < f.attrs.length
    · have i0 : (0 : Int) ≤ (k : Int) := by omega
      have i1 : (k : Int) < (f.attrs.length : Int) := by omega
      obtain ⟨b, off, rfl, bw, bc⟩ := hT.atr (by omega)
      obtain ⟨q0, q1, q2, q3⟩ := bc k (by omega)
      rw [← hb.cell (p := ⟨b, _, none⟩) bw] at q0 q1 q2 q3
      have bwr : b < wr.heap.size := Nat.lt_of_lt_of_le bw hb.size
      have hov : f.attrs[k].val.str.size ≤ 1073741824 := (hf.2 f.attrs[k] (List.getElem_mem _)).2
      have CM := Lib.hid fun w' (hb : Below w.heap.size w w') => impl_MatchesSchema A n c l f.attrs[k].name f.attrs[k].val w' (hS.mono mFld hb) hn hov
      clear hf hov
      by_cases h0 : 0 < k
      · obtain ⟨p0, p1, p2, p3⟩ := bc (k - 1) (by omega)
        rw [← hb.cell (p := ⟨b, _, none⟩) bw] at p0
        clear bc p1 p2 p3
        have h0' : (0 : Int) < (k : Int) := by omega
        have s1 : IntKind.i64.wrap ((k : Int) - 1) = (k : Int) - 1 := IntWalk.i64_in _ (by omega)
        have s2 : 0 ≤ (k : Int) - 1 := by omega
        have s2' : 1 ≤ (k : Int) := by omega
        have s3 : ((k : Int) - 1).toNat = k - 1 := by omega
        have s4 : (k : Int) - 1 < (f.attrs.length : Int) := by omega
        cases hless : Op.bytesLess (f.attrs[k - 1]'(by omega)).name.toList f.attrs[k].name.toList with
        | false =>
          have HZ := Lib.hid (show false = validF l f by rw [validF, validA_bad hlt (by rw [attrBad, dif_pos hlt, hless, decide_eq_true h0]; rfl)]; rfl)
          clear hG
          go_wp2_with fail
          refine wp_region_held_drew (S := (fun w' => w'.cell? ⟨w.heap.size, 0, none⟩ = some (.int .i64 f.id) ∧ w'.cell? ⟨w.heap.size, 1, none⟩ = some (.int .i64 f.owner) ∧ w'.cell? ⟨w.heap.size, 3, none⟩ = some (.int .i64 f.link) ∧ w'.cell? ⟨w.heap.size, 4, none⟩ = some (.slice (some ⟨b, off, none⟩) f.attrs.length d) ∧ w'.cell? ⟨wr.heap.size, 0, none⟩ = some (.string f.attrs[k].name) ∧ w'.cell? ⟨wr.heap.size, 1, none⟩ = some (.int .i64 f.attrs[k].val.kind) ∧ w'.cell? ⟨wr.heap.size, 2, none⟩ = some (.int .i64 f.attrs[k].val.int) ∧ w'.cell? ⟨wr.heap.size, 3, none⟩ = some (.string f.attrs[k].val.str) ∧ w'.cell? ⟨b, off + (k - 1) * 4, none⟩ = some (.string (f.attrs[k - 1]'(by omega)).name) ∧ Below w.heap.size w w')) (by kernel_rfl) (by (try dsimp only); exact ⟨by go_simp, by go_simp, by go_simp, by go_simp, by go_simp, by go_simp, by go_simp, by go_simp, by go_simp, (ex_alloc hb _).drew⟩) (fun hHeld => ?_)
          first | refine tkA 0 ?_ | refine skA 0 ?_
          simp only [Act.put, List.setIfInBounds_toArray, List.set_cons_zero, List.set_cons_succ]
          first | refine tkA 1 ?_ | refine skA 1 ?_
          simp only [Act.put, List.setIfInBounds_toArray, List.set_cons_zero, List.set_cons_succ]
          first | refine tkA 2 ?_ | refine skA 2 ?_
          simp only [Act.put, List.setIfInBounds_toArray, List.set_cons_zero, List.set_cons_succ]
          first | refine tkA 3 ?_ | refine skA 3 ?_
          simp only [Act.put, List.setIfInBounds_toArray, List.set_cons_zero, List.set_cons_succ]
          first | refine tkA 4 ?_ | refine skA 4 ?_
          simp only [Act.put, List.setIfInBounds_toArray, List.set_cons_zero, List.set_cons_succ]
          first | refine tkA 5 ?_ | refine skA 5 ?_
          simp only [Act.put, List.setIfInBounds_toArray, List.set_cons_zero, List.set_cons_succ]
          first | refine tkA 6 ?_ | refine skA 6 ?_
          simp only [Act.put, List.setIfInBounds_toArray, List.set_cons_zero, List.set_cons_succ]
          first | refine tkA 7 ?_ | refine skA 7 ?_
          simp only [Act.put, List.setIfInBounds_toArray, List.set_cons_zero, List.set_cons_succ]
          first | refine tkA 8 ?_ | refine skA 8 ?_
          simp only [Act.put, List.setIfInBounds_toArray, List.set_cons_zero, List.set_cons_succ]
          first | refine tkA 9 ?_ | refine skA 9 ?_
          simp only [Act.put, List.setIfInBounds_toArray, List.set_cons_zero, List.set_cons_succ]
          first | refine tkA 10 ?_ | refine skA 10 ?_
          simp only [Act.put, List.setIfInBounds_toArray, List.set_cons_zero, List.set_cons_succ]
          first | refine tkA 11 ?_ | refine skA 11 ?_
          simp only [Act.put, List.setIfInBounds_toArray, List.set_cons_zero, List.set_cons_succ]
          first | refine tkA 12 ?_ | refine skA 12 ?_
          simp only [Act.put, List.setIfInBounds_toArray, List.set_cons_zero, List.set_cons_succ]
          first | refine tkA 13 ?_ | refine skA 13 ?_
          simp only [Act.put, List.setIfInBounds_toArray, List.set_cons_zero, List.set_cons_succ]
          first | refine tkA 14 ?_ | refine skA 14 ?_
          simp only [Act.put, List.setIfInBounds_toArray, List.set_cons_zero, List.set_cons_succ]
          first | refine tkA 15 ?_ | refine skA 15 ?_
          simp only [Act.put, List.setIfInBounds_toArray, List.set_cons_zero, List.set_cons_succ]
          first | refine tkA 16 ?_ | refine skA 16 ?_
          simp only [Act.put, List.setIfInBounds_toArray, List.set_cons_zero, List.set_cons_succ]
          first | refine tkA 17 ?_ | refine skA 17 ?_
          simp only [Act.put, List.setIfInBounds_toArray, List.set_cons_zero, List.set_cons_succ]
          first | refine tkA 18 ?_ | refine skA 18 ?_
          simp only [Act.put, List.setIfInBounds_toArray, List.set_cons_zero, List.set_cons_succ]
          first | refine tkA 19 ?_ | refine skA 19 ?_
          simp only [Act.put, List.setIfInBounds_toArray, List.set_cons_zero, List.set_cons_succ]
          first | refine tkA 20 ?_ | refine skA 20 ?_
          simp only [Act.put, List.setIfInBounds_toArray, List.set_cons_zero, List.set_cons_succ]
          first | refine tkA 21 ?_ | refine skA 21 ?_
          simp only [Act.put, List.setIfInBounds_toArray, List.set_cons_zero, List.set_cons_succ]
          first | refine tkA 22 ?_ | refine skA 22 ?_
          simp only [Act.put, List.setIfInBounds_toArray, List.set_cons_zero, List.set_cons_succ]
          refine wpAnyH_done (by kernel_rfl) ?_ _
          have hB := hHeld.2.2.2.2.2.2.2.2.2
          obtain ⟨x0, x1, x3, x4, _⟩ := hHeld
          go_wp2_with fail
          go_returns
          exact ⟨ret_bool HZ.out, hB⟩
        | true =>
          cases hm1 : matchF l f.attrs[k].name f.attrs[k].val with
          | false =>
            have HZ := Lib.hid (show false = validF l f by rw [validF, validA_bad hlt (by rw [attrBad, dif_pos hlt, hless, hm1]; simp)]; rfl)
            have HM := Lib.hid fun w' hb => by have h := CM.out w' hb; rw [hm1] at h; exact h
            clear hG hm1 CM
            go_wp2_with fail
            refine wp_region_held_drew (S := (fun w' => w'.cell? ⟨w.heap.size, 0, none⟩ = some (.int .i64 f.id) ∧ w'.cell? ⟨w.heap.size, 1, none⟩ = some (.int .i64 f.owner) ∧ w'.cell? ⟨w.heap.size, 3, none⟩ = some (.int .i64 f.link) ∧ w'.cell? ⟨w.heap.size, 4, none⟩ = some (.slice (some ⟨b, off, none⟩) f.attrs.length d) ∧ w'.cell? ⟨wr.heap.size, 0, none⟩ = some (.string f.attrs[k].name) ∧ w'.cell? ⟨wr.heap.size, 1, none⟩ = some (.int .i64 f.attrs[k].val.kind) ∧ w'.cell? ⟨wr.heap.size, 2, none⟩ = some (.int .i64 f.attrs[k].val.int) ∧ w'.cell? ⟨wr.heap.size, 3, none⟩ = some (.string f.attrs[k].val.str) ∧ w'.cell? ⟨b, off + (k - 1) * 4, none⟩ = some (.string (f.attrs[k - 1]'(by omega)).name) ∧ Below w.heap.size w w')) (by kernel_rfl) (by (try dsimp only); exact ⟨by go_simp, by go_simp, by go_simp, by go_simp, by go_simp, by go_simp, by go_simp, by go_simp, by go_simp, (ex_alloc hb _).drew⟩) (fun hHeld => ?_)
            first | refine tkA 0 ?_ | refine skA 0 ?_
            simp only [Act.put, List.setIfInBounds_toArray, List.set_cons_zero, List.set_cons_succ]
            first | refine tkA 1 ?_ | refine skA 1 ?_
            simp only [Act.put, List.setIfInBounds_toArray, List.set_cons_zero, List.set_cons_succ]
            first | refine tkA 2 ?_ | refine skA 2 ?_
            simp only [Act.put, List.setIfInBounds_toArray, List.set_cons_zero, List.set_cons_succ]
            first | refine tkA 3 ?_ | refine skA 3 ?_
            simp only [Act.put, List.setIfInBounds_toArray, List.set_cons_zero, List.set_cons_succ]
            first | refine tkA 4 ?_ | refine skA 4 ?_
            simp only [Act.put, List.setIfInBounds_toArray, List.set_cons_zero, List.set_cons_succ]
            first | refine tkA 5 ?_ | refine skA 5 ?_
            simp only [Act.put, List.setIfInBounds_toArray, List.set_cons_zero, List.set_cons_succ]
            first | refine tkA 6 ?_ | refine skA 6 ?_
            simp only [Act.put, List.setIfInBounds_toArray, List.set_cons_zero, List.set_cons_succ]
            first | refine tkA 7 ?_ | refine skA 7 ?_
            simp only [Act.put, List.setIfInBounds_toArray, List.set_cons_zero, List.set_cons_succ]
            first | refine tkA 8 ?_ | refine skA 8 ?_
            simp only [Act.put, List.setIfInBounds_toArray, List.set_cons_zero, List.set_cons_succ]
            first | refine tkA 9 ?_ | refine skA 9 ?_
            simp only [Act.put, List.setIfInBounds_toArray, List.set_cons_zero, List.set_cons_succ]
            first | refine tkA 10 ?_ | refine skA 10 ?_
            simp only [Act.put, List.setIfInBounds_toArray, List.set_cons_zero, List.set_cons_succ]
            first | refine tkA 11 ?_ | refine skA 11 ?_
            simp only [Act.put, List.setIfInBounds_toArray, List.set_cons_zero, List.set_cons_succ]
            first | refine tkA 12 ?_ | refine skA 12 ?_
            simp only [Act.put, List.setIfInBounds_toArray, List.set_cons_zero, List.set_cons_succ]
            first | refine tkA 13 ?_ | refine skA 13 ?_
            simp only [Act.put, List.setIfInBounds_toArray, List.set_cons_zero, List.set_cons_succ]
            first | refine tkA 14 ?_ | refine skA 14 ?_
            simp only [Act.put, List.setIfInBounds_toArray, List.set_cons_zero, List.set_cons_succ]
            first | refine tkA 15 ?_ | refine skA 15 ?_
            simp only [Act.put, List.setIfInBounds_toArray, List.set_cons_zero, List.set_cons_succ]
            first | refine tkA 16 ?_ | refine skA 16 ?_
            simp only [Act.put, List.setIfInBounds_toArray, List.set_cons_zero, List.set_cons_succ]
            first | refine tkA 17 ?_ | refine skA 17 ?_
            simp only [Act.put, List.setIfInBounds_toArray, List.set_cons_zero, List.set_cons_succ]
            first | refine tkA 18 ?_ | refine skA 18 ?_
            simp only [Act.put, List.setIfInBounds_toArray, List.set_cons_zero, List.set_cons_succ]
            first | refine tkA 19 ?_ | refine skA 19 ?_
            simp only [Act.put, List.setIfInBounds_toArray, List.set_cons_zero, List.set_cons_succ]
            refine held_one 20 (by kernel_rfl) rfl (fun K hK => ?_)
            go_simp
            go_at_call 81
            refine (HM.out _ hHeld.2.2.2.2.2.2.2.2.2).mono ?_; rintro e w1 ⟨rfl, hb1⟩
            go_wp2_with fail
            refine hK.out _ _ (by (try dsimp only); obtain ⟨y0, y1, y2, y3, y4, y5, y6, y7, y8, yb⟩ := hHeld; exact ⟨keep_cell hb1 y0, keep_cell hb1 y1, keep_cell hb1 y2, keep_cell hb1 y3, keep_cell hb1 y4, keep_cell hb1 y5, keep_cell hb1 y6, keep_cell hb1 y7, keep_cell hb1 y8, ex_trans yb hb1⟩) (fun hNew => ?_)
            clear hK K hHeld
            have hHeld := hNew
            clear hNew
            try simp only [Act.put, List.setIfInBounds_toArray, List.set_cons_zero, List.set_cons_succ]
            first | refine tkA 21 ?_ | refine skA 21 ?_
            simp only [Act.put, List.setIfInBounds_toArray, List.set_cons_zero, List.set_cons_succ]
            first | refine tkA 22 ?_ | refine skA 22 ?_
            simp only [Act.put, List.setIfInBounds_toArray, List.set_cons_zero, List.set_cons_succ]
            refine wpAnyH_done (by kernel_rfl) ?_ _
            have hB := hHeld.2.2.2.2.2.2.2.2.2
            obtain ⟨x0, x1, x3, x4, _⟩ := hHeld
            go_wp2_with fail
            go_returns
            exact ⟨ret_bool HZ.out, hB⟩
          | true =>
            have HG := Lib.hid (goodA_succ hG (by rw [attrBad, dif_pos hlt, hless, hm1]; simp))
            have HM := Lib.hid fun w' hb => by have h := CM.out w' hb; rw [hm1] at h; exact h
            clear hG hm1 CM
            go_wp2_with fail
            refine wp_region_held_drew (S := (fun w' => w'.cell? ⟨w.heap.size, 0, none⟩ = some (.int .i64 f.id) ∧ w'.cell? ⟨w.heap.size, 1, none⟩ = some (.int .i64 f.owner) ∧ w'.cell? ⟨w.heap.size, 3, none⟩ = some (.int .i64 f.link) ∧ w'.cell? ⟨w.heap.size, 4, none⟩ = some (.slice (some ⟨b, off, none⟩) f.attrs.length d) ∧ w'.cell? ⟨wr.heap.size, 0, none⟩ = some (.string f.attrs[k].name) ∧ w'.cell? ⟨wr.heap.size, 1, none⟩ = some (.int .i64 f.attrs[k].val.kind) ∧ w'.cell? ⟨wr.heap.size, 2, none⟩ = some (.int .i64 f.attrs[k].val.int) ∧ w'.cell? ⟨wr.heap.size, 3, none⟩ = some (.string f.attrs[k].val.str) ∧ w'.cell? ⟨b, off + (k - 1) * 4, none⟩ = some (.string (f.attrs[k - 1]'(by omega)).name) ∧ Below w.heap.size w w')) (by kernel_rfl) (by (try dsimp only); exact ⟨by go_simp, by go_simp, by go_simp, by go_simp, by go_simp, by go_simp, by go_simp, by go_simp, by go_simp, (ex_alloc hb _).drew⟩) (fun hHeld => ?_)
            first | refine tkA 0 ?_ | refine skA 0 ?_
            simp only [Act.put, List.setIfInBounds_toArray, List.set_cons_zero, List.set_cons_succ]
            first | refine tkA 1 ?_ | refine skA 1 ?_
            simp only [Act.put, List.setIfInBounds_toArray, List.set_cons_zero, List.set_cons_succ]
            first | refine tkA 2 ?_ | refine skA 2 ?_
            simp only [Act.put, List.setIfInBounds_toArray, List.set_cons_zero, List.set_cons_succ]
            first | refine tkA 3 ?_ | refine skA 3 ?_
            simp only [Act.put, List.setIfInBounds_toArray, List.set_cons_zero, List.set_cons_succ]
            first | refine tkA 4 ?_ | refine skA 4 ?_
            simp only [Act.put, List.setIfInBounds_toArray, List.set_cons_zero, List.set_cons_succ]
            first | refine tkA 5 ?_ | refine skA 5 ?_
            simp only [Act.put, List.setIfInBounds_toArray, List.set_cons_zero, List.set_cons_succ]
            first | refine tkA 6 ?_ | refine skA 6 ?_
            simp only [Act.put, List.setIfInBounds_toArray, List.set_cons_zero, List.set_cons_succ]
            first | refine tkA 7 ?_ | refine skA 7 ?_
            simp only [Act.put, List.setIfInBounds_toArray, List.set_cons_zero, List.set_cons_succ]
            first | refine tkA 8 ?_ | refine skA 8 ?_
            simp only [Act.put, List.setIfInBounds_toArray, List.set_cons_zero, List.set_cons_succ]
            first | refine tkA 9 ?_ | refine skA 9 ?_
            simp only [Act.put, List.setIfInBounds_toArray, List.set_cons_zero, List.set_cons_succ]
            first | refine tkA 10 ?_ | refine skA 10 ?_
            simp only [Act.put, List.setIfInBounds_toArray, List.set_cons_zero, List.set_cons_succ]
            first | refine tkA 11 ?_ | refine skA 11 ?_
            simp only [Act.put, List.setIfInBounds_toArray, List.set_cons_zero, List.set_cons_succ]
            first | refine tkA 12 ?_ | refine skA 12 ?_
            simp only [Act.put, List.setIfInBounds_toArray, List.set_cons_zero, List.set_cons_succ]
            first | refine tkA 13 ?_ | refine skA 13 ?_
            simp only [Act.put, List.setIfInBounds_toArray, List.set_cons_zero, List.set_cons_succ]
            first | refine tkA 14 ?_ | refine skA 14 ?_
            simp only [Act.put, List.setIfInBounds_toArray, List.set_cons_zero, List.set_cons_succ]
            first | refine tkA 15 ?_ | refine skA 15 ?_
            simp only [Act.put, List.setIfInBounds_toArray, List.set_cons_zero, List.set_cons_succ]
            first | refine tkA 16 ?_ | refine skA 16 ?_
            simp only [Act.put, List.setIfInBounds_toArray, List.set_cons_zero, List.set_cons_succ]
            first | refine tkA 17 ?_ | refine skA 17 ?_
            simp only [Act.put, List.setIfInBounds_toArray, List.set_cons_zero, List.set_cons_succ]
            first | refine tkA 18 ?_ | refine skA 18 ?_
            simp only [Act.put, List.setIfInBounds_toArray, List.set_cons_zero, List.set_cons_succ]
            first | refine tkA 19 ?_ | refine skA 19 ?_
            simp only [Act.put, List.setIfInBounds_toArray, List.set_cons_zero, List.set_cons_succ]
            refine held_one 20 (by kernel_rfl) rfl (fun K hK => ?_)
            go_simp
            go_at_call 81
            refine (HM.out _ hHeld.2.2.2.2.2.2.2.2.2).mono ?_; rintro e w1 ⟨rfl, hb1⟩
            go_wp2_with fail
            refine hK.out _ _ (by (try dsimp only); obtain ⟨y0, y1, y2, y3, y4, y5, y6, y7, y8, yb⟩ := hHeld; exact ⟨keep_cell hb1 y0, keep_cell hb1 y1, keep_cell hb1 y2, keep_cell hb1 y3, keep_cell hb1 y4, keep_cell hb1 y5, keep_cell hb1 y6, keep_cell hb1 y7, keep_cell hb1 y8, ex_trans yb hb1⟩) (fun hNew => ?_)
            clear hK K hHeld
            have hHeld := hNew
            clear hNew
            try simp only [Act.put, List.setIfInBounds_toArray, List.set_cons_zero, List.set_cons_succ]
            first | refine tkA 21 ?_ | refine skA 21 ?_
            simp only [Act.put, List.setIfInBounds_toArray, List.set_cons_zero, List.set_cons_succ]
            first | refine tkA 22 ?_ | refine skA 22 ?_
            simp only [Act.put, List.setIfInBounds_toArray, List.set_cons_zero, List.set_cons_succ]
            refine wpAnyH_done (by kernel_rfl) ?_ _
            have hB := hHeld.2.2.2.2.2.2.2.2.2
            obtain ⟨x0, x1, x3, x4, _⟩ := hHeld
            go_wp2_with fail
            go_roundw
            case rel => exact ⟨k + 1, by omega, by go_num, HG.out, by assumption, by assumption, by assumption, by assumption, hB⟩
            case measure => simp [intOf]; omega
      · obtain rfl : k = 0 := by omega
        simp only [Nat.zero_mul, Nat.add_zero] at q0 q1 q2 q3
        clear bc
        cases hm1 : matchF l f.attrs[0].name f.attrs[0].val with
        | false =>
          have HZ := Lib.hid (show false = validF l f by rw [validF, validA_bad hlt (by rw [attrBad, dif_pos hlt, hm1]; simp)]; rfl)
          have HM := Lib.hid fun w' hb => by have h := CM.out w' hb; rw [hm1] at h; exact h
          clear hG hm1 CM
          go_wp2_with fail
          refine wp_region_held_drew (S := (fun w' => w'.cell? ⟨w.heap.size, 0, none⟩ = some (.int .i64 f.id) ∧ w'.cell? ⟨w.heap.size, 1, none⟩ = some (.int .i64 f.owner) ∧ w'.cell? ⟨w.heap.size, 3, none⟩ = some (.int .i64 f.link) ∧ w'.cell? ⟨w.heap.size, 4, none⟩ = some (.slice (some ⟨b, off, none⟩) f.attrs.length d) ∧ w'.cell? ⟨wr.heap.size, 0, none⟩ = some (.string f.attrs[0].name) ∧ w'.cell? ⟨wr.heap.size, 1, none⟩ = some (.int .i64 f.attrs[0].val.kind) ∧ w'.cell? ⟨wr.heap.size, 2, none⟩ = some (.int .i64 f.attrs[0].val.int) ∧ w'.cell? ⟨wr.heap.size, 3, none⟩ = some (.string f.attrs[0].val.str) ∧ Below w.heap.size w w')) (by kernel_rfl) (by (try dsimp only); exact ⟨by go_simp, by go_simp, by go_simp, by go_simp, by go_simp, by go_simp, by go_simp, by go_simp, (ex_alloc hb _).drew⟩) (fun hHeld => ?_)
          first | refine tkA 0 ?_ | refine skA 0 ?_
          simp only [Act.put, List.setIfInBounds_toArray, List.set_cons_zero, List.set_cons_succ]
          first | refine tkA 1 ?_ | refine skA 1 ?_
          simp only [Act.put, List.setIfInBounds_toArray, List.set_cons_zero, List.set_cons_succ]
          first | refine tkA 2 ?_ | refine skA 2 ?_
          simp only [Act.put, List.setIfInBounds_toArray, List.set_cons_zero, List.set_cons_succ]
          first | refine tkA 3 ?_ | refine skA 3 ?_
          simp only [Act.put, List.setIfInBounds_toArray, List.set_cons_zero, List.set_cons_succ]
          first | refine tkA 4 ?_ | refine skA 4 ?_
          simp only [Act.put, List.setIfInBounds_toArray, List.set_cons_zero, List.set_cons_succ]
          first | refine tkA 5 ?_ | refine skA 5 ?_
          simp only [Act.put, List.setIfInBounds_toArray, List.set_cons_zero, List.set_cons_succ]
          first | refine tkA 6 ?_ | refine skA 6 ?_
          simp only [Act.put, List.setIfInBounds_toArray, List.set_cons_zero, List.set_cons_succ]
          first | refine tkA 7 ?_ | refine skA 7 ?_
          simp only [Act.put, List.setIfInBounds_toArray, List.set_cons_zero, List.set_cons_succ]
          first | refine tkA 8 ?_ | refine skA 8 ?_
          simp only [Act.put, List.setIfInBounds_toArray, List.set_cons_zero, List.set_cons_succ]
          first | refine tkA 9 ?_ | refine skA 9 ?_
          simp only [Act.put, List.setIfInBounds_toArray, List.set_cons_zero, List.set_cons_succ]
          first | refine tkA 10 ?_ | refine skA 10 ?_
          simp only [Act.put, List.setIfInBounds_toArray, List.set_cons_zero, List.set_cons_succ]
          first | refine tkA 11 ?_ | refine skA 11 ?_
          simp only [Act.put, List.setIfInBounds_toArray, List.set_cons_zero, List.set_cons_succ]
          first | refine tkA 12 ?_ | refine skA 12 ?_
          simp only [Act.put, List.setIfInBounds_toArray, List.set_cons_zero, List.set_cons_succ]
          first | refine tkA 13 ?_ | refine skA 13 ?_
          simp only [Act.put, List.setIfInBounds_toArray, List.set_cons_zero, List.set_cons_succ]
          first | refine tkA 14 ?_ | refine skA 14 ?_
          simp only [Act.put, List.setIfInBounds_toArray, List.set_cons_zero, List.set_cons_succ]
          first | refine tkA 15 ?_ | refine skA 15 ?_
          simp only [Act.put, List.setIfInBounds_toArray, List.set_cons_zero, List.set_cons_succ]
          first | refine tkA 16 ?_ | refine skA 16 ?_
          simp only [Act.put, List.setIfInBounds_toArray, List.set_cons_zero, List.set_cons_succ]
          first | refine tkA 17 ?_ | refine skA 17 ?_
          simp only [Act.put, List.setIfInBounds_toArray, List.set_cons_zero, List.set_cons_succ]
          first | refine tkA 18 ?_ | refine skA 18 ?_
          simp only [Act.put, List.setIfInBounds_toArray, List.set_cons_zero, List.set_cons_succ]
          first | refine tkA 19 ?_ | refine skA 19 ?_
          simp only [Act.put, List.setIfInBounds_toArray, List.set_cons_zero, List.set_cons_succ]
          refine held_one 20 (by kernel_rfl) rfl (fun K hK => ?_)
          go_simp
          go_at_call 81
          refine (HM.out _ hHeld.2.2.2.2.2.2.2.2).mono ?_; rintro e w1 ⟨rfl, hb1⟩
          go_wp2_with fail
          refine hK.out _ _ (by (try dsimp only); obtain ⟨y0, y1, y2, y3, y4, y5, y6, y7, yb⟩ := hHeld; exact ⟨keep_cell hb1 y0, keep_cell hb1 y1, keep_cell hb1 y2, keep_cell hb1 y3, keep_cell hb1 y4, keep_cell hb1 y5, keep_cell hb1 y6, keep_cell hb1 y7, ex_trans yb hb1⟩) (fun hNew => ?_)
          clear hK K hHeld
          have hHeld := hNew
          clear hNew
          try simp only [Act.put, List.setIfInBounds_toArray, List.set_cons_zero, List.set_cons_succ]
          first | refine tkA 21 ?_ | refine skA 21 ?_
          simp only [Act.put, List.setIfInBounds_toArray, List.set_cons_zero, List.set_cons_succ]
          first | refine tkA 22 ?_ | refine skA 22 ?_
          simp only [Act.put, List.setIfInBounds_toArray, List.set_cons_zero, List.set_cons_succ]
          refine wpAnyH_done (by kernel_rfl) ?_ _
          have hB := hHeld.2.2.2.2.2.2.2.2
          obtain ⟨x0, x1, x3, x4, _⟩ := hHeld
          go_wp2_with fail
          go_returns
          exact ⟨ret_bool HZ.out, hB⟩
        | true =>
          have HG := Lib.hid (goodA_succ hG (by rw [attrBad, dif_pos hlt, hm1]; simp))
          have HM := Lib.hid fun w' hb => by have h := CM.out w' hb; rw [hm1] at h; exact h
          clear hG hm1 CM
          go_wp2_with fail
          refine wp_region_held_drew (S := (fun w' => w'.cell? ⟨w.heap.size, 0, none⟩ = some (.int .i64 f.id) ∧ w'.cell? ⟨w.heap.size, 1, none⟩ = some (.int .i64 f.owner) ∧ w'.cell? ⟨w.heap.size, 3, none⟩ = some (.int .i64 f.link) ∧ w'.cell? ⟨w.heap.size, 4, none⟩ = some (.slice (some ⟨b, off, none⟩) f.attrs.length d) ∧ w'.cell? ⟨wr.heap.size, 0, none⟩ = some (.string f.attrs[0].name) ∧ w'.cell? ⟨wr.heap.size, 1, none⟩ = some (.int .i64 f.attrs[0].val.kind) ∧ w'.cell? ⟨wr.heap.size, 2, none⟩ = some (.int .i64 f.attrs[0].val.int) ∧ w'.cell? ⟨wr.heap.size, 3, none⟩ = some (.string f.attrs[0].val.str) ∧ Below w.heap.size w w')) (by kernel_rfl) (by (try dsimp only); exact ⟨by go_simp, by go_simp, by go_simp, by go_simp, by go_simp, by go_simp, by go_simp, by go_simp, (ex_alloc hb _).drew⟩) (fun hHeld => ?_)
          first | refine tkA 0 ?_ | refine skA 0 ?_
          simp only [Act.put, List.setIfInBounds_toArray, List.set_cons_zero, List.set_cons_succ]
          first | refine tkA 1 ?_ | refine skA 1 ?_
          simp only [Act.put, List.setIfInBounds_toArray, List.set_cons_zero, List.set_cons_succ]
          first | refine tkA 2 ?_ | refine skA 2 ?_
          simp only [Act.put, List.setIfInBounds_toArray, List.set_cons_zero, List.set_cons_succ]
          first | refine tkA 3 ?_ | refine skA 3 ?_
          simp only [Act.put, List.setIfInBounds_toArray, List.set_cons_zero, List.set_cons_succ]
          first | refine tkA 4 ?_ | refine skA 4 ?_
          simp only [Act.put, List.setIfInBounds_toArray, List.set_cons_zero, List.set_cons_succ]
          first | refine tkA 5 ?_ | refine skA 5 ?_
          simp only [Act.put, List.setIfInBounds_toArray, List.set_cons_zero, List.set_cons_succ]
          first | refine tkA 6 ?_ | refine skA 6 ?_
          simp only [Act.put, List.setIfInBounds_toArray, List.set_cons_zero, List.set_cons_succ]
          first | refine tkA 7 ?_ | refine skA 7 ?_
          simp only [Act.put, List.setIfInBounds_toArray, List.set_cons_zero, List.set_cons_succ]
          first | refine tkA 8 ?_ | refine skA 8 ?_
          simp only [Act.put, List.setIfInBounds_toArray, List.set_cons_zero, List.set_cons_succ]
          first | refine tkA 9 ?_ | refine skA 9 ?_
          simp only [Act.put, List.setIfInBounds_toArray, List.set_cons_zero, List.set_cons_succ]
          first | refine tkA 10 ?_ | refine skA 10 ?_
          simp only [Act.put, List.setIfInBounds_toArray, List.set_cons_zero, List.set_cons_succ]
          first | refine tkA 11 ?_ | refine skA 11 ?_
          simp only [Act.put, List.setIfInBounds_toArray, List.set_cons_zero, List.set_cons_succ]
          first | refine tkA 12 ?_ | refine skA 12 ?_
          simp only [Act.put, List.setIfInBounds_toArray, List.set_cons_zero, List.set_cons_succ]
          first | refine tkA 13 ?_ | refine skA 13 ?_
          simp only [Act.put, List.setIfInBounds_toArray, List.set_cons_zero, List.set_cons_succ]
          first | refine tkA 14 ?_ | refine skA 14 ?_
          simp only [Act.put, List.setIfInBounds_toArray, List.set_cons_zero, List.set_cons_succ]
          first | refine tkA 15 ?_ | refine skA 15 ?_
          simp only [Act.put, List.setIfInBounds_toArray, List.set_cons_zero, List.set_cons_succ]
          first | refine tkA 16 ?_ | refine skA 16 ?_
          simp only [Act.put, List.setIfInBounds_toArray, List.set_cons_zero, List.set_cons_succ]
          first | refine tkA 17 ?_ | refine skA 17 ?_
          simp only [Act.put, List.setIfInBounds_toArray, List.set_cons_zero, List.set_cons_succ]
          first | refine tkA 18 ?_ | refine skA 18 ?_
          simp only [Act.put, List.setIfInBounds_toArray, List.set_cons_zero, List.set_cons_succ]
          first | refine tkA 19 ?_ | refine skA 19 ?_
          simp only [Act.put, List.setIfInBounds_toArray, List.set_cons_zero, List.set_cons_succ]
          refine held_one 20 (by kernel_rfl) rfl (fun K hK => ?_)
          go_simp
          go_at_call 81
          refine (HM.out _ hHeld.2.2.2.2.2.2.2.2).mono ?_; rintro e w1 ⟨rfl, hb1⟩
          go_wp2_with fail
          refine hK.out _ _ (by (try dsimp only); obtain ⟨y0, y1, y2, y3, y4, y5, y6, y7, yb⟩ := hHeld; exact ⟨keep_cell hb1 y0, keep_cell hb1 y1, keep_cell hb1 y2, keep_cell hb1 y3, keep_cell hb1 y4, keep_cell hb1 y5, keep_cell hb1 y6, keep_cell hb1 y7, ex_trans yb hb1⟩) (fun hNew => ?_)
          clear hK K hHeld
          have hHeld := hNew
          clear hNew
          try simp only [Act.put, List.setIfInBounds_toArray, List.set_cons_zero, List.set_cons_succ]
          first | refine tkA 21 ?_ | refine skA 21 ?_
          simp only [Act.put, List.setIfInBounds_toArray, List.set_cons_zero, List.set_cons_succ]
          first | refine tkA 22 ?_ | refine skA 22 ?_
          simp only [Act.put, List.setIfInBounds_toArray, List.set_cons_zero, List.set_cons_succ]
          refine wpAnyH_done (by kernel_rfl) ?_ _
          have hB := hHeld.2.2.2.2.2.2.2.2
          obtain ⟨x0, x1, x3, x4, _⟩ := hHeld
          go_wp2_with fail
          go_roundw
          case rel => exact ⟨0 + 1, by omega, by go_num, HG.out, by assumption, by assumption, by assumption, by assumption, hB⟩
          case measure => simp [intOf]; omega
    · have HV := Lib.hid (validA_all (show goodA l f.attrs f.attrs.length from by rw [show f.attrs.length = k from by omega]; exact hG))
      clear hG
      go_wp2_with (first
        | (go_at_call 82; refine (impl_within _ _ _ _).mono ?_; rintro e w' ⟨rfl, rfl⟩)
        | (go_at_call 73; refine (impl_isUser _ _).mono ?_; rintro e w' ⟨rfl, rfl⟩)
        | (go_at_call 83; refine (HI.out _ (by go_grown)).mono ?_; rintro e w1 ⟨rfl, hb1⟩; have hB1 := ex_trans (w := w) (by go_grown) hb1; have x0' := keep_cell hb1 x0; have x1' := keep_cell hb1 x1; have x3' := keep_cell hb1 x3))
      all_goals go_returns
      all_goals refine ⟨ret_bool ?_, by go_grown⟩
      all_goals go_light
      all_goals rw [validF, HV.out]
      all_goals clear HI HV
      all_goals simp_all
set_option maxHeartbeats 4000000 in
theorem spec_IsValidFile (A : Option Addr) (n c : Nat) (l : List Fld) (f : Fil) (B : Option Addr) (m d : Nat) (w : World) (hS : Sl 2 RFld w A n l) (hn : n ≤ 1073741824) (hT : Sl 4 RAtr w B m f.attrs) (hl : ∀ y ∈ l, y.ok 1073741824) (hf : f.ok 1073741824) :
    Calls Try.prog 27 #[.slice A n c, f.v B m d] w fun e w' => e = .returned (.bool (validF l f)) ∧ Below w.heap.size w w' := by
  obtain rfl : f.attrs.length = m := hT.len
  have hm : f.attrs.length ≤ 1073741824 := hf.1
  have HI := Lib.hid fun w' (hb : Below w.heap.size w w') => spec_IsValidSchema A n c l w' (hS.mono mFld hb) hn hl
  clear hl
  go_enter Try.func27, Try.ntmps27
  go_wp2_with fail
  go_loopw [5] (fun i wr => ∃ k : Nat, k ≤ f.attrs.length ∧ i = .int .i64 k ∧ goodA l f.attrs k ∧ wr.cell? ⟨w.heap.size, 0, none⟩ = some (.int .i64 f.id) ∧ wr.cell? ⟨w.heap.size, 1, none⟩ = some (.int .i64 f.owner) ∧ wr.cell? ⟨w.heap.size, 3, none⟩ = some (.int .i64 f.link) ∧ wr.cell? ⟨w.heap.size, 4, none⟩ = some (.slice B f.attrs.length d) ∧ Below w.heap.size w wr) (fun i _ => f.attrs.length - (intOf i).toNat)
  case atStart => exact ⟨0, Nat.zero_le _, rfl, goodA_zero _ _, by go_simp, by go_simp, by go_simp, by go_simp, by go_grown⟩
  case round =>
    obtain ⟨k, hk, rfl, hG, x0, x1, x3, x4, hb⟩ := hrel
    have hzw : w.heap.size < wr.heap.size := World.block_lt_of_cell? wr ⟨w.heap.size, 0, none⟩ x0
    by_cases hlt : k < f.attrs.length
    · have i0 : (0 : Int) ≤ (k : Int) := by omega
      have i1 : (k : Int) < (f.attrs.length : Int) := by omega
      obtain ⟨b, off, rfl, bw, bc⟩ := hT.atr (by omega)
      obtain ⟨q0, q1, q2, q3⟩ := bc k (by omega)
      rw [← hb.cell (p := ⟨b, _, none⟩) bw] at q0 q1 q2 q3
      have bwr : b < wr.heap.size := Nat.lt_of_lt_of_le bw hb.size
      have hov : f.attrs[k].val.str.size ≤ 1073741824 := (hf.2 f.attrs[k] (List.getElem_mem _)).2
      have CM := Lib.hid fun w' (hb : Below w.heap.size w w') => spec_MatchesSchema A n c l f.attrs[k].name f.attrs[k].val w' (hS.mono mFld hb) hn hov
      clear hf hov
      by_cases h0 : 0 < k
      · obtain ⟨p0, p1, p2, p3⟩ := bc (k - 1) (by omega)
        rw [← hb.cell (p := ⟨b, _, none⟩) bw] at p0
        clear bc p1 p2 p3
        have h0' : (0 : Int) < (k : Int) := by omega
        have s1 : IntKind.i64.wrap ((k : Int) - 1) = (k : Int) - 1 := IntWalk.i64_in _ (by omega)
        have s2 : 0 ≤ (k : Int) - 1 := by omega
        have s2' : 1 ≤ (k : Int) := by omega
        have s3 : ((k : Int) - 1).toNat = k - 1 := by omega
        have s4 : (k : Int) - 1 < (f.attrs.length : Int) := by omega
        cases hless : Op.bytesLess (f.attrs[k - 1]'(by omega)).name.toList f.attrs[k].name.toList with
        | false =>
          have HZ := Lib.hid (show false = validF l f by rw [validF, validA_bad hlt (by rw [attrBad, dif_pos hlt, hless, decide_eq_true h0]; rfl)]; rfl)
          cases hm1 : matchF l f.attrs[k].name f.attrs[k].val with
          | false =>
            have HM := Lib.hid fun w' hb => by have h := CM.out w' hb; rw [hm1] at h; exact h
            clear hG hm1 CM
            go_wp2_with fail
            refine wp_region_held_drew (S := (fun w' => w'.cell? ⟨w.heap.size, 0, none⟩ = some (.int .i64 f.id) ∧ w'.cell? ⟨w.heap.size, 1, none⟩ = some (.int .i64 f.owner) ∧ w'.cell? ⟨w.heap.size, 3, none⟩ = some (.int .i64 f.link) ∧ w'.cell? ⟨w.heap.size, 4, none⟩ = some (.slice (some ⟨b, off, none⟩) f.attrs.length d) ∧ w'.cell? ⟨b, off + k * 4, none⟩ = some (.string f.attrs[k].name) ∧ w'.cell? ⟨b, off + k * 4 + 1, none⟩ = some (.int .i64 f.attrs[k].val.kind) ∧ w'.cell? ⟨b, off + k * 4 + 2, none⟩ = some (.int .i64 f.attrs[k].val.int) ∧ w'.cell? ⟨b, off + k * 4 + 3, none⟩ = some (.string f.attrs[k].val.str) ∧ w'.cell? ⟨b, off + (k - 1) * 4, none⟩ = some (.string (f.attrs[k - 1]'(by omega)).name) ∧ Below w.heap.size w w')) (by kernel_rfl) (by (try dsimp only); exact ⟨by go_simp, by go_simp, by go_simp, by go_simp, by go_simp, by go_simp, by go_simp, by go_simp, by go_simp, hb.drew⟩) (fun hHeld => ?_)
            first | refine tkA 0 ?_ | refine skA 0 ?_
            simp only [Act.put, List.setIfInBounds_toArray, List.set_cons_zero, List.set_cons_succ]
            first | refine tkA 1 ?_ | refine skA 1 ?_
            simp only [Act.put, List.setIfInBounds_toArray, List.set_cons_zero, List.set_cons_succ]
            first | refine tkA 2 ?_ | refine skA 2 ?_
            simp only [Act.put, List.setIfInBounds_toArray, List.set_cons_zero, List.set_cons_succ]
            first | refine tkA 3 ?_ | refine skA 3 ?_
            simp only [Act.put, List.setIfInBounds_toArray, List.set_cons_zero, List.set_cons_succ]
            first | refine tkA 4 ?_ | refine skA 4 ?_
            simp only [Act.put, List.setIfInBounds_toArray, List.set_cons_zero, List.set_cons_succ]
            first | refine tkA 5 ?_ | refine skA 5 ?_
            simp only [Act.put, List.setIfInBounds_toArray, List.set_cons_zero, List.set_cons_succ]
            first | refine tkA 6 ?_ | refine skA 6 ?_
            simp only [Act.put, List.setIfInBounds_toArray, List.set_cons_zero, List.set_cons_succ]
            first | refine tkA 7 ?_ | refine skA 7 ?_
            simp only [Act.put, List.setIfInBounds_toArray, List.set_cons_zero, List.set_cons_succ]
            first | refine tkA 8 ?_ | refine skA 8 ?_
            simp only [Act.put, List.setIfInBounds_toArray, List.set_cons_zero, List.set_cons_succ]
            first | refine tkA 9 ?_ | refine skA 9 ?_
            simp only [Act.put, List.setIfInBounds_toArray, List.set_cons_zero, List.set_cons_succ]
            first | refine tkA 10 ?_ | refine skA 10 ?_
            simp only [Act.put, List.setIfInBounds_toArray, List.set_cons_zero, List.set_cons_succ]
            first | refine tkA 11 ?_ | refine skA 11 ?_
            simp only [Act.put, List.setIfInBounds_toArray, List.set_cons_zero, List.set_cons_succ]
            first | refine tkA 12 ?_ | refine skA 12 ?_
            simp only [Act.put, List.setIfInBounds_toArray, List.set_cons_zero, List.set_cons_succ]
            refine held_one 13 (by kernel_rfl) rfl (fun K hK => ?_)
            go_simp
            go_at_call 84
            refine (HM.out _ hHeld.2.2.2.2.2.2.2.2.2).mono ?_; rintro e w1 ⟨rfl, hb1⟩
            go_wp2_with fail
            refine hK.out _ _ (by (try dsimp only); obtain ⟨y0, y1, y2, y3, y4, y5, y6, y7, y8, yb⟩ := hHeld; exact ⟨keep_cell hb1 y0, keep_cell hb1 y1, keep_cell hb1 y2, keep_cell hb1 y3, keep_cell hb1 y4, keep_cell hb1 y5, keep_cell hb1 y6, keep_cell hb1 y7, keep_cell hb1 y8, ex_trans yb hb1⟩) (fun hNew => ?_)
            clear hK K hHeld
            have hHeld := hNew
            clear hNew
            try simp only [Act.put, List.setIfInBounds_toArray, List.set_cons_zero, List.set_cons_succ]
            first | refine tkA 14 ?_ | refine skA 14 ?_
            simp only [Act.put, List.setIfInBounds_toArray, List.set_cons_zero, List.set_cons_succ]
            first | refine tkA 15 ?_ | refine skA 15 ?_
            simp only [Act.put, List.setIfInBounds_toArray, List.set_cons_zero, List.set_cons_succ]
            first | refine tkA 16 ?_ | refine skA 16 ?_
            simp only [Act.put, List.setIfInBounds_toArray, List.set_cons_zero, List.set_cons_succ]
            first | refine tkA 17 ?_ | refine skA 17 ?_
            simp only [Act.put, List.setIfInBounds_toArray, List.set_cons_zero, List.set_cons_succ]
            first | refine tkA 18 ?_ | refine skA 18 ?_
            simp only [Act.put, List.setIfInBounds_toArray, List.set_cons_zero, List.set_cons_succ]
            first | refine tkA 19 ?_ | refine skA 19 ?_
            simp only [Act.put, List.setIfInBounds_toArray, List.set_cons_zero, List.set_cons_succ]
            first | refine tkA 20 ?_ | refine skA 20 ?_
            simp only [Act.put, List.setIfInBounds_toArray, List.set_cons_zero, List.set_cons_succ]
            first | refine tkA 21 ?_ | refine skA 21 ?_
            simp only [Act.put, List.setIfInBounds_toArray, List.set_cons_zero, List.set_cons_succ]
            first | refine tkA 22 ?_ | refine skA 22 ?_
            simp only [Act.put, List.setIfInBounds_toArray, List.set_cons_zero, List.set_cons_succ]
            first | refine tkA 23 ?_ | refine skA 23 ?_
            simp only [Act.put, List.setIfInBounds_toArray, List.set_cons_zero, List.set_cons_succ]
            first | refine tkA 24 ?_ | refine skA 24 ?_
            simp only [Act.put, List.setIfInBounds_toArray, List.set_cons_zero, List.set_cons_succ]
            first | refine tkA 25 ?_ | refine skA 25 ?_
            simp only [Act.put, List.setIfInBounds_toArray, List.set_cons_zero, List.set_cons_succ]
            first | refine tkA 26 ?_ | refine skA 26 ?_
            simp only [Act.put, List.setIfInBounds_toArray, List.set_cons_zero, List.set_cons_succ]
            first | refine tkA 27 ?_ | refine skA 27 ?_
            simp only [Act.put, List.setIfInBounds_toArray, List.set_cons_zero, List.set_cons_succ]
            first | refine tkA 28 ?_ | refine skA 28 ?_
            simp only [Act.put, List.setIfInBounds_toArray, List.set_cons_zero, List.set_cons_succ]
            first | refine tkA 29 ?_ | refine skA 29 ?_
            simp only [Act.put, List.setIfInBounds_toArray, List.set_cons_zero, List.set_cons_succ]
            first | refine tkA 30 ?_ | refine skA 30 ?_
            simp only [Act.put, List.setIfInBounds_toArray, List.set_cons_zero, List.set_cons_succ]
            first | refine tkA 31 ?_ | refine skA 31 ?_
            simp only [Act.put, List.setIfInBounds_toArray, List.set_cons_zero, List.set_cons_succ]
            first | refine tkA 32 ?_ | refine skA 32 ?_
            simp only [Act.put, List.setIfInBounds_toArray, List.set_cons_zero, List.set_cons_succ]
            first | refine tkA 33 ?_ | refine skA 33 ?_
            simp only [Act.put, List.setIfInBounds_toArray, List.set_cons_zero, List.set_cons_succ]
            first | refine tkA 34 ?_ | refine skA 34 ?_
            simp only [Act.put, List.setIfInBounds_toArray, List.set_cons_zero, List.set_cons_succ]
            refine wpAnyH_done (by kernel_rfl) ?_ _
            have hB := hHeld.2.2.2.2.2.2.2.2.2
            obtain ⟨x0, x1, x3, x4, _⟩ := hHeld
            go_wp2_with fail
            go_returns
            exact ⟨ret_bool HZ.out, hB⟩
          | true =>
            have HM := Lib.hid fun w' hb => by have h := CM.out w' hb; rw [hm1] at h; exact h
            clear hG hm1 CM
            go_wp2_with fail
            refine wp_region_held_drew (S := (fun w' => w'.cell? ⟨w.heap.size, 0, none⟩ = some (.int .i64 f.id) ∧ w'.cell? ⟨w.heap.size, 1, none⟩ = some (.int .i64 f.owner) ∧ w'.cell? ⟨w.heap.size, 3, none⟩ = some (.int .i64 f.link) ∧ w'.cell? ⟨w.heap.size, 4, none⟩ = some (.slice (some ⟨b, off, none⟩) f.attrs.length d) ∧ w'.cell? ⟨b, off + k * 4, none⟩ = some (.string f.attrs[k].name) ∧ w'.cell? ⟨b, off + k * 4 + 1, none⟩ = some (.int .i64 f.attrs[k].val.kind) ∧ w'.cell? ⟨b, off + k * 4 + 2, none⟩ = some (.int .i64 f.attrs[k].val.int) ∧ w'.cell? ⟨b, off + k * 4 + 3, none⟩ = some (.string f.attrs[k].val.str) ∧ w'.cell? ⟨b, off + (k - 1) * 4, none⟩ = some (.string (f.attrs[k - 1]'(by omega)).name) ∧ Below w.heap.size w w')) (by kernel_rfl) (by (try dsimp only); exact ⟨by go_simp, by go_simp, by go_simp, by go_simp, by go_simp, by go_simp, by go_simp, by go_simp, by go_simp, hb.drew⟩) (fun hHeld => ?_)
            first | refine tkA 0 ?_ | refine skA 0 ?_
            simp only [Act.put, List.setIfInBounds_toArray, List.set_cons_zero, List.set_cons_succ]
            first | refine tkA 1 ?_ | refine skA 1 ?_
            simp only [Act.put, List.setIfInBounds_toArray, List.set_cons_zero, List.set_cons_succ]
            first | refine tkA 2 ?_ | refine skA 2 ?_
            simp only [Act.put, List.setIfInBounds_toArray, List.set_cons_zero, List.set_cons_succ]
            first | refine tkA 3 ?_ | refine skA 3 ?_
            simp only [Act.put, List.setIfInBounds_toArray, List.set_cons_zero, List.set_cons_succ]
            first | refine tkA 4 ?_ | refine skA 4 ?_
            simp only [Act.put, List.setIfInBounds_toArray, List.set_cons_zero, List.set_cons_succ]
            first | refine tkA 5 ?_ | refine skA 5 ?_
            simp only [Act.put, List.setIfInBounds_toArray, List.set_cons_zero, List.set_cons_succ]
            first | refine tkA 6 ?_ | refine skA 6 ?_
            simp only [Act.put, List.setIfInBounds_toArray, List.set_cons_zero, List.set_cons_succ]
            first | refine tkA 7 ?_ | refine skA 7 ?_
            simp only [Act.put, List.setIfInBounds_toArray, List.set_cons_zero, List.set_cons_succ]
            first | refine tkA 8 ?_ | refine skA 8 ?_
            simp only [Act.put, List.setIfInBounds_toArray, List.set_cons_zero, List.set_cons_succ]
            first | refine tkA 9 ?_ | refine skA 9 ?_
            simp only [Act.put, List.setIfInBounds_toArray, List.set_cons_zero, List.set_cons_succ]
            first | refine tkA 10 ?_ | refine skA 10 ?_
            simp only [Act.put, List.setIfInBounds_toArray, List.set_cons_zero, List.set_cons_succ]
            first | refine tkA 11 ?_ | refine skA 11 ?_
            simp only [Act.put, List.setIfInBounds_toArray, List.set_cons_zero, List.set_cons_succ]
            first | refine tkA 12 ?_ | refine skA 12 ?_
            simp only [Act.put, List.setIfInBounds_toArray, List.set_cons_zero, List.set_cons_succ]
            refine held_one 13 (by kernel_rfl) rfl (fun K hK => ?_)
            go_simp
            go_at_call 84
            refine (HM.out _ hHeld.2.2.2.2.2.2.2.2.2).mono ?_; rintro e w1 ⟨rfl, hb1⟩
            go_wp2_with fail
            refine hK.out _ _ (by (try dsimp only); obtain ⟨y0, y1, y2, y3, y4, y5, y6, y7, y8, yb⟩ := hHeld; exact ⟨keep_cell hb1 y0, keep_cell hb1 y1, keep_cell hb1 y2, keep_cell hb1 y3, keep_cell hb1 y4, keep_cell hb1 y5, keep_cell hb1 y6, keep_cell hb1 y7, keep_cell hb1 y8, ex_trans yb hb1⟩) (fun hNew => ?_)
            clear hK K hHeld
            have hHeld := hNew
            clear hNew
            try simp only [Act.put, List.setIfInBounds_toArray, List.set_cons_zero, List.set_cons_succ]
            first | refine tkA 14 ?_ | refine skA 14 ?_
            simp only [Act.put, List.setIfInBounds_toArray, List.set_cons_zero, List.set_cons_succ]
            first | refine tkA 15 ?_ | refine skA 15 ?_
            simp only [Act.put, List.setIfInBounds_toArray, List.set_cons_zero, List.set_cons_succ]
            first | refine tkA 16 ?_ | refine skA 16 ?_
            simp only [Act.put, List.setIfInBounds_toArray, List.set_cons_zero, List.set_cons_succ]
            first | refine tkA 17 ?_ | refine skA 17 ?_
            simp only [Act.put, List.setIfInBounds_toArray, List.set_cons_zero, List.set_cons_succ]
            first | refine tkA 18 ?_ | refine skA 18 ?_
            simp only [Act.put, List.setIfInBounds_toArray, List.set_cons_zero, List.set_cons_succ]
            first | refine tkA 19 ?_ | refine skA 19 ?_
            simp only [Act.put, List.setIfInBounds_toArray, List.set_cons_zero, List.set_cons_succ]
            first | refine tkA 20 ?_ | refine skA 20 ?_
            simp only [Act.put, List.setIfInBounds_toArray, List.set_cons_zero, List.set_cons_succ]
            first | refine tkA 21 ?_ | refine skA 21 ?_
            simp only [Act.put, List.setIfInBounds_toArray, List.set_cons_zero, List.set_cons_succ]
            first | refine tkA 22 ?_ | refine skA 22 ?_
            simp only [Act.put, List.setIfInBounds_toArray, List.set_cons_zero, List.set_cons_succ]
            first | refine tkA 23 ?_ | refine skA 23 ?_
            simp only [Act.put, List.setIfInBounds_toArray, List.set_cons_zero, List.set_cons_succ]
            first | refine tkA 24 ?_ | refine skA 24 ?_
            simp only [Act.put, List.setIfInBounds_toArray, List.set_cons_zero, List.set_cons_succ]
            first | refine tkA 25 ?_ | refine skA 25 ?_
            simp only [Act.put, List.setIfInBounds_toArray, List.set_cons_zero, List.set_cons_succ]
            first | refine tkA 26 ?_ | refine skA 26 ?_
            simp only [Act.put, List.setIfInBounds_toArray, List.set_cons_zero, List.set_cons_succ]
            first | refine tkA 27 ?_ | refine skA 27 ?_
            simp only [Act.put, List.setIfInBounds_toArray, List.set_cons_zero, List.set_cons_succ]
            first | refine tkA 28 ?_ | refine skA 28 ?_
            simp only [Act.put, List.setIfInBounds_toArray, List.set_cons_zero, List.set_cons_succ]
            first | refine tkA 29 ?_ | refine skA 29 ?_
            simp only [Act.put, List.setIfInBounds_toArray, List.set_cons_zero, List.set_cons_succ]
            first | refine tkA 30 ?_ | refine skA 30 ?_
            simp only [Act.put, List.setIfInBounds_toArray, List.set_cons_zero, List.set_cons_succ]
            first | refine tkA 31 ?_ | refine skA 31 ?_
            simp only [Act.put, List.setIfInBounds_toArray, List.set_cons_zero, List.set_cons_succ]
            first | refine tkA 32 ?_ | refine skA 32 ?_
            simp only [Act.put, List.setIfInBounds_toArray, List.set_cons_zero, List.set_cons_succ]
            first | refine tkA 33 ?_ | refine skA 33 ?_
            simp only [Act.put, List.setIfInBounds_toArray, List.set_cons_zero, List.set_cons_succ]
            first | refine tkA 34 ?_ | refine skA 34 ?_
            simp only [Act.put, List.setIfInBounds_toArray, List.set_cons_zero, List.set_cons_succ]
            refine wpAnyH_done (by kernel_rfl) ?_ _
            have hB := hHeld.2.2.2.2.2.2.2.2.2
            obtain ⟨x0, x1, x3, x4, _⟩ := hHeld
            go_wp2_with fail
            go_returns
            exact ⟨ret_bool HZ.out, hB⟩
        | true =>
          cases hm1 : matchF l f.attrs[k].name f.attrs[k].val with
          | false =>
            have HZ := Lib.hid (show false = validF l f by rw [validF, validA_bad hlt (by rw [attrBad, dif_pos hlt, hless, hm1]; simp)]; rfl)
            have HM := Lib.hid fun w' hb => by have h := CM.out w' hb; rw [hm1] at h; exact h
            clear hG hm1 CM
            go_wp2_with fail
            refine wp_region_held_drew (S := (fun w' => w'.cell? ⟨w.heap.size, 0, none⟩ = some (.int .i64 f.id) ∧ w'.cell? ⟨w.heap.size, 1, none⟩ = some (.int .i64 f.owner) ∧ w'.cell? ⟨w.heap.size, 3, none⟩ = some (.int .i64 f.link) ∧ w'.cell? ⟨w.heap.size, 4, none⟩ = some (.slice (some ⟨b, off, none⟩) f.attrs.length d) ∧ w'.cell? ⟨b, off + k * 4, none⟩ = some (.string f.attrs[k].name) ∧ w'.cell? ⟨b, off + k * 4 + 1, none⟩ = some (.int .i64 f.attrs[k].val.kind) ∧ w'.cell? ⟨b, off + k * 4 + 2, none⟩ = some (.int .i64 f.attrs[k].val.int) ∧ w'.cell? ⟨b, off + k * 4 + 3, none⟩ = some (.string f.attrs[k].val.str) ∧ w'.cell? ⟨b, off + (k - 1) * 4, none⟩ = some (.string (f.attrs[k - 1]'(by omega)).name) ∧ Below w.heap.size w w')) (by kernel_rfl) (by (try dsimp only); exact ⟨by go_simp, by go_simp, by go_simp, by go_simp, by go_simp, by go_simp, by go_simp, by go_simp, by go_simp, hb.drew⟩) (fun hHeld => ?_)
            first | refine tkA 0 ?_ | refine skA 0 ?_
            simp only [Act.put, List.setIfInBounds_toArray, List.set_cons_zero, List.set_cons_succ]
            first | refine tkA 1 ?_ | refine skA 1 ?_
            simp only [Act.put, List.setIfInBounds_toArray, List.set_cons_zero, List.set_cons_succ]
            first | refine tkA 2 ?_ | refine skA 2 ?_
            simp only [Act.put, List.setIfInBounds_toArray, List.set_cons_zero, List.set_cons_succ]
            first | refine tkA 3 ?_ | refine skA 3 ?_
            simp only [Act.put, List.setIfInBounds_toArray, List.set_cons_zero, List.set_cons_succ]
            first | refine tkA 4 ?_ | refine skA 4 ?_
            simp only [Act.put, List.setIfInBounds_toArray, List.set_cons_zero, List.set_cons_succ]
            first | refine tkA 5 ?_ | refine skA 5 ?_
            simp only [Act.put, List.setIfInBounds_toArray, List.set_cons_zero, List.set_cons_succ]
            first | refine tkA 6 ?_ | refine skA 6 ?_
            simp only [Act.put, List.setIfInBounds_toArray, List.set_cons_zero, List.set_cons_succ]
            first | refine tkA 7 ?_ | refine skA 7 ?_
            simp only [Act.put, List.setIfInBounds_toArray, List.set_cons_zero, List.set_cons_succ]
            first | refine tkA 8 ?_ | refine skA 8 ?_
            simp only [Act.put, List.setIfInBounds_toArray, List.set_cons_zero, List.set_cons_succ]
            first | refine tkA 9 ?_ | refine skA 9 ?_
            simp only [Act.put, List.setIfInBounds_toArray, List.set_cons_zero, List.set_cons_succ]
            first | refine tkA 10 ?_ | refine skA 10 ?_
            simp only [Act.put, List.setIfInBounds_toArray, List.set_cons_zero, List.set_cons_succ]
            first | refine tkA 11 ?_ | refine skA 11 ?_
            simp only [Act.put, List.setIfInBounds_toArray, List.set_cons_zero, List.set_cons_succ]
            first | refine tkA 12 ?_ | refine skA 12 ?_
            simp only [Act.put, List.setIfInBounds_toArray, List.set_cons_zero, List.set_cons_succ]
            refine held_one 13 (by kernel_rfl) rfl (fun K hK => ?_)
            go_simp
            go_at_call 84
            refine (HM.out _ hHeld.2.2.2.2.2.2.2.2.2).mono ?_; rintro e w1 ⟨rfl, hb1⟩
            go_wp2_with fail
            refine hK.out _ _ (by (try dsimp only); obtain ⟨y0, y1, y2, y3, y4, y5, y6, y7, y8, yb⟩ := hHeld; exact ⟨keep_cell hb1 y0, keep_cell hb1 y1, keep_cell hb1 y2, keep_cell hb1 y3, keep_cell hb1 y4, keep_cell hb1 y5, keep_cell hb1 y6, keep_cell hb1 y7, keep_cell hb1 y8, ex_trans yb hb1⟩) (fun hNew => ?_)
            clear hK K hHeld
            have hHeld := hNew
            clear hNew
            try simp only [Act.put, List.setIfInBounds_toArray, List.set_cons_zero, List.set_cons_succ]
            first | refine tkA 14 ?_ | refine skA 14 ?_
            simp only [Act.put, List.setIfInBounds_toArray, List.set_cons_zero, List.set_cons_succ]
            first | refine tkA 15 ?_ | refine skA 15 ?_
            simp only [Act.put, List.setIfInBounds_toArray, List.set_cons_zero, List.set_cons_succ]
            first | refine tkA 16 ?_ | refine skA 16 ?_
            simp only [Act.put, List.setIfInBounds_toArray, List.set_cons_zero, List.set_cons_succ]
            first | refine tkA 17 ?_ | refine skA 17 ?_
            simp only [Act.put, List.setIfInBounds_toArray, List.set_cons_zero, List.set_cons_succ]
            first | refine tkA 18 ?_ | refine skA 18 ?_
            simp only [Act.put, List.setIfInBounds_toArray, List.set_cons_zero, List.set_cons_succ]
            first | refine tkA 19 ?_ | refine skA 19 ?_
            simp only [Act.put, List.setIfInBounds_toArray, List.set_cons_zero, List.set_cons_succ]
            first | refine tkA 20 ?_ | refine skA 20 ?_
            simp only [Act.put, List.setIfInBounds_toArray, List.set_cons_zero, List.set_cons_succ]
            first | refine tkA 21 ?_ | refine skA 21 ?_
            simp only [Act.put, List.setIfInBounds_toArray, List.set_cons_zero, List.set_cons_succ]
            first | refine tkA 22 ?_ | refine skA 22 ?_
            simp only [Act.put, List.setIfInBounds_toArray, List.set_cons_zero, List.set_cons_succ]
            first | refine tkA 23 ?_ | refine skA 23 ?_
            simp only [Act.put, List.setIfInBounds_toArray, List.set_cons_zero, List.set_cons_succ]
            first | refine tkA 24 ?_ | refine skA 24 ?_
            simp only [Act.put, List.setIfInBounds_toArray, List.set_cons_zero, List.set_cons_succ]
            first | refine tkA 25 ?_ | refine skA 25 ?_
            simp only [Act.put, List.setIfInBounds_toArray, List.set_cons_zero, List.set_cons_succ]
            first | refine tkA 26 ?_ | refine skA 26 ?_
            simp only [Act.put, List.setIfInBounds_toArray, List.set_cons_zero, List.set_cons_succ]
            first | refine tkA 27 ?_ | refine skA 27 ?_
            simp only [Act.put, List.setIfInBounds_toArray, List.set_cons_zero, List.set_cons_succ]
            first | refine tkA 28 ?_ | refine skA 28 ?_
            simp only [Act.put, List.setIfInBounds_toArray, List.set_cons_zero, List.set_cons_succ]
            first | refine tkA 29 ?_ | refine skA 29 ?_
            simp only [Act.put, List.setIfInBounds_toArray, List.set_cons_zero, List.set_cons_succ]
            first | refine tkA 30 ?_ | refine skA 30 ?_
            simp only [Act.put, List.setIfInBounds_toArray, List.set_cons_zero, List.set_cons_succ]
            first | refine tkA 31 ?_ | refine skA 31 ?_
            simp only [Act.put, List.setIfInBounds_toArray, List.set_cons_zero, List.set_cons_succ]
            first | refine tkA 32 ?_ | refine skA 32 ?_
            simp only [Act.put, List.setIfInBounds_toArray, List.set_cons_zero, List.set_cons_succ]
            first | refine tkA 33 ?_ | refine skA 33 ?_
            simp only [Act.put, List.setIfInBounds_toArray, List.set_cons_zero, List.set_cons_succ]
            first | refine tkA 34 ?_ | refine skA 34 ?_
            simp only [Act.put, List.setIfInBounds_toArray, List.set_cons_zero, List.set_cons_succ]
            refine wpAnyH_done (by kernel_rfl) ?_ _
            have hB := hHeld.2.2.2.2.2.2.2.2.2
            obtain ⟨x0, x1, x3, x4, _⟩ := hHeld
            go_wp2_with fail
            go_returns
            exact ⟨ret_bool HZ.out, hB⟩
          | true =>
            have HG := Lib.hid (goodA_succ hG (by rw [attrBad, dif_pos hlt, hless, hm1]; simp))
            have HM := Lib.hid fun w' hb => by have h := CM.out w' hb; rw [hm1] at h; exact h
            clear hG hm1 CM
            go_wp2_with fail
            refine wp_region_held_drew (S := (fun w' => w'.cell? ⟨w.heap.size, 0, none⟩ = some (.int .i64 f.id) ∧ w'.cell? ⟨w.heap.size, 1, none⟩ = some (.int .i64 f.owner) ∧ w'.cell? ⟨w.heap.size, 3, none⟩ = some (.int .i64 f.link) ∧ w'.cell? ⟨w.heap.size, 4, none⟩ = some (.slice (some ⟨b, off, none⟩) f.attrs.length d) ∧ w'.cell? ⟨b, off + k * 4, none⟩ = some (.string f.attrs[k].name) ∧ w'.cell? ⟨b, off + k * 4 + 1, none⟩ = some (.int .i64 f.attrs[k].val.kind) ∧ w'.cell? ⟨b, off + k * 4 + 2, none⟩ = some (.int .i64 f.attrs[k].val.int) ∧ w'.cell? ⟨b, off + k * 4 + 3, none⟩ = some (.string f.attrs[k].val.str) ∧ w'.cell? ⟨b, off + (k - 1) * 4, none⟩ = some (.string (f.attrs[k - 1]'(by omega)).name) ∧ Below w.heap.size w w')) (by kernel_rfl) (by (try dsimp only); exact ⟨by go_simp, by go_simp, by go_simp, by go_simp, by go_simp, by go_simp, by go_simp, by go_simp, by go_simp, hb.drew⟩) (fun hHeld => ?_)
            first | refine tkA 0 ?_ | refine skA 0 ?_
            simp only [Act.put, List.setIfInBounds_toArray, List.set_cons_zero, List.set_cons_succ]
            first | refine tkA 1 ?_ | refine skA 1 ?_
            simp only [Act.put, List.setIfInBounds_toArray, List.set_cons_zero, List.set_cons_succ]
            first | refine tkA 2 ?_ | refine skA 2 ?_
            simp only [Act.put, List.setIfInBounds_toArray, List.set_cons_zero, List.set_cons_succ]
            first | refine tkA 3 ?_ | refine skA 3 ?_
            simp only [Act.put, List.setIfInBounds_toArray, List.set_cons_zero, List.set_cons_succ]
            first | refine tkA 4 ?_ | refine skA 4 ?_
            simp only [Act.put, List.setIfInBounds_toArray, List.set_cons_zero, List.set_cons_succ]
            first | refine tkA 5 ?_ | refine skA 5 ?_
            simp only [Act.put, List.setIfInBounds_toArray, List.set_cons_zero, List.set_cons_succ]
            first | refine tkA 6 ?_ | refine skA 6 ?_
            simp only [Act.put, List.setIfInBounds_toArray, List.set_cons_zero, List.set_cons_succ]
            first | refine tkA 7 ?_ | refine skA 7 ?_
            simp only [Act.put, List.setIfInBounds_toArray, List.set_cons_zero, List.set_cons_succ]
            first | refine tkA 8 ?_ | refine skA 8 ?_
            simp only [Act.put, List.setIfInBounds_toArray, List.set_cons_zero, List.set_cons_succ]
            first | refine tkA 9 ?_ | refine skA 9 ?_
            simp only [Act.put, List.setIfInBounds_toArray, List.set_cons_zero, List.set_cons_succ]
            first | refine tkA 10 ?_ | refine skA 10 ?_
            simp only [Act.put, List.setIfInBounds_toArray, List.set_cons_zero, List.set_cons_succ]
            first | refine tkA 11 ?_ | refine skA 11 ?_
            simp only [Act.put, List.setIfInBounds_toArray, List.set_cons_zero, List.set_cons_succ]
            first | refine tkA 12 ?_ | refine skA 12 ?_
            simp only [Act.put, List.setIfInBounds_toArray, List.set_cons_zero, List.set_cons_succ]
            refine held_one 13 (by kernel_rfl) rfl (fun K hK => ?_)
            go_simp
            go_at_call 84
            refine (HM.out _ hHeld.2.2.2.2.2.2.2.2.2).mono ?_; rintro e w1 ⟨rfl, hb1⟩
            go_wp2_with fail
            refine hK.out _ _ (by (try dsimp only); obtain ⟨y0, y1, y2, y3, y4, y5, y6, y7, y8, yb⟩ := hHeld; exact ⟨keep_cell hb1 y0, keep_cell hb1 y1, keep_cell hb1 y2, keep_cell hb1 y3, keep_cell hb1 y4, keep_cell hb1 y5, keep_cell hb1 y6, keep_cell hb1 y7, keep_cell hb1 y8, ex_trans yb hb1⟩) (fun hNew => ?_)
            clear hK K hHeld
            have hHeld := hNew
            clear hNew
            try simp only [Act.put, List.setIfInBounds_toArray, List.set_cons_zero, List.set_cons_succ]
            first | refine tkA 14 ?_ | refine skA 14 ?_
            simp only [Act.put, List.setIfInBounds_toArray, List.set_cons_zero, List.set_cons_succ]
            first | refine tkA 15 ?_ | refine skA 15 ?_
            simp only [Act.put, List.setIfInBounds_toArray, List.set_cons_zero, List.set_cons_succ]
            first | refine tkA 16 ?_ | refine skA 16 ?_
            simp only [Act.put, List.setIfInBounds_toArray, List.set_cons_zero, List.set_cons_succ]
            first | refine tkA 17 ?_ | refine skA 17 ?_
            simp only [Act.put, List.setIfInBounds_toArray, List.set_cons_zero, List.set_cons_succ]
            first | refine tkA 18 ?_ | refine skA 18 ?_
            simp only [Act.put, List.setIfInBounds_toArray, List.set_cons_zero, List.set_cons_succ]
            first | refine tkA 19 ?_ | refine skA 19 ?_
            simp only [Act.put, List.setIfInBounds_toArray, List.set_cons_zero, List.set_cons_succ]
            first | refine tkA 20 ?_ | refine skA 20 ?_
            simp only [Act.put, List.setIfInBounds_toArray, List.set_cons_zero, List.set_cons_succ]
            first | refine tkA 21 ?_ | refine skA 21 ?_
            simp only [Act.put, List.setIfInBounds_toArray, List.set_cons_zero, List.set_cons_succ]
            first | refine tkA 22 ?_ | refine skA 22 ?_
            simp only [Act.put, List.setIfInBounds_toArray, List.set_cons_zero, List.set_cons_succ]
            first | refine tkA 23 ?_ | refine skA 23 ?_
            simp only [Act.put, List.setIfInBounds_toArray, List.set_cons_zero, List.set_cons_succ]
            first | refine tkA 24 ?_ | refine skA 24 ?_
            simp only [Act.put, List.setIfInBounds_toArray, List.set_cons_zero, List.set_cons_succ]
            first | refine tkA 25 ?_ | refine skA 25 ?_
            simp only [Act.put, List.setIfInBounds_toArray, List.set_cons_zero, List.set_cons_succ]
            first | refine tkA 26 ?_ | refine skA 26 ?_
            simp only [Act.put, List.setIfInBounds_toArray, List.set_cons_zero, List.set_cons_succ]
            first | refine tkA 27 ?_ | refine skA 27 ?_
            simp only [Act.put, List.setIfInBounds_toArray, List.set_cons_zero, List.set_cons_succ]
            first | refine tkA 28 ?_ | refine skA 28 ?_
            simp only [Act.put, List.setIfInBounds_toArray, List.set_cons_zero, List.set_cons_succ]
            first | refine tkA 29 ?_ | refine skA 29 ?_
            simp only [Act.put, List.setIfInBounds_toArray, List.set_cons_zero, List.set_cons_succ]
            first | refine tkA 30 ?_ | refine skA 30 ?_
            simp only [Act.put, List.setIfInBounds_toArray, List.set_cons_zero, List.set_cons_succ]
            first | refine tkA 31 ?_ | refine skA 31 ?_
            simp only [Act.put, List.setIfInBounds_toArray, List.set_cons_zero, List.set_cons_succ]
            first | refine tkA 32 ?_ | refine skA 32 ?_
            simp only [Act.put, List.setIfInBounds_toArray, List.set_cons_zero, List.set_cons_succ]
            first | refine tkA 33 ?_ | refine skA 33 ?_
            simp only [Act.put, List.setIfInBounds_toArray, List.set_cons_zero, List.set_cons_succ]
            first | refine tkA 34 ?_ | refine skA 34 ?_
            simp only [Act.put, List.setIfInBounds_toArray, List.set_cons_zero, List.set_cons_succ]
            refine wpAnyH_done (by kernel_rfl) ?_ _
            have hB := hHeld.2.2.2.2.2.2.2.2.2
            obtain ⟨x0, x1, x3, x4, _⟩ := hHeld
            go_wp2_with fail
            go_roundw
            case rel => exact ⟨k + 1, by omega, by go_num, HG.out, by assumption, by assumption, by assumption, by assumption, hB⟩
            case measure => simp [intOf]; omega
      · obtain rfl : k = 0 := by omega
        simp only [Nat.zero_mul, Nat.add_zero] at q0 q1 q2 q3
        clear bc
        cases hm1 : matchF l f.attrs[0].name f.attrs[0].val with
        | false =>
          have HZ := Lib.hid (show false = validF l f by rw [validF, validA_bad hlt (by rw [attrBad, dif_pos hlt, hm1]; simp)]; rfl)
          have HM := Lib.hid fun w' hb => by have h := CM.out w' hb; rw [hm1] at h; exact h
          clear hG hm1 CM
          go_wp2_with fail
          refine wp_region_held_drew (S := (fun w' => w'.cell? ⟨w.heap.size, 0, none⟩ = some (.int .i64 f.id) ∧ w'.cell? ⟨w.heap.size, 1, none⟩ = some (.int .i64 f.owner) ∧ w'.cell? ⟨w.heap.size, 3, none⟩ = some (.int .i64 f.link) ∧ w'.cell? ⟨w.heap.size, 4, none⟩ = some (.slice (some ⟨b, off, none⟩) f.attrs.length d) ∧ w'.cell? ⟨b, off, none⟩ = some (.string f.attrs[0].name) ∧ w'.cell? ⟨b, off + 1, none⟩ = some (.int .i64 f.attrs[0].val.kind) ∧ w'.cell? ⟨b, off + 2, none⟩ = some (.int .i64 f.attrs[0].val.int) ∧ w'.cell? ⟨b, off + 3, none⟩ = some (.string f.attrs[0].val.str) ∧ Below w.heap.size w w')) (by kernel_rfl) (by (try dsimp only); exact ⟨by go_simp, by go_simp, by go_simp, by go_simp, by go_simp, by go_simp, by go_simp, by go_simp, hb.drew⟩) (fun hHeld => ?_)
          first | refine tkA 0 ?_ | refine skA 0 ?_
          simp only [Act.put, List.setIfInBounds_toArray, List.set_cons_zero, List.set_cons_succ]
          first | refine tkA 1 ?_ | refine skA 1 ?_
          simp only [Act.put, List.setIfInBounds_toArray, List.set_cons_zero, List.set_cons_succ]
          first | refine tkA 2 ?_ | refine skA 2 ?_
          simp only [Act.put, List.setIfInBounds_toArray, List.set_cons_zero, List.set_cons_succ]
          first | refine tkA 3 ?_ | refine skA 3 ?_
          simp only [Act.put, List.setIfInBounds_toArray, List.set_cons_zero, List.set_cons_succ]
          first | refine tkA 4 ?_ | refine skA 4 ?_
          simp only [Act.put, List.setIfInBounds_toArray, List.set_cons_zero, List.set_cons_succ]
          first | refine tkA 5 ?_ | refine skA 5 ?_
          simp only [Act.put, List.setIfInBounds_toArray, List.set_cons_zero, List.set_cons_succ]
          first | refine tkA 6 ?_ | refine skA 6 ?_
          simp only [Act.put, List.setIfInBounds_toArray, List.set_cons_zero, List.set_cons_succ]
          first | refine tkA 7 ?_ | refine skA 7 ?_
          simp only [Act.put, List.setIfInBounds_toArray, List.set_cons_zero, List.set_cons_succ]
          first | refine tkA 8 ?_ | refine skA 8 ?_
          simp only [Act.put, List.setIfInBounds_toArray, List.set_cons_zero, List.set_cons_succ]
          first | refine tkA 9 ?_ | refine skA 9 ?_
          simp only [Act.put, List.setIfInBounds_toArray, List.set_cons_zero, List.set_cons_succ]
          first | refine tkA 10 ?_ | refine skA 10 ?_
          simp only [Act.put, List.setIfInBounds_toArray, List.set_cons_zero, List.set_cons_succ]
          first | refine tkA 11 ?_ | refine skA 11 ?_
          simp only [Act.put, List.setIfInBounds_toArray, List.set_cons_zero, List.set_cons_succ]
          first | refine tkA 12 ?_ | refine skA 12 ?_
          simp only [Act.put, List.setIfInBounds_toArray, List.set_cons_zero, List.set_cons_succ]
          refine held_one 13 (by kernel_rfl) rfl (fun K hK => ?_)
          go_simp
          go_at_call 84
          refine (HM.out _ hHeld.2.2.2.2.2.2.2.2).mono ?_; rintro e w1 ⟨rfl, hb1⟩
          go_wp2_with fail
          refine hK.out _ _ (by (try dsimp only); obtain ⟨y0, y1, y2, y3, y4, y5, y6, y7, yb⟩ := hHeld; exact ⟨keep_cell hb1 y0, keep_cell hb1 y1, keep_cell hb1 y2, keep_cell hb1 y3, keep_cell hb1 y4, keep_cell hb1 y5, keep_cell hb1 y6, keep_cell hb1 y7, ex_trans yb hb1⟩) (fun hNew => ?_)
          clear hK K hHeld
          have hHeld := hNew
          clear hNew
          try simp only [Act.put, List.setIfInBounds_toArray, List.set_cons_zero, List.set_cons_succ]
          first | refine tkA 14 ?_ | refine skA 14 ?_
          simp only [Act.put, List.setIfInBounds_toArray, List.set_cons_zero, List.set_cons_succ]
          first | refine tkA 15 ?_ | refine skA 15 ?_
          simp only [Act.put, List.setIfInBounds_toArray, List.set_cons_zero, List.set_cons_succ]
          first | refine tkA 16 ?_ | refine skA 16 ?_
          simp only [Act.put, List.setIfInBounds_toArray, List.set_cons_zero, List.set_cons_succ]
          first | refine tkA 17 ?_ | refine skA 17 ?_
          simp only [Act.put, List.setIfInBounds_toArray, List.set_cons_zero, List.set_cons_succ]
          first | refine tkA 18 ?_ | refine skA 18 ?_
          simp only [Act.put, List.setIfInBounds_toArray, List.set_cons_zero, List.set_cons_succ]
          first | refine tkA 19 ?_ | refine skA 19 ?_
          simp only [Act.put, List.setIfInBounds_toArray, List.set_cons_zero, List.set_cons_succ]
          first | refine tkA 20 ?_ | refine skA 20 ?_
          simp only [Act.put, List.setIfInBounds_toArray, List.set_cons_zero, List.set_cons_succ]
          first | refine tkA 21 ?_ | refine skA 21 ?_
          simp only [Act.put, List.setIfInBounds_toArray, List.set_cons_zero, List.set_cons_succ]
          first | refine tkA 22 ?_ | refine skA 22 ?_
          simp only [Act.put, List.setIfInBounds_toArray, List.set_cons_zero, List.set_cons_succ]
          first | refine tkA 23 ?_ | refine skA 23 ?_
          simp only [Act.put, List.setIfInBounds_toArray, List.set_cons_zero, List.set_cons_succ]
          first | refine tkA 24 ?_ | refine skA 24 ?_
          simp only [Act.put, List.setIfInBounds_toArray, List.set_cons_zero, List.set_cons_succ]
          first | refine tkA 25 ?_ | refine skA 25 ?_
          simp only [Act.put, List.setIfInBounds_toArray, List.set_cons_zero, List.set_cons_succ]
          first | refine tkA 26 ?_ | refine skA 26 ?_
          simp only [Act.put, List.setIfInBounds_toArray, List.set_cons_zero, List.set_cons_succ]
          first | refine tkA 27 ?_ | refine skA 27 ?_
          simp only [Act.put, List.setIfInBounds_toArray, List.set_cons_zero, List.set_cons_succ]
          first | refine tkA 28 ?_ | refine skA 28 ?_
          simp only [Act.put, List.setIfInBounds_toArray, List.set_cons_zero, List.set_cons_succ]
          first | refine tkA 29 ?_ | refine skA 29 ?_
          simp only [Act.put, List.setIfInBounds_toArray, List.set_cons_zero, List.set_cons_succ]
          first | refine tkA 30 ?_ | refine skA 30 ?_
          simp only [Act.put, List.setIfInBounds_toArray, List.set_cons_zero, List.set_cons_succ]
          first | refine tkA 31 ?_ | refine skA 31 ?_
          simp only [Act.put, List.setIfInBounds_toArray, List.set_cons_zero, List.set_cons_succ]
          first | refine tkA 32 ?_ | refine skA 32 ?_
          simp only [Act.put, List.setIfInBounds_toArray, List.set_cons_zero, List.set_cons_succ]
          first | refine tkA 33 ?_ | refine skA 33 ?_
          simp only [Act.put, List.setIfInBounds_toArray, List.set_cons_zero, List.set_cons_succ]
          first | refine tkA 34 ?_ | refine skA 34 ?_
          simp only [Act.put, List.setIfInBounds_toArray, List.set_cons_zero, List.set_cons_succ]
          refine wpAnyH_done (by kernel_rfl) ?_ _
          have hB := hHeld.2.2.2.2.2.2.2.2
          obtain ⟨x0, x1, x3, x4, _⟩ := hHeld
          go_wp2_with fail
          go_returns
          exact ⟨ret_bool HZ.out, hB⟩
        | true =>
          have HG := Lib.hid (goodA_succ hG (by rw [attrBad, dif_pos hlt, hm1]; simp))
          have HM := Lib.hid fun w' hb => by have h := CM.out w' hb; rw [hm1] at h; exact h
          clear hG hm1 CM
          go_wp2_with fail
          refine wp_region_held_drew (S := (fun w' => w'.cell? ⟨w.heap.size, 0, none⟩ = some (.int .i64 f.id) ∧ w'.cell? ⟨w.heap.size, 1, none⟩ = some (.int .i64 f.owner) ∧ w'.cell? ⟨w.heap.size, 3, none⟩ = some (.int .i64 f.link) ∧ w'.cell? ⟨w.heap.size, 4, none⟩ = some (.slice (some ⟨b, off, none⟩) f.attrs.length d) ∧ w'.cell? ⟨b, off, none⟩ = some (.string f.attrs[0].name) ∧ w'.cell? ⟨b, off + 1, none⟩ = some (.int .i64 f.attrs[0].val.kind) ∧ w'.cell? ⟨b, off + 2, none⟩ = some (.int .i64 f.attrs[0].val.int) ∧ w'.cell? ⟨b, off + 3, none⟩ = some (.string f.attrs[0].val.str) ∧ Below w.heap.size w w')) (by kernel_rfl) (by (try dsimp only); exact ⟨by go_simp, by go_simp, by go_simp, by go_simp, by go_simp, by go_simp, by go_simp, by go_simp, hb.drew⟩) (fun hHeld => ?_)
          first | refine tkA 0 ?_ | refine skA 0 ?_
          simp only [Act.put, List.setIfInBounds_toArray, List.set_cons_zero, List.set_cons_succ]
          first | refine tkA 1 ?_ | refine skA 1 ?_
          simp only [Act.put, List.setIfInBounds_toArray, List.set_cons_zero, List.set_cons_succ]
          first | refine tkA 2 ?_ | refine skA 2 ?_
          simp only [Act.put, List.setIfInBounds_toArray, List.set_cons_zero, List.set_cons_succ]
          first | refine tkA 3 ?_ | refine skA 3 ?_
          simp only [Act.put, List.setIfInBounds_toArray, List.set_cons_zero, List.set_cons_succ]
          first | refine tkA 4 ?_ | refine skA 4 ?_
          simp only [Act.put, List.setIfInBounds_toArray, List.set_cons_zero, List.set_cons_succ]
          first | refine tkA 5 ?_ | refine skA 5 ?_
          simp only [Act.put, List.setIfInBounds_toArray, List.set_cons_zero, List.set_cons_succ]
          first | refine tkA 6 ?_ | refine skA 6 ?_
          simp only [Act.put, List.setIfInBounds_toArray, List.set_cons_zero, List.set_cons_succ]
          first | refine tkA 7 ?_ | refine skA 7 ?_
          simp only [Act.put, List.setIfInBounds_toArray, List.set_cons_zero, List.set_cons_succ]
          first | refine tkA 8 ?_ | refine skA 8 ?_
          simp only [Act.put, List.setIfInBounds_toArray, List.set_cons_zero, List.set_cons_succ]
          first | refine tkA 9 ?_ | refine skA 9 ?_
          simp only [Act.put, List.setIfInBounds_toArray, List.set_cons_zero, List.set_cons_succ]
          first | refine tkA 10 ?_ | refine skA 10 ?_
          simp only [Act.put, List.setIfInBounds_toArray, List.set_cons_zero, List.set_cons_succ]
          first | refine tkA 11 ?_ | refine skA 11 ?_
          simp only [Act.put, List.setIfInBounds_toArray, List.set_cons_zero, List.set_cons_succ]
          first | refine tkA 12 ?_ | refine skA 12 ?_
          simp only [Act.put, List.setIfInBounds_toArray, List.set_cons_zero, List.set_cons_succ]
          refine held_one 13 (by kernel_rfl) rfl (fun K hK => ?_)
          go_simp
          go_at_call 84
          refine (HM.out _ hHeld.2.2.2.2.2.2.2.2).mono ?_; rintro e w1 ⟨rfl, hb1⟩
          go_wp2_with fail
          refine hK.out _ _ (by (try dsimp only); obtain ⟨y0, y1, y2, y3, y4, y5, y6, y7, yb⟩ := hHeld; exact ⟨keep_cell hb1 y0, keep_cell hb1 y1, keep_cell hb1 y2, keep_cell hb1 y3, keep_cell hb1 y4, keep_cell hb1 y5, keep_cell hb1 y6, keep_cell hb1 y7, ex_trans yb hb1⟩) (fun hNew => ?_)
          clear hK K hHeld
          have hHeld := hNew
          clear hNew
          try simp only [Act.put, List.setIfInBounds_toArray, List.set_cons_zero, List.set_cons_succ]
          first | refine tkA 14 ?_ | refine skA 14 ?_
          simp only [Act.put, List.setIfInBounds_toArray, List.set_cons_zero, List.set_cons_succ]
          first | refine tkA 15 ?_ | refine skA 15 ?_
          simp only [Act.put, List.setIfInBounds_toArray, List.set_cons_zero, List.set_cons_succ]
          first | refine tkA 16 ?_ | refine skA 16 ?_
          simp only [Act.put, List.setIfInBounds_toArray, List.set_cons_zero, List.set_cons_succ]
          first | refine tkA 17 ?_ | refine skA 17 ?_
          simp only [Act.put, List.setIfInBounds_toArray, List.set_cons_zero, List.set_cons_succ]
          first | refine tkA 18 ?_ | refine skA 18 ?_
          simp only [Act.put, List.setIfInBounds_toArray, List.set_cons_zero, List.set_cons_succ]
          first | refine tkA 19 ?_ | refine skA 19 ?_
          simp only [Act.put, List.setIfInBounds_toArray, List.set_cons_zero, List.set_cons_succ]
          first | refine tkA 20 ?_ | refine skA 20 ?_
          simp only [Act.put, List.setIfInBounds_toArray, List.set_cons_zero, List.set_cons_succ]
          first | refine tkA 21 ?_ | refine skA 21 ?_
          simp only [Act.put, List.setIfInBounds_toArray, List.set_cons_zero, List.set_cons_succ]
          first | refine tkA 22 ?_ | refine skA 22 ?_
          simp only [Act.put, List.setIfInBounds_toArray, List.set_cons_zero, List.set_cons_succ]
          first | refine tkA 23 ?_ | refine skA 23 ?_
          simp only [Act.put, List.setIfInBounds_toArray, List.set_cons_zero, List.set_cons_succ]
          first | refine tkA 24 ?_ | refine skA 24 ?_
          simp only [Act.put, List.setIfInBounds_toArray, List.set_cons_zero, List.set_cons_succ]
          first | refine tkA 25 ?_ | refine skA 25 ?_
          simp only [Act.put, List.setIfInBounds_toArray, List.set_cons_zero, List.set_cons_succ]
          first | refine tkA 26 ?_ | refine skA 26 ?_
          simp only [Act.put, List.setIfInBounds_toArray, List.set_cons_zero, List.set_cons_succ]
          first | refine tkA 27 ?_ | refine skA 27 ?_
          simp only [Act.put, List.setIfInBounds_toArray, List.set_cons_zero, List.set_cons_succ]
          first | refine tkA 28 ?_ | refine skA 28 ?_
          simp only [Act.put, List.setIfInBounds_toArray, List.set_cons_zero, List.set_cons_succ]
          first | refine tkA 29 ?_ | refine skA 29 ?_
          simp only [Act.put, List.setIfInBounds_toArray, List.set_cons_zero, List.set_cons_succ]
          first | refine tkA 30 ?_ | refine skA 30 ?_
          simp only [Act.put, List.setIfInBounds_toArray, List.set_cons_zero, List.set_cons_succ]
          first | refine tkA 31 ?_ | refine skA 31 ?_
          simp only [Act.put, List.setIfInBounds_toArray, List.set_cons_zero, List.set_cons_succ]
          first | refine tkA 32 ?_ | refine skA 32 ?_
          simp only [Act.put, List.setIfInBounds_toArray, List.set_cons_zero, List.set_cons_succ]
          first | refine tkA 33 ?_ | refine skA 33 ?_
          simp only [Act.put, List.setIfInBounds_toArray, List.set_cons_zero, List.set_cons_succ]
          first | refine tkA 34 ?_ | refine skA 34 ?_
          simp only [Act.put, List.setIfInBounds_toArray, List.set_cons_zero, List.set_cons_succ]
          refine wpAnyH_done (by kernel_rfl) ?_ _
          have hB := hHeld.2.2.2.2.2.2.2.2
          obtain ⟨x0, x1, x3, x4, _⟩ := hHeld
          go_wp2_with fail
          go_roundw
          case rel => exact ⟨0 + 1, by omega, by go_num, HG.out, by assumption, by assumption, by assumption, by assumption, hB⟩
          case measure => simp [intOf]; omega
    · have HV := Lib.hid (validA_all (show goodA l f.attrs f.attrs.length from by rw [show f.attrs.length = k from by omega]; exact hG))
      clear hG
      go_wp2_with (first
        | (go_at_call 72; refine (spec_l01In _ _ _ _).mono ?_; rintro e w' ⟨rfl, rfl⟩)
        | (go_at_call 71; refine (HI.out _ (by go_grown)).mono ?_; rintro e w1 ⟨rfl, hb1⟩; have hB1 := ex_trans (w := w) (by go_grown) hb1; have x0' := keep_cell hb1 x0; have x1' := keep_cell hb1 x1; have x3' := keep_cell hb1 x3))
      all_goals go_returns
      all_goals refine ⟨ret_bool ?_, by go_grown⟩
      all_goals go_light
      all_goals rw [validF, HV.out]
      all_goals clear HI HV
      all_goals simp_all
end Go.Proofs.Ytjobgnioehkomaa
