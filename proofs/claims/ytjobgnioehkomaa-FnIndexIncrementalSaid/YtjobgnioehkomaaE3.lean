/-
  CONTRACTS: a store is valid.
-/
import Derived.WalkKit
import Derived.WalkSpells
import Derived.WalkLawsBesides
import Derived.Lib.Hide
import Derived.Handy
import Derived.StillTailTactics
import Derived.Deep.Light
import Derived.Deep.QuietTactic
import Derived.BigQuiet
import Derived.Deep.RegionHeld3
import Derived.Test.YtjobgnioehkomaaLib
import Derived.Test.YtjobgnioehkomaaHld
import Derived.Test.YtjobgnioehkomaaOwn
import Derived.Test.YtjobgnioehkomaaC1
import Derived.Test.YtjobgnioehkomaaC2
import Derived.Test.YtjobgnioehkomaaT1
import Derived.Test.YtjobgnioehkomaaT2
import Derived.Test.YtjobgnioehkomaaT3
import Derived.Test.YtjobgnioehkomaaC3
import Derived.Test.YtjobgnioehkomaaC4
import Derived.Test.YtjobgnioehkomaaC5
import Derived.Test.YtjobgnioehkomaaC8
import Derived.Test.YtjobgnioehkomaaSz
import Derived.Test.YtjobgnioehkomaaRows
namespace Go.Proofs.Ytjobgnioehkomaa
open Go.RowKit
section
variable {P : Program} {L : List Oper} {Q : Exit → Act → World → Prop} {md : Region.Mode} {S : World → Prop}
private theorem tkA (i : Nat) {oi : Oper} {tl : List Oper} {v : Value} {fuel : Nat} {listed : Array Bool} {a : Act} {w : World}
    (h : wpAnyH P md L.toArray Q S fuel (listed.setIfInBounds i true) (a.put oi.dst v) w) (hd : L.drop i = oi :: tl := by exact rfl)
    (hs : Region.noSelect L.toArray = true := by kernel_rfl) (hf : Region.free md L.toArray listed i = true := by kernel_rfl) (hr : (Region.ready md L.toArray listed).contains i = true := by kernel_rfl)
    (hw : Region.wanted oi (yielded L.toArray a.tmps) = true := by rfl) (hQ : ∀ c a w, Q (.panic c) (a.put oi.dst v) w → Q (.panic c) a w := by exact fun _ _ _ h => h) (hS : S w := by assumption)
    (hy : ∀ w, S w → (execOp a.eval oi).run P w = .ok (.value v) w := by intro w hSw; (try dsimp only at hSw); go_simp; first | done | with_reducible rfl) : wpAnyH P md L.toArray Q S (fuel + 1) listed a w :=
  held_take i hd hs hf hr hw hQ hS hy h
private theorem skA (i : Nat) {oi : Oper} {tl : List Oper} {fuel : Nat} {listed : Array Bool} {a : Act} {w : World}
    (h : wpAnyH P md L.toArray Q S fuel (listed.setIfInBounds i true) (a.put oi.dst undef) w) (hd : L.drop i = oi :: tl := by exact rfl)
    (hs : Region.noSelect L.toArray = true := by kernel_rfl) (hf : Region.free md L.toArray listed i = true := by kernel_rfl) (hr : (Region.ready md L.toArray listed).contains i = true := by kernel_rfl)
    (hw : Region.wanted oi (yielded L.toArray a.tmps) = false := by rfl) (hQ : ∀ c a w, Q (.panic c) (a.put oi.dst undef) w → Q (.panic c) a w := by exact fun _ _ _ h => h) (hS : S w := by assumption) : wpAnyH P md L.toArray Q S (fuel + 1) listed a w :=
  held_skip i hd hs hf hr hw hQ hS h
end
set_option linter.unusedVariables false
set_option maxRecDepth 100000
noncomputable def stBad (s : Sto) (k : Nat) : Bool :=
  if h : k < s.files.length then !validF s.schema s.files[k] || decide (s.next ≤ s.files[k].id) || (decide (0 < k) && decide (s.files[k].id ≤ (s.files[k - 1]'(by omega)).id)) else false
def goodS (s : Sto) (k : Nat) : Prop := ∀ i, i < k → stBad s i = false
theorem goodS_zero (s : Sto) : goodS s 0 := fun i h => by omega
theorem goodS_succ {s : Sto} {k : Nat} (h : goodS s k) (hk : stBad s k = false) : goodS s (k + 1) := fun i hi => by
  by_cases e : i = k
  · rw [e]; exact hk
  · exact h i (by omega)
open Classical in
noncomputable def validS (s : Sto) : Bool := decide (goodS s s.files.length) && ((okSchema s.schema && decide ((s.files.length : Int) ≤ 12)) && inB s.next 1 61)
theorem validS_bad {s : Sto} {k : Nat} (hk : k < s.files.length) (h : stBad s k = true) : false = validS s := by
  classical
  have : decide (goodS s s.files.length) = false := by
    simp only [decide_eq_false_iff_not]
    intro hg
    rw [hg k hk] at h; cases h
  unfold validS; rw [this]; rfl
theorem validS_all {s : Sto} (h : goodS s s.files.length) : ((okSchema s.schema && decide ((s.files.length : Int) ≤ 12)) && inB s.next 1 61) = validS s := by
  classical
  unfold validS; rw [decide_eq_true h]; rfl
set_option maxHeartbeats 6400000 in
theorem spec_IsValidStore (s : Sto) (A : Option Addr) (n c : Nat) (B : Option Addr) (m d : Nat) (w : World) (hS : Sl 2 RFld w A n s.schema) (hT : Sl 5 RFil w B m s.files) (hok : s.ok 1073741824) :
    Calls Try.prog 17 #[s.v A n c B m d] w fun e w' => e = .returned (.bool (validS s)) ∧ Below w.heap.size w w' := by
  obtain rfl : s.files.length = m := hT.len
  obtain rfl : s.schema.length = n := hS.len
  obtain ⟨hn, hl, hm, hf⟩ := hok
  have HI := Lib.hid fun w' (hb : Below w.heap.size w w') => spec_IsValidSchema A s.schema.length c s.schema w' (hS.mono mFld hb) hn hl
  go_enter Try.func17, Try.ntmps17
  go_wp2_with fail
  go_loopw [3] (fun i wr => ∃ k : Nat, k ≤ s.files.length ∧ i = .int .i64 k ∧ goodS s k ∧ wr.cell? ⟨w.heap.size, 0, none⟩ = some (.slice A s.schema.length c) ∧ wr.cell? ⟨w.heap.size, 1, none⟩ = some (.slice B s.files.length d) ∧ wr.cell? ⟨w.heap.size, 2, none⟩ = some (.int .i64 s.next) ∧ Below w.heap.size w wr) (fun i _ => s.files.length - (intOf i).toNat)
  case atStart => exact ⟨0, Nat.zero_le _, rfl, goodS_zero _, by go_simp, by go_simp, by go_simp, by go_grown⟩
  case round =>
    obtain ⟨k, hk, rfl, hG, x0, x1, x2, hb⟩ := hrel
    have hzw : w.heap.size < wr.heap.size := World.block_lt_of_cell? wr ⟨w.heap.size, 0, none⟩ x0
    by_cases hlt : k < s.files.length
    · have i0 : (0 : Int) ≤ (k : Int) := by omega
      have i1 : (k : Int) < (s.files.length : Int) := by omega
      obtain ⟨b, off, rfl, bw, bc⟩ := hT.fil (by omega)
      obtain ⟨qA, qn, qc', q0, q1, q2, q3, q4, qS⟩ := bc k (by omega)
      have hp := fun (h0 : 0 < k) => (hb.cell (p := ⟨b, off + (k - 1) * 5, none⟩) bw).trans (bc (k - 1) (by omega)).choose_spec.choose_spec.choose_spec.1
      rw [← hb.cell (p := ⟨b, _, none⟩) bw] at q0 q1 q2 q3 q4
      have bwr : b < wr.heap.size := Nat.lt_of_lt_of_le bw hb.size
      have CM := Lib.hid fun w' (hb : Below w.heap.size w w') => spec_IsValidFile A s.schema.length c s.schema s.files[k] qA qn qc' w' (hS.mono mFld hb) hn (qS.mono mAtr hb) hl (hf _ (List.getElem_mem hlt))
      have HP := Lib.hid hp
      clear hf hl bc hp qS
      cases hv : validF s.schema s.files[k] with
      | false =>
        have HZ := Lib.hid (validS_bad hlt (by rw [stBad, dif_pos hlt, hv]; simp))
        have HM := Lib.hid fun w' hb => by have h := CM.out w' hb; rw [hv] at h; exact h
        clear hG hv CM
        go_wp2_with fail
        refine wp_region_held_drew (S := (fun w' => w'.cell? ⟨w.heap.size, 0, none⟩ = some (.slice A s.schema.length c) ∧ w'.cell? ⟨w.heap.size, 1, none⟩ = some (.slice (some ⟨b, off, none⟩) s.files.length d) ∧ w'.cell? ⟨w.heap.size, 2, none⟩ = some (.int .i64 s.next) ∧ w'.cell? ⟨b, off + k * 5, none⟩ = some (.int .i64 s.files[k].id) ∧ w'.cell? ⟨b, off + k * 5 + 1, none⟩ = some (.int .i64 s.files[k].owner) ∧ w'.cell? ⟨b, off + k * 5 + 2, none⟩ = some (.bool s.files[k].shared) ∧ w'.cell? ⟨b, off + k * 5 + 3, none⟩ = some (.int .i64 s.files[k].link) ∧ w'.cell? ⟨b, off + k * 5 + 4, none⟩ = some (.slice qA qn qc') ∧ Below w.heap.size w w')) (by kernel_rfl) (by (try dsimp only); exact ⟨by go_simp, by go_simp, by go_simp, by go_simp, by go_simp, by go_simp, by go_simp, by go_simp, hb.drew⟩) (fun hHeld => ?_)
        first | refine tkA 0 ?_ | refine skA 0 ?_
        simp only [Act.put, List.setIfInBounds_toArray, List.set_cons_zero, List.set_cons_succ]
        first | refine tkA 1 ?_ | refine skA 1 ?_
        simp only [Act.put, List.setIfInBounds_toArray, List.set_cons_zero, List.set_cons_succ]
        first | refine tkA 2 ?_ | refine skA 2 ?_
        simp only [Act.put, List.setIfInBounds_toArray, List.set_cons_zero, List.set_cons_succ]
        first | refine tkA 3 ?_ | refine skA 3 ?_
        simp only [Act.put, List.setIfInBounds_toArray, List.set_cons_zero, List.set_cons_succ]
        first | refine tkA 4 ?_ | refine skA 4 ?_
        simp only [Act.put, List.setIfInBounds_toArray, List.set_cons_zero, List.set_cons_succ]
        first | refine tkA 5 ?_ | refine skA 5 ?_
        simp only [Act.put, List.setIfInBounds_toArray, List.set_cons_zero, List.set_cons_succ]
        first | refine tkA 6 ?_ | refine skA 6 ?_
        simp only [Act.put, List.setIfInBounds_toArray, List.set_cons_zero, List.set_cons_succ]
        refine held_one 7 (by kernel_rfl) rfl (fun K hK => ?_)
        go_simp
        go_at_call 27
        refine (HM.out _ hHeld.2.2.2.2.2.2.2.2).mono ?_; rintro e w1 ⟨rfl, hb1⟩
        go_wp2_with fail
        refine hK.out _ _ (by (try dsimp only); obtain ⟨y0, y1, y2, y3, y4, y5, y6, y7, yb⟩ := hHeld; exact ⟨keep_cell hb1 y0, keep_cell hb1 y1, keep_cell hb1 y2, keep_cell hb1 y3, keep_cell hb1 y4, keep_cell hb1 y5, keep_cell hb1 y6, keep_cell hb1 y7, ex_trans yb hb1⟩) (fun hNew => ?_)
        clear hK K hHeld
        have hHeld := hNew
        clear hNew
        try simp only [Act.put, List.setIfInBounds_toArray, List.set_cons_zero, List.set_cons_succ]
        first | refine tkA 8 ?_ | refine skA 8 ?_
        simp only [Act.put, List.setIfInBounds_toArray, List.set_cons_zero, List.set_cons_succ]
        first | refine tkA 9 ?_ | refine skA 9 ?_
        simp only [Act.put, List.setIfInBounds_toArray, List.set_cons_zero, List.set_cons_succ]
        first | refine tkA 10 ?_ | refine skA 10 ?_
        simp only [Act.put, List.setIfInBounds_toArray, List.set_cons_zero, List.set_cons_succ]
        first | refine tkA 11 ?_ | refine skA 11 ?_
        simp only [Act.put, List.setIfInBounds_toArray, List.set_cons_zero, List.set_cons_succ]
        first | refine tkA 12 ?_ | refine skA 12 ?_
        simp only [Act.put, List.setIfInBounds_toArray, List.set_cons_zero, List.set_cons_succ]
        first | refine tkA 13 ?_ | refine skA 13 ?_
        simp only [Act.put, List.setIfInBounds_toArray, List.set_cons_zero, List.set_cons_succ]
        first | refine tkA 14 ?_ | refine skA 14 ?_
        simp only [Act.put, List.setIfInBounds_toArray, List.set_cons_zero, List.set_cons_succ]
        first | refine tkA 15 ?_ | refine skA 15 ?_
        simp only [Act.put, List.setIfInBounds_toArray, List.set_cons_zero, List.set_cons_succ]
        first | refine tkA 16 ?_ | refine skA 16 ?_
        simp only [Act.put, List.setIfInBounds_toArray, List.set_cons_zero, List.set_cons_succ]
        first | refine tkA 17 ?_ | refine skA 17 ?_
        simp only [Act.put, List.setIfInBounds_toArray, List.set_cons_zero, List.set_cons_succ]
        first | refine tkA 18 ?_ | refine skA 18 ?_
        simp only [Act.put, List.setIfInBounds_toArray, List.set_cons_zero, List.set_cons_succ]
        first | refine tkA 19 ?_ | refine skA 19 ?_
        simp only [Act.put, List.setIfInBounds_toArray, List.set_cons_zero, List.set_cons_succ]
        first | refine tkA 20 ?_ | refine skA 20 ?_
        simp only [Act.put, List.setIfInBounds_toArray, List.set_cons_zero, List.set_cons_succ]
        first | refine tkA 21 ?_ | refine skA 21 ?_
        simp only [Act.put, List.setIfInBounds_toArray, List.set_cons_zero, List.set_cons_succ]
        first | refine tkA 22 ?_ | refine skA 22 ?_
        simp only [Act.put, List.setIfInBounds_toArray, List.set_cons_zero, List.set_cons_succ]
        first | refine tkA 23 ?_ | refine skA 23 ?_
        simp only [Act.put, List.setIfInBounds_toArray, List.set_cons_zero, List.set_cons_succ]
        first | refine tkA 24 ?_ | refine skA 24 ?_
        simp only [Act.put, List.setIfInBounds_toArray, List.set_cons_zero, List.set_cons_succ]
        first | refine tkA 25 ?_ | refine skA 25 ?_
        simp only [Act.put, List.setIfInBounds_toArray, List.set_cons_zero, List.set_cons_succ]
        first | refine tkA 26 ?_ | refine skA 26 ?_
        simp only [Act.put, List.setIfInBounds_toArray, List.set_cons_zero, List.set_cons_succ]
        first | refine tkA 27 ?_ | refine skA 27 ?_
        simp only [Act.put, List.setIfInBounds_toArray, List.set_cons_zero, List.set_cons_succ]
        first | refine tkA 28 ?_ | refine skA 28 ?_
        simp only [Act.put, List.setIfInBounds_toArray, List.set_cons_zero, List.set_cons_succ]
        first | refine tkA 29 ?_ | refine skA 29 ?_
        simp only [Act.put, List.setIfInBounds_toArray, List.set_cons_zero, List.set_cons_succ]
        first | refine tkA 30 ?_ | refine skA 30 ?_
        simp only [Act.put, List.setIfInBounds_toArray, List.set_cons_zero, List.set_cons_succ]
        first | refine tkA 31 ?_ | refine skA 31 ?_
        simp only [Act.put, List.setIfInBounds_toArray, List.set_cons_zero, List.set_cons_succ]
        first | refine tkA 32 ?_ | refine skA 32 ?_
        simp only [Act.put, List.setIfInBounds_toArray, List.set_cons_zero, List.set_cons_succ]
        first | refine tkA 33 ?_ | refine skA 33 ?_
        simp only [Act.put, List.setIfInBounds_toArray, List.set_cons_zero, List.set_cons_succ]
        first | refine tkA 34 ?_ | refine skA 34 ?_
        simp only [Act.put, List.setIfInBounds_toArray, List.set_cons_zero, List.set_cons_succ]
        first | refine tkA 35 ?_ | refine skA 35 ?_
        simp only [Act.put, List.setIfInBounds_toArray, List.set_cons_zero, List.set_cons_succ]
        first | refine tkA 36 ?_ | refine skA 36 ?_
        simp only [Act.put, List.setIfInBounds_toArray, List.set_cons_zero, List.set_cons_succ]
        first | refine tkA 37 ?_ | refine skA 37 ?_
        simp only [Act.put, List.setIfInBounds_toArray, List.set_cons_zero, List.set_cons_succ]
        first | refine tkA 38 ?_ | refine skA 38 ?_
        simp only [Act.put, List.setIfInBounds_toArray, List.set_cons_zero, List.set_cons_succ]
        first | refine tkA 39 ?_ | refine skA 39 ?_
        simp only [Act.put, List.setIfInBounds_toArray, List.set_cons_zero, List.set_cons_succ]
        refine wpAnyH_done (by kernel_rfl) ?_ _
        have hB := hHeld.2.2.2.2.2.2.2.2
        obtain ⟨x0, x1, x2, _⟩ := hHeld
        go_wp2_with fail
        go_returns
        exact ⟨ret_bool HZ.out, hB⟩
      | true =>
        by_cases hge : s.next ≤ s.files[k].id
        · have HZ := Lib.hid (validS_bad hlt (by rw [stBad, dif_pos hlt, hv, decide_eq_true hge]; simp))
          have HM := Lib.hid fun w' hb => by have h := CM.out w' hb; rw [hv] at h; exact h
          have HGE := Lib.hid hge
          clear hG hv CM hge
          go_wp2_with fail
          have t1 : s.next ≤ s.files[k].id := HGE.out
          have t2 : decide (s.next ≤ s.files[k].id) = true := decide_eq_true HGE.out
          refine wp_region_held_drew (S := (fun w' => w'.cell? ⟨w.heap.size, 0, none⟩ = some (.slice A s.schema.length c) ∧ w'.cell? ⟨w.heap.size, 1, none⟩ = some (.slice (some ⟨b, off, none⟩) s.files.length d) ∧ w'.cell? ⟨w.heap.size, 2, none⟩ = some (.int .i64 s.next) ∧ w'.cell? ⟨b, off + k * 5, none⟩ = some (.int .i64 s.files[k].id) ∧ w'.cell? ⟨b, off + k * 5 + 1, none⟩ = some (.int .i64 s.files[k].owner) ∧ w'.cell? ⟨b, off + k * 5 + 2, none⟩ = some (.bool s.files[k].shared) ∧ w'.cell? ⟨b, off + k * 5 + 3, none⟩ = some (.int .i64 s.files[k].link) ∧ w'.cell? ⟨b, off + k * 5 + 4, none⟩ = some (.slice qA qn qc') ∧ Below w.heap.size w w')) (by kernel_rfl) (by (try dsimp only); exact ⟨by go_simp, by go_simp, by go_simp, by go_simp, by go_simp, by go_simp, by go_simp, by go_simp, hb.drew⟩) (fun hHeld => ?_)
          first | refine tkA 0 ?_ | refine skA 0 ?_
          simp only [Act.put, List.setIfInBounds_toArray, List.set_cons_zero, List.set_cons_succ]
          first | refine tkA 1 ?_ | refine skA 1 ?_
          simp only [Act.put, List.setIfInBounds_toArray, List.set_cons_zero, List.set_cons_succ]
          first | refine tkA 2 ?_ | refine skA 2 ?_
          simp only [Act.put, List.setIfInBounds_toArray, List.set_cons_zero, List.set_cons_succ]
          first | refine tkA 3 ?_ | refine skA 3 ?_
          simp only [Act.put, List.setIfInBounds_toArray, List.set_cons_zero, List.set_cons_succ]
          first | refine tkA 4 ?_ | refine skA 4 ?_
          simp only [Act.put, List.setIfInBounds_toArray, List.set_cons_zero, List.set_cons_succ]
          first | refine tkA 5 ?_ | refine skA 5 ?_
          simp only [Act.put, List.setIfInBounds_toArray, List.set_cons_zero, List.set_cons_succ]
          first | refine tkA 6 ?_ | refine skA 6 ?_
          simp only [Act.put, List.setIfInBounds_toArray, List.set_cons_zero, List.set_cons_succ]
          refine held_one 7 (by kernel_rfl) rfl (fun K hK => ?_)
          go_simp
          go_at_call 27
          refine (HM.out _ hHeld.2.2.2.2.2.2.2.2).mono ?_; rintro e w1 ⟨rfl, hb1⟩
          go_wp2_with fail
          refine hK.out _ _ (by (try dsimp only); obtain ⟨y0, y1, y2, y3, y4, y5, y6, y7, yb⟩ := hHeld; exact ⟨keep_cell hb1 y0, keep_cell hb1 y1, keep_cell hb1 y2, keep_cell hb1 y3, keep_cell hb1 y4, keep_cell hb1 y5, keep_cell hb1 y6, keep_cell hb1 y7, ex_trans yb hb1⟩) (fun hNew => ?_)
          clear hK K hHeld
          have hHeld := hNew
          clear hNew
          try simp only [Act.put, List.setIfInBounds_toArray, List.set_cons_zero, List.set_cons_succ]
          first | refine tkA 8 ?_ | refine skA 8 ?_
          simp only [Act.put, List.setIfInBounds_toArray, List.set_cons_zero, List.set_cons_succ]
          first | refine tkA 9 ?_ | refine skA 9 ?_
          simp only [Act.put, List.setIfInBounds_toArray, List.set_cons_zero, List.set_cons_succ]
          first | refine tkA 10 ?_ | refine skA 10 ?_
          simp only [Act.put, List.setIfInBounds_toArray, List.set_cons_zero, List.set_cons_succ]
          first | refine tkA 11 ?_ | refine skA 11 ?_
          simp only [Act.put, List.setIfInBounds_toArray, List.set_cons_zero, List.set_cons_succ]
          first | refine tkA 12 ?_ | refine skA 12 ?_
          simp only [Act.put, List.setIfInBounds_toArray, List.set_cons_zero, List.set_cons_succ]
          first | refine tkA 13 ?_ | refine skA 13 ?_
          simp only [Act.put, List.setIfInBounds_toArray, List.set_cons_zero, List.set_cons_succ]
          first | refine tkA 14 ?_ | refine skA 14 ?_
          simp only [Act.put, List.setIfInBounds_toArray, List.set_cons_zero, List.set_cons_succ]
          first | refine tkA 15 ?_ | refine skA 15 ?_
          simp only [Act.put, List.setIfInBounds_toArray, List.set_cons_zero, List.set_cons_succ]
          first | refine tkA 16 ?_ | refine skA 16 ?_
          simp only [Act.put, List.setIfInBounds_toArray, List.set_cons_zero, List.set_cons_succ]
          first | refine tkA 17 ?_ | refine skA 17 ?_
          simp only [Act.put, List.setIfInBounds_toArray, List.set_cons_zero, List.set_cons_succ]
          first | refine tkA 18 ?_ | refine skA 18 ?_
          simp only [Act.put, List.setIfInBounds_toArray, List.set_cons_zero, List.set_cons_succ]
          first | refine tkA 19 ?_ | refine skA 19 ?_
          simp only [Act.put, List.setIfInBounds_toArray, List.set_cons_zero, List.set_cons_succ]
          first | refine tkA 20 ?_ | refine skA 20 ?_
          simp only [Act.put, List.setIfInBounds_toArray, List.set_cons_zero, List.set_cons_succ]
          first | refine tkA 21 ?_ | refine skA 21 ?_
          simp only [Act.put, List.setIfInBounds_toArray, List.set_cons_zero, List.set_cons_succ]
          first | refine tkA 22 ?_ | refine skA 22 ?_
          simp only [Act.put, List.setIfInBounds_toArray, List.set_cons_zero, List.set_cons_succ]
          first | refine tkA 23 ?_ | refine skA 23 ?_
          simp only [Act.put, List.setIfInBounds_toArray, List.set_cons_zero, List.set_cons_succ]
          first | refine tkA 24 ?_ | refine skA 24 ?_
          simp only [Act.put, List.setIfInBounds_toArray, List.set_cons_zero, List.set_cons_succ]
          first | refine tkA 25 ?_ | refine skA 25 ?_
          simp only [Act.put, List.setIfInBounds_toArray, List.set_cons_zero, List.set_cons_succ]
          first | refine tkA 26 ?_ | refine skA 26 ?_
          simp only [Act.put, List.setIfInBounds_toArray, List.set_cons_zero, List.set_cons_succ]
          first | refine tkA 27 ?_ | refine skA 27 ?_
          simp only [Act.put, List.setIfInBounds_toArray, List.set_cons_zero, List.set_cons_succ]
          first | refine tkA 28 ?_ | refine skA 28 ?_
          simp only [Act.put, List.setIfInBounds_toArray, List.set_cons_zero, List.set_cons_succ]
          first | refine tkA 29 ?_ | refine skA 29 ?_
          simp only [Act.put, List.setIfInBounds_toArray, List.set_cons_zero, List.set_cons_succ]
          first | refine tkA 30 ?_ | refine skA 30 ?_
          simp only [Act.put, List.setIfInBounds_toArray, List.set_cons_zero, List.set_cons_succ]
          first | refine tkA 31 ?_ | refine skA 31 ?_
          simp only [Act.put, List.setIfInBounds_toArray, List.set_cons_zero, List.set_cons_succ]
          first | refine tkA 32 ?_ | refine skA 32 ?_
          simp only [Act.put, List.setIfInBounds_toArray, List.set_cons_zero, List.set_cons_succ]
          first | refine tkA 33 ?_ | refine skA 33 ?_
          simp only [Act.put, List.setIfInBounds_toArray, List.set_cons_zero, List.set_cons_succ]
          first | refine tkA 34 ?_ | refine skA 34 ?_
          simp only [Act.put, List.setIfInBounds_toArray, List.set_cons_zero, List.set_cons_succ]
          first | refine tkA 35 ?_ | refine skA 35 ?_
          simp only [Act.put, List.setIfInBounds_toArray, List.set_cons_zero, List.set_cons_succ]
          first | refine tkA 36 ?_ | refine skA 36 ?_
          simp only [Act.put, List.setIfInBounds_toArray, List.set_cons_zero, List.set_cons_succ]
          first | refine tkA 37 ?_ | refine skA 37 ?_
          simp only [Act.put, List.setIfInBounds_toArray, List.set_cons_zero, List.set_cons_succ]
          first | refine tkA 38 ?_ | refine skA 38 ?_
          simp only [Act.put, List.setIfInBounds_toArray, List.set_cons_zero, List.set_cons_succ]
          first | refine tkA 39 ?_ | refine skA 39 ?_
          simp only [Act.put, List.setIfInBounds_toArray, List.set_cons_zero, List.set_cons_succ]
          refine wpAnyH_done (by kernel_rfl) ?_ _
          have hB := hHeld.2.2.2.2.2.2.2.2
          obtain ⟨x0, x1, x2, _⟩ := hHeld
          go_wp2_with fail
          go_returns
          exact ⟨ret_bool HZ.out, hB⟩
        · have HGE := Lib.hid hge
          by_cases h0 : 0 < k
          · have s1 : IntKind.i64.wrap ((k : Int) - 1) = (k : Int) - 1 := IntWalk.i64_in _ (by omega)
            have s2 : 0 ≤ (k : Int) - 1 := by omega
            have s2' : 1 ≤ (k : Int) := by omega
            have s3 : ((k : Int) - 1).toNat = k - 1 := by omega
            have s4 : (k : Int) - 1 < (s.files.length : Int) := by omega
            have h0' : (0 : Int) < (k : Int) := by omega
            have p0 := HP.out h0
            by_cases hle : s.files[k].id ≤ (s.files[k - 1]'(by omega)).id
            · have HZ := Lib.hid (validS_bad hlt (by rw [stBad, dif_pos hlt, hv, decide_eq_false hge, decide_eq_true h0, decide_eq_true hle]; simp))
              have HM := Lib.hid fun w' hb => by have h := CM.out w' hb; rw [hv] at h; exact h
              have HLE := Lib.hid hle
              clear hG hv CM hge hle
              go_wp2_with fail
              have t2 : decide (s.next ≤ s.files[k].id) = false := decide_eq_false (by have := HGE.out; omega)
              have t3 : decide (0 < (k : Int)) = true := decide_eq_true (by omega)
              have t4 : decide (s.files[k].id ≤ (s.files[k - 1]'(by omega)).id) = true := decide_eq_true HLE.out
              refine wp_region_held_drew (S := (fun w' => w'.cell? ⟨w.heap.size, 0, none⟩ = some (.slice A s.schema.length c) ∧ w'.cell? ⟨w.heap.size, 1, none⟩ = some (.slice (some ⟨b, off, none⟩) s.files.length d) ∧ w'.cell? ⟨w.heap.size, 2, none⟩ = some (.int .i64 s.next) ∧ w'.cell? ⟨b, off + k * 5, none⟩ = some (.int .i64 s.files[k].id) ∧ w'.cell? ⟨b, off + k * 5 + 1, none⟩ = some (.int .i64 s.files[k].owner) ∧ w'.cell? ⟨b, off + k * 5 + 2, none⟩ = some (.bool s.files[k].shared) ∧ w'.cell? ⟨b, off + k * 5 + 3, none⟩ = some (.int .i64 s.files[k].link) ∧ w'.cell? ⟨b, off + k * 5 + 4, none⟩ = some (.slice qA qn qc') ∧ w'.cell? ⟨b, off + (k - 1) * 5, none⟩ = some (.int .i64 (s.files[k - 1]'(by omega)).id) ∧ Below w.heap.size w w')) (by kernel_rfl) (by (try dsimp only); exact ⟨by go_simp, by go_simp, by go_simp, by go_simp, by go_simp, by go_simp, by go_simp, by go_simp, by go_simp, hb.drew⟩) (fun hHeld => ?_)
              first | refine tkA 0 ?_ | refine skA 0 ?_
              simp only [Act.put, List.setIfInBounds_toArray, List.set_cons_zero, List.set_cons_succ]
              first | refine tkA 1 ?_ | refine skA 1 ?_
              simp only [Act.put, List.setIfInBounds_toArray, List.set_cons_zero, List.set_cons_succ]
              first | refine tkA 2 ?_ | refine skA 2 ?_
              simp only [Act.put, List.setIfInBounds_toArray, List.set_cons_zero, List.set_cons_succ]
              first | refine tkA 3 ?_ | refine skA 3 ?_
              simp only [Act.put, List.setIfInBounds_toArray, List.set_cons_zero, List.set_cons_succ]
              first | refine tkA 4 ?_ | refine skA 4 ?_
              simp only [Act.put, List.setIfInBounds_toArray, List.set_cons_zero, List.set_cons_succ]
              first | refine tkA 5 ?_ | refine skA 5 ?_
              simp only [Act.put, List.setIfInBounds_toArray, List.set_cons_zero, List.set_cons_succ]
              first | refine tkA 6 ?_ | refine skA 6 ?_
              simp only [Act.put, List.setIfInBounds_toArray, List.set_cons_zero, List.set_cons_succ]
              refine held_one 7 (by kernel_rfl) rfl (fun K hK => ?_)
              go_simp
              go_at_call 27
              refine (HM.out _ hHeld.2.2.2.2.2.2.2.2.2).mono ?_; rintro e w1 ⟨rfl, hb1⟩
              go_wp2_with fail
              refine hK.out _ _ (by (try dsimp only); obtain ⟨y0, y1, y2, y3, y4, y5, y6, y7, y8, yb⟩ := hHeld; exact ⟨keep_cell hb1 y0, keep_cell hb1 y1, keep_cell hb1 y2, keep_cell hb1 y3, keep_cell hb1 y4, keep_cell hb1 y5, keep_cell hb1 y6, keep_cell hb1 y7, keep_cell hb1 y8, ex_trans yb hb1⟩) (fun hNew => ?_)
              clear hK K hHeld
              have hHeld := hNew
              clear hNew
              try simp only [Act.put, List.setIfInBounds_toArray, List.set_cons_zero, List.set_cons_succ]
              first | refine tkA 8 ?_ | refine skA 8 ?_
              simp only [Act.put, List.setIfInBounds_toArray, List.set_cons_zero, List.set_cons_succ]
              first | refine tkA 9 ?_ | refine skA 9 ?_
              simp only [Act.put, List.setIfInBounds_toArray, List.set_cons_zero, List.set_cons_succ]
              first | refine tkA 10 ?_ | refine skA 10 ?_
              simp only [Act.put, List.setIfInBounds_toArray, List.set_cons_zero, List.set_cons_succ]
              first | refine tkA 11 ?_ | refine skA 11 ?_
              simp only [Act.put, List.setIfInBounds_toArray, List.set_cons_zero, List.set_cons_succ]
              first | refine tkA 12 ?_ | refine skA 12 ?_
              simp only [Act.put, List.setIfInBounds_toArray, List.set_cons_zero, List.set_cons_succ]
              first | refine tkA 13 ?_ | refine skA 13 ?_
              simp only [Act.put, List.setIfInBounds_toArray, List.set_cons_zero, List.set_cons_succ]
              first | refine tkA 14 ?_ | refine skA 14 ?_
              simp only [Act.put, List.setIfInBounds_toArray, List.set_cons_zero, List.set_cons_succ]
              first | refine tkA 15 ?_ | refine skA 15 ?_
              simp only [Act.put, List.setIfInBounds_toArray, List.set_cons_zero, List.set_cons_succ]
              first | refine tkA 16 ?_ | refine skA 16 ?_
              simp only [Act.put, List.setIfInBounds_toArray, List.set_cons_zero, List.set_cons_succ]
              first | refine tkA 17 ?_ | refine skA 17 ?_
              simp only [Act.put, List.setIfInBounds_toArray, List.set_cons_zero, List.set_cons_succ]
              first | refine tkA 18 ?_ | refine skA 18 ?_
              simp only [Act.put, List.setIfInBounds_toArray, List.set_cons_zero, List.set_cons_succ]
              first | refine tkA 19 ?_ | refine skA 19 ?_
              simp only [Act.put, List.setIfInBounds_toArray, List.set_cons_zero, List.set_cons_succ]
              first | refine tkA 20 ?_ | refine skA 20 ?_
              simp only [Act.put, List.setIfInBounds_toArray, List.set_cons_zero, List.set_cons_succ]
              first | refine tkA 21 ?_ | refine skA 21 ?_
              simp only [Act.put, List.setIfInBounds_toArray, List.set_cons_zero, List.set_cons_succ]
              first | refine tkA 22 ?_ | refine skA 22 ?_
              simp only [Act.put, List.setIfInBounds_toArray, List.set_cons_zero, List.set_cons_succ]
              first | refine tkA 23 ?_ | refine skA 23 ?_
              simp only [Act.put, List.setIfInBounds_toArray, List.set_cons_zero, List.set_cons_succ]
              first | refine tkA 24 ?_ | refine skA 24 ?_
              simp only [Act.put, List.setIfInBounds_toArray, List.set_cons_zero, List.set_cons_succ]
              first | refine tkA 25 ?_ | refine skA 25 ?_
              simp only [Act.put, List.setIfInBounds_toArray, List.set_cons_zero, List.set_cons_succ]
              first | refine tkA 26 ?_ | refine skA 26 ?_
              simp only [Act.put, List.setIfInBounds_toArray, List.set_cons_zero, List.set_cons_succ]
              first | refine tkA 27 ?_ | refine skA 27 ?_
              simp only [Act.put, List.setIfInBounds_toArray, List.set_cons_zero, List.set_cons_succ]
              first | refine tkA 28 ?_ | refine skA 28 ?_
              simp only [Act.put, List.setIfInBounds_toArray, List.set_cons_zero, List.set_cons_succ]
              first | refine tkA 29 ?_ | refine skA 29 ?_
              simp only [Act.put, List.setIfInBounds_toArray, List.set_cons_zero, List.set_cons_succ]
              first | refine tkA 30 ?_ | refine skA 30 ?_
              simp only [Act.put, List.setIfInBounds_toArray, List.set_cons_zero, List.set_cons_succ]
              first | refine tkA 31 ?_ | refine skA 31 ?_
              simp only [Act.put, List.setIfInBounds_toArray, List.set_cons_zero, List.set_cons_succ]
              first | refine tkA 32 ?_ | refine skA 32 ?_
              simp only [Act.put, List.setIfInBounds_toArray, List.set_cons_zero, List.set_cons_succ]
              first | refine tkA 33 ?_ | refine skA 33 ?_
              simp only [Act.put, List.setIfInBounds_toArray, List.set_cons_zero, List.set_cons_succ]
              first | refine tkA 34 ?_ | refine skA 34 ?_
              simp only [Act.put, List.setIfInBounds_toArray, List.set_cons_zero, List.set_cons_succ]
              first | refine tkA 35 ?_ | refine skA 35 ?_
              simp only [Act.put, List.setIfInBounds_toArray, List.set_cons_zero, List.set_cons_succ]
              first | refine tkA 36 ?_ | refine skA 36 ?_
              simp only [Act.put, List.setIfInBounds_toArray, List.set_cons_zero, List.set_cons_succ]
              first | refine tkA 37 ?_ | refine skA 37 ?_
              simp only [Act.put, List.setIfInBounds_toArray, List.set_cons_zero, List.set_cons_succ]
              first | refine tkA 38 ?_ | refine skA 38 ?_
              simp only [Act.put, List.setIfInBounds_toArray, List.set_cons_zero, List.set_cons_succ]
              first | refine tkA 39 ?_ | refine skA 39 ?_
              simp only [Act.put, List.setIfInBounds_toArray, List.set_cons_zero, List.set_cons_succ]
              refine wpAnyH_done (by kernel_rfl) ?_ _
              have hB := hHeld.2.2.2.2.2.2.2.2.2
              obtain ⟨x0, x1, x2, _⟩ := hHeld
              go_wp2_with fail
              go_returns
              exact ⟨ret_bool HZ.out, hB⟩
            · have HG := Lib.hid (goodS_succ hG (by rw [stBad, dif_pos hlt, hv, decide_eq_false hge, decide_eq_true h0, decide_eq_false hle]; rfl))
              have HM := Lib.hid fun w' hb => by have h := CM.out w' hb; rw [hv] at h; exact h
              have HLE := Lib.hid hle
              clear hG hv CM hge hle
              go_wp2_with fail
              have t2 : decide (s.next ≤ s.files[k].id) = false := decide_eq_false (by have := HGE.out; omega)
              have t3 : decide (0 < (k : Int)) = true := decide_eq_true (by omega)
              have t4 : decide (s.files[k].id ≤ (s.files[k - 1]'(by omega)).id) = false := decide_eq_false (by have := HLE.out; omega)
              refine wp_region_held_drew (S := (fun w' => w'.cell? ⟨w.heap.size, 0, none⟩ = some (.slice A s.schema.length c) ∧ w'.cell? ⟨w.heap.size, 1, none⟩ = some (.slice (some ⟨b, off, none⟩) s.files.length d) ∧ w'.cell? ⟨w.heap.size, 2, none⟩ = some (.int .i64 s.next) ∧ w'.cell? ⟨b, off + k * 5, none⟩ = some (.int .i64 s.files[k].id) ∧ w'.cell? ⟨b, off + k * 5 + 1, none⟩ = some (.int .i64 s.files[k].owner) ∧ w'.cell? ⟨b, off + k * 5 + 2, none⟩ = some (.bool s.files[k].shared) ∧ w'.cell? ⟨b, off + k * 5 + 3, none⟩ = some (.int .i64 s.files[k].link) ∧ w'.cell? ⟨b, off + k * 5 + 4, none⟩ = some (.slice qA qn qc') ∧ w'.cell? ⟨b, off + (k - 1) * 5, none⟩ = some (.int .i64 (s.files[k - 1]'(by omega)).id) ∧ Below w.heap.size w w')) (by kernel_rfl) (by (try dsimp only); exact ⟨by go_simp, by go_simp, by go_simp, by go_simp, by go_simp, by go_simp, by go_simp, by go_simp, by go_simp, hb.drew⟩) (fun hHeld => ?_)
              first | refine tkA 0 ?_ | refine skA 0 ?_
              simp only [Act.put, List.setIfInBounds_toArray, List.set_cons_zero, List.set_cons_succ]
              first | refine tkA 1 ?_ | refine skA 1 ?_
              simp only [Act.put, List.setIfInBounds_toArray, List.set_cons_zero, List.set_cons_succ]
              first | refine tkA 2 ?_ | refine skA 2 ?_
              simp only [Act.put, List.setIfInBounds_toArray, List.set_cons_zero, List.set_cons_succ]
              first | refine tkA 3 ?_ | refine skA 3 ?_
              simp only [Act.put, List.setIfInBounds_toArray, List.set_cons_zero, List.set_cons_succ]
              first | refine tkA 4 ?_ | refine skA 4 ?_
              simp only [Act.put, List.setIfInBounds_toArray, List.set_cons_zero, List.set_cons_succ]
              first | refine tkA 5 ?_ | refine skA 5 ?_
              simp only [Act.put, List.setIfInBounds_toArray, List.set_cons_zero, List.set_cons_succ]
              first | refine tkA 6 ?_ | refine skA 6 ?_
              simp only [Act.put, List.setIfInBounds_toArray, List.set_cons_zero, List.set_cons_succ]
              refine held_one 7 (by kernel_rfl) rfl (fun K hK => ?_)
              go_simp
              go_at_call 27
              refine (HM.out _ hHeld.2.2.2.2.2.2.2.2.2).mono ?_; rintro e w1 ⟨rfl, hb1⟩
              go_wp2_with fail
              refine hK.out _ _ (by (try dsimp only); obtain ⟨y0, y1, y2, y3, y4, y5, y6, y7, y8, yb⟩ := hHeld; exact ⟨keep_cell hb1 y0, keep_cell hb1 y1, keep_cell hb1 y2, keep_cell hb1 y3, keep_cell hb1 y4, keep_cell hb1 y5, keep_cell hb1 y6, keep_cell hb1 y7, keep_cell hb1 y8, ex_trans yb hb1⟩) (fun hNew => ?_)
              clear hK K hHeld
              have hHeld := hNew
              clear hNew
              try simp only [Act.put, List.setIfInBounds_toArray, List.set_cons_zero, List.set_cons_succ]
              first | refine tkA 8 ?_ | refine skA 8 ?_
              simp only [Act.put, List.setIfInBounds_toArray, List.set_cons_zero, List.set_cons_succ]
              first | refine tkA 9 ?_ | refine skA 9 ?_
              simp only [Act.put, List.setIfInBounds_toArray, List.set_cons_zero, List.set_cons_succ]
              first | refine tkA 10 ?_ | refine skA 10 ?_
              simp only [Act.put, List.setIfInBounds_toArray, List.set_cons_zero, List.set_cons_succ]
              first | refine tkA 11 ?_ | refine skA 11 ?_
              simp only [Act.put, List.setIfInBounds_toArray, List.set_cons_zero, List.set_cons_succ]
              first | refine tkA 12 ?_ | refine skA 12 ?_
              simp only [Act.put, List.setIfInBounds_toArray, List.set_cons_zero, List.set_cons_succ]
              first | refine tkA 13 ?_ | refine skA 13 ?_
              simp only [Act.put, List.setIfInBounds_toArray, List.set_cons_zero, List.set_cons_succ]
              first | refine tkA 14 ?_ | refine skA 14 ?_
              simp only [Act.put, List.setIfInBounds_toArray, List.set_cons_zero, List.set_cons_succ]
              first | refine tkA 15 ?_ | refine skA 15 ?_
              simp only [Act.put, List.setIfInBounds_toArray, List.set_cons_zero, List.set_cons_succ]
              first | refine tkA 16 ?_ | refine skA 16 ?_
              simp only [Act.put, List.setIfInBounds_toArray, List.set_cons_zero, List.set_cons_succ]
              first | refine tkA 17 ?_ | refine skA 17 ?_
              simp only [Act.put, List.setIfInBounds_toArray, List.set_cons_zero, List.set_cons_succ]
              first | refine tkA 18 ?_ | refine skA 18 ?_
              simp only [Act.put, List.setIfInBounds_toArray, List.set_cons_zero, List.set_cons_succ]
              first | refine tkA 19 ?_ | refine skA 19 ?_
              simp only [Act.put, List.setIfInBounds_toArray, List.set_cons_zero, List.set_cons_succ]
              first | refine tkA 20 ?_ | refine skA 20 ?_
              simp only [Act.put, List.setIfInBounds_toArray, List.set_cons_zero, List.set_cons_succ]
              first | refine tkA 21 ?_ | refine skA 21 ?_
              simp only [Act.put, List.setIfInBounds_toArray, List.set_cons_zero, List.set_cons_succ]
              first | refine tkA 22 ?_ | refine skA 22 ?_
              simp only [Act.put, List.setIfInBounds_toArray, List.set_cons_zero, List.set_cons_succ]
              first | refine tkA 23 ?_ | refine skA 23 ?_
              simp only [Act.put, List.setIfInBounds_toArray, List.set_cons_zero, List.set_cons_succ]
              first | refine tkA 24 ?_ | refine skA 24 ?_
              simp only [Act.put, List.setIfInBounds_toArray, List.set_cons_zero, List.set_cons_succ]
              first | refine tkA 25 ?_ | refine skA 25 ?_
              simp only [Act.put, List.setIfInBounds_toArray, List.set_cons_zero, List.set_cons_succ]
              first | refine tkA 26 ?_ | refine skA 26 ?_
              simp only [Act.put, List.setIfInBounds_toArray, List.set_cons_zero, List.set_cons_succ]
              first | refine tkA 27 ?_ | refine skA 27 ?_
              simp only [Act.put, List.setIfInBounds_toArray, List.set_cons_zero, List.set_cons_succ]
              first | refine tkA 28 ?_ | refine skA 28 ?_
              simp only [Act.put, List.setIfInBounds_toArray, List.set_cons_zero, List.set_cons_succ]
              first | refine tkA 29 ?_ | refine skA 29 ?_
              simp only [Act.put, List.setIfInBounds_toArray, List.set_cons_zero, List.set_cons_succ]
              first | refine tkA 30 ?_ | refine skA 30 ?_
              simp only [Act.put, List.setIfInBounds_toArray, List.set_cons_zero, List.set_cons_succ]
              first | refine tkA 31 ?_ | refine skA 31 ?_
              simp only [Act.put, List.setIfInBounds_toArray, List.set_cons_zero, List.set_cons_succ]
              first | refine tkA 32 ?_ | refine skA 32 ?_
              simp only [Act.put, List.setIfInBounds_toArray, List.set_cons_zero, List.set_cons_succ]
              first | refine tkA 33 ?_ | refine skA 33 ?_
              simp only [Act.put, List.setIfInBounds_toArray, List.set_cons_zero, List.set_cons_succ]
              first | refine tkA 34 ?_ | refine skA 34 ?_
              simp only [Act.put, List.setIfInBounds_toArray, List.set_cons_zero, List.set_cons_succ]
              first | refine tkA 35 ?_ | refine skA 35 ?_
              simp only [Act.put, List.setIfInBounds_toArray, List.set_cons_zero, List.set_cons_succ]
              first | refine tkA 36 ?_ | refine skA 36 ?_
              simp only [Act.put, List.setIfInBounds_toArray, List.set_cons_zero, List.set_cons_succ]
              first | refine tkA 37 ?_ | refine skA 37 ?_
              simp only [Act.put, List.setIfInBounds_toArray, List.set_cons_zero, List.set_cons_succ]
              first | refine tkA 38 ?_ | refine skA 38 ?_
              simp only [Act.put, List.setIfInBounds_toArray, List.set_cons_zero, List.set_cons_succ]
              first | refine tkA 39 ?_ | refine skA 39 ?_
              simp only [Act.put, List.setIfInBounds_toArray, List.set_cons_zero, List.set_cons_succ]
              refine wpAnyH_done (by kernel_rfl) ?_ _
              have hB := hHeld.2.2.2.2.2.2.2.2.2
              obtain ⟨x0, x1, x2, _⟩ := hHeld
              go_wp2_with fail
              go_roundw
              case rel => exact ⟨k + 1, by omega, by go_num, HG.out, by assumption, by assumption, by assumption, hB⟩
              case measure => simp [intOf]; omega
          · have HG := Lib.hid (goodS_succ hG (by rw [stBad, dif_pos hlt, hv, decide_eq_false hge, decide_eq_false h0]; rfl))
            have HM := Lib.hid fun w' hb => by have h := CM.out w' hb; rw [hv] at h; exact h
            clear hG hv CM hge
            go_wp2_with fail
            have t2 : decide (s.next ≤ s.files[k].id) = false := decide_eq_false (by have := HGE.out; omega)
            have t3 : decide (0 < (k : Int)) = false := decide_eq_false (by omega)
            refine wp_region_held_drew (S := (fun w' => w'.cell? ⟨w.heap.size, 0, none⟩ = some (.slice A s.schema.length c) ∧ w'.cell? ⟨w.heap.size, 1, none⟩ = some (.slice (some ⟨b, off, none⟩) s.files.length d) ∧ w'.cell? ⟨w.heap.size, 2, none⟩ = some (.int .i64 s.next) ∧ w'.cell? ⟨b, off + k * 5, none⟩ = some (.int .i64 s.files[k].id) ∧ w'.cell? ⟨b, off + k * 5 + 1, none⟩ = some (.int .i64 s.files[k].owner) ∧ w'.cell? ⟨b, off + k * 5 + 2, none⟩ = some (.bool s.files[k].shared) ∧ w'.cell? ⟨b, off + k * 5 + 3, none⟩ = some (.int .i64 s.files[k].link) ∧ w'.cell? ⟨b, off + k * 5 + 4, none⟩ = some (.slice qA qn qc') ∧ Below w.heap.size w w')) (by kernel_rfl) (by (try dsimp only); exact ⟨by go_simp, by go_simp, by go_simp, by go_simp, by go_simp, by go_simp, by go_simp, by go_simp, hb.drew⟩) (fun hHeld => ?_)
            first | refine tkA 0 ?_ | refine skA 0 ?_
            simp only [Act.put, List.setIfInBounds_toArray, List.set_cons_zero, List.set_cons_succ]
            first | refine tkA 1 ?_ | refine skA 1 ?_
            simp only [Act.put, List.setIfInBounds_toArray, List.set_cons_zero, List.set_cons_succ]
            first | refine tkA 2 ?_ | refine skA 2 ?_
            simp only [Act.put, List.setIfInBounds_toArray, List.set_cons_zero, List.set_cons_succ]
            first | refine tkA 3 ?_ | refine skA 3 ?_
            simp only [Act.put, List.setIfInBounds_toArray, List.set_cons_zero, List.set_cons_succ]
            first | refine tkA 4 ?_ | refine skA 4 ?_
            simp only [Act.put, List.setIfInBounds_toArray, List.set_cons_zero, List.set_cons_succ]
            first | refine tkA 5 ?_ | refine skA 5 ?_
            simp only [Act.put, List.setIfInBounds_toArray, List.set_cons_zero, List.set_cons_succ]
            first | refine tkA 6 ?_ | refine skA 6 ?_
            simp only [Act.put, List.setIfInBounds_toArray, List.set_cons_zero, List.set_cons_succ]
            refine held_one 7 (by kernel_rfl) rfl (fun K hK => ?_)
            go_simp
            go_at_call 27
            refine (HM.out _ hHeld.2.2.2.2.2.2.2.2).mono ?_; rintro e w1 ⟨rfl, hb1⟩
            go_wp2_with fail
            refine hK.out _ _ (by (try dsimp only); obtain ⟨y0, y1, y2, y3, y4, y5, y6, y7, yb⟩ := hHeld; exact ⟨keep_cell hb1 y0, keep_cell hb1 y1, keep_cell hb1 y2, keep_cell hb1 y3, keep_cell hb1 y4, keep_cell hb1 y5, keep_cell hb1 y6, keep_cell hb1 y7, ex_trans yb hb1⟩) (fun hNew => ?_)
            clear hK K hHeld
            have hHeld := hNew
            clear hNew
            try simp only [Act.put, List.setIfInBounds_toArray, List.set_cons_zero, List.set_cons_succ]
            first | refine tkA 8 ?_ | refine skA 8 ?_
            simp only [Act.put, List.setIfInBounds_toArray, List.set_cons_zero, List.set_cons_succ]
            first | refine tkA 9 ?_ | refine skA 9 ?_
            simp only [Act.put, List.setIfInBounds_toArray, List.set_cons_zero, List.set_cons_succ]
            first | refine tkA 10 ?_ | refine skA 10 ?_
            simp only [Act.put, List.setIfInBounds_toArray, List.set_cons_zero, List.set_cons_succ]
            first | refine tkA 11 ?_ | refine skA 11 ?_
            simp only [Act.put, List.setIfInBounds_toArray, List.set_cons_zero, List.set_cons_succ]
            first | refine tkA 12 ?_ | refine skA 12 ?_
            simp only [Act.put, List.setIfInBounds_toArray, List.set_cons_zero, List.set_cons_succ]
            first | refine tkA 13 ?_ | refine skA 13 ?_
            simp only [Act.put, List.setIfInBounds_toArray, List.set_cons_zero, List.set_cons_succ]
            first | refine tkA 14 ?_ | refine skA 14 ?_
            simp only [Act.put, List.setIfInBounds_toArray, List.set_cons_zero, List.set_cons_succ]
            first | refine tkA 15 ?_ | refine skA 15 ?_
            simp only [Act.put, List.setIfInBounds_toArray, List.set_cons_zero, List.set_cons_succ]
            first | refine tkA 16 ?_ | refine skA 16 ?_
            simp only [Act.put, List.setIfInBounds_toArray, List.set_cons_zero, List.set_cons_succ]
            first | refine tkA 17 ?_ | refine skA 17 ?_
            simp only [Act.put, List.setIfInBounds_toArray, List.set_cons_zero, List.set_cons_succ]
            first | refine tkA 18 ?_ | refine skA 18 ?_
            simp only [Act.put, List.setIfInBounds_toArray, List.set_cons_zero, List.set_cons_succ]
            first | refine tkA 19 ?_ | refine skA 19 ?_
            simp only [Act.put, List.setIfInBounds_toArray, List.set_cons_zero, List.set_cons_succ]
            first | refine tkA 20 ?_ | refine skA 20 ?_
            simp only [Act.put, List.setIfInBounds_toArray, List.set_cons_zero, List.set_cons_succ]
            first | refine tkA 21 ?_ | refine skA 21 ?_
            simp only [Act.put, List.setIfInBounds_toArray, List.set_cons_zero, List.set_cons_succ]
            first | refine tkA 22 ?_ | refine skA 22 ?_
            simp only [Act.put, List.setIfInBounds_toArray, List.set_cons_zero, List.set_cons_succ]
            first | refine tkA 23 ?_ | refine skA 23 ?_
            simp only [Act.put, List.setIfInBounds_toArray, List.set_cons_zero, List.set_cons_succ]
            first | refine tkA 24 ?_ | refine skA 24 ?_
            simp only [Act.put, List.setIfInBounds_toArray, List.set_cons_zero, List.set_cons_succ]
            first | refine tkA 25 ?_ | refine skA 25 ?_
            simp only [Act.put, List.setIfInBounds_toArray, List.set_cons_zero, List.set_cons_succ]
            first | refine tkA 26 ?_ | refine skA 26 ?_
            simp only [Act.put, List.setIfInBounds_toArray, List.set_cons_zero, List.set_cons_succ]
            first | refine tkA 27 ?_ | refine skA 27 ?_
            simp only [Act.put, List.setIfInBounds_toArray, List.set_cons_zero, List.set_cons_succ]
            first | refine tkA 28 ?_ | refine skA 28 ?_
            simp only [Act.put, List.setIfInBounds_toArray, List.set_cons_zero, List.set_cons_succ]
            first | refine tkA 29 ?_ | refine skA 29 ?_
            simp only [Act.put, List.setIfInBounds_toArray, List.set_cons_zero, List.set_cons_succ]
            first | refine tkA 30 ?_ | refine skA 30 ?_
            simp only [Act.put, List.setIfInBounds_toArray, List.set_cons_zero, List.set_cons_succ]
            first | refine tkA 31 ?_ | refine skA 31 ?_
            simp only [Act.put, List.setIfInBounds_toArray, List.set_cons_zero, List.set_cons_succ]
            first | refine tkA 32 ?_ | refine skA 32 ?_
            simp only [Act.put, List.setIfInBounds_toArray, List.set_cons_zero, List.set_cons_succ]
            first | refine tkA 33 ?_ | refine skA 33 ?_
            simp only [Act.put, List.setIfInBounds_toArray, List.set_cons_zero, List.set_cons_succ]
            first | refine tkA 34 ?_ | refine skA 34 ?_
            simp only [Act.put, List.setIfInBounds_toArray, List.set_cons_zero, List.set_cons_succ]
            first | refine tkA 35 ?_ | refine skA 35 ?_
            simp only [Act.put, List.setIfInBounds_toArray, List.set_cons_zero, List.set_cons_succ]
            first | refine tkA 36 ?_ | refine skA 36 ?_
            simp only [Act.put, List.setIfInBounds_toArray, List.set_cons_zero, List.set_cons_succ]
            first | refine tkA 37 ?_ | refine skA 37 ?_
            simp only [Act.put, List.setIfInBounds_toArray, List.set_cons_zero, List.set_cons_succ]
            first | refine tkA 38 ?_ | refine skA 38 ?_
            simp only [Act.put, List.setIfInBounds_toArray, List.set_cons_zero, List.set_cons_succ]
            first | refine tkA 39 ?_ | refine skA 39 ?_
            simp only [Act.put, List.setIfInBounds_toArray, List.set_cons_zero, List.set_cons_succ]
            refine wpAnyH_done (by kernel_rfl) ?_ _
            have hB := hHeld.2.2.2.2.2.2.2.2
            obtain ⟨x0, x1, x2, _⟩ := hHeld
            go_wp2_with fail
            go_roundw
            case rel => exact ⟨k + 1, by omega, by go_num, HG.out, by assumption, by assumption, by assumption, hB⟩
            case measure => simp [intOf]; omega
    · have HV := Lib.hid (validS_all (show goodS s s.files.length from by rw [show s.files.length = k from by omega]; exact hG))
      clear hG
      go_wp2_with (first
        | (go_at_call 72; refine (spec_l01In _ _ _ _).mono ?_; rintro e w' ⟨rfl, rfl⟩)
        | (go_at_call 71; refine (HI.out _ (by go_grown)).mono ?_; rintro e w1 ⟨rfl, hb1⟩; have hB1 := ex_trans (w := w) (by go_grown) hb1; have x1' := keep_cell hb1 x1; have x2' := keep_cell hb1 x2))
      all_goals go_returns
      all_goals refine ⟨ret_bool ?_, by go_grown⟩
      all_goals rw [← HV.out]
      all_goals go_light
      all_goals clear HI HV
      all_goals first | (simp_all; done) | (simp_all; intro hh; omega)
end Go.Proofs.Ytjobgnioehkomaa
