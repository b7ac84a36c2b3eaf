/-
  CONTRACTS: equality of stores.
-/
import Derived.WalkKit
import Derived.WalkSpells
import Derived.WalkLawsBesides
import Derived.Lib.Hide
import Derived.Handy
import Derived.StillTailTactics
import Derived.Deep.Light
import Derived.Deep.QuietTactic
import Derived.BigQuiet
import Derived.Deep.RegionHeld3
import Derived.Test.YtkjhfblipmagoaaLib
import Derived.Test.YtkjhfblipmagoaaHld
import Derived.Test.YtkjhfblipmagoaaOwn
import Derived.Test.YtkjhfblipmagoaaC1
import Derived.Test.YtkjhfblipmagoaaC2
import Derived.Test.YtkjhfblipmagoaaT1
import Derived.Test.YtkjhfblipmagoaaT2
import Derived.Test.YtkjhfblipmagoaaT3
import Derived.Test.YtkjhfblipmagoaaC3
import Derived.Test.YtkjhfblipmagoaaC4
import Derived.Test.YtkjhfblipmagoaaC5
import Derived.Test.YtkjhfblipmagoaaC6
import Derived.Test.YtkjhfblipmagoaaSz
import Derived.Test.YtkjhfblipmagoaaRows
namespace Go.Proofs.Ytkjhfblipmagoaa
open Go.RowKit
set_option linter.unusedVariables false
set_option maxRecDepth 100000
set_option maxHeartbeats 2000000 in
theorem slices_EqualFunc_File (A : Option Addr) (n c : Nat) (l : List Fil) (B : Option Addr) (m d : Nat) (l' : List Fil) (w : World) (hS : Sl 5 RFil w A n l) (hT : Sl 5 RFil w B m l') (hn : n ≤ 1073741824) (hm : m ≤ 1073741824) (hok : ∀ y ∈ l, y.ok 1073741824) (hok' : ∀ y ∈ l', y.ok 1073741824) :
    Calls Try.prog 54 #[.slice A n c, .slice B m d, .func (.func 55) #[] #[]] w fun e w' => e = .returned (.bool (eqL Fil.eqb l l')) ∧ Below w.heap.size w w' := by
  obtain rfl : l.length = n := hS.len
  obtain rfl : l'.length = m := hT.len
  by_cases hlen : l.length = l'.length
  · have g0 : ((l.length : Int) != (l'.length : Int)) = false := by simp; omega
    have HL := Lib.hid hlen
    clear hlen
    go_enter Try.func54, Try.ntmps54
    go_wp2_with fail
    go_loopw [17] (fun i wr => ∃ (k : Nat), k ≤ l.length ∧ i = .int .i64 k ∧ eqTo Fil.eqb l l' k ∧ Below w.heap.size w wr) (fun i _ => l.length - (intOf i).toNat)
    case atStart => exact ⟨0, Nat.zero_le _, rfl, eqTo_zero _ _ _, Below.refl _ _⟩
    case round =>
      obtain ⟨k, hk, rfl, hE, hb⟩ := hrel
      by_cases hlt : k < l.length
      · have hlt' : k < l'.length := by have := HL.out; omega
        have i1 : (k : Int) < (l'.length : Int) := by omega
        have i2 : (k : Int) < (l.length : Int) := by omega
        obtain ⟨b, off, rfl, bw, bc⟩ := hS.fil (by omega)
        obtain ⟨qA, qn, qc', q0, q1, q2, q3, q4, qS⟩ := bc k (by omega)
        have qT := qS.mono mAtr hb
        rw [← hb.cell (p := ⟨b, _, none⟩) bw] at q0 q1 q2 q3 q4
        clear bc qS
        obtain ⟨b1, off1, rfl, b1w, b1c⟩ := hT.fil (by omega)
        obtain ⟨rA, rn, rc', r0, r1, r2, r3, r4, rS⟩ := b1c k (by omega)
        have rT := rS.mono mAtr hb
        rw [← hb.cell (p := ⟨b1, _, none⟩) b1w] at r0 r1 r2 r3 r4
        have bw' := keep_lt hb bw
        have b1w' := keep_lt hb b1w
        clear b1c rS
        have hok1 := hok l[k] (List.getElem_mem _)
        have hok2 := hok' l'[k] (List.getElem_mem _)
        clear hok hok'
        have C := fun w => impl_EqualFiles l[k] l'[k] qA qn qc' rA rn rc' w
        cases hf : Fil.eqb l[k] l'[k] with
        | true =>
          rw [hf] at C
          have HC := Lib.hid C
          have HE := Lib.hid (eqTo_succ hE (fun _ _ => hf))
          clear hf C hE
          go_wp2_with fail
          refine (HC.out _ (qT.mono mAtr (by go_grown)) (rT.mono mAtr (by go_grown)) hok1 hok2).mono ?_; rintro e w1 ⟨rfl, hb1⟩
          have hB1 := ex_trans (w := wr) (by go_grown) hb1
          go_wp2_with fail
          go_roundw
          case rel => exact ⟨k + 1, by omega, by go_num, HE.out, ex_trans hb hB1⟩
          case measure => simp [intOf]; omega
        | false =>
          rw [hf] at C
          have HC := Lib.hid C
          have HZ := Lib.hid (eqL_false (f := Fil.eqb) hlt hlt' hf)
          clear hf C hE
          go_wp2_with fail
          refine (HC.out _ (qT.mono mAtr (by go_grown)) (rT.mono mAtr (by go_grown)) hok1 hok2).mono ?_; rintro e w1 ⟨rfl, hb1⟩
          have hB1 := ex_trans (w := wr) (by go_grown) hb1
          go_wp2_with fail
          go_returns
          exact ⟨ret_bool HZ.out.symm, ex_trans hb hB1⟩
      · have HZ := Lib.hid (eqL_true HL.out (fun i h1 h2 => hE i h1 h2 (by omega)))
        clear hE
        go_wp2_with fail
        go_returns
        exact ⟨ret_bool HZ.out.symm, hb⟩
  · have g0 : ((l.length : Int) != (l'.length : Int)) = true := by simp; omega
    have HZ := Lib.hid (eqL_len (f := Fil.eqb) hlen)
    clear hlen
    go_enter Try.func54, Try.ntmps54
    go_wp2_with fail
    go_returns
    exact ⟨ret_bool HZ.out.symm, by go_grown⟩
set_option maxHeartbeats 2000000 in
theorem spec_l05Fields (A : Option Addr) (n c : Nat) (l : List Fld) (B : Option Addr) (m d : Nat) (l' : List Fld) (w : World) (hS : Sl 2 RFld w A n l) (hT : Sl 2 RFld w B m l') (hn : n ≤ 1073741824) (hm : m ≤ 1073741824) :
    Calls Try.prog 103 #[.slice A n c, .slice B m d] w fun e w' => e = .returned (.bool (eqL Fld.eqb l l')) ∧ Below w.heap.size w w' := by
  obtain rfl : l.length = n := hS.len
  obtain rfl : l'.length = m := hT.len
  by_cases hlen : l.length = l'.length
  · have g0 : ((l.length : Int) != (l'.length : Int)) = false := by simp; omega
    have HL := Lib.hid hlen
    clear hlen
    go_enter Try.func103, Try.ntmps103
    go_wp2_with fail
    go_loopw [5] (fun i wr => ∃ (k : Nat), k ≤ l.length ∧ i = .int .i64 k ∧ eqTo Fld.eqb l l' k ∧ Below w.heap.size w wr) (fun i _ => l.length - (intOf i).toNat)
    case atStart => exact ⟨0, Nat.zero_le _, rfl, eqTo_zero _ _ _, Below.refl _ _⟩
    case round =>
      obtain ⟨k, hk, rfl, hE, hb⟩ := hrel
      by_cases hlt : k < l.length
      · have hlt' : k < l'.length := by have := HL.out; omega
        have i0 : (0 : Int) ≤ (k : Int) := by omega
        have i1 : (k : Int) < (l'.length : Int) := by omega
        have i2 : (k : Int) < (l.length : Int) := by omega
        obtain ⟨b, off, rfl, bw, bc⟩ := hS.fld (by omega)
        obtain ⟨b1, off1, rfl, b1w, b1c⟩ := hT.fld (by omega)
        obtain ⟨q0, q1⟩ := bc k (by omega)
        obtain ⟨r0, r1⟩ := b1c k (by omega)
        rw [← hb.cell (p := ⟨b, _, none⟩) bw] at q0 q1
        rw [← hb.cell (p := ⟨b1, _, none⟩) b1w] at r0 r1
        clear bc b1c
        cases h0 : (l[k].name.toList == l'[k].name.toList) with
        | false =>
          have hf : Fld.eqb l[k] l'[k] = false := by simp [Fld.eqb, eqS, h0]
          have HZ := Lib.hid (eqL_false (f := Fld.eqb) hlt hlt' hf)
          clear hf hE
          go_wp2_with fail
          go_quiet (fail)
          go_wp2_with fail
          go_returns
          exact ⟨ret_bool HZ.out.symm, ex_drewN hb _⟩
        | true =>
          cases h1 : (l[k].kind == l'[k].kind) with
          | false =>
            have hf : Fld.eqb l[k] l'[k] = false := by simp [Fld.eqb, eqS, h1]
            have HZ := Lib.hid (eqL_false (f := Fld.eqb) hlt hlt' hf)
            clear hf hE
            go_wp2_with fail
            go_quiet (fail)
            go_wp2_with fail
            go_returns
            exact ⟨ret_bool HZ.out.symm, ex_drewN hb _⟩
          | true =>
            have hf : Fld.eqb l[k] l'[k] = true := by simp [Fld.eqb, eqS, h0, h1]
            have HE := Lib.hid (eqTo_succ hE (fun _ _ => hf))
            clear hf hE
            go_wp2_with fail
            go_quiet (fail)
            go_wp2_with fail
            go_roundw
            case rel => exact ⟨k + 1, by omega, by go_num, HE.out, ex_drewN hb _⟩
            case measure => simp [intOf]; omega
      · have HZ := Lib.hid (eqL_true HL.out (fun i h1 h2 => hE i h1 h2 (by omega)))
        clear hE
        go_wp2_with fail
        go_returns
        exact ⟨ret_bool HZ.out.symm, hb⟩
  · have g0 : ((l.length : Int) != (l'.length : Int)) = true := by simp; omega
    have HZ := Lib.hid (eqL_len (f := Fld.eqb) hlen)
    clear hlen
    go_enter Try.func103, Try.ntmps103
    go_wp2_with fail
    go_returns
    exact ⟨ret_bool HZ.out.symm, by go_grown⟩
set_option maxHeartbeats 3200000 in
theorem spec_EqualStores (a b0 : Sto) (A : Option Addr) (n c : Nat) (B : Option Addr) (m d : Nat) (A' : Option Addr) (n' c' : Nat) (B' : Option Addr) (m' d' : Nat) (w : World)
    (hS : Sl 2 RFld w A n a.schema) (hT : Sl 5 RFil w B m a.files) (hS' : Sl 2 RFld w A' n' b0.schema) (hT' : Sl 5 RFil w B' m' b0.files) (ha : a.ok 1073741824) (hb : b0.ok 1073741824) :
    Calls Try.prog 49 #[a.v A n c B m d, b0.v A' n' c' B' m' d'] w fun e w' => e = .returned (.bool (a.eqb b0)) ∧ Below w.heap.size w w' := by
  obtain ⟨k1, _, k3, k4⟩ := ha
  obtain ⟨j1, _, j3, j4⟩ := hb
  rw [hS.len] at k1
  rw [hT.len] at k3
  rw [hS'.len] at j1
  rw [hT'.len] at j3
  have HC := Lib.hid fun w' (hb : Below w.heap.size w w') => spec_l05Fields A n c a.schema A' n' c' b0.schema w' (hS.mono mFld hb) (hS'.mono mFld hb) k1 j1
  obtain rfl : a.files.length = m := hT.len
  obtain rfl : b0.files.length = m' := hT'.len
  clear k1 j1 hS hS'
  cases h1 : eqL Fld.eqb a.schema b0.schema with
  | false =>
    have HZ := Lib.hid (show false = a.eqb b0 by simp [Sto.eqb, h1])
    have H1 := Lib.hid h1
    clear h1
    go_enter Try.func49, Try.ntmps49
    go_wp2_with fail
    refine (HC.out _ (by go_grown)).mono ?_; rintro e w1 ⟨rfl, hb1⟩
    rw [H1.out]
    go_wp2_with fail
    go_returns
    exact ⟨ret_bool HZ.out, ex_trans (by go_grown) hb1⟩
  | true =>
    have H1 := Lib.hid h1
    cases h2 : (a.next == b0.next) with
    | false =>
      have HZ := Lib.hid (show false = a.eqb b0 by simp [Sto.eqb, h2])
      have h2' : (a.next != b0.next) = true := by simpa [bne] using h2
      clear h1 h2
      go_enter Try.func49, Try.ntmps49
      go_wp2_with fail
      refine (HC.out _ (by go_grown)).mono ?_; rintro e w1 ⟨rfl, hb1⟩
      rw [H1.out]
      have x2 : w1.cell? ⟨w.heap.size, 2, none⟩ = some (.int .i64 a.next) := keep_cell hb1 (by go_simp)
      have y2 : w1.cell? ⟨w.heap.size + 1, 2, none⟩ = some (.int .i64 b0.next) := keep_cell hb1 (by go_simp)
      go_wp2_with fail
      go_returns
      exact ⟨ret_bool HZ.out, ex_trans (by go_grown) hb1⟩
    | true =>
      have h2' : (a.next != b0.next) = false := by simpa [bne] using h2
      by_cases hlen : a.files.length = b0.files.length
      · have g0 : ((a.files.length : Int) != (b0.files.length : Int)) = false := by simp; omega
        have HL := Lib.hid hlen
        have HN := Lib.hid (And.intro h1 h2)
        clear hlen h1 h2
        go_enter Try.func49, Try.ntmps49
        go_wp2_with fail
        refine (HC.out _ (by go_grown)).mono ?_; rintro e w1 ⟨rfl, hb1⟩
        rw [H1.out]
        have hB1 := ex_trans (w := w) (by go_grown) hb1
        have x1 : w1.cell? ⟨w.heap.size, 1, none⟩ = some (.slice B a.files.length d) := keep_cell hb1 (by go_simp)
        have x2 : w1.cell? ⟨w.heap.size, 2, none⟩ = some (.int .i64 a.next) := keep_cell hb1 (by go_simp)
        have y1 : w1.cell? ⟨w.heap.size + 1, 1, none⟩ = some (.slice B' b0.files.length d') := keep_cell hb1 (by go_simp)
        have y2 : w1.cell? ⟨w.heap.size + 1, 2, none⟩ = some (.int .i64 b0.next) := keep_cell hb1 (by go_simp)
        go_wp2_with fail
        go_loopw [5] (fun i wr => ∃ (k : Nat), k ≤ a.files.length ∧ i = .int .i64 k ∧ eqTo Fil.eqb a.files b0.files k ∧ wr.cell? ⟨w.heap.size, 1, none⟩ = some (.slice B a.files.length d) ∧ wr.cell? ⟨w.heap.size + 1, 1, none⟩ = some (.slice B' b0.files.length d') ∧ Below w.heap.size w wr) (fun i _ => a.files.length - (intOf i).toNat)
        case atStart => exact ⟨0, Nat.zero_le _, rfl, eqTo_zero _ _ _, x1, y1, hB1⟩
        case round =>
          clear x1 y1 x2 y2
          obtain ⟨k, hk, rfl, hE, x1, y1, hb⟩ := hrel
          by_cases hlt : k < a.files.length
          · have hlt' : k < b0.files.length := by have := HL.out; omega
            have i0 : (0 : Int) ≤ (k : Int) := by omega
            have i1 : (k : Int) < (b0.files.length : Int) := by omega
            have i2 : (k : Int) < (a.files.length : Int) := by omega
            obtain ⟨b, off, rfl, bw, bc⟩ := hT.fil (by omega)
            obtain ⟨qA, qn, qc', q0, q1, q2, q3, q4, qS⟩ := bc k (by omega)
            have qT := qS.mono mAtr hb
            rw [← hb.cell (p := ⟨b, _, none⟩) bw] at q0 q1 q2 q3 q4
            clear bc qS
            obtain ⟨b1, off1, rfl, b1w, b1c⟩ := hT'.fil (by omega)
            obtain ⟨rA, rn, rc', r0, r1, r2, r3, r4, rS⟩ := b1c k (by omega)
            have rT := rS.mono mAtr hb
            rw [← hb.cell (p := ⟨b1, _, none⟩) b1w] at r0 r1 r2 r3 r4
            clear b1c rS
            have C := fun w' (hw : Below wr.heap.size wr w') => spec_EqualFiles a.files[k] b0.files[k] qA qn qc' rA rn rc' w' (qT.mono mAtr hw) (rT.mono mAtr hw) (k4 _ (List.getElem_mem hlt)) (j4 _ (List.getElem_mem hlt'))
            clear k4 j4
            cases hf : Fil.eqb a.files[k] b0.files[k] with
            | true =>
              rw [hf] at C
              have HC := Lib.hid C
              have HE := Lib.hid (eqTo_succ hE (fun _ _ => hf))
              clear hf C hE
              go_wp2_with fail
              refine wp_region_held_drew (S := (fun w' => w'.cell? ⟨b, off + k * 5, none⟩ = some (.int .i64 a.files[k].id) ∧ w'.cell? ⟨b, off + k * 5 + 1, none⟩ = some (.int .i64 a.files[k].owner) ∧ w'.cell? ⟨b, off + k * 5 + 2, none⟩ = some (.bool a.files[k].shared) ∧ w'.cell? ⟨b, off + k * 5 + 3, none⟩ = some (.int .i64 a.files[k].link) ∧ w'.cell? ⟨b, off + k * 5 + 4, none⟩ = some (.slice qA qn qc') ∧ w'.cell? ⟨b1, off1 + k * 5, none⟩ = some (.int .i64 b0.files[k].id) ∧ w'.cell? ⟨b1, off1 + k * 5 + 1, none⟩ = some (.int .i64 b0.files[k].owner) ∧ w'.cell? ⟨b1, off1 + k * 5 + 2, none⟩ = some (.bool b0.files[k].shared) ∧ w'.cell? ⟨b1, off1 + k * 5 + 3, none⟩ = some (.int .i64 b0.files[k].link) ∧ w'.cell? ⟨b1, off1 + k * 5 + 4, none⟩ = some (.slice rA rn rc') ∧ w'.cell? ⟨w.heap.size, 1, none⟩ = some (.slice (some ⟨b, off, none⟩) a.files.length d) ∧ w'.cell? ⟨w.heap.size + 1, 1, none⟩ = some (.slice (some ⟨b1, off1, none⟩) b0.files.length d') ∧ Below wr.heap.size wr w')) (by kernel_rfl) (by (try dsimp only); exact ⟨q0, q1, q2, q3, q4, r0, r1, r2, r3, r4, x1, y1, (Below.refl _ _).drew⟩) (fun hHeld => ?_)
              first | (refine held_take 0 rfl (by kernel_rfl) (by kernel_rfl) (by kernel_rfl) (by rfl) (fun _ _ _ h => h) (by assumption) (by intro w hSw; (try dsimp only at hSw); go_simp; first | done | with_reducible rfl) ?_) | (refine held_skip 0 rfl (by kernel_rfl) (by kernel_rfl) (by kernel_rfl) (by rfl) (fun _ _ _ h => h) (by assumption) ?_)
              simp only [Act.put, List.setIfInBounds_toArray, List.set_cons_zero, List.set_cons_succ]
              first | (refine held_take 1 rfl (by kernel_rfl) (by kernel_rfl) (by kernel_rfl) (by rfl) (fun _ _ _ h => h) (by assumption) (by intro w hSw; (try dsimp only at hSw); go_simp; first | done | with_reducible rfl) ?_) | (refine held_skip 1 rfl (by kernel_rfl) (by kernel_rfl) (by kernel_rfl) (by rfl) (fun _ _ _ h => h) (by assumption) ?_)
              simp only [Act.put, List.setIfInBounds_toArray, List.set_cons_zero, List.set_cons_succ]
              first | (refine held_take 2 rfl (by kernel_rfl) (by kernel_rfl) (by kernel_rfl) (by rfl) (fun _ _ _ h => h) (by assumption) (by intro w hSw; (try dsimp only at hSw); go_simp; first | done | with_reducible rfl) ?_) | (refine held_skip 2 rfl (by kernel_rfl) (by kernel_rfl) (by kernel_rfl) (by rfl) (fun _ _ _ h => h) (by assumption) ?_)
              simp only [Act.put, List.setIfInBounds_toArray, List.set_cons_zero, List.set_cons_succ]
              first | (refine held_take 3 rfl (by kernel_rfl) (by kernel_rfl) (by kernel_rfl) (by rfl) (fun _ _ _ h => h) (by assumption) (by intro w hSw; (try dsimp only at hSw); go_simp; first | done | with_reducible rfl) ?_) | (refine held_skip 3 rfl (by kernel_rfl) (by kernel_rfl) (by kernel_rfl) (by rfl) (fun _ _ _ h => h) (by assumption) ?_)
              simp only [Act.put, List.setIfInBounds_toArray, List.set_cons_zero, List.set_cons_succ]
              first | (refine held_take 4 rfl (by kernel_rfl) (by kernel_rfl) (by kernel_rfl) (by rfl) (fun _ _ _ h => h) (by assumption) (by intro w hSw; (try dsimp only at hSw); go_simp; first | done | with_reducible rfl) ?_) | (refine held_skip 4 rfl (by kernel_rfl) (by kernel_rfl) (by kernel_rfl) (by rfl) (fun _ _ _ h => h) (by assumption) ?_)
              simp only [Act.put, List.setIfInBounds_toArray, List.set_cons_zero, List.set_cons_succ]
              first | (refine held_take 5 rfl (by kernel_rfl) (by kernel_rfl) (by kernel_rfl) (by rfl) (fun _ _ _ h => h) (by assumption) (by intro w hSw; (try dsimp only at hSw); go_simp; first | done | with_reducible rfl) ?_) | (refine held_skip 5 rfl (by kernel_rfl) (by kernel_rfl) (by kernel_rfl) (by rfl) (fun _ _ _ h => h) (by assumption) ?_)
              simp only [Act.put, List.setIfInBounds_toArray, List.set_cons_zero, List.set_cons_succ]
              first | (refine held_take 6 rfl (by kernel_rfl) (by kernel_rfl) (by kernel_rfl) (by rfl) (fun _ _ _ h => h) (by assumption) (by intro w hSw; (try dsimp only at hSw); go_simp; first | done | with_reducible rfl) ?_) | (refine held_skip 6 rfl (by kernel_rfl) (by kernel_rfl) (by kernel_rfl) (by rfl) (fun _ _ _ h => h) (by assumption) ?_)
              simp only [Act.put, List.setIfInBounds_toArray, List.set_cons_zero, List.set_cons_succ]
              first | (refine held_take 7 rfl (by kernel_rfl) (by kernel_rfl) (by kernel_rfl) (by rfl) (fun _ _ _ h => h) (by assumption) (by intro w hSw; (try dsimp only at hSw); go_simp; first | done | with_reducible rfl) ?_) | (refine held_skip 7 rfl (by kernel_rfl) (by kernel_rfl) (by kernel_rfl) (by rfl) (fun _ _ _ h => h) (by assumption) ?_)
              simp only [Act.put, List.setIfInBounds_toArray, List.set_cons_zero, List.set_cons_succ]
              first | (refine held_take 8 rfl (by kernel_rfl) (by kernel_rfl) (by kernel_rfl) (by rfl) (fun _ _ _ h => h) (by assumption) (by intro w hSw; (try dsimp only at hSw); go_simp; first | done | with_reducible rfl) ?_) | (refine held_skip 8 rfl (by kernel_rfl) (by kernel_rfl) (by kernel_rfl) (by rfl) (fun _ _ _ h => h) (by assumption) ?_)
              simp only [Act.put, List.setIfInBounds_toArray, List.set_cons_zero, List.set_cons_succ]
              first | (refine held_take 9 rfl (by kernel_rfl) (by kernel_rfl) (by kernel_rfl) (by rfl) (fun _ _ _ h => h) (by assumption) (by intro w hSw; (try dsimp only at hSw); go_simp; first | done | with_reducible rfl) ?_) | (refine held_skip 9 rfl (by kernel_rfl) (by kernel_rfl) (by kernel_rfl) (by rfl) (fun _ _ _ h => h) (by assumption) ?_)
              simp only [Act.put, List.setIfInBounds_toArray, List.set_cons_zero, List.set_cons_succ]
              refine held_one 10 (by kernel_rfl) rfl (fun K hK => ?_)
              go_simp
              go_at_call 104
              refine (HC.out _ (Below.refl _ _).drew).mono ?_; rintro e w1 ⟨rfl, hb1⟩
              go_wp2_with fail
              refine hK.out _ _ (by (try dsimp only); obtain ⟨v0, v1, v2, v3, v4, v5, v6, v7, v8, v9, v10, v11, yb⟩ := hHeld; exact ⟨keep_cell hb1 v0, keep_cell hb1 v1, keep_cell hb1 v2, keep_cell hb1 v3, keep_cell hb1 v4, keep_cell hb1 v5, keep_cell hb1 v6, keep_cell hb1 v7, keep_cell hb1 v8, keep_cell hb1 v9, keep_cell hb1 v10, keep_cell hb1 v11, ex_trans yb hb1⟩) (fun hNew => ?_)
              clear hK K hHeld
              have hHeld := hNew
              clear hNew
              try simp only [Act.put, List.setIfInBounds_toArray, List.set_cons_zero, List.set_cons_succ]
              first | (refine held_take 11 rfl (by kernel_rfl) (by kernel_rfl) (by kernel_rfl) (by rfl) (fun _ _ _ h => h) (by assumption) (by intro w hSw; (try dsimp only at hSw); go_simp; first | done | with_reducible rfl) ?_) | (refine held_skip 11 rfl (by kernel_rfl) (by kernel_rfl) (by kernel_rfl) (by rfl) (fun _ _ _ h => h) (by assumption) ?_)
              simp only [Act.put, List.setIfInBounds_toArray, List.set_cons_zero, List.set_cons_succ]
              refine wpAnyH_done (by kernel_rfl) ?_ _
              obtain ⟨v0, v1, v2, v3, v4, v5, v6, v7, v8, v9, v10, v11, hY⟩ := hHeld
              go_wp2_with fail
              go_roundw
              case rel => exact ⟨k + 1, by omega, by go_num, HE.out, v10, v11, ex_trans hb hY⟩
              case measure => simp [intOf]; omega
            | false =>
              rw [hf] at C
              have HC := Lib.hid C
              have HZ := Lib.hid (show false = a.eqb b0 by simp [Sto.eqb, eqL_false (f := Fil.eqb) hlt hlt' hf])
              clear hf C hE
              go_wp2_with fail
              refine wp_region_held_drew (S := (fun w' => w'.cell? ⟨b, off + k * 5, none⟩ = some (.int .i64 a.files[k].id) ∧ w'.cell? ⟨b, off + k * 5 + 1, none⟩ = some (.int .i64 a.files[k].owner) ∧ w'.cell? ⟨b, off + k * 5 + 2, none⟩ = some (.bool a.files[k].shared) ∧ w'.cell? ⟨b, off + k * 5 + 3, none⟩ = some (.int .i64 a.files[k].link) ∧ w'.cell? ⟨b, off + k * 5 + 4, none⟩ = some (.slice qA qn qc') ∧ w'.cell? ⟨b1, off1 + k * 5, none⟩ = some (.int .i64 b0.files[k].id) ∧ w'.cell? ⟨b1, off1 + k * 5 + 1, none⟩ = some (.int .i64 b0.files[k].owner) ∧ w'.cell? ⟨b1, off1 + k * 5 + 2, none⟩ = some (.bool b0.files[k].shared) ∧ w'.cell? ⟨b1, off1 + k * 5 + 3, none⟩ = some (.int .i64 b0.files[k].link) ∧ w'.cell? ⟨b1, off1 + k * 5 + 4, none⟩ = some (.slice rA rn rc') ∧ w'.cell? ⟨w.heap.size, 1, none⟩ = some (.slice (some ⟨b, off, none⟩) a.files.length d) ∧ w'.cell? ⟨w.heap.size + 1, 1, none⟩ = some (.slice (some ⟨b1, off1, none⟩) b0.files.length d') ∧ Below wr.heap.size wr w')) (by kernel_rfl) (by (try dsimp only); exact ⟨q0, q1, q2, q3, q4, r0, r1, r2, r3, r4, x1, y1, (Below.refl _ _).drew⟩) (fun hHeld => ?_)
              first | (refine held_take 0 rfl (by kernel_rfl) (by kernel_rfl) (by kernel_rfl) (by rfl) (fun _ _ _ h => h) (by assumption) (by intro w hSw; (try dsimp only at hSw); go_simp; first | done | with_reducible rfl) ?_) | (refine held_skip 0 rfl (by kernel_rfl) (by kernel_rfl) (by kernel_rfl) (by rfl) (fun _ _ _ h => h) (by assumption) ?_)
              simp only [Act.put, List.setIfInBounds_toArray, List.set_cons_zero, List.set_cons_succ]
              first | (refine held_take 1 rfl (by kernel_rfl) (by kernel_rfl) (by kernel_rfl) (by rfl) (fun _ _ _ h => h) (by assumption) (by intro w hSw; (try dsimp only at hSw); go_simp; first | done | with_reducible rfl) ?_) | (refine held_skip 1 rfl (by kernel_rfl) (by kernel_rfl) (by kernel_rfl) (by rfl) (fun _ _ _ h => h) (by assumption) ?_)
              simp only [Act.put, List.setIfInBounds_toArray, List.set_cons_zero, List.set_cons_succ]
              first | (refine held_take 2 rfl (by kernel_rfl) (by kernel_rfl) (by kernel_rfl) (by rfl) (fun _ _ _ h => h) (by assumption) (by intro w hSw; (try dsimp only at hSw); go_simp; first | done | with_reducible rfl) ?_) | (refine held_skip 2 rfl (by kernel_rfl) (by kernel_rfl) (by kernel_rfl) (by rfl) (fun _ _ _ h => h) (by assumption) ?_)
              simp only [Act.put, List.setIfInBounds_toArray, List.set_cons_zero, List.set_cons_succ]
              first | (refine held_take 3 rfl (by kernel_rfl) (by kernel_rfl) (by kernel_rfl) (by rfl) (fun _ _ _ h => h) (by assumption) (by intro w hSw; (try dsimp only at hSw); go_simp; first | done | with_reducible rfl) ?_) | (refine held_skip 3 rfl (by kernel_rfl) (by kernel_rfl) (by kernel_rfl) (by rfl) (fun _ _ _ h => h) (by assumption) ?_)
              simp only [Act.put, List.setIfInBounds_toArray, List.set_cons_zero, List.set_cons_succ]
              first | (refine held_take 4 rfl (by kernel_rfl) (by kernel_rfl) (by kernel_rfl) (by rfl) (fun _ _ _ h => h) (by assumption) (by intro w hSw; (try dsimp only at hSw); go_simp; first | done | with_reducible rfl) ?_) | (refine held_skip 4 rfl (by kernel_rfl) (by kernel_rfl) (by kernel_rfl) (by rfl) (fun _ _ _ h => h) (by assumption) ?_)
              simp only [Act.put, List.setIfInBounds_toArray, List.set_cons_zero, List.set_cons_succ]
              first | (refine held_take 5 rfl (by kernel_rfl) (by kernel_rfl) (by kernel_rfl) (by rfl) (fun _ _ _ h => h) (by assumption) (by intro w hSw; (try dsimp only at hSw); go_simp; first | done | with_reducible rfl) ?_) | (refine held_skip 5 rfl (by kernel_rfl) (by kernel_rfl) (by kernel_rfl) (by rfl) (fun _ _ _ h => h) (by assumption) ?_)
              simp only [Act.put, List.setIfInBounds_toArray, List.set_cons_zero, List.set_cons_succ]
              first | (refine held_take 6 rfl (by kernel_rfl) (by kernel_rfl) (by kernel_rfl) (by rfl) (fun _ _ _ h => h) (by assumption) (by intro w hSw; (try dsimp only at hSw); go_simp; first | done | with_reducible rfl) ?_) | (refine held_skip 6 rfl (by kernel_rfl) (by kernel_rfl) (by kernel_rfl) (by rfl) (fun _ _ _ h => h) (by assumption) ?_)
              simp only [Act.put, List.setIfInBounds_toArray, List.set_cons_zero, List.set_cons_succ]
              first | (refine held_take 7 rfl (by kernel_rfl) (by kernel_rfl) (by kernel_rfl) (by rfl) (fun _ _ _ h => h) (by assumption) (by intro w hSw; (try dsimp only at hSw); go_simp; first | done | with_reducible rfl) ?_) | (refine held_skip 7 rfl (by kernel_rfl) (by kernel_rfl) (by kernel_rfl) (by rfl) (fun _ _ _ h => h) (by assumption) ?_)
              simp only [Act.put, List.setIfInBounds_toArray, List.set_cons_zero, List.set_cons_succ]
              first | (refine held_take 8 rfl (by kernel_rfl) (by kernel_rfl) (by kernel_rfl) (by rfl) (fun _ _ _ h => h) (by assumption) (by intro w hSw; (try dsimp only at hSw); go_simp; first | done | with_reducible rfl) ?_) | (refine held_skip 8 rfl (by kernel_rfl) (by kernel_rfl) (by kernel_rfl) (by rfl) (fun _ _ _ h => h) (by assumption) ?_)
              simp only [Act.put, List.setIfInBounds_toArray, List.set_cons_zero, List.set_cons_succ]
              first | (refine held_take 9 rfl (by kernel_rfl) (by kernel_rfl) (by kernel_rfl) (by rfl) (fun _ _ _ h => h) (by assumption) (by intro w hSw; (try dsimp only at hSw); go_simp; first | done | with_reducible rfl) ?_) | (refine held_skip 9 rfl (by kernel_rfl) (by kernel_rfl) (by kernel_rfl) (by rfl) (fun _ _ _ h => h) (by assumption) ?_)
              simp only [Act.put, List.setIfInBounds_toArray, List.set_cons_zero, List.set_cons_succ]
              refine held_one 10 (by kernel_rfl) rfl (fun K hK => ?_)
              go_simp
              go_at_call 104
              refine (HC.out _ (Below.refl _ _).drew).mono ?_; rintro e w1 ⟨rfl, hb1⟩
              go_wp2_with fail
              refine hK.out _ _ (by (try dsimp only); obtain ⟨v0, v1, v2, v3, v4, v5, v6, v7, v8, v9, v10, v11, yb⟩ := hHeld; exact ⟨keep_cell hb1 v0, keep_cell hb1 v1, keep_cell hb1 v2, keep_cell hb1 v3, keep_cell hb1 v4, keep_cell hb1 v5, keep_cell hb1 v6, keep_cell hb1 v7, keep_cell hb1 v8, keep_cell hb1 v9, keep_cell hb1 v10, keep_cell hb1 v11, ex_trans yb hb1⟩) (fun hNew => ?_)
              clear hK K hHeld
              have hHeld := hNew
              clear hNew
              try simp only [Act.put, List.setIfInBounds_toArray, List.set_cons_zero, List.set_cons_succ]
              first | (refine held_take 11 rfl (by kernel_rfl) (by kernel_rfl) (by kernel_rfl) (by rfl) (fun _ _ _ h => h) (by assumption) (by intro w hSw; (try dsimp only at hSw); go_simp; first | done | with_reducible rfl) ?_) | (refine held_skip 11 rfl (by kernel_rfl) (by kernel_rfl) (by kernel_rfl) (by rfl) (fun _ _ _ h => h) (by assumption) ?_)
              simp only [Act.put, List.setIfInBounds_toArray, List.set_cons_zero, List.set_cons_succ]
              refine wpAnyH_done (by kernel_rfl) ?_ _
              obtain ⟨v0, v1, v2, v3, v4, v5, v6, v7, v8, v9, v10, v11, hY⟩ := hHeld
              go_wp2_with fail
              go_returns
              exact ⟨ret_bool HZ.out, ex_trans hb hY⟩
          · have HZ := Lib.hid (show true = a.eqb b0 by simp [Sto.eqb, HN.out.1, HN.out.2, eqL_true HL.out (fun i h1 h2 => hE i h1 h2 (by omega))])
            clear hE
            go_wp2_with fail
            go_returns
            exact ⟨ret_bool HZ.out, hb⟩
      · have g0 : ((a.files.length : Int) != (b0.files.length : Int)) = true := by simp; omega
        have HZ := Lib.hid (show false = a.eqb b0 by simp [Sto.eqb, eqL_len (f := Fil.eqb) hlen])
        clear hlen h1 h2
        go_enter Try.func49, Try.ntmps49
        go_wp2_with fail
        refine (HC.out _ (by go_grown)).mono ?_; rintro e w1 ⟨rfl, hb1⟩
        rw [H1.out]
        have x1 : w1.cell? ⟨w.heap.size, 1, none⟩ = some (.slice B a.files.length d) := keep_cell hb1 (by go_simp)
        have x2 : w1.cell? ⟨w.heap.size, 2, none⟩ = some (.int .i64 a.next) := keep_cell hb1 (by go_simp)
        have y1 : w1.cell? ⟨w.heap.size + 1, 1, none⟩ = some (.slice B' b0.files.length d') := keep_cell hb1 (by go_simp)
        have y2 : w1.cell? ⟨w.heap.size + 1, 2, none⟩ = some (.int .i64 b0.next) := keep_cell hb1 (by go_simp)
        go_wp2_with fail
        go_returns
        exact ⟨ret_bool HZ.out, ex_trans (by go_grown) hb1⟩
end Go.Proofs.Ytkjhfblipmagoaa
