/-
  CONTRACTS: drawn lines.
-/
import Derived.WalkKit
import Derived.WalkSpells
import Derived.WalkLawsBesides
import Derived.Lib.Hide
import Derived.Handy
import Derived.StillTailTactics
import Derived.Deep.Light
import Derived.Deep.QuietTactic
import Derived.BigQuiet
import Derived.Deep.RegionHeld3
import Derived.Deep.DeepCutAuto
import Derived.Test.YtkoagijliokhlaaDoorLib
import Derived.Test.YtkoagijliokhlaaDoorOwn
import Derived.Test.YtkoagijliokhlaaDoorRow
import Derived.Test.YtkoagijliokhlaaDoorN0
import Derived.Test.YtkoagijliokhlaaDoorHld
import Derived.Test.YtkoagijliokhlaaDoorSz
import Derived.Test.YtkoagijliokhlaaDoorC1
import Derived.Test.YtkoagijliokhlaaDoorC2
import Derived.Test.YtkoagijliokhlaaDoorC4
import Derived.Test.YtkoagijliokhlaaDoorD1
import Derived.Test.YtkoagijliokhlaaDoorX0
import Derived.Test.YtkoagijliokhlaaDoorX1
import Derived.Test.YtkoagijliokhlaaDoorX2
import Derived.Test.YtkoagijliokhlaaDoorY1
import Derived.Test.YtkoagijliokhlaaDoorY2
import Derived.Test.YtkoagijliokhlaaDoorX6
import Derived.Test.YtkoagijliokhlaaDoorRows
namespace Go.Proofs.YtkoagijliokhlaaDoor
open Go.RowKit
set_option linter.unusedVariables false
set_option maxRecDepth 100000
def eB (b : UInt8) : Value := .int .u8 (b.toNat : Int)
theorem made_bytes (n : Nat) : madeCells #[.int .u8 0] n = ((List.replicate n (0 : UInt8)).map eB).toArray := by
  apply Array.ext
  · simp [madeCells]
  · intro i h1 h2
    simp [madeCells, eB, Nat.mod_one]
set_option maxHeartbeats 1600000 in
theorem spec_l01Long (n : Nat) (x : Int) (hn : n ≤ 1048576) (x0 : 0 ≤ x) (x1 : x < 256) (w : World) :
    Calls Tryd.prog 59 #[.int .i64 n, .int .u8 x] w fun e w' => ∃ s : ByteArray, e = .returned (.string s) ∧ s.size = n ∧ Below w.heap.size w w' := by
  have hmk := mk_full Tryd.underlying30 info_uint8 n (by omega) (by omega)
  obtain ⟨b, rfl⟩ : ∃ b : UInt8, x = (b.toNat : Int) := ⟨UInt8.ofNat x.toNat, (byteOf_toNat x x0 x1).symm⟩
  have hcv := fun (Wq : World) (g : Nat) (L : List UInt8) (hc : Wq.heap[g]? = some (.cells (L.map eB).toArray 5 (0, 0))) =>
    run_convert_bytes_back (P := Tryd.prog) Wq 30 9 5 ⟨g, 0, none⟩ L.length L Tryd.underlying30 Tryd.underlying5 Tryd.underlying9 (fun j hj => by
      rw [Addr.add_lit, Nat.zero_add, blk_cell? hc]; simp [eB, hj])
  have HCV := Lib.hid hcv
  clear hcv x0 x1
  go_enter Tryd.func59, Tryd.ntmps59
  go_wp2_with fail
  go_loopw [6] (fun i wr => ∃ (k : Nat) (L : List UInt8), k ≤ n ∧ i = .int .i64 k ∧ L.length = n ∧ wr.heap[w.heap.size]? = some (.cells (L.map eB).toArray 5 (0, 0)) ∧ Below w.heap.size w wr) (fun i _ => n - (intOf i).toNat)
  case atStart => exact ⟨0, List.replicate n 0, Nat.zero_le _, rfl, by simp, by rw [← made_bytes]; exact hp_new rfl, ex_alloc (Below.refl _ _) _⟩
  case round =>
    obtain ⟨k, L, hk, rfl, hL, hg, hb⟩ := hrel
    have HG := Lib.hid hg
    by_cases hlt : k < n
    · obtain ⟨v0, p0⟩ : ∃ v, wr.cell? ⟨w.heap.size, k, none⟩ = some v := ⟨_, blk_cell hg (j := k) (by simp; omega)⟩
      have HL := Lib.hid hL
      have f0 := blk_free hg k
      have hzz := blk_lt hg
      have HB := Lib.hid hb
      clear hg hb hL
      go_wp2_with fail
      go_roundw
      case rel =>
        refine ⟨k + 1, L.set k b, by omega, by go_num, by rw [List.length_set]; exact HL.out, ?_, HB.out.setCell (p := ⟨_, k, none⟩) (Nat.le_refl _) _⟩
        rw [blk_set HG.out k (.int .u8 (b.toNat : Int)), List.map_set]
        simp [eB]
      case measure => simp [intOf]; omega
    · obtain rfl : k = n := by omega
      have hcv := HCV.out wr w.heap.size L hg
      rw [hL] at hcv
      clear hg
      go_wp2_with fail
      go_returns
      exact ⟨_, rfl, by show L.toArray.size = _; rw [List.size_toArray]; exact hL, hb⟩
theorem run_byteI {P : Program} (w : World) (src dst e : TypeId) (a : Addr) (cap : Nat) (x : Int) (hs : P.underlying src = some (.slice e)) (he : P.underlying e = some (.int .u8)) (hd : P.underlying dst = some .string) (x0 : 0 ≤ x) (x1 : x < 256) (hc : w.cell? a = some (.int .u8 x)) :
    (convert src dst (.slice (some a) 1 cap)).run P w = .ok (.string ⟨#[UInt8.ofNat x.toNat]⟩) w := by
  refine run_byte1 w src dst e a cap _ hs he hd ?_
  rw [hc, byteOf_toNat x x0 x1]
theorem chgW {W0 w w' : World} {g : Nat} (h : Below W0.heap.size W0 w) (hg : W0.heap.size ≤ g) (hc : Chg [g] w w') : Below W0.heap.size W0 w' :=
  Below.mark h hc h.size (fun b hb => by simp only [List.mem_singleton] at hb; omega)
set_option maxHeartbeats 3200000 in
theorem spec_DrawSplitFields (A : Option Addr) (n c : Nat) (l : List Int) (w : World) (hS : Sl 1 RByt w A n l) (hn : n ≤ 1048576) (hl : ∀ y ∈ l, 0 ≤ y ∧ y ≤ 255) :
    Calls Tryd.prog 30 #[.slice A n c] w fun e w' => ∃ s : ByteArray, e = .returned (.string s) ∧ s.size ≤ 700 ∧ Below w.heap.size w w' := by
  have HN := Lib.hid (spec_l01New A n c l w hS hn hl)
  have HB := Lib.hid fun g n h0 h1 w' (h : Cur w w' g) => spec_l01Below w w' g n h0 h1 h
  have HO := Lib.hid fun g n h0 h1 w' (h : Cur w w' g) => spec_l01Once w w' g n h0 h1 h
  have HP := Lib.hid fun g (A : Option Addr) (m c : Nat) ls w' h0 h1 hS (h : Cur w w' g) => spec_l01Pick w w' g A m c ls h0 h1 hS h
  clear hS hl
  go_enter Tryd.func30, Tryd.ntmps30
  go_wp2_with fail
  refine HN.out.mono ?_; rintro e w1 ⟨g, rfl, hC⟩
  have hgw := (cur_w hC).1
  have HC1 := Lib.hid hC
  clear hC
  go_wp2_with fail
  refine (HB.out g 9 (by omega) (by omega) _ HC1.out).mono ?_; rintro e w2 ⟨x, rfl, ⟨x0, x1⟩, hc2, hg2⟩
  have HC2 := Lib.hid hc2
  clear hc2 hg2
  go_wp2_with fail
  refine (HO.out g 15 (by omega) (by omega) _ HC2.out).mono ?_; rintro e w3 ⟨b, rfl, hc3, hg3⟩
  have HC3 := Lib.hid hc3
  clear hc3 hg3
  go_upto_if 13 with fail
  go_cut [4] (fun n4 w' => ∃ m : Nat, n4 = .int .i64 (m : Int) ∧ m ≤ 25 ∧ Cur w w' g)
  case first =>
    cases b
    · go_wp2_with fail
      go_meet
      exact ⟨x.toNat, by simp; omega, by omega, HC3.out⟩
    · go_wp2_with fail
      refine (HB.out g 2 (by omega) (by omega) _ HC3.out).mono ?_; rintro e w4 ⟨y, rfl, ⟨y0, y1⟩, hc4, hg4⟩
      have HC4 := Lib.hid hc4
      clear hc4 hg4
      go_wp2_with fail
      go_meet
      exact ⟨(24 + y).toNat, by simp; omega, by omega, HC4.out⟩
  case rest =>
    generalize wc = W4 at *
    obtain ⟨m, rfl, hm, hC4⟩ := hcut
    have HC4 := Lib.hid hC4
    clear hC4 HC3 HC2 HC1
    go_wp2_with fail
    go_loopw [5, 6] (fun s i wr => ∃ (k : Nat) (t : ByteArray), k ≤ m ∧ i = .int .i64 (k : Int) ∧ s = .string t ∧ t.size ≤ 8 * k ∧ Cur w wr g) (fun _ i _ => m - (intOf i).toNat)
    case atStart => exact ⟨0, _, Nat.zero_le _, rfl, rfl, by decide, HC4.out⟩
    case round =>
      obtain ⟨k, t, hk, rfl, rfl, ht, hC⟩ := hrel
      have HC := Lib.hid hC
      clear hC HC4
      have i0 : (0 : Int) ≤ (k : Int) := by omega
      by_cases hlt : k < m
      · have hkz : (k : Int) < (m : Int) := by omega
        by_cases hk0 : 0 < k
        · have hkp : (0 : Int) < (k : Int) := by omega
          go_wp2_with fail
          refine (HB.out g 2 (by omega) (by omega) _ HC.out).mono ?_; rintro e w5 ⟨x, rfl, ⟨x0, x1⟩, hc5, hg5⟩
          have HC5 := Lib.hid hc5
          clear hc5 hg5
          go_wp2_with fail
          refine (HB.out g 3 (by omega) (by omega) _ HC5.out).mono ?_; rintro e w6 ⟨y, rfl, ⟨y0, y1⟩, hc6, hg6⟩
          have HC6 := Lib.hid hc6
          clear hc6 hg6
          obtain ⟨z, hz, hzz⟩ : ∃ z : Nat, 1 + x * y = (z : Int) ∧ z ≤ 3 := by
            obtain rfl | rfl : x = 0 ∨ x = 1 := by omega
            · exact ⟨1, by omega, by omega⟩
            · exact ⟨(1 + y).toNat, by omega, by omega⟩
          have hxy : 0 ≤ x * y ∧ x * y ≤ 2 := by
            obtain rfl | rfl : x = 0 ∨ x = 1 := by omega
            · omega
            · omega
          have hw1 : IntKind.i64.wrap (x * y) = x * y := IntWalk.i64_in _ (by omega)
          have hw2 : IntKind.i64.wrap (1 + x * y) = (z : Int) := (IntWalk.i64_in _ (by omega)).trans hz
          have HZ := Lib.hid fun w' => spec_l01Long z 32 (by omega) (by omega) (by omega) w'
          have HZE := Lib.hid hz
          clear hz
          go_wp2_with fail
          (try rw [HZE.out])
          refine (HZ.out _).mono ?_; rintro e w7 ⟨s, rfl, hs, hb7⟩
          have HC8 := Lib.hid (HC6.out.below hb7)
          clear hb7 HC5 HC6 HZ HZE hw1 hw2 hxy
          have hu : (t ++ s).size ≤ 8 * k + 3 := by rw [ByteArray.size_append]; omega
          obtain ⟨u, hu8⟩ : ∃ u : ByteArray, t ++ s = u := ⟨_, rfl⟩
          rw [hu8] at hu
          have hs3 : s.size ≤ 3 := by omega
          clear hs hzz
          go_wp2_with fail
          (try rw [hu8])
          clear hu8 hs3
          go_loopw [5, 7] (fun s i wr => ∃ (j : Nat) (v : ByteArray), j ≤ 5 ∧ i = .int .i64 (j : Int) ∧ s = .string v ∧ v.size ≤ 8 * k + 3 + j ∧ Cur w wr g) (fun _ i _ => 5 - (intOf i).toNat)
          case atStart => exact ⟨0, u, by omega, rfl, rfl, by omega, HC8.out⟩
          case round =>
            obtain ⟨j, v, hj, rfl, rfl, hv, hCv⟩ := hrel
            have HCv := Lib.hid hCv
            clear hCv
            have j0 : (0 : Int) ≤ (j : Int) := by omega
            go_wp2_with fail
            refine (HB.out g 5 (by omega) (by omega) _ HCv.out).mono ?_; rintro e wa ⟨x, rfl, ⟨x0, x1⟩, hca, hga⟩
            have HCa := Lib.hid hca
            clear hca hga
            by_cases hjx : (j : Int) ≤ x
            · go_wp2_with fail
              refine (HB.out g 94 (by omega) (by omega) _ HCa.out).mono ?_; rintro e wb ⟨y, rfl, ⟨y0, y1⟩, hcb, hgb⟩
              have HCb := Lib.hid hcb
              clear hcb hgb
              have hcv := fun Wq : World => run_byteI (P := Tryd.prog) (Wq.alloc (.cells #[.int .u8 (33 + y)] 5)) 30 9 5 ⟨Wq.heap.size, 0, none⟩ 1 (33 + y) Tryd.underlying30 Tryd.underlying5 Tryd.underlying9 (by omega) (by omega) (by simp)
              have hz1 : ∀ b : UInt8, (v ++ (⟨#[b]⟩ : ByteArray)).size ≤ 8 * k + 3 + (j + 1) := fun b => by
                rw [ByteArray.size_append]
                have : (⟨#[b]⟩ : ByteArray).size = 1 := rfl
                omega
              have HZ1 := Lib.hid hz1
              clear hz1
              go_wp2_with fail
              go_roundw
              case rel => exact ⟨j + 1, _, by omega, by go_num, rfl, HZ1.out _, HCb.out.below (ex_alloc (Below.refl _ _) _)⟩
              case measure => simp [intOf]; omega
            · go_wp2_with fail
              go_roundw
              case rel => exact ⟨k + 1, v, by omega, by go_num, rfl, by omega, HCa.out⟩
              case measure => simp [intOf]; omega
        · obtain rfl : k = 0 := by omega
          go_wp2_with fail
          refine (HO.out g 5 (by omega) (by omega) _ HC.out).mono ?_; rintro e wq ⟨bq, rfl, hcq, hgq⟩
          have HQ := Lib.hid hcq
          clear hcq hgq HC
          have HC := HQ
          clear HQ
          cases bq
          · go_wp2_with fail
            have hu : t.size ≤ 8 * 0 + 3 := by omega
            obtain ⟨u, rfl⟩ : ∃ u : ByteArray, u = t := ⟨_, rfl⟩
            have HC8 := HC
            go_loopw [5, 7] (fun s i wr => ∃ (j : Nat) (v : ByteArray), j ≤ 5 ∧ i = .int .i64 (j : Int) ∧ s = .string v ∧ v.size ≤ 8 * 0 + 3 + j ∧ Cur w wr g) (fun _ i _ => 5 - (intOf i).toNat)
            case atStart => exact ⟨0, u, by omega, rfl, rfl, by omega, HC8.out⟩
            case round =>
              obtain ⟨j, v, hj, rfl, rfl, hv, hCv⟩ := hrel
              have HCv := Lib.hid hCv
              clear hCv
              have j0 : (0 : Int) ≤ (j : Int) := by omega
              go_wp2_with fail
              refine (HB.out g 5 (by omega) (by omega) _ HCv.out).mono ?_; rintro e wa ⟨x, rfl, ⟨x0, x1⟩, hca, hga⟩
              have HCa := Lib.hid hca
              clear hca hga
              by_cases hjx : (j : Int) ≤ x
              · go_wp2_with fail
                refine (HB.out g 94 (by omega) (by omega) _ HCa.out).mono ?_; rintro e wb ⟨y, rfl, ⟨y0, y1⟩, hcb, hgb⟩
                have HCb := Lib.hid hcb
                clear hcb hgb
                have hcv := fun Wq : World => run_byteI (P := Tryd.prog) (Wq.alloc (.cells #[.int .u8 (33 + y)] 5)) 30 9 5 ⟨Wq.heap.size, 0, none⟩ 1 (33 + y) Tryd.underlying30 Tryd.underlying5 Tryd.underlying9 (by omega) (by omega) (by simp)
                have hz1 : ∀ b : UInt8, (v ++ (⟨#[b]⟩ : ByteArray)).size ≤ 8 * 0 + 3 + (j + 1) := fun b => by
                  rw [ByteArray.size_append]
                  have : (⟨#[b]⟩ : ByteArray).size = 1 := rfl
                  omega
                have HZ1 := Lib.hid hz1
                clear hz1
                go_wp2_with fail
                go_roundw
                case rel => exact ⟨j + 1, _, by omega, by go_num, rfl, HZ1.out _, HCb.out.below (ex_alloc (Below.refl _ _) _)⟩
                case measure => simp [intOf]; omega
              · go_wp2_with fail
                go_roundw
                case rel => exact ⟨0 + 1, v, by omega, by go_num, rfl, by omega, HCa.out⟩
                case measure => simp [intOf]; omega
          · go_wp2_with fail
            refine (HB.out g 2 (by omega) (by omega) _ HC.out).mono ?_; rintro e w5 ⟨x, rfl, ⟨x0, x1⟩, hc5, hg5⟩
            have HC5 := Lib.hid hc5
            clear hc5 hg5
            go_wp2_with fail
            refine (HB.out g 3 (by omega) (by omega) _ HC5.out).mono ?_; rintro e w6 ⟨y, rfl, ⟨y0, y1⟩, hc6, hg6⟩
            have HC6 := Lib.hid hc6
            clear hc6 hg6
            obtain ⟨z, hz, hzz⟩ : ∃ z : Nat, 1 + x * y = (z : Int) ∧ z ≤ 3 := by
              obtain rfl | rfl : x = 0 ∨ x = 1 := by omega
              · exact ⟨1, by omega, by omega⟩
              · exact ⟨(1 + y).toNat, by omega, by omega⟩
            have hxy : 0 ≤ x * y ∧ x * y ≤ 2 := by
              obtain rfl | rfl : x = 0 ∨ x = 1 := by omega
              · omega
              · omega
            have hw1 : IntKind.i64.wrap (x * y) = x * y := IntWalk.i64_in _ (by omega)
            have hw2 : IntKind.i64.wrap (1 + x * y) = (z : Int) := (IntWalk.i64_in _ (by omega)).trans hz
            have HZ := Lib.hid fun w' => spec_l01Long z 32 (by omega) (by omega) (by omega) w'
            have HZE := Lib.hid hz
            clear hz
            go_wp2_with fail
            (try rw [HZE.out])
            refine (HZ.out _).mono ?_; rintro e w7 ⟨s, rfl, hs, hb7⟩
            have HC8 := Lib.hid (HC6.out.below hb7)
            clear hb7 HC5 HC6 HZ HZE hw1 hw2 hxy
            have hu : (t ++ s).size ≤ 8 * 0 + 3 := by rw [ByteArray.size_append]; omega
            obtain ⟨u, hu8⟩ : ∃ u : ByteArray, t ++ s = u := ⟨_, rfl⟩
            rw [hu8] at hu
            have hs3 : s.size ≤ 3 := by omega
            clear hs hzz
            go_wp2_with fail
            (try rw [hu8])
            clear hu8 hs3
            go_loopw [5, 7] (fun s i wr => ∃ (j : Nat) (v : ByteArray), j ≤ 5 ∧ i = .int .i64 (j : Int) ∧ s = .string v ∧ v.size ≤ 8 * 0 + 3 + j ∧ Cur w wr g) (fun _ i _ => 5 - (intOf i).toNat)
            case atStart => exact ⟨0, u, by omega, rfl, rfl, by omega, HC8.out⟩
            case round =>
              obtain ⟨j, v, hj, rfl, rfl, hv, hCv⟩ := hrel
              have HCv := Lib.hid hCv
              clear hCv
              have j0 : (0 : Int) ≤ (j : Int) := by omega
              go_wp2_with fail
              refine (HB.out g 5 (by omega) (by omega) _ HCv.out).mono ?_; rintro e wa ⟨x, rfl, ⟨x0, x1⟩, hca, hga⟩
              have HCa := Lib.hid hca
              clear hca hga
              by_cases hjx : (j : Int) ≤ x
              · go_wp2_with fail
                refine (HB.out g 94 (by omega) (by omega) _ HCa.out).mono ?_; rintro e wb ⟨y, rfl, ⟨y0, y1⟩, hcb, hgb⟩
                have HCb := Lib.hid hcb
                clear hcb hgb
                have hcv := fun Wq : World => run_byteI (P := Tryd.prog) (Wq.alloc (.cells #[.int .u8 (33 + y)] 5)) 30 9 5 ⟨Wq.heap.size, 0, none⟩ 1 (33 + y) Tryd.underlying30 Tryd.underlying5 Tryd.underlying9 (by omega) (by omega) (by simp)
                have hz1 : ∀ b : UInt8, (v ++ (⟨#[b]⟩ : ByteArray)).size ≤ 8 * 0 + 3 + (j + 1) := fun b => by
                  rw [ByteArray.size_append]
                  have : (⟨#[b]⟩ : ByteArray).size = 1 := rfl
                  omega
                have HZ1 := Lib.hid hz1
                clear hz1
                go_wp2_with fail
                go_roundw
                case rel => exact ⟨j + 1, _, by omega, by go_num, rfl, HZ1.out _, HCb.out.below (ex_alloc (Below.refl _ _) _)⟩
                case measure => simp [intOf]; omega
              · go_wp2_with fail
                go_roundw
                case rel => exact ⟨0 + 1, v, by omega, by go_num, rfl, by omega, HCa.out⟩
                case measure => simp [intOf]; omega
      · obtain rfl : k = m := by omega
        go_wp2_with fail
        refine (HB.out g 12 (by omega) (by omega) _ HC.out).mono ?_; rintro e w5 ⟨x, rfl, ⟨x0, x1⟩, hc5, hg5⟩
        have HC5 := Lib.hid hc5
        clear hc5 hg5 HC
        by_cases hx0 : x = 0
        · subst hx0
          have q0 : ((0 : Int) == 0) = true := rfl
          go_wp2_with fail
          refine (HP.out g _ 6 6 [⟨#[32]⟩, ⟨#[32, 32]⟩, ⟨#[9]⟩, ⟨#[10]⟩, ⟨#[127]⟩, ⟨#[233]⟩] _ (by omega) (by omega) (lit_keeps (n := 6) encStr (fun _ _ => rfl) w5 [⟨#[32]⟩, ⟨#[32, 32]⟩, ⟨#[9]⟩, ⟨#[10]⟩, ⟨#[127]⟩, ⟨#[233]⟩] 9 (cur_lt HC5.out) rfl (by unfold maxLen; omega) rfl) (HC5.out.below (ex_alloc (Below.refl _ _) _))).mono ?_; rintro e w6 ⟨s, rfl, hs, hc6, hg6⟩
          have hs16 : s.size ≤ 16 := by
            simp only [List.mem_cons, List.not_mem_nil, or_false] at hs
            rcases hs with rfl | rfl | rfl | rfl | rfl | rfl <;> decide
          have HB6 := Lib.hid (cur_w hc6).2
          clear hs hc6 hg6
          go_wp2_with fail
          go_returns
          exact ⟨t ++ s, rfl, by rw [ByteArray.size_append]; omega, HB6.out⟩
        · have q0 : (x == 0) = false := by simpa using hx0
          by_cases hx1 : x = 1
          · subst hx1
            have q1 : ((1 : Int) == 1) = true := rfl
            have i6 : (t.size : Int) < 600 := by omega
            go_wp2_with fail
            refine (HB.out g 2 (by omega) (by omega) _ HC5.out).mono ?_; rintro e w6 ⟨y, rfl, ⟨y0, y1⟩, hc6, hg6⟩
            have HC6 := Lib.hid hc6
            clear hc6 hg6
            obtain ⟨z, hz, hzz⟩ : ∃ z : Nat, (600 - (t.size : Int)) + y = (z : Int) ∧ z ≤ 601 := ⟨((600 - (t.size : Int)) + y).toNat, by omega, by omega⟩
            have HZ := Lib.hid fun w' => spec_l01Long z 32 (by omega) (by omega) (by omega) w'
            have hzt : t.size + z ≤ 601 := by omega
            go_wp2_with fail
            (try rw [hz])
            refine (HZ.out _).mono ?_; rintro e w7 ⟨s, rfl, hs, hb7⟩
            have HB7 := Lib.hid (ex_trans (cur_w HC6.out).2 hb7)
            clear hb7 hz
            go_wp2_with fail
            go_returns
            exact ⟨t ++ s, rfl, by rw [ByteArray.size_append]; omega, HB7.out⟩
          · have q1 : (x == 1) = false := by simpa using hx1
            have HB5 := Lib.hid (cur_w HC5.out).2
            go_wp2_with fail
            go_returns
            exact ⟨t, rfl, by omega, HB5.out⟩
end Go.Proofs.YtkoagijliokhlaaDoor
