/-
  CONTRACTS: the draws.
-/
import Derived.WalkKit
import Derived.WalkSpells
import Derived.WalkLawsBesides
import Derived.Lib.Hide
import Derived.Handy
import Derived.Laws.BitsLemmas
import Derived.StillTailTactics
import Derived.Deep.Light
import Derived.Deep.QuietTactic
import Derived.BigQuiet
import Derived.Deep.RegionHeld3
import Derived.Deep.DeepCutAuto
import Derived.Test.YtjobgnioehkomaaLib
import Derived.Test.YtjobgnioehkomaaOwn
import Derived.Test.YtjobgnioehkomaaRow
import Derived.Test.YtjobgnioehkomaaN0
import Derived.Test.YtjobgnioehkomaaHld
import Derived.Test.YtjobgnioehkomaaSz
import Derived.Test.YtjobgnioehkomaaC1
import Derived.Test.YtjobgnioehkomaaC2
import Derived.Test.YtjobgnioehkomaaD1
import Derived.Test.YtjobgnioehkomaaRows
namespace Go.Proofs.Ytjobgnioehkomaa
open Go.RowKit
set_option linter.unusedVariables false
set_option maxRecDepth 100000
theorem i64_and255 (n : Int) : bits .and .i64 n 255 = n % 256 := by
  have h127 : (BitVec.ofInt 64 255).toNat = 2 ^ 8 - 1 := by decide
  have key : (BitVec.ofInt 64 n &&& BitVec.ofInt 64 255).toNat = (n % ((2 ^ 64 : Nat) : Int)).toNat % 2 ^ 8 := by
    rw [BitVec.toNat_and, BitVec.toNat_ofInt, h127, Nat.and_two_pow_sub_one_eq_mod]
  show IntKind.i64.wrap ((BitVec.ofInt 64 n &&& BitVec.ofInt 64 255).toNat : Nat) = n % 256
  rw [key, IntKind.wrap_i64]
  omega
/-- a cursor of the call's own over bytes that lie below it -/
def Cur (W0 w : World) (g : Nat) : Prop := ∃ (A : Option Addr) (n c : Nat) (l : List Int) (i h : Int), w.heap[g]? = some (.cells #[.slice A n c, .int .i64 i, .int .i64 h] 130 (0, 0)) ∧ Sl 1 RByt W0 A n l ∧ n ≤ 1048576 ∧ (∀ y ∈ l, 0 ≤ y ∧ y ≤ 255) ∧ 0 ≤ i ∧ i ≤ n ∧ W0.heap.size ≤ g ∧ Below W0.heap.size W0 w
theorem Cur.below {W0 w w' : World} {g : Nat} (h : Cur W0 w g) (hb : Below w.heap.size w w') : Cur W0 w' g := by
  obtain ⟨A, n, c, l, i, h, h1, h2, h3, h4, h5, h6, h7, h8⟩ := h
  exact ⟨A, n, c, l, i, h, below_keep hb h1, h2, h3, h4, h5, h6, h7, ex_trans h8 hb⟩
theorem Cur.chg {W0 w w' : World} {g : Nat} {bs : List Nat} (h : Cur W0 w g) (hc : Chg bs w w') (hg : g ∉ bs) (hbs : ∀ b ∈ bs, W0.heap.size ≤ b) : Cur W0 w' g := by
  obtain ⟨A, n, c, l, i, h, h1, h2, h3, h4, h5, h6, h7, h8⟩ := h
  exact ⟨A, n, c, l, i, h, hc.keepb h1 hg, h2, h3, h4, h5, h6, h7, Below.mark h8 hc h8.size hbs⟩
/-- what a draw hands back: some number with a property -/
def DrawI (p : Int → Prop) (W0 w : World) (g : Nat) (e : Ending) (w' : World) : Prop := ∃ x : Int, e = .returned (.int .i64 x) ∧ p x ∧ Cur W0 w' g ∧ Chg [g] w w'
set_option maxHeartbeats 1600000 in
theorem spec_l01Byte (W0 w : World) (g : Nat) (hC : Cur W0 w g) :
    Calls Try.prog 123 #[.pointer (some ⟨g, 0, none⟩)] w (DrawI (fun x => 0 ≤ x ∧ x ≤ 255) W0 w g) := by
  obtain ⟨A, n, c, l, i, h, h1, h2, h3, h4, h5, h6, h7, h8⟩ := hC
  have k0 := blk_cell? h1 0
  have k1 := blk_cell? h1 1
  have k2 := blk_cell? h1 2
  have kf := blk_free h1
  have kz := blk_lt h1
  have hand := i64_and255
  simp only [List.getElem?_toArray, List.getElem?_cons_zero, List.getElem?_cons_succ] at k0 k1 k2
  go_enter Try.func123, Try.ntmps123
  go_upto_region 2 with fail
  generalize hW : World.setCell w _ _ = w1
  obtain ⟨h', hk⟩ : ∃ h', w1.heap[g]? = some (.cells #[.slice A n c, .int .i64 i, .int .i64 h'] 130 (0, 0)) := ⟨_, by rw [← hW]; exact blk_set h1 2 _⟩
  have hc1 : Chg [g] w w1 := by rw [← hW]; exact (Chg.refl _ _).set (by simp) _
  have HC1 := Lib.hid hc1
  have HK := Lib.hid hk
  have HW := Lib.hid (Below.mark h8 hc1 h8.size (by simp; omega))
  clear hW k0 k1 k2 kf kz hc1 h1
  have k0 := blk_cell? hk 0
  have k1 := blk_cell? hk 1
  have k2 := blk_cell? hk 2
  have kf := blk_free hk
  have kz := blk_lt hk
  simp only [List.getElem?_toArray, List.getElem?_cons_zero, List.getElem?_cons_succ] at k0 k1 k2
  clear hk
  go_quiet (fail)
  generalize hx : bits BinOp.xor IntKind.i64 (h' / 8589934592) (h' / 35184372088832) % 256 = x
  have x0 : 0 ≤ x := by omega
  have x1 : x ≤ 255 := by omega
  clear hx
  generalize bits BinOp.xor IntKind.i64 (h' / 8589934592) (h' / 35184372088832) = xx
  have HK2 := Lib.hid (show (World.drewN w1 nq).heap[g]? = some (.cells #[.slice A n c, .int .i64 i, .int .i64 h'] 130 (0, 0)) from HK.out)
  have HC2 := Lib.hid (show Chg [g] w (World.drewN w1 nq) from HC1.out.drewN nq)
  have HW2 := Lib.hid (show Below W0.heap.size W0 (World.drewN w1 nq) from ex_drewN HW.out nq)
  clear k0 k1 k2 kf kz
  generalize World.drewN w1 nq = w2 at *
  clear nq
  have k0 := blk_cell? HK2.out 0
  have k1 := blk_cell? HK2.out 1
  have k2 := blk_cell? HK2.out 2
  have kf := blk_free HK2.out
  have kz := blk_lt HK2.out
  simp only [List.getElem?_toArray, List.getElem?_cons_zero, List.getElem?_cons_succ] at k0 k1 k2
  by_cases hi : i < (n : Int)
  · obtain ⟨k, rfl⟩ : ∃ k : Nat, i = k := ⟨i.toNat, by omega⟩
    have hid : decide ((k : Int) < (n : Int)) = true := by simpa using hi
    have hln : l.length = n := h2.len
    have hkl : k < l.length := by omega
    obtain ⟨b, off, rfl, hbW, hby⟩ := h2.byt (by omega)
    have hb := hby k hkl
    have hbl := h4 _ (List.getElem_mem hkl)
    rw [← HW2.out.cell (p := ⟨b, _, none⟩) hbW] at hb
    have HBY := Lib.hid hby
    have HL4 := Lib.hid h4
    have HLN := Lib.hid hln
    generalize l[k] = by_ at *
    obtain ⟨y0, y1⟩ := hbl
    have i0 : (0 : Int) ≤ (k : Int) := by omega
    clear hby h4 hln
    go_upto_region 3 with fail
    go_quiet (fail)
    have HK3 := Lib.hid (show (World.drewN w2 nq).heap[g]? = some (.cells #[.slice (some ⟨b, off, none⟩) n c, .int .i64 ((k : Nat) : Int), .int .i64 h'] 130 (0, 0)) from HK2.out)
    have HC3 := Lib.hid (show Chg [g] w (World.drewN w2 nq) from HC2.out.drewN nq)
    have HW3 := Lib.hid (show Below W0.heap.size W0 (World.drewN w2 nq) from ex_drewN HW2.out nq)
    have hb3 : (World.drewN w2 nq).cell? ⟨b, off + k, none⟩ = some (.int .u8 by_) := hb
    clear hb
    clear k0 k1 k2 kf kz
    generalize World.drewN w2 nq = w3 at *
    clear nq
    have k0 := blk_cell? HK3.out 0
    have k1 := blk_cell? HK3.out 1
    have k2 := blk_cell? HK3.out 2
    have kf := blk_free HK3.out
    have kz := blk_lt HK3.out
    simp only [List.getElem?_toArray, List.getElem?_cons_zero, List.getElem?_cons_succ] at k0 k1 k2
    go_upto_region 4 with fail
    go_quiet (fail)
    generalize hx2 : (x + by_) % 256 = x2
    have x20 : 0 ≤ x2 := by omega
    have x21 : x2 ≤ 255 := by omega
    clear hx2
    have HK4 := Lib.hid (show (World.drewN w3 nq).heap[g]? = some (.cells #[.slice (some ⟨b, off, none⟩) n c, .int .i64 ((k : Nat) : Int), .int .i64 h'] 130 (0, 0)) from HK3.out)
    have HC4 := Lib.hid (show Chg [g] w (World.drewN w3 nq) from HC3.out.drewN nq)
    have HW4 := Lib.hid (show Below W0.heap.size W0 (World.drewN w3 nq) from ex_drewN HW3.out nq)
    clear hb3
    clear k0 k1 k2 kf kz
    generalize World.drewN w3 nq = w4 at *
    clear nq
    have k0 := blk_cell? HK4.out 0
    have k1 := blk_cell? HK4.out 1
    have k2 := blk_cell? HK4.out 2
    have kf := blk_free HK4.out
    have kz := blk_lt HK4.out
    simp only [List.getElem?_toArray, List.getElem?_cons_zero, List.getElem?_cons_succ] at k0 k1 k2
    go_wp2_with fail
    go_returns
    exact ⟨x2, rfl, ⟨x20, x21⟩, ⟨some ⟨b, off, none⟩, n, c, l, (k : Int) + 1, h', blk_set HK4.out 1 _, h2, h3, HL4.out, by omega, by omega, h7, HW4.out.setCell (p := ⟨g, 1, none⟩) h7 _⟩, HC4.out.set (by simp) _⟩
  · have hid : decide (i < (n : Int)) = false := by simp; omega
    go_upto_region 3 with fail
    go_quiet (fail)
    have HK3 := Lib.hid (show (World.drewN w2 nq).heap[g]? = some (.cells #[.slice A n c, .int .i64 i, .int .i64 h'] 130 (0, 0)) from HK2.out)
    have HC3 := Lib.hid (show Chg [g] w (World.drewN w2 nq) from HC2.out.drewN nq)
    have HW3 := Lib.hid (show Below W0.heap.size W0 (World.drewN w2 nq) from ex_drewN HW2.out nq)
    clear k0 k1 k2 kf kz
    generalize World.drewN w2 nq = w3 at *
    clear nq
    have k0 := blk_cell? HK3.out 0
    have k1 := blk_cell? HK3.out 1
    have k2 := blk_cell? HK3.out 2
    have kf := blk_free HK3.out
    have kz := blk_lt HK3.out
    simp only [List.getElem?_toArray, List.getElem?_cons_zero, List.getElem?_cons_succ] at k0 k1 k2
    go_wp2_with fail
    go_returns
    exact ⟨x, rfl, ⟨x0, x1⟩, ⟨A, n, c, l, i, h', HK3.out, h2, h3, h4, h5, h6, h7, HW3.out⟩, HC3.out⟩
set_option maxHeartbeats 1600000 in
theorem spec_l01New (A : Option Addr) (n c : Nat) (l : List Int) (w : World) (hS : Sl 1 RByt w A n l) (hn : n ≤ 1048576) (hl : ∀ y ∈ l, 0 ≤ y ∧ y ≤ 255) :
    Calls Try.prog 61 #[.slice A n c] w fun e w' => ∃ g, e = .returned (.pointer (some ⟨g, 0, none⟩)) ∧ Cur w w' g := by
  obtain rfl : l.length = n := hS.len
  have HL := Lib.hid hl
  clear hl
  go_enter Try.func61, Try.ntmps61
  go_wp2_with fail
  go_loop [3, 4] (fun h i => ∃ (k : Nat) (x : Int), i = .int .i64 (k : Int) ∧ h = .int .i64 x ∧ k ≤ l.length) (fun _ i => l.length - (intOf i).toNat)
  case atStart => exact ⟨0, _, rfl, rfl, Nat.zero_le _⟩
  case round =>
    obtain ⟨k, x, rfl, rfl, hk⟩ := hrel
    have i0 : (0 : Int) ≤ (k : Int) := by omega
    by_cases hlt : k < l.length
    · have hkd : decide ((k : Int) < (l.length : Int)) = true := by simp; omega
      have hkz : (k : Int) < (l.length : Int) := by omega
      by_cases h4 : k < 4000
      · have h4d : decide ((k : Int) < 4000) = true := by simp; omega
        obtain ⟨b, off, rfl, hbW, hby⟩ := hS.byt (by omega)
        have hb := hby k hlt
        generalize l[k] = yy at *
        clear hby
        go_wp2_with fail
        go_round
        case rel => exact ⟨k + 1, _, by go_num, rfl, by omega⟩
        case measure => simp [intOf]; omega
      · have h4d : decide ((k : Int) < 4000) = false := by simp; omega
        go_wp2_with fail
        go_returns
        exact ⟨w.heap.size, rfl, A, l.length, c, l, 0, x, hp_new rfl, hS, hn, HL.out, by omega, by omega, Nat.le_refl _, by go_grown⟩
    · obtain rfl : l.length = k := by omega
      have hkd : decide ((l.length : Int) < (l.length : Int)) = false := by simp
      go_wp2_with fail
      go_returns
      exact ⟨w.heap.size, rfl, A, l.length, c, l, 0, x, hp_new rfl, hS, hn, HL.out, by omega, by omega, Nat.le_refl _, by go_grown⟩
theorem DrawI.imp {p q : Int → Prop} {W0 w : World} {g : Nat} {e : Ending} {w' : World} (h : DrawI p W0 w g e w') (hi : ∀ x, p x → q x) : DrawI q W0 w g e w' := by
  obtain ⟨x, h1, h2, h3, h4⟩ := h
  exact ⟨x, h1, hi x h2, h3, h4⟩
theorem cur_lt {W0 w : World} {g : Nat} (h : Cur W0 w g) : g < w.heap.size := by
  obtain ⟨_, _, _, _, _, _, h, _⟩ := h
  exact blk_lt h
set_option maxHeartbeats 1600000 in
theorem spec_l01Below (W0 w : World) (g : Nat) (n : Int) (h0 : 0 < n) (h1 : n ≤ 4294967296) (hC : Cur W0 w g) :
    Calls Try.prog 62 #[.pointer (some ⟨g, 0, none⟩), .int .i64 n] w (DrawI (fun x => 0 ≤ x ∧ x < n) W0 w g) := by
  have HB := Lib.hid fun w' (h : Cur W0 w' g) => spec_l01Byte W0 w' g h
  have HC := Lib.hid hC
  clear hC
  have n0 : ¬ (n ≤ 0) := by omega
  by_cases hn : n ≤ 256
  · go_enter Try.func62, Try.ntmps62
    go_wp2_with fail
    refine (HB.out _ HC.out).mono ?_; rintro e w1 ⟨x, rfl, ⟨x0, x1⟩, hc1, hg1⟩
    have hm := Int.emod_nonneg x (by omega : n ≠ 0)
    have hm2 := Int.emod_lt_of_pos x h0
    have HF := Lib.hid (And.intro hm (And.intro hm2 (And.intro hc1 hg1)))
    clear hm hm2 hc1 hg1
    go_wp2_with fail
    go_returns
    exact ⟨x % n, rfl, ⟨HF.out.1, HF.out.2.1⟩, HF.out.2.2.1, HF.out.2.2.2⟩
  · go_enter Try.func62, Try.ntmps62
    go_wp2_with fail
    refine (HB.out _ HC.out).mono ?_; rintro e w1 ⟨x, rfl, ⟨x0, x1⟩, hc1, hg1⟩
    have HC1 := Lib.hid hc1
    have HG1 := Lib.hid hg1
    clear hc1 hg1
    go_wp2_with fail
    refine (HB.out _ HC1.out).mono ?_; rintro e w2 ⟨y, rfl, ⟨y0, y1⟩, hc2, hg2⟩
    have HC2 := Lib.hid hc2
    have HG2 := Lib.hid (HG1.out.trans hg2)
    clear hc2 hg2
    go_wp2_with fail
    refine (HB.out _ HC2.out).mono ?_; rintro e w3 ⟨z, rfl, ⟨z0, z1⟩, hc3, hg3⟩
    have HC3 := Lib.hid hc3
    have HG3 := Lib.hid (HG2.out.trans hg3)
    clear hc3 hg3
    go_wp2_with fail
    refine (HB.out _ HC3.out).mono ?_; rintro e w4 ⟨t, rfl, ⟨t0, t1⟩, hc4, hg4⟩
    have HC4 := Lib.hid hc4
    have HG4 := Lib.hid (HG3.out.trans hg4)
    clear hc4 hg4
    have HM := Lib.hid (And.intro (Int.emod_nonneg (x * 16777216 + y * 65536 + z * 256 + t) (by omega : n ≠ 0)) (Int.emod_lt_of_pos (x * 16777216 + y * 65536 + z * 256 + t) h0))
    go_wp2_with fail
    go_returns
    exact ⟨_, rfl, HM.out, HC4.out, HG4.out⟩
def DrawB (W0 w : World) (g : Nat) (e : Ending) (w' : World) : Prop := ∃ b : Bool, e = .returned (.bool b) ∧ Cur W0 w' g ∧ Chg [g] w w'
theorem spec_l01Once (W0 w : World) (g : Nat) (n : Int) (h0 : 0 < n) (h1 : n ≤ 4294967296) (hC : Cur W0 w g) :
    Calls Try.prog 78 #[.pointer (some ⟨g, 0, none⟩), .int .i64 n] w (DrawB W0 w g) := by
  have HB := Lib.hid (spec_l01Below W0 w g n h0 h1 hC)
  clear hC
  go_enter Try.func78, Try.ntmps78
  go_wp2_with fail
  refine HB.out.mono ?_; rintro e w1 ⟨x, rfl, _, hc1, hg1⟩
  have HF := Lib.hid (And.intro hc1 hg1)
  clear hc1 hg1
  go_wp2_with fail
  go_returns
  exact ⟨_, rfl, HF.out.1, HF.out.2⟩
def DrawS (p : ByteArray → Prop) (W0 w : World) (g : Nat) (e : Ending) (w' : World) : Prop := ∃ s : ByteArray, e = .returned (.string s) ∧ p s ∧ Cur W0 w' g ∧ Chg [g] w w'
theorem spec_l01Pick (W0 w : World) (g : Nat) (A : Option Addr) (m c : Nat) (ls : List ByteArray) (h0 : 0 < m) (h1 : m ≤ 1048576) (hS : ∀ w', Chg [g] w w' → Sl 1 RStr w' A m ls) (hC : Cur W0 w g) :
    Calls Try.prog 130 #[.pointer (some ⟨g, 0, none⟩), .slice A m c] w (DrawS (fun s => s ∈ ls) W0 w g) := by
  have HB := Lib.hid (spec_l01Below W0 w g m (by omega) (by omega) hC)
  have HS := Lib.hid hS
  have hlen : ls.length = m := (hS w (Chg.refl _ _)).len
  clear hC hS
  go_enter Try.func130, Try.ntmps130
  go_wp2_with fail
  refine HB.out.mono ?_; rintro e w1 ⟨x, rfl, ⟨x0, x1⟩, hc1, hg1⟩
  obtain ⟨k, rfl⟩ : ∃ k : Nat, x = k := ⟨x.toNat, by omega⟩
  obtain ⟨b, off, rfl, hb, hcl⟩ := (HS.out w1 hg1).str (by omega)
  have hk : k < ls.length := by omega
  have hck := hcl k hk
  have HM := Lib.hid (List.getElem_mem hk)
  generalize ls[k] = s at *
  have HF := Lib.hid (And.intro hc1 hg1)
  clear hc1 hg1 hcl hlen
  go_wp2_with fail
  go_returns
  exact ⟨s, rfl, HM.out, HF.out.1, HF.out.2⟩
theorem spec_l01PickInt (W0 w : World) (g : Nat) (A : Option Addr) (m c : Nat) (ls : List Int) (h0 : 0 < m) (h1 : m ≤ 1048576) (hS : ∀ w', Chg [g] w w' → Sl 1 RInt w' A m ls) (hC : Cur W0 w g) :
    Calls Try.prog 119 #[.pointer (some ⟨g, 0, none⟩), .slice A m c] w (DrawI (fun s => s ∈ ls) W0 w g) := by
  have HB := Lib.hid (spec_l01Below W0 w g m (by omega) (by omega) hC)
  have HS := Lib.hid hS
  have hlen : ls.length = m := (hS w (Chg.refl _ _)).len
  clear hC hS
  go_enter Try.func119, Try.ntmps119
  go_wp2_with fail
  refine HB.out.mono ?_; rintro e w1 ⟨x, rfl, ⟨x0, x1⟩, hc1, hg1⟩
  obtain ⟨k, rfl⟩ : ∃ k : Nat, x = k := ⟨x.toNat, by omega⟩
  obtain ⟨b, off, rfl, hb, hcl⟩ := (HS.out w1 hg1).int (by omega)
  have hk : k < ls.length := by omega
  have hck := hcl k hk
  have HM := Lib.hid (List.getElem_mem hk)
  generalize ls[k] = s at *
  have HF := Lib.hid (And.intro hc1 hg1)
  clear hc1 hg1 hcl hlen
  go_wp2_with fail
  go_returns
  exact ⟨s, rfl, HM.out, HF.out.1, HF.out.2⟩
set_option maxHeartbeats 1600000 in
theorem spec_DrawPlaces (A : Option Addr) (n c : Nat) (l : List Int) (w : World) (hS : Sl 1 RByt w A n l) (hn : n ≤ 1048576) (hl : ∀ y ∈ l, 0 ≤ y ∧ y ≤ 255) :
    Calls Try.prog 10 #[.slice A n c] w fun e w' => ∃ (A' : Option Addr) (c' : Nat) (ps : List Int), e = .returned (.slice A' 12 c') ∧ FRow 3 1 eInt w' w.heap.size A' 12 c' ps ∧ (∀ p ∈ ps, 0 ≤ p ∧ p < 10000) ∧ Below w.heap.size w w' := by
  obtain ⟨ii, hi, hi0, hi1, hi2⟩ := info_parts info_int
  have HN := Lib.hid (spec_l01New A n c l w hS hn hl)
  clear hS hl
  go_enter Try.func10, Try.ntmps10
  go_wp2_with fail
  refine HN.out.mono ?_; rintro e w1 ⟨g, rfl, hC⟩
  have hb1 : Below w.heap.size w w1 := by obtain ⟨_, _, _, _, _, _, _, _, _, _, _, _, _, h⟩ := hC; exact h
  have hgw : w.heap.size ≤ g := by obtain ⟨_, _, _, _, _, _, _, _, _, _, _, _, h, _⟩ := hC; exact h
  have HC := Lib.hid (hC.below (show Below w1.heap.size w1 _ from by go_grown : Below w1.heap.size w1 (w1.alloc (.cells #[] 3))))
  have hgl := cur_lt hC
  clear hC
  go_wp2_with fail
  go_loopw [4, 5] (fun v i wr => ∃ (k : Nat) (ps : List Int) (A1 : Option Addr) (c1 : Nat), k ≤ 12 ∧ i = .int .i64 (k : Int) ∧ v = .slice A1 k c1 ∧ FRow 3 1 eInt wr w1.heap.size A1 k c1 ps ∧ (∀ p ∈ ps, 0 ≤ p ∧ p < 10000) ∧ Cur w wr g ∧ Below w.heap.size w wr ∧ w1.heap.size ≤ wr.heap.size) (fun _ i _ => 12 - (intOf i).toNat)
  case atStart => exact ⟨0, [], _, _, by omega, rfl, rfl, FRow.any0 _ _ _ _ _ _, (fun p hp => by cases hp), HC.out, ex_trans hb1 (by go_grown), by simp⟩
  case round =>
    obtain ⟨k, ps, A1, c1, hk, rfl, rfl, hR, hp, hC, hB, hz⟩ := hrel
    have HR := Lib.hid (And.intro hR (And.intro hp (And.intro hC hB)))
    clear hR hp hC hB
    by_cases hlt : k < 12
    · have hkz : (k : Int) < 12 := by omega
      go_wp2_with fail
      refine (spec_l01Below w _ g 10000 (by omega) (by omega) HR.out.2.2.1).mono ?_; rintro e w2 ⟨x, rfl, ⟨x0, x1⟩, hc2, hg2⟩
      have hr2 := HR.out.1.chg hg2 (fun b hb h => by have h1 := (HR.out.1.base b hb).1; simp only [List.mem_singleton] at h; omega)
      have hb2 := Below.mark HR.out.2.2.2 hg2 HR.out.2.2.2.size (by simp only [List.mem_singleton]; intro b hb; omega)
      have hz2 : w1.heap.size ≤ w2.heap.size := Nat.le_trans hz hg2.size
      have H2 := Lib.hid (And.intro hr2 (And.intro hc2 hb2))
      clear hc2 hg2 hr2 hb2
      go_wp2_with (at_builtin; refine wpList_append_row rfl _ _ _ rfl encInt Try.underlying24 hi hi0 hi1 hi2 rfl rfl rfl (H2.out.1.below (by go_grown)) (src1 encInt _ x _ (by simp) rfl) (by unfold maxLen; omega) (by omega) (by simp; omega) ?_; intro A3 c3 w3 hr3 hc3 hx3)
      have HR3 := Lib.hid (show FRow 3 1 eInt w3 w1.heap.size A3 (k + 1) c3 (ps ++ [x]) ∧ Cur w w3 g ∧ Below w.heap.size w w3 ∧ w1.heap.size ≤ w3.heap.size from ⟨hr3, (H2.out.2.1.below (ex_alloc (Below.refl _ _) _)).chg hc3 (fun h => by have h1 := (H2.out.1.base _ h).1; omega) (fun b hb => Nat.le_trans hb1.size (H2.out.1.base b hb).1),
        Below.mark (ex_alloc H2.out.2.2 _) hc3 (by have := hb1.size; simp; omega) (fun b hb => Nat.le_trans hb1.size (H2.out.1.base b hb).1), by have := hc3.size; simp at this; omega⟩)
      clear hr3 hc3
      have HP := Lib.hid (show ∀ p ∈ ps ++ [x], 0 ≤ p ∧ p < 10000 from fun p hp => by
        rcases List.mem_append.1 hp with h | h
        · exact HR.out.2.1 p h
        · obtain rfl : p = x := by simpa using h
          exact ⟨x0, x1⟩)
      go_wp2_with fail
      go_roundw
      case rel => exact ⟨k + 1, ps ++ [x], A3, c3, by omega, by go_num, rfl, HR3.out.1, HP.out, HR3.out.2.1, HR3.out.2.2.1, HR3.out.2.2.2⟩
      case measure => simp [intOf]; omega
    · obtain rfl : k = 12 := by omega
      go_wp2_with fail
      go_returns
      exact ⟨A1, c1, ps, rfl, HR.out.1.re (fun b hb => Nat.le_trans hb1.size (HR.out.1.base b hb).1), HR.out.2.1, HR.out.2.2.2⟩
end Go.Proofs.Ytjobgnioehkomaa
