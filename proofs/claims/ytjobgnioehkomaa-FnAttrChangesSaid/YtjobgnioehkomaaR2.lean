/-
  CONTRACTS: ChangedAttrs.
-/
import Derived.WalkKit
import Derived.WalkSpells
import Derived.WalkLawsBesides
import Derived.Lib.Hide
import Derived.Handy
import Derived.StillTailTactics
import Derived.Deep.Light
import Derived.Deep.QuietTactic
import Derived.BigQuiet
import Derived.Deep.RegionHeld3
import Derived.Deep.RegionLaw
import Derived.Sort.Walk0
import Derived.Deep.DeepCutAuto
import Derived.Test.YtjobgnioehkomaaLib
import Derived.Test.YtjobgnioehkomaaOwn
import Derived.Test.YtjobgnioehkomaaRow
import Derived.Test.YtjobgnioehkomaaN0
import Derived.Test.YtjobgnioehkomaaRaw
import Derived.Test.YtjobgnioehkomaaHld
import Derived.Test.YtjobgnioehkomaaHl2
import Derived.Test.YtjobgnioehkomaaM0
import Derived.Test.YtjobgnioehkomaaC1
import Derived.Test.YtjobgnioehkomaaC2
import Derived.Test.YtjobgnioehkomaaT1
import Derived.Test.YtjobgnioehkomaaT2
import Derived.Test.YtjobgnioehkomaaT3
import Derived.Test.YtjobgnioehkomaaT4
import Derived.Test.YtjobgnioehkomaaC3
import Derived.Test.YtjobgnioehkomaaC4
import Derived.Test.YtjobgnioehkomaaC5
import Derived.Test.YtjobgnioehkomaaD1
import Derived.Test.YtjobgnioehkomaaD3
import Derived.Test.YtjobgnioehkomaaD5
import Derived.Test.YtjobgnioehkomaaD7
import Derived.Test.YtjobgnioehkomaaH1
import Derived.Test.YtjobgnioehkomaaE4
import Derived.Test.YtjobgnioehkomaaE5
import Derived.Test.YtjobgnioehkomaaQ5
import Derived.Test.YtjobgnioehkomaaP4
import Derived.Test.YtjobgnioehkomaaR0
import Derived.Test.YtjobgnioehkomaaR1
import Derived.Test.YtjobgnioehkomaaRows
namespace Go.Proofs.Ytjobgnioehkomaa
open Go.RowKit
set_option linter.unusedVariables false
set_option maxRecDepth 100000
def difA (a b : List Atr) (nm : ByteArray) : Bool := !((getA a nm).eqb (getA b nm))
def allN (a b : Fil) : List ByteArray := a.attrs.map (·.name) ++ b.attrs.map (·.name)
def chgL (a b : Fil) : List ByteArray := ((allN a b).filter (difA a.attrs b.attrs)).foldl putS []
theorem chg_succ (a b : Fil) {k : Nat} (hk : k < (allN a b).length) : (((allN a b).take (k + 1)).filter (difA a.attrs b.attrs)).foldl putS [] = if difA a.attrs b.attrs (allN a b)[k] then putS ((((allN a b).take k).filter (difA a.attrs b.attrs)).foldl putS []) (allN a b)[k] else (((allN a b).take k).filter (difA a.attrs b.attrs)).foldl putS [] := by
  rw [take_filter_succ _ _ hk]
  split
  · rw [List.foldl_append]; rfl
  · rw [List.append_nil]
theorem chg_len (a b : Fil) (k : Nat) : ((((allN a b).take k).filter (difA a.attrs b.attrs)).foldl putS []).length ≤ a.attrs.length + b.attrs.length := by
  have h1 := putAll_len (((allN a b).take k).filter (difA a.attrs b.attrs)) []
  have h2 := List.length_filter_le (difA a.attrs b.attrs) ((allN a b).take k)
  have h3 : ((allN a b).take k).length ≤ (allN a b).length := by rw [List.length_take]; omega
  have h4 : (allN a b).length = a.attrs.length + b.attrs.length := by simp [allN]
  simp only [List.length_nil] at h1
  omega
theorem allN_len (a b : Fil) : (allN a b).length = a.attrs.length + b.attrs.length := by simp [allN]
theorem chgL_len (a b : Fil) : (chgL a b).length ≤ a.attrs.length + b.attrs.length := by
  have := chg_len a b (allN a b).length
  rw [List.take_length] at this
  exact this
set_option maxHeartbeats 3200000 in
theorem spec_l04Put (A : Option Addr) (n c : Nat) (l : List ByteArray) (id : ByteArray) (B : Nat) (w : World) (h : FRow 9 1 eStr w B A n c l) (hn : n ≤ 1073741823) (hB : B ≤ w.heap.size) :
    Calls Try.prog 88 #[.slice A n c, .string id] w fun e w' => ∃ A' c', e = .returned (.slice A' (putS l id).length c') ∧ FRow 9 1 eStr w' B A' (putS l id).length c' (putS l id) ∧ Below w.heap.size w w' ∧ ∀ b ∈ rowBs A' c', b ∈ rowBs A c ∨ w.heap.size ≤ b := by
  obtain rfl : l.length = n := h.len
  obtain ⟨ii, hi, hi0, hi1, hi2⟩ := info_parts info_string
  have hcap := h.le
  have HR := Lib.hid h
  clear h
  go_enter Try.func88, Try.ntmps88
  go_wp2_with fail
  go_loop [5] (fun i => ∃ j : Nat, j ≤ l.length ∧ i = .int .i64 j ∧ noneTo (geS id) l j) (fun i => l.length - (intOf i).toNat)
  case atStart => exact ⟨0, Nat.zero_le _, rfl, noneTo_zero _ _⟩
  case round =>
    obtain ⟨j, hj2, rfl, hT⟩ := hrel
    have HT := Lib.hid hT
    clear hT
    have i0 : (0 : Int) ≤ (j : Int) := by omega
    have i2 : (j : Int) ≤ (l.length : Int) := by omega
    have i3 : (j : Int) ≤ (c : Int) := by omega
    by_cases hjt : j < l.length
    · obtain ⟨g, rfl, hBg, hgw, hrb, hfr, hcell⟩ := HR.out.cell encStr (by omega)
      have q0 := hcell j hjt 0 _ rfl
      simp only [Nat.add_zero, Nat.mul_one] at q0
      have i1 : (j : Int) < (l.length : Int) := by omega
      have hd : decide ((j : Int) < (l.length : Int)) = true := decide_eq_true i1
      clear hcell hfr hrb
      by_cases hq : Op.bytesLess l[j].toList id.toList = true
      · have HN := Lib.hid (noneTo_succ HT.out (fun _ => show geS id l[j] = false by unfold geS; rw [hq]; rfl))
        have hd2 : Op.bytesLess l[j].toList id.toList = true := hq
        go_wp2_with fail
        go_round
        case rel => exact ⟨j + 1, by omega, by go_num, HN.out⟩
        case measure => simp [intOf]; omega
      · have hk := findIdx_at (p := geS id) hj2 HT.out (fun _ => by unfold geS; rw [show Op.bytesLess l[j].toList id.toList = false by simpa using hq]; rfl)
        have hd2 : Op.bytesLess l[j].toList id.toList = false := by simpa using hq
        by_cases he : l[j] = id
        · have HZ := Lib.hid (show putS l id = l by unfold putS; rw [hk, List.getElem?_eq_getElem hjt, he]; simp)
          have he2 : (l[j].toList == id.toList) = true := by rw [he]; simp
          clear hk he
          go_wp2_with fail
          go_returns
          rw [HZ.out]
          exact ⟨_, c, rfl, HR.out, Below.refl _ _, fun b hb => .inl hb⟩
        · have HZ := Lib.hid (show putS l id = l.take j ++ [id] ++ l.drop j by
            unfold putS
            rw [hk, List.getElem?_eq_getElem hjt, if_neg (by simpa using he)]
            simp [insL])
          have he2 : (l[j].toList == id.toList) = false := by cases h9 : (l[j].toList == id.toList) with | false => rfl | true => exact absurd (toList_inj (by simpa using h9)) he
          have hck : ¬ (c = j) := by omega
          clear hk he
          go_wp2_with (at_builtin; first
            | (refine wpList_append_row rfl (.tmp 34) (.tmp 37) _ rfl encStr Try.underlying34 hi hi0 hi1 hi2 rfl rfl rfl (FRow.any0 _ _ _ _ w.heap.size _) (((Src.of_row encStr HR.out).below (by go_grown)).take encStr (k := j) (by omega)) (by unfold maxLen; omega) (by omega) (by simp <;> omega) ?_; intro A6 c6 w6 hr6 hc6 hx6; have hB6 : Below w.heap.size w w6 := (Below.mark (B := w.heap.size) (w := w) (by go_grown) hc6 (by simp <;> omega) (by simp [rowBs_zero])); have HR6 := Lib.hid (show FRow 9 1 eStr w6 w.heap.size A6 j c6 (l.take j) by simpa using hr6); clear hr6 hc6 hx6)
            | (refine wpList_append_row rfl (.tmp 38) (.tmp 40) _ rfl encStr Try.underlying34 hi hi0 hi1 hi2 rfl rfl rfl (HR6.out.below (by go_grown)) (src1 encStr _ id _ (by simp) rfl) (by unfold maxLen; omega) (by omega) (by have := hB6.size; simp <;> omega) ?_; intro A8 c8 w8 hr8 hc8 hx8; have hB8 : Below w.heap.size w w8 := (Below.mark (B := w.heap.size) (w := w) (ex_alloc hB6 _) hc8 (by have := hB6.size; simp <;> omega) (fun b hb => (HR6.out.base b hb).1)); have HR8 := Lib.hid hr8; clear hr8 hc8 hx8)
            | (refine wpList_append_row rfl (.tmp 42) (.tmp 45) _ rfl encStr Try.underlying34 hi hi0 hi1 hi2 rfl rfl rfl HR8.out (by have hh := Src.drop2 encStr ((Src.of_row encStr HR.out).below hB8) (k := j) (by omega); simp only [Nat.zero_add, Nat.mul_one] at hh; exact hh) (by unfold maxLen; omega) (by omega) (by have := hB8.size; omega) ?_; intro A9 c9 w9 hr9 hc9 hx9; have hB9 : Below w.heap.size w w9 := (Below.mark (B := w.heap.size) (w := w) hB8 hc9 hB8.size (fun b hb => (HR8.out.base b hb).1)); have HR9 := Lib.hid hr9; clear hr9 hc9 hx9))
          go_returns
          have hl9 : (putS l id).length = j + 1 + (l.length - j) := by rw [HZ.out]; simp; omega
          rw [hl9, HZ.out]
          exact ⟨A9, c9, rfl, HR9.out.re (fun b hb => Nat.le_trans hB (HR9.out.base b hb).1), hB9, fun b hb => .inr (HR9.out.base b hb).1⟩
    · obtain rfl : j = l.length := by omega
      have hd : decide ((l.length : Int) < (l.length : Int)) = false := decide_eq_false (by omega)
      have hk := findIdx_at (p := geS id) (Nat.le_refl _) HT.out (fun h => absurd h (by omega))
      have HZ := Lib.hid (show putS l id = l.take l.length ++ [id] by
        unfold putS
        rw [hk, List.getElem?_eq_none (Nat.le_refl _), if_neg (by simp)]
        simp [insL])
      have h1l : (l.length : Int) ≤ (c : Int) := i3
      clear hk
      go_wp2_with (at_builtin; first
        | (refine wpList_append_row rfl (.tmp 34) (.tmp 37) _ rfl encStr Try.underlying34 hi hi0 hi1 hi2 rfl rfl rfl (FRow.any0 _ _ _ _ w.heap.size _) (((Src.of_row encStr HR.out).below (by go_grown)).take encStr (k := l.length) (by omega)) (by unfold maxLen; omega) (by omega) (by simp <;> omega) ?_; intro A6 c6 w6 hr6 hc6 hx6; have hB6 : Below w.heap.size w w6 := (Below.mark (B := w.heap.size) (w := w) (by go_grown) hc6 (by simp <;> omega) (by simp [rowBs_zero])); have HR6 := Lib.hid (show FRow 9 1 eStr w6 w.heap.size A6 l.length c6 (l.take l.length) by simpa using hr6); clear hr6 hc6 hx6)
        | (refine wpList_append_row rfl (.tmp 38) (.tmp 40) _ rfl encStr Try.underlying34 hi hi0 hi1 hi2 rfl rfl rfl (HR6.out.below (by go_grown)) (src1 encStr _ id _ (by simp) rfl) (by unfold maxLen; omega) (by omega) (by have := hB6.size; simp <;> omega) ?_; intro A8 c8 w8 hr8 hc8 hx8; have hB8 : Below w.heap.size w w8 := (Below.mark (B := w.heap.size) (w := w) (ex_alloc hB6 _) hc8 (by have := hB6.size; simp <;> omega) (fun b hb => (HR6.out.base b hb).1)); have HR8 := Lib.hid hr8; clear hr8 hc8 hx8)
        | (refine wpList_append_row rfl (.tmp 42) (.tmp 45) _ rfl encStr Try.underlying34 hi hi0 hi1 hi2 rfl rfl rfl HR8.out (Src.none0 _ _) (by unfold maxLen; omega) (by omega) (by have := hB8.size; omega) ?_; intro A9 c9 w9 hr9 hc9 hx9; have hB9 : Below w.heap.size w w9 := (Below.mark (B := w.heap.size) (w := w) hB8 hc9 hB8.size (fun b hb => (HR8.out.base b hb).1)); have HR9 := Lib.hid hr9; clear hr9 hc9 hx9))
      all_goals go_returns
      all_goals
        have hl9 : (putS l id).length = l.length + 1 := by rw [HZ.out]; simp
        rw [hl9, HZ.out]
        exact ⟨A9, c9, rfl, by have h9 := HR9.out.re (B' := B) (fun b hb => Nat.le_trans hB (HR9.out.base b hb).1); simpa using h9, hB9, fun b hb => .inr (HR9.out.base b hb).1⟩
set_option maxHeartbeats 6400000 in
theorem spec_ChangedAttrs (a : Fil) (A : Option Addr) (n c : Nat) (b : Fil) (B : Option Addr) (m d : Nat) (w : World) (hS : Sl 4 RAtr w A n a.attrs) (hT : Sl 4 RAtr w B m b.attrs) (hn : n ≤ 536870911) (hm : m ≤ 536870911) :
    Calls Try.prog 32 #[a.v A n c, b.v B m d] w (NewRow (fun v => v) 9 1 eStr w (chgL a b)) := by
  obtain rfl : a.attrs.length = n := hS.len
  obtain rfl : b.attrs.length = m := hT.len
  obtain ⟨ii, hi, hi0, hi1, hi2⟩ := info_parts info_string
  have HNA := Lib.hid fun w' (hb : Below w.heap.size w w') => spec_AttrNames a A a.attrs.length c w' (hS.mono mAtr hb) (by omega)
  have HNB := Lib.hid fun w' (hb : Below w.heap.size w w') => spec_AttrNames b B b.attrs.length d w' (hT.mono mAtr hb) (by omega)
  have HGA := Lib.hid fun (nm : ByteArray) w' (hb : Below w.heap.size w w') => spec_GetAttr a A a.attrs.length c nm w' (hS.mono mAtr hb) (by omega)
  have HGB := Lib.hid fun (nm : ByteArray) w' (hb : Below w.heap.size w w') => spec_GetAttr b B b.attrs.length d nm w' (hT.mono mAtr hb) (by omega)
  have hNl := allN_len a b
  have HCL := Lib.hid (chg_len a b)
  clear hS hT
  go_enter Try.func32, Try.ntmps32
  go_upto_region 2 with fail
  generalize hW : World.alloc (World.alloc (World.alloc w _) _) _ = W0
  have hb0 : HasB W0 [(w.heap.size, #[.int .i64 a.id, .int .i64 a.owner, .bool a.shared, .int .i64 a.link, .slice A a.attrs.length c], 28), (w.heap.size + 1, #[.int .i64 b.id, .int .i64 b.owner, .bool b.shared, .int .i64 b.link, .slice B b.attrs.length d], 28)] := by
    rw [← hW]; intro x hx
    simp only [List.mem_cons, List.not_mem_nil, or_false] at hx
    rcases hx with rfl | rfl
    all_goals (simp only; repeat first | exact hp_new (by simp) | rw [hp_old (by simp <;> omega)])
  have hB0 : Below w.heap.size w W0 := by rw [← hW]; go_grown
  have hz0 : w.heap.size + 2 < W0.heap.size := by rw [← hW]; simp
  clear hW
  have HB0 := Lib.hid hb0
  clear hb0
  have kb0 := HB0.out _ (List.Mem.head _)
  have x0_0 := blk_cell? kb0 0
  have x0_1 := blk_cell? kb0 1
  have x0_2 := blk_cell? kb0 2
  have x0_3 := blk_cell? kb0 3
  have x0_4 := blk_cell? kb0 4
  have zb0 := blk_lt kb0
  have kb1 := HB0.out _ (List.Mem.tail _ (List.Mem.head _))
  have x1_0 := blk_cell? kb1 0
  have x1_1 := blk_cell? kb1 1
  have x1_2 := blk_cell? kb1 2
  have x1_3 := blk_cell? kb1 3
  have x1_4 := blk_cell? kb1 4
  have zb1 := blk_lt kb1
  simp only [List.getElem?_toArray, List.getElem?_cons_zero, List.getElem?_cons_succ] at x0_0 x0_1 x0_2 x0_3 x0_4 x1_0 x1_1 x1_2 x1_3 x1_4
  simp only at zb0 zb1
  clear kb0 kb1
  refine wp_region_held_drew (S := (fun w' => w'.cell? ⟨w.heap.size, 0, none⟩ = some (.int .i64 a.id) ∧ w'.cell? ⟨w.heap.size, 1, none⟩ = some (.int .i64 a.owner) ∧ w'.cell? ⟨w.heap.size, 2, none⟩ = some (.bool a.shared) ∧ w'.cell? ⟨w.heap.size, 3, none⟩ = some (.int .i64 a.link) ∧ w'.cell? ⟨w.heap.size, 4, none⟩ = some (.slice A a.attrs.length c) ∧ w'.cell? ⟨w.heap.size + 1, 0, none⟩ = some (.int .i64 b.id) ∧ w'.cell? ⟨w.heap.size + 1, 1, none⟩ = some (.int .i64 b.owner) ∧ w'.cell? ⟨w.heap.size + 1, 2, none⟩ = some (.bool b.shared) ∧ w'.cell? ⟨w.heap.size + 1, 3, none⟩ = some (.int .i64 b.link) ∧ w'.cell? ⟨w.heap.size + 1, 4, none⟩ = some (.slice B b.attrs.length d) ∧ Below W0.heap.size W0 w')) (by kernel_rfl) (by (try dsimp only); exact ⟨x0_0, x0_1, x0_2, x0_3, x0_4, x1_0, x1_1, x1_2, x1_3, x1_4, (Below.refl _ _).drew⟩) (fun hHeld => ?_)
  first | (refine held_take 0 rfl (by kernel_rfl) (by kernel_rfl) (by kernel_rfl) (by rfl) (fun _ _ _ h => h) (by assumption) (by intro w hSw; (try dsimp only at hSw); go_simp; first | done | with_reducible rfl) ?_) | (refine held_skip 0 rfl (by kernel_rfl) (by kernel_rfl) (by kernel_rfl) (by rfl) (fun _ _ _ h => h) (by assumption) ?_)
  simp only [Act.put, List.setIfInBounds_toArray, List.set_cons_zero, List.set_cons_succ]
  first | (refine held_take 2 rfl (by kernel_rfl) (by kernel_rfl) (by kernel_rfl) (by rfl) (fun _ _ _ h => h) (by assumption) (by intro w hSw; (try dsimp only at hSw); go_simp; first | done | with_reducible rfl) ?_) | (refine held_skip 2 rfl (by kernel_rfl) (by kernel_rfl) (by kernel_rfl) (by rfl) (fun _ _ _ h => h) (by assumption) ?_)
  simp only [Act.put, List.setIfInBounds_toArray, List.set_cons_zero, List.set_cons_succ]
  refine held_one 1 (by kernel_rfl) rfl (fun K hK => ?_)
  go_simp
  go_at_call 87
  refine (HNA.out _ (ex_trans hB0 hHeld.2.2.2.2.2.2.2.2.2.2)).mono ?_; rintro e w1 ⟨A1, c1, rfl, hr1, hb1⟩
  go_wp2_with fail
  refine hK.out _ _ (by (try dsimp only); exact ⟨keep_cell hb1 hHeld.1, keep_cell hb1 hHeld.2.1, keep_cell hb1 hHeld.2.2.1, keep_cell hb1 hHeld.2.2.2.1, keep_cell hb1 hHeld.2.2.2.2.1, keep_cell hb1 hHeld.2.2.2.2.2.1, keep_cell hb1 hHeld.2.2.2.2.2.2.1, keep_cell hb1 hHeld.2.2.2.2.2.2.2.1, keep_cell hb1 hHeld.2.2.2.2.2.2.2.2.1, keep_cell hb1 hHeld.2.2.2.2.2.2.2.2.2.1, ex_trans hHeld.2.2.2.2.2.2.2.2.2.2 hb1⟩) (fun hNew => ?_)
  clear hK K hHeld
  have hHeld := hNew
  clear hNew
  try simp only [Act.put, List.setIfInBounds_toArray, List.set_cons_zero, List.set_cons_succ]
  refine held_one 3 (by kernel_rfl) rfl (fun K hK => ?_)
  go_simp
  go_at_call 87
  refine (HNB.out _ (ex_trans hB0 hHeld.2.2.2.2.2.2.2.2.2.2)).mono ?_; rintro e w2 ⟨A2, c2, rfl, hr2, hb2⟩
  go_wp2_with fail
  refine hK.out _ _ (by (try dsimp only); exact ⟨keep_cell hb2 hHeld.1, keep_cell hb2 hHeld.2.1, keep_cell hb2 hHeld.2.2.1, keep_cell hb2 hHeld.2.2.2.1, keep_cell hb2 hHeld.2.2.2.2.1, keep_cell hb2 hHeld.2.2.2.2.2.1, keep_cell hb2 hHeld.2.2.2.2.2.2.1, keep_cell hb2 hHeld.2.2.2.2.2.2.2.1, keep_cell hb2 hHeld.2.2.2.2.2.2.2.2.1, keep_cell hb2 hHeld.2.2.2.2.2.2.2.2.2.1, ex_trans hHeld.2.2.2.2.2.2.2.2.2.2 hb2⟩) (fun hNew => ?_)
  clear hK K hHeld
  have hHeld := hNew
  clear hNew
  try simp only [Act.put, List.setIfInBounds_toArray, List.set_cons_zero, List.set_cons_succ]
  simp only [List.length_map] at hr1 hr2
  have hr1' := hr1.below hb2
  refine held_one 4 (by kernel_rfl) rfl (fun K hK => ?_)
  refine step_append_row rfl (.tmp 10) (.tmp 12) _ rfl encStr Try.underlying34 hi hi0 hi1 hi2 rfl rfl rfl hr1' (Src.of_row encStr hr2) (by unfold maxLen; omega) (by omega) (by have := hb1.size; have := hb2.size; omega) ?_; intro A3 c3 w3 hr3 hc3 hx3
  have hba : ∀ x ∈ rowBs A1 c1, W0.heap.size ≤ x := fun x hx => (hr1'.base x hx).1
  refine hK.out _ _ (by (try dsimp only); exact ⟨hc3.cell hHeld.1 (fun h => by have h1 := hba _ h; simp only at h1; omega), hc3.cell hHeld.2.1 (fun h => by have h1 := hba _ h; simp only at h1; omega), hc3.cell hHeld.2.2.1 (fun h => by have h1 := hba _ h; simp only at h1; omega), hc3.cell hHeld.2.2.2.1 (fun h => by have h1 := hba _ h; simp only at h1; omega), hc3.cell hHeld.2.2.2.2.1 (fun h => by have h1 := hba _ h; simp only at h1; omega), hc3.cell hHeld.2.2.2.2.2.1 (fun h => by have h1 := hba _ h; simp only at h1; omega), hc3.cell hHeld.2.2.2.2.2.2.1 (fun h => by have h1 := hba _ h; simp only at h1; omega), hc3.cell hHeld.2.2.2.2.2.2.2.1 (fun h => by have h1 := hba _ h; simp only at h1; omega), hc3.cell hHeld.2.2.2.2.2.2.2.2.1 (fun h => by have h1 := hba _ h; simp only at h1; omega), hc3.cell hHeld.2.2.2.2.2.2.2.2.2.1 (fun h => by have h1 := hba _ h; simp only at h1; omega), Below.mark hHeld.2.2.2.2.2.2.2.2.2.2 hc3 hHeld.2.2.2.2.2.2.2.2.2.2.size hba⟩) (fun hNew => ?_)
  clear hK K hHeld
  have hHeld := hNew
  clear hNew
  try simp only [Act.put, List.setIfInBounds_toArray, List.set_cons_zero, List.set_cons_succ]
  have hn3 : a.attrs.length + b.attrs.length = (allN a b).length := (allN_len a b).symm
  rw [hn3] at hr3 ⊢
  have HR3 := Lib.hid (show FRow 9 1 eStr w3 W0.heap.size A3 (allN a b).length c3 (allN a b) from hr3)
  have hB03 := hHeld.2.2.2.2.2.2.2.2.2.2
  have HB3 := Lib.hid (HB0.out.below hB03)
  have hB3 := ex_trans hB0 hB03
  clear hr1 hr1' hr2 hb1 hb2 hr3 hc3 hx3 hba hn3 x0_0 x0_1 x0_2 x0_3 x0_4 x1_0 x1_1 x1_2 x1_3 x1_4 zb0 zb1
  first | (refine held_take 5 rfl (by kernel_rfl) (by kernel_rfl) (by kernel_rfl) (by rfl) (fun _ _ _ h => h) (by assumption) (by intro w hSw; (try dsimp only at hSw); go_simp; first | done | with_reducible rfl) ?_) | (refine held_skip 5 rfl (by kernel_rfl) (by kernel_rfl) (by kernel_rfl) (by rfl) (fun _ _ _ h => h) (by assumption) ?_)
  simp only [Act.put, List.setIfInBounds_toArray, List.set_cons_zero, List.set_cons_succ]
  refine wpAnyH_done (by kernel_rfl) ?_ _
  clear hHeld
  obtain ⟨nms, hnm⟩ : ∃ nms, nms = allN a b := ⟨_, rfl⟩
  have HNM := Lib.hid hnm
  rw [← hnm] at HR3 hNl ⊢
  have hNl1 := Nat.le_of_eq hNl
  have hNl2 := Nat.le_of_eq hNl.symm
  clear hnm hNl
  have HBL := Lib.hid (show ∀ k : Nat, ((((nms.take k).filter (difA a.attrs b.attrs)).foldl putS [])).length ≤ a.attrs.length + b.attrs.length from fun k => by have h := HCL.out k; rw [← HNM.out] at h; exact h)
  go_wp2_with fail
  go_loopw [5, 7] (fun v i wr => ∃ (k q : Nat) (A4 : Option Addr) (c4 : Nat), k ≤ nms.length ∧ i = .int .i64 k ∧ v = .slice A4 q c4 ∧ FRow 9 1 eStr wr w3.heap.size A4 q c4 (((nms.take k).filter (difA a.attrs b.attrs)).foldl putS []) ∧ Below w3.heap.size w3 wr) (fun _ i _ => nms.length - (intOf i).toNat)
  case atStart => exact ⟨0, 0, _, 0, Nat.zero_le _, rfl, rfl, FRow.any0 _ _ _ _ _ _, Below.refl _ _⟩
  case round =>
    obtain ⟨k, q, A4, c4, hk2, rfl, rfl, hr4, hb⟩ := hrel
    have HR4 := Lib.hid hr4
    have hql : q ≤ a.attrs.length + b.attrs.length := by rw [← hr4.len]; exact HBL.out k
    clear hr4
    have i0 : (0 : Int) ≤ (k : Int) := by omega
    by_cases hlt : k < nms.length
    · have i1 : (k : Int) < (nms.length : Int) := by omega
      have i2 : (k : Int) < (a.attrs.length : Int) + (b.attrs.length : Int) := by omega
      obtain ⟨g, rfl, hBg, hgw, hrb, hfr, hcell⟩ := (HR3.out.below hb).cell encStr (by omega)
      have y0 := hcell k hlt 0 _ rfl
      simp only [Nat.add_zero, Nat.mul_one] at y0
      have HBW := Lib.hid (HB3.out.below hb)
      have kb0 := HBW.out _ (List.Mem.head _)
      have x0_0 := blk_cell? kb0 0
      have x0_1 := blk_cell? kb0 1
      have x0_2 := blk_cell? kb0 2
      have x0_3 := blk_cell? kb0 3
      have x0_4 := blk_cell? kb0 4
      have zb0 := blk_lt kb0
      have kb1 := HBW.out _ (List.Mem.tail _ (List.Mem.head _))
      have x1_0 := blk_cell? kb1 0
      have x1_1 := blk_cell? kb1 1
      have x1_2 := blk_cell? kb1 2
      have x1_3 := blk_cell? kb1 3
      have x1_4 := blk_cell? kb1 4
      have zb1 := blk_lt kb1
      simp only [List.getElem?_toArray, List.getElem?_cons_zero, List.getElem?_cons_succ] at x0_0 x0_1 x0_2 x0_3 x0_4 x1_0 x1_1 x1_2 x1_3 x1_4
      simp only at zb0 zb1
      clear kb0 kb1
      obtain ⟨va, hva⟩ : ∃ v, v = getA a.attrs nms[k] := ⟨_, rfl⟩
      obtain ⟨vb, hvb⟩ : ∃ v, v = getA b.attrs nms[k] := ⟨_, rfl⟩
      have HVA := Lib.hid (HGA.out nms[k])
      have HVB := Lib.hid (HGB.out nms[k])
      rw [← hva] at HVA
      rw [← hvb] at HVB
      have HV := Lib.hid (And.intro hva hvb)
      clear hcell hfr hrb hva hvb
      cases h1 : (va.kind == vb.kind) with
      | false =>
        go_wp2_with fail
        refine wp_region_held_drew (S := (fun w' => w'.cell? ⟨w.heap.size, 0, none⟩ = some (.int .i64 a.id) ∧ w'.cell? ⟨w.heap.size, 1, none⟩ = some (.int .i64 a.owner) ∧ w'.cell? ⟨w.heap.size, 2, none⟩ = some (.bool a.shared) ∧ w'.cell? ⟨w.heap.size, 3, none⟩ = some (.int .i64 a.link) ∧ w'.cell? ⟨w.heap.size, 4, none⟩ = some (.slice A a.attrs.length c) ∧ w'.cell? ⟨w.heap.size + 1, 0, none⟩ = some (.int .i64 b.id) ∧ w'.cell? ⟨w.heap.size + 1, 1, none⟩ = some (.int .i64 b.owner) ∧ w'.cell? ⟨w.heap.size + 1, 2, none⟩ = some (.bool b.shared) ∧ w'.cell? ⟨w.heap.size + 1, 3, none⟩ = some (.int .i64 b.link) ∧ w'.cell? ⟨w.heap.size + 1, 4, none⟩ = some (.slice B b.attrs.length d) ∧ w'.cell? ⟨g, k, none⟩ = some (.string nms[k]) ∧ Below wr.heap.size wr w')) (by kernel_rfl) (by (try dsimp only); exact ⟨x0_0, x0_1, x0_2, x0_3, x0_4, x1_0, x1_1, x1_2, x1_3, x1_4, y0, (Below.refl _ _).drew⟩) (fun hHeld => ?_)
        first | (refine held_take 0 rfl (by kernel_rfl) (by kernel_rfl) (by kernel_rfl) (by rfl) (fun _ _ _ h => h) (by assumption) (by intro w hSw; (try dsimp only at hSw); go_simp; first | done | with_reducible rfl) ?_) | (refine held_skip 0 rfl (by kernel_rfl) (by kernel_rfl) (by kernel_rfl) (by rfl) (fun _ _ _ h => h) (by assumption) ?_)
        simp only [Act.put, List.setIfInBounds_toArray, List.set_cons_zero, List.set_cons_succ]
        first | (refine held_take 1 rfl (by kernel_rfl) (by kernel_rfl) (by kernel_rfl) (by rfl) (fun _ _ _ h => h) (by assumption) (by intro w hSw; (try dsimp only at hSw); go_simp; first | done | with_reducible rfl) ?_) | (refine held_skip 1 rfl (by kernel_rfl) (by kernel_rfl) (by kernel_rfl) (by rfl) (fun _ _ _ h => h) (by assumption) ?_)
        simp only [Act.put, List.setIfInBounds_toArray, List.set_cons_zero, List.set_cons_succ]
        first | (refine held_take 2 rfl (by kernel_rfl) (by kernel_rfl) (by kernel_rfl) (by rfl) (fun _ _ _ h => h) (by assumption) (by intro w hSw; (try dsimp only at hSw); go_simp; first | done | with_reducible rfl) ?_) | (refine held_skip 2 rfl (by kernel_rfl) (by kernel_rfl) (by kernel_rfl) (by rfl) (fun _ _ _ h => h) (by assumption) ?_)
        simp only [Act.put, List.setIfInBounds_toArray, List.set_cons_zero, List.set_cons_succ]
        first | (refine held_take 3 rfl (by kernel_rfl) (by kernel_rfl) (by kernel_rfl) (by rfl) (fun _ _ _ h => h) (by assumption) (by intro w hSw; (try dsimp only at hSw); go_simp; first | done | with_reducible rfl) ?_) | (refine held_skip 3 rfl (by kernel_rfl) (by kernel_rfl) (by kernel_rfl) (by rfl) (fun _ _ _ h => h) (by assumption) ?_)
        simp only [Act.put, List.setIfInBounds_toArray, List.set_cons_zero, List.set_cons_succ]
        first | (refine held_take 4 rfl (by kernel_rfl) (by kernel_rfl) (by kernel_rfl) (by rfl) (fun _ _ _ h => h) (by assumption) (by intro w hSw; (try dsimp only at hSw); go_simp; first | done | with_reducible rfl) ?_) | (refine held_skip 4 rfl (by kernel_rfl) (by kernel_rfl) (by kernel_rfl) (by rfl) (fun _ _ _ h => h) (by assumption) ?_)
        simp only [Act.put, List.setIfInBounds_toArray, List.set_cons_zero, List.set_cons_succ]
        first | (refine held_take 6 rfl (by kernel_rfl) (by kernel_rfl) (by kernel_rfl) (by rfl) (fun _ _ _ h => h) (by assumption) (by intro w hSw; (try dsimp only at hSw); go_simp; first | done | with_reducible rfl) ?_) | (refine held_skip 6 rfl (by kernel_rfl) (by kernel_rfl) (by kernel_rfl) (by rfl) (fun _ _ _ h => h) (by assumption) ?_)
        simp only [Act.put, List.setIfInBounds_toArray, List.set_cons_zero, List.set_cons_succ]
        first | (refine held_take 7 rfl (by kernel_rfl) (by kernel_rfl) (by kernel_rfl) (by rfl) (fun _ _ _ h => h) (by assumption) (by intro w hSw; (try dsimp only at hSw); go_simp; first | done | with_reducible rfl) ?_) | (refine held_skip 7 rfl (by kernel_rfl) (by kernel_rfl) (by kernel_rfl) (by rfl) (fun _ _ _ h => h) (by assumption) ?_)
        simp only [Act.put, List.setIfInBounds_toArray, List.set_cons_zero, List.set_cons_succ]
        first | (refine held_take 8 rfl (by kernel_rfl) (by kernel_rfl) (by kernel_rfl) (by rfl) (fun _ _ _ h => h) (by assumption) (by intro w hSw; (try dsimp only at hSw); go_simp; first | done | with_reducible rfl) ?_) | (refine held_skip 8 rfl (by kernel_rfl) (by kernel_rfl) (by kernel_rfl) (by rfl) (fun _ _ _ h => h) (by assumption) ?_)
        simp only [Act.put, List.setIfInBounds_toArray, List.set_cons_zero, List.set_cons_succ]
        first | (refine held_take 9 rfl (by kernel_rfl) (by kernel_rfl) (by kernel_rfl) (by rfl) (fun _ _ _ h => h) (by assumption) (by intro w hSw; (try dsimp only at hSw); go_simp; first | done | with_reducible rfl) ?_) | (refine held_skip 9 rfl (by kernel_rfl) (by kernel_rfl) (by kernel_rfl) (by rfl) (fun _ _ _ h => h) (by assumption) ?_)
        simp only [Act.put, List.setIfInBounds_toArray, List.set_cons_zero, List.set_cons_succ]
        first | (refine held_take 10 rfl (by kernel_rfl) (by kernel_rfl) (by kernel_rfl) (by rfl) (fun _ _ _ h => h) (by assumption) (by intro w hSw; (try dsimp only at hSw); go_simp; first | done | with_reducible rfl) ?_) | (refine held_skip 10 rfl (by kernel_rfl) (by kernel_rfl) (by kernel_rfl) (by rfl) (fun _ _ _ h => h) (by assumption) ?_)
        simp only [Act.put, List.setIfInBounds_toArray, List.set_cons_zero, List.set_cons_succ]
        refine held_one 5 (by kernel_rfl) rfl (fun K hK => ?_)
        go_simp
        go_at_call 24
        refine (HVA.out _ (ex_trans hB3 (ex_trans hb hHeld.2.2.2.2.2.2.2.2.2.2.2))).mono ?_; rintro e w4 ⟨rfl, hb4⟩
        go_wp2_with fail
        refine hK.out _ _ (by (try dsimp only); exact ⟨keep_cell hb4 hHeld.1, keep_cell hb4 hHeld.2.1, keep_cell hb4 hHeld.2.2.1, keep_cell hb4 hHeld.2.2.2.1, keep_cell hb4 hHeld.2.2.2.2.1, keep_cell hb4 hHeld.2.2.2.2.2.1, keep_cell hb4 hHeld.2.2.2.2.2.2.1, keep_cell hb4 hHeld.2.2.2.2.2.2.2.1, keep_cell hb4 hHeld.2.2.2.2.2.2.2.2.1, keep_cell hb4 hHeld.2.2.2.2.2.2.2.2.2.1, keep_cell hb4 hHeld.2.2.2.2.2.2.2.2.2.2.1, ex_trans hHeld.2.2.2.2.2.2.2.2.2.2.2 hb4⟩) (fun hNew => ?_)
        clear hK K hHeld
        have hHeld := hNew
        clear hNew
        try simp only [Act.put, List.setIfInBounds_toArray, List.set_cons_zero, List.set_cons_succ]
        refine held_one 11 (by kernel_rfl) rfl (fun K hK => ?_)
        go_simp
        go_at_call 24
        refine (HVB.out _ (ex_trans hB3 (ex_trans hb hHeld.2.2.2.2.2.2.2.2.2.2.2))).mono ?_; rintro e w5 ⟨rfl, hb5⟩
        go_wp2_with fail
        refine hK.out _ _ (by (try dsimp only); exact ⟨keep_cell hb5 hHeld.1, keep_cell hb5 hHeld.2.1, keep_cell hb5 hHeld.2.2.1, keep_cell hb5 hHeld.2.2.2.1, keep_cell hb5 hHeld.2.2.2.2.1, keep_cell hb5 hHeld.2.2.2.2.2.1, keep_cell hb5 hHeld.2.2.2.2.2.2.1, keep_cell hb5 hHeld.2.2.2.2.2.2.2.1, keep_cell hb5 hHeld.2.2.2.2.2.2.2.2.1, keep_cell hb5 hHeld.2.2.2.2.2.2.2.2.2.1, keep_cell hb5 hHeld.2.2.2.2.2.2.2.2.2.2.1, ex_trans hHeld.2.2.2.2.2.2.2.2.2.2.2 hb5⟩) (fun hNew => ?_)
        clear hK K hHeld
        have hHeld := hNew
        clear hNew
        try simp only [Act.put, List.setIfInBounds_toArray, List.set_cons_zero, List.set_cons_succ]
        first | (refine held_take 12 rfl (by kernel_rfl) (by kernel_rfl) (by kernel_rfl) (by rfl) (fun _ _ _ h => h) (by assumption) (by intro w hSw; (try dsimp only at hSw); go_simp; first | done | with_reducible rfl) ?_) | (refine held_skip 12 rfl (by kernel_rfl) (by kernel_rfl) (by kernel_rfl) (by rfl) (fun _ _ _ h => h) (by assumption) ?_)
        simp only [Act.put, List.setIfInBounds_toArray, List.set_cons_zero, List.set_cons_succ]
        refine wpAnyH_done (by kernel_rfl) ?_ _
        have hbk := hHeld.2.2.2.2.2.2.2.2.2.2.2
        have y5 := hHeld.2.2.2.2.2.2.2.2.2.2.1
        have hb2 := ex_trans hb hbk
        clear hHeld hb4 hb5 y0 x0_0 x0_1 x0_2 x0_3 x0_4 x1_0 x1_1 x1_2 x1_3 x1_4
        have lg5 := keep_lt hbk hgw
        have HD := Lib.hid (show difA a.attrs b.attrs nms[k] = true by unfold difA; rw [← HV.out.1, ← HV.out.2]; simp [Vl.eqb, eqS, h1])
        have HX := Lib.hid (show (((nms.take (k + 1)).filter (difA a.attrs b.attrs)).foldl putS []) = putS (((nms.take k).filter (difA a.attrs b.attrs)).foldl putS []) nms[k] from by rw [take_filter_succ _ nms hlt, HD.out]; simp)
        go_wp2_with fail
        refine (spec_l04Put _ q c4 (((nms.take k).filter (difA a.attrs b.attrs)).foldl putS []) nms[k] w3.heap.size _ (HR4.out.below hbk) (by omega) hb2.size).mono ?_; rintro e w6 ⟨A6, c6, rfl, hr6, hb6, hx6⟩
        have HZ := Lib.hid (And.intro hr6 (ex_trans hb2 hb6))
        rw [← HX.out] at HZ
        clear hr6 hb6 hx6
        go_wp2_with fail
        go_roundw
        case rel => exact ⟨k + 1, _, A6, c6, by omega, by go_num, by rw [HX.out], HZ.out⟩
        case measure => simp [intOf]; omega
      | true =>
        cases h2 : (va.int == vb.int) with
        | false =>
          go_wp2_with fail
          refine wp_region_held_drew (S := (fun w' => w'.cell? ⟨w.heap.size, 0, none⟩ = some (.int .i64 a.id) ∧ w'.cell? ⟨w.heap.size, 1, none⟩ = some (.int .i64 a.owner) ∧ w'.cell? ⟨w.heap.size, 2, none⟩ = some (.bool a.shared) ∧ w'.cell? ⟨w.heap.size, 3, none⟩ = some (.int .i64 a.link) ∧ w'.cell? ⟨w.heap.size, 4, none⟩ = some (.slice A a.attrs.length c) ∧ w'.cell? ⟨w.heap.size + 1, 0, none⟩ = some (.int .i64 b.id) ∧ w'.cell? ⟨w.heap.size + 1, 1, none⟩ = some (.int .i64 b.owner) ∧ w'.cell? ⟨w.heap.size + 1, 2, none⟩ = some (.bool b.shared) ∧ w'.cell? ⟨w.heap.size + 1, 3, none⟩ = some (.int .i64 b.link) ∧ w'.cell? ⟨w.heap.size + 1, 4, none⟩ = some (.slice B b.attrs.length d) ∧ w'.cell? ⟨g, k, none⟩ = some (.string nms[k]) ∧ Below wr.heap.size wr w')) (by kernel_rfl) (by (try dsimp only); exact ⟨x0_0, x0_1, x0_2, x0_3, x0_4, x1_0, x1_1, x1_2, x1_3, x1_4, y0, (Below.refl _ _).drew⟩) (fun hHeld => ?_)
          first | (refine held_take 0 rfl (by kernel_rfl) (by kernel_rfl) (by kernel_rfl) (by rfl) (fun _ _ _ h => h) (by assumption) (by intro w hSw; (try dsimp only at hSw); go_simp; first | done | with_reducible rfl) ?_) | (refine held_skip 0 rfl (by kernel_rfl) (by kernel_rfl) (by kernel_rfl) (by rfl) (fun _ _ _ h => h) (by assumption) ?_)
          simp only [Act.put, List.setIfInBounds_toArray, List.set_cons_zero, List.set_cons_succ]
          first | (refine held_take 1 rfl (by kernel_rfl) (by kernel_rfl) (by kernel_rfl) (by rfl) (fun _ _ _ h => h) (by assumption) (by intro w hSw; (try dsimp only at hSw); go_simp; first | done | with_reducible rfl) ?_) | (refine held_skip 1 rfl (by kernel_rfl) (by kernel_rfl) (by kernel_rfl) (by rfl) (fun _ _ _ h => h) (by assumption) ?_)
          simp only [Act.put, List.setIfInBounds_toArray, List.set_cons_zero, List.set_cons_succ]
          first | (refine held_take 2 rfl (by kernel_rfl) (by kernel_rfl) (by kernel_rfl) (by rfl) (fun _ _ _ h => h) (by assumption) (by intro w hSw; (try dsimp only at hSw); go_simp; first | done | with_reducible rfl) ?_) | (refine held_skip 2 rfl (by kernel_rfl) (by kernel_rfl) (by kernel_rfl) (by rfl) (fun _ _ _ h => h) (by assumption) ?_)
          simp only [Act.put, List.setIfInBounds_toArray, List.set_cons_zero, List.set_cons_succ]
          first | (refine held_take 3 rfl (by kernel_rfl) (by kernel_rfl) (by kernel_rfl) (by rfl) (fun _ _ _ h => h) (by assumption) (by intro w hSw; (try dsimp only at hSw); go_simp; first | done | with_reducible rfl) ?_) | (refine held_skip 3 rfl (by kernel_rfl) (by kernel_rfl) (by kernel_rfl) (by rfl) (fun _ _ _ h => h) (by assumption) ?_)
          simp only [Act.put, List.setIfInBounds_toArray, List.set_cons_zero, List.set_cons_succ]
          first | (refine held_take 4 rfl (by kernel_rfl) (by kernel_rfl) (by kernel_rfl) (by rfl) (fun _ _ _ h => h) (by assumption) (by intro w hSw; (try dsimp only at hSw); go_simp; first | done | with_reducible rfl) ?_) | (refine held_skip 4 rfl (by kernel_rfl) (by kernel_rfl) (by kernel_rfl) (by rfl) (fun _ _ _ h => h) (by assumption) ?_)
          simp only [Act.put, List.setIfInBounds_toArray, List.set_cons_zero, List.set_cons_succ]
          first | (refine held_take 6 rfl (by kernel_rfl) (by kernel_rfl) (by kernel_rfl) (by rfl) (fun _ _ _ h => h) (by assumption) (by intro w hSw; (try dsimp only at hSw); go_simp; first | done | with_reducible rfl) ?_) | (refine held_skip 6 rfl (by kernel_rfl) (by kernel_rfl) (by kernel_rfl) (by rfl) (fun _ _ _ h => h) (by assumption) ?_)
          simp only [Act.put, List.setIfInBounds_toArray, List.set_cons_zero, List.set_cons_succ]
          first | (refine held_take 7 rfl (by kernel_rfl) (by kernel_rfl) (by kernel_rfl) (by rfl) (fun _ _ _ h => h) (by assumption) (by intro w hSw; (try dsimp only at hSw); go_simp; first | done | with_reducible rfl) ?_) | (refine held_skip 7 rfl (by kernel_rfl) (by kernel_rfl) (by kernel_rfl) (by rfl) (fun _ _ _ h => h) (by assumption) ?_)
          simp only [Act.put, List.setIfInBounds_toArray, List.set_cons_zero, List.set_cons_succ]
          first | (refine held_take 8 rfl (by kernel_rfl) (by kernel_rfl) (by kernel_rfl) (by rfl) (fun _ _ _ h => h) (by assumption) (by intro w hSw; (try dsimp only at hSw); go_simp; first | done | with_reducible rfl) ?_) | (refine held_skip 8 rfl (by kernel_rfl) (by kernel_rfl) (by kernel_rfl) (by rfl) (fun _ _ _ h => h) (by assumption) ?_)
          simp only [Act.put, List.setIfInBounds_toArray, List.set_cons_zero, List.set_cons_succ]
          first | (refine held_take 9 rfl (by kernel_rfl) (by kernel_rfl) (by kernel_rfl) (by rfl) (fun _ _ _ h => h) (by assumption) (by intro w hSw; (try dsimp only at hSw); go_simp; first | done | with_reducible rfl) ?_) | (refine held_skip 9 rfl (by kernel_rfl) (by kernel_rfl) (by kernel_rfl) (by rfl) (fun _ _ _ h => h) (by assumption) ?_)
          simp only [Act.put, List.setIfInBounds_toArray, List.set_cons_zero, List.set_cons_succ]
          first | (refine held_take 10 rfl (by kernel_rfl) (by kernel_rfl) (by kernel_rfl) (by rfl) (fun _ _ _ h => h) (by assumption) (by intro w hSw; (try dsimp only at hSw); go_simp; first | done | with_reducible rfl) ?_) | (refine held_skip 10 rfl (by kernel_rfl) (by kernel_rfl) (by kernel_rfl) (by rfl) (fun _ _ _ h => h) (by assumption) ?_)
          simp only [Act.put, List.setIfInBounds_toArray, List.set_cons_zero, List.set_cons_succ]
          refine held_one 5 (by kernel_rfl) rfl (fun K hK => ?_)
          go_simp
          go_at_call 24
          refine (HVA.out _ (ex_trans hB3 (ex_trans hb hHeld.2.2.2.2.2.2.2.2.2.2.2))).mono ?_; rintro e w4 ⟨rfl, hb4⟩
          go_wp2_with fail
          refine hK.out _ _ (by (try dsimp only); exact ⟨keep_cell hb4 hHeld.1, keep_cell hb4 hHeld.2.1, keep_cell hb4 hHeld.2.2.1, keep_cell hb4 hHeld.2.2.2.1, keep_cell hb4 hHeld.2.2.2.2.1, keep_cell hb4 hHeld.2.2.2.2.2.1, keep_cell hb4 hHeld.2.2.2.2.2.2.1, keep_cell hb4 hHeld.2.2.2.2.2.2.2.1, keep_cell hb4 hHeld.2.2.2.2.2.2.2.2.1, keep_cell hb4 hHeld.2.2.2.2.2.2.2.2.2.1, keep_cell hb4 hHeld.2.2.2.2.2.2.2.2.2.2.1, ex_trans hHeld.2.2.2.2.2.2.2.2.2.2.2 hb4⟩) (fun hNew => ?_)
          clear hK K hHeld
          have hHeld := hNew
          clear hNew
          try simp only [Act.put, List.setIfInBounds_toArray, List.set_cons_zero, List.set_cons_succ]
          refine held_one 11 (by kernel_rfl) rfl (fun K hK => ?_)
          go_simp
          go_at_call 24
          refine (HVB.out _ (ex_trans hB3 (ex_trans hb hHeld.2.2.2.2.2.2.2.2.2.2.2))).mono ?_; rintro e w5 ⟨rfl, hb5⟩
          go_wp2_with fail
          refine hK.out _ _ (by (try dsimp only); exact ⟨keep_cell hb5 hHeld.1, keep_cell hb5 hHeld.2.1, keep_cell hb5 hHeld.2.2.1, keep_cell hb5 hHeld.2.2.2.1, keep_cell hb5 hHeld.2.2.2.2.1, keep_cell hb5 hHeld.2.2.2.2.2.1, keep_cell hb5 hHeld.2.2.2.2.2.2.1, keep_cell hb5 hHeld.2.2.2.2.2.2.2.1, keep_cell hb5 hHeld.2.2.2.2.2.2.2.2.1, keep_cell hb5 hHeld.2.2.2.2.2.2.2.2.2.1, keep_cell hb5 hHeld.2.2.2.2.2.2.2.2.2.2.1, ex_trans hHeld.2.2.2.2.2.2.2.2.2.2.2 hb5⟩) (fun hNew => ?_)
          clear hK K hHeld
          have hHeld := hNew
          clear hNew
          try simp only [Act.put, List.setIfInBounds_toArray, List.set_cons_zero, List.set_cons_succ]
          first | (refine held_take 12 rfl (by kernel_rfl) (by kernel_rfl) (by kernel_rfl) (by rfl) (fun _ _ _ h => h) (by assumption) (by intro w hSw; (try dsimp only at hSw); go_simp; first | done | with_reducible rfl) ?_) | (refine held_skip 12 rfl (by kernel_rfl) (by kernel_rfl) (by kernel_rfl) (by rfl) (fun _ _ _ h => h) (by assumption) ?_)
          simp only [Act.put, List.setIfInBounds_toArray, List.set_cons_zero, List.set_cons_succ]
          refine wpAnyH_done (by kernel_rfl) ?_ _
          have hbk := hHeld.2.2.2.2.2.2.2.2.2.2.2
          have y5 := hHeld.2.2.2.2.2.2.2.2.2.2.1
          have hb2 := ex_trans hb hbk
          clear hHeld hb4 hb5 y0 x0_0 x0_1 x0_2 x0_3 x0_4 x1_0 x1_1 x1_2 x1_3 x1_4
          have lg5 := keep_lt hbk hgw
          have HD := Lib.hid (show difA a.attrs b.attrs nms[k] = true by unfold difA; rw [← HV.out.1, ← HV.out.2]; simp [Vl.eqb, eqS, h2])
          have HX := Lib.hid (show (((nms.take (k + 1)).filter (difA a.attrs b.attrs)).foldl putS []) = putS (((nms.take k).filter (difA a.attrs b.attrs)).foldl putS []) nms[k] from by rw [take_filter_succ _ nms hlt, HD.out]; simp)
          go_wp2_with fail
          refine (spec_l04Put _ q c4 (((nms.take k).filter (difA a.attrs b.attrs)).foldl putS []) nms[k] w3.heap.size _ (HR4.out.below hbk) (by omega) hb2.size).mono ?_; rintro e w6 ⟨A6, c6, rfl, hr6, hb6, hx6⟩
          have HZ := Lib.hid (And.intro hr6 (ex_trans hb2 hb6))
          rw [← HX.out] at HZ
          clear hr6 hb6 hx6
          go_wp2_with fail
          go_roundw
          case rel => exact ⟨k + 1, _, A6, c6, by omega, by go_num, by rw [HX.out], HZ.out⟩
          case measure => simp [intOf]; omega
        | true =>
          cases h3 : (va.str.toList == vb.str.toList) with
          | false =>
            go_wp2_with fail
            refine wp_region_held_drew (S := (fun w' => w'.cell? ⟨w.heap.size, 0, none⟩ = some (.int .i64 a.id) ∧ w'.cell? ⟨w.heap.size, 1, none⟩ = some (.int .i64 a.owner) ∧ w'.cell? ⟨w.heap.size, 2, none⟩ = some (.bool a.shared) ∧ w'.cell? ⟨w.heap.size, 3, none⟩ = some (.int .i64 a.link) ∧ w'.cell? ⟨w.heap.size, 4, none⟩ = some (.slice A a.attrs.length c) ∧ w'.cell? ⟨w.heap.size + 1, 0, none⟩ = some (.int .i64 b.id) ∧ w'.cell? ⟨w.heap.size + 1, 1, none⟩ = some (.int .i64 b.owner) ∧ w'.cell? ⟨w.heap.size + 1, 2, none⟩ = some (.bool b.shared) ∧ w'.cell? ⟨w.heap.size + 1, 3, none⟩ = some (.int .i64 b.link) ∧ w'.cell? ⟨w.heap.size + 1, 4, none⟩ = some (.slice B b.attrs.length d) ∧ w'.cell? ⟨g, k, none⟩ = some (.string nms[k]) ∧ Below wr.heap.size wr w')) (by kernel_rfl) (by (try dsimp only); exact ⟨x0_0, x0_1, x0_2, x0_3, x0_4, x1_0, x1_1, x1_2, x1_3, x1_4, y0, (Below.refl _ _).drew⟩) (fun hHeld => ?_)
            first | (refine held_take 0 rfl (by kernel_rfl) (by kernel_rfl) (by kernel_rfl) (by rfl) (fun _ _ _ h => h) (by assumption) (by intro w hSw; (try dsimp only at hSw); go_simp; first | done | with_reducible rfl) ?_) | (refine held_skip 0 rfl (by kernel_rfl) (by kernel_rfl) (by kernel_rfl) (by rfl) (fun _ _ _ h => h) (by assumption) ?_)
            simp only [Act.put, List.setIfInBounds_toArray, List.set_cons_zero, List.set_cons_succ]
            first | (refine held_take 1 rfl (by kernel_rfl) (by kernel_rfl) (by kernel_rfl) (by rfl) (fun _ _ _ h => h) (by assumption) (by intro w hSw; (try dsimp only at hSw); go_simp; first | done | with_reducible rfl) ?_) | (refine held_skip 1 rfl (by kernel_rfl) (by kernel_rfl) (by kernel_rfl) (by rfl) (fun _ _ _ h => h) (by assumption) ?_)
            simp only [Act.put, List.setIfInBounds_toArray, List.set_cons_zero, List.set_cons_succ]
            first | (refine held_take 2 rfl (by kernel_rfl) (by kernel_rfl) (by kernel_rfl) (by rfl) (fun _ _ _ h => h) (by assumption) (by intro w hSw; (try dsimp only at hSw); go_simp; first | done | with_reducible rfl) ?_) | (refine held_skip 2 rfl (by kernel_rfl) (by kernel_rfl) (by kernel_rfl) (by rfl) (fun _ _ _ h => h) (by assumption) ?_)
            simp only [Act.put, List.setIfInBounds_toArray, List.set_cons_zero, List.set_cons_succ]
            first | (refine held_take 3 rfl (by kernel_rfl) (by kernel_rfl) (by kernel_rfl) (by rfl) (fun _ _ _ h => h) (by assumption) (by intro w hSw; (try dsimp only at hSw); go_simp; first | done | with_reducible rfl) ?_) | (refine held_skip 3 rfl (by kernel_rfl) (by kernel_rfl) (by kernel_rfl) (by rfl) (fun _ _ _ h => h) (by assumption) ?_)
            simp only [Act.put, List.setIfInBounds_toArray, List.set_cons_zero, List.set_cons_succ]
            first | (refine held_take 4 rfl (by kernel_rfl) (by kernel_rfl) (by kernel_rfl) (by rfl) (fun _ _ _ h => h) (by assumption) (by intro w hSw; (try dsimp only at hSw); go_simp; first | done | with_reducible rfl) ?_) | (refine held_skip 4 rfl (by kernel_rfl) (by kernel_rfl) (by kernel_rfl) (by rfl) (fun _ _ _ h => h) (by assumption) ?_)
            simp only [Act.put, List.setIfInBounds_toArray, List.set_cons_zero, List.set_cons_succ]
            first | (refine held_take 6 rfl (by kernel_rfl) (by kernel_rfl) (by kernel_rfl) (by rfl) (fun _ _ _ h => h) (by assumption) (by intro w hSw; (try dsimp only at hSw); go_simp; first | done | with_reducible rfl) ?_) | (refine held_skip 6 rfl (by kernel_rfl) (by kernel_rfl) (by kernel_rfl) (by rfl) (fun _ _ _ h => h) (by assumption) ?_)
            simp only [Act.put, List.setIfInBounds_toArray, List.set_cons_zero, List.set_cons_succ]
            first | (refine held_take 7 rfl (by kernel_rfl) (by kernel_rfl) (by kernel_rfl) (by rfl) (fun _ _ _ h => h) (by assumption) (by intro w hSw; (try dsimp only at hSw); go_simp; first | done | with_reducible rfl) ?_) | (refine held_skip 7 rfl (by kernel_rfl) (by kernel_rfl) (by kernel_rfl) (by rfl) (fun _ _ _ h => h) (by assumption) ?_)
            simp only [Act.put, List.setIfInBounds_toArray, List.set_cons_zero, List.set_cons_succ]
            first | (refine held_take 8 rfl (by kernel_rfl) (by kernel_rfl) (by kernel_rfl) (by rfl) (fun _ _ _ h => h) (by assumption) (by intro w hSw; (try dsimp only at hSw); go_simp; first | done | with_reducible rfl) ?_) | (refine held_skip 8 rfl (by kernel_rfl) (by kernel_rfl) (by kernel_rfl) (by rfl) (fun _ _ _ h => h) (by assumption) ?_)
            simp only [Act.put, List.setIfInBounds_toArray, List.set_cons_zero, List.set_cons_succ]
            first | (refine held_take 9 rfl (by kernel_rfl) (by kernel_rfl) (by kernel_rfl) (by rfl) (fun _ _ _ h => h) (by assumption) (by intro w hSw; (try dsimp only at hSw); go_simp; first | done | with_reducible rfl) ?_) | (refine held_skip 9 rfl (by kernel_rfl) (by kernel_rfl) (by kernel_rfl) (by rfl) (fun _ _ _ h => h) (by assumption) ?_)
            simp only [Act.put, List.setIfInBounds_toArray, List.set_cons_zero, List.set_cons_succ]
            first | (refine held_take 10 rfl (by kernel_rfl) (by kernel_rfl) (by kernel_rfl) (by rfl) (fun _ _ _ h => h) (by assumption) (by intro w hSw; (try dsimp only at hSw); go_simp; first | done | with_reducible rfl) ?_) | (refine held_skip 10 rfl (by kernel_rfl) (by kernel_rfl) (by kernel_rfl) (by rfl) (fun _ _ _ h => h) (by assumption) ?_)
            simp only [Act.put, List.setIfInBounds_toArray, List.set_cons_zero, List.set_cons_succ]
            refine held_one 5 (by kernel_rfl) rfl (fun K hK => ?_)
            go_simp
            go_at_call 24
            refine (HVA.out _ (ex_trans hB3 (ex_trans hb hHeld.2.2.2.2.2.2.2.2.2.2.2))).mono ?_; rintro e w4 ⟨rfl, hb4⟩
            go_wp2_with fail
            refine hK.out _ _ (by (try dsimp only); exact ⟨keep_cell hb4 hHeld.1, keep_cell hb4 hHeld.2.1, keep_cell hb4 hHeld.2.2.1, keep_cell hb4 hHeld.2.2.2.1, keep_cell hb4 hHeld.2.2.2.2.1, keep_cell hb4 hHeld.2.2.2.2.2.1, keep_cell hb4 hHeld.2.2.2.2.2.2.1, keep_cell hb4 hHeld.2.2.2.2.2.2.2.1, keep_cell hb4 hHeld.2.2.2.2.2.2.2.2.1, keep_cell hb4 hHeld.2.2.2.2.2.2.2.2.2.1, keep_cell hb4 hHeld.2.2.2.2.2.2.2.2.2.2.1, ex_trans hHeld.2.2.2.2.2.2.2.2.2.2.2 hb4⟩) (fun hNew => ?_)
            clear hK K hHeld
            have hHeld := hNew
            clear hNew
            try simp only [Act.put, List.setIfInBounds_toArray, List.set_cons_zero, List.set_cons_succ]
            refine held_one 11 (by kernel_rfl) rfl (fun K hK => ?_)
            go_simp
            go_at_call 24
            refine (HVB.out _ (ex_trans hB3 (ex_trans hb hHeld.2.2.2.2.2.2.2.2.2.2.2))).mono ?_; rintro e w5 ⟨rfl, hb5⟩
            go_wp2_with fail
            refine hK.out _ _ (by (try dsimp only); exact ⟨keep_cell hb5 hHeld.1, keep_cell hb5 hHeld.2.1, keep_cell hb5 hHeld.2.2.1, keep_cell hb5 hHeld.2.2.2.1, keep_cell hb5 hHeld.2.2.2.2.1, keep_cell hb5 hHeld.2.2.2.2.2.1, keep_cell hb5 hHeld.2.2.2.2.2.2.1, keep_cell hb5 hHeld.2.2.2.2.2.2.2.1, keep_cell hb5 hHeld.2.2.2.2.2.2.2.2.1, keep_cell hb5 hHeld.2.2.2.2.2.2.2.2.2.1, keep_cell hb5 hHeld.2.2.2.2.2.2.2.2.2.2.1, ex_trans hHeld.2.2.2.2.2.2.2.2.2.2.2 hb5⟩) (fun hNew => ?_)
            clear hK K hHeld
            have hHeld := hNew
            clear hNew
            try simp only [Act.put, List.setIfInBounds_toArray, List.set_cons_zero, List.set_cons_succ]
            first | (refine held_take 12 rfl (by kernel_rfl) (by kernel_rfl) (by kernel_rfl) (by rfl) (fun _ _ _ h => h) (by assumption) (by intro w hSw; (try dsimp only at hSw); go_simp; first | done | with_reducible rfl) ?_) | (refine held_skip 12 rfl (by kernel_rfl) (by kernel_rfl) (by kernel_rfl) (by rfl) (fun _ _ _ h => h) (by assumption) ?_)
            simp only [Act.put, List.setIfInBounds_toArray, List.set_cons_zero, List.set_cons_succ]
            refine wpAnyH_done (by kernel_rfl) ?_ _
            have hbk := hHeld.2.2.2.2.2.2.2.2.2.2.2
            have y5 := hHeld.2.2.2.2.2.2.2.2.2.2.1
            have hb2 := ex_trans hb hbk
            clear hHeld hb4 hb5 y0 x0_0 x0_1 x0_2 x0_3 x0_4 x1_0 x1_1 x1_2 x1_3 x1_4
            have lg5 := keep_lt hbk hgw
            have HD := Lib.hid (show difA a.attrs b.attrs nms[k] = true by unfold difA; rw [← HV.out.1, ← HV.out.2]; simp [Vl.eqb, eqS, h3])
            have HX := Lib.hid (show (((nms.take (k + 1)).filter (difA a.attrs b.attrs)).foldl putS []) = putS (((nms.take k).filter (difA a.attrs b.attrs)).foldl putS []) nms[k] from by rw [take_filter_succ _ nms hlt, HD.out]; simp)
            go_wp2_with fail
            refine (spec_l04Put _ q c4 (((nms.take k).filter (difA a.attrs b.attrs)).foldl putS []) nms[k] w3.heap.size _ (HR4.out.below hbk) (by omega) hb2.size).mono ?_; rintro e w6 ⟨A6, c6, rfl, hr6, hb6, hx6⟩
            have HZ := Lib.hid (And.intro hr6 (ex_trans hb2 hb6))
            rw [← HX.out] at HZ
            clear hr6 hb6 hx6
            go_wp2_with fail
            go_roundw
            case rel => exact ⟨k + 1, _, A6, c6, by omega, by go_num, by rw [HX.out], HZ.out⟩
            case measure => simp [intOf]; omega
          | true =>
            go_wp2_with fail
            refine wp_region_held_drew (S := (fun w' => w'.cell? ⟨w.heap.size, 0, none⟩ = some (.int .i64 a.id) ∧ w'.cell? ⟨w.heap.size, 1, none⟩ = some (.int .i64 a.owner) ∧ w'.cell? ⟨w.heap.size, 2, none⟩ = some (.bool a.shared) ∧ w'.cell? ⟨w.heap.size, 3, none⟩ = some (.int .i64 a.link) ∧ w'.cell? ⟨w.heap.size, 4, none⟩ = some (.slice A a.attrs.length c) ∧ w'.cell? ⟨w.heap.size + 1, 0, none⟩ = some (.int .i64 b.id) ∧ w'.cell? ⟨w.heap.size + 1, 1, none⟩ = some (.int .i64 b.owner) ∧ w'.cell? ⟨w.heap.size + 1, 2, none⟩ = some (.bool b.shared) ∧ w'.cell? ⟨w.heap.size + 1, 3, none⟩ = some (.int .i64 b.link) ∧ w'.cell? ⟨w.heap.size + 1, 4, none⟩ = some (.slice B b.attrs.length d) ∧ w'.cell? ⟨g, k, none⟩ = some (.string nms[k]) ∧ Below wr.heap.size wr w')) (by kernel_rfl) (by (try dsimp only); exact ⟨x0_0, x0_1, x0_2, x0_3, x0_4, x1_0, x1_1, x1_2, x1_3, x1_4, y0, (Below.refl _ _).drew⟩) (fun hHeld => ?_)
            first | (refine held_take 0 rfl (by kernel_rfl) (by kernel_rfl) (by kernel_rfl) (by rfl) (fun _ _ _ h => h) (by assumption) (by intro w hSw; (try dsimp only at hSw); go_simp; first | done | with_reducible rfl) ?_) | (refine held_skip 0 rfl (by kernel_rfl) (by kernel_rfl) (by kernel_rfl) (by rfl) (fun _ _ _ h => h) (by assumption) ?_)
            simp only [Act.put, List.setIfInBounds_toArray, List.set_cons_zero, List.set_cons_succ]
            first | (refine held_take 1 rfl (by kernel_rfl) (by kernel_rfl) (by kernel_rfl) (by rfl) (fun _ _ _ h => h) (by assumption) (by intro w hSw; (try dsimp only at hSw); go_simp; first | done | with_reducible rfl) ?_) | (refine held_skip 1 rfl (by kernel_rfl) (by kernel_rfl) (by kernel_rfl) (by rfl) (fun _ _ _ h => h) (by assumption) ?_)
            simp only [Act.put, List.setIfInBounds_toArray, List.set_cons_zero, List.set_cons_succ]
            first | (refine held_take 2 rfl (by kernel_rfl) (by kernel_rfl) (by kernel_rfl) (by rfl) (fun _ _ _ h => h) (by assumption) (by intro w hSw; (try dsimp only at hSw); go_simp; first | done | with_reducible rfl) ?_) | (refine held_skip 2 rfl (by kernel_rfl) (by kernel_rfl) (by kernel_rfl) (by rfl) (fun _ _ _ h => h) (by assumption) ?_)
            simp only [Act.put, List.setIfInBounds_toArray, List.set_cons_zero, List.set_cons_succ]
            first | (refine held_take 3 rfl (by kernel_rfl) (by kernel_rfl) (by kernel_rfl) (by rfl) (fun _ _ _ h => h) (by assumption) (by intro w hSw; (try dsimp only at hSw); go_simp; first | done | with_reducible rfl) ?_) | (refine held_skip 3 rfl (by kernel_rfl) (by kernel_rfl) (by kernel_rfl) (by rfl) (fun _ _ _ h => h) (by assumption) ?_)
            simp only [Act.put, List.setIfInBounds_toArray, List.set_cons_zero, List.set_cons_succ]
            first | (refine held_take 4 rfl (by kernel_rfl) (by kernel_rfl) (by kernel_rfl) (by rfl) (fun _ _ _ h => h) (by assumption) (by intro w hSw; (try dsimp only at hSw); go_simp; first | done | with_reducible rfl) ?_) | (refine held_skip 4 rfl (by kernel_rfl) (by kernel_rfl) (by kernel_rfl) (by rfl) (fun _ _ _ h => h) (by assumption) ?_)
            simp only [Act.put, List.setIfInBounds_toArray, List.set_cons_zero, List.set_cons_succ]
            first | (refine held_take 6 rfl (by kernel_rfl) (by kernel_rfl) (by kernel_rfl) (by rfl) (fun _ _ _ h => h) (by assumption) (by intro w hSw; (try dsimp only at hSw); go_simp; first | done | with_reducible rfl) ?_) | (refine held_skip 6 rfl (by kernel_rfl) (by kernel_rfl) (by kernel_rfl) (by rfl) (fun _ _ _ h => h) (by assumption) ?_)
            simp only [Act.put, List.setIfInBounds_toArray, List.set_cons_zero, List.set_cons_succ]
            first | (refine held_take 7 rfl (by kernel_rfl) (by kernel_rfl) (by kernel_rfl) (by rfl) (fun _ _ _ h => h) (by assumption) (by intro w hSw; (try dsimp only at hSw); go_simp; first | done | with_reducible rfl) ?_) | (refine held_skip 7 rfl (by kernel_rfl) (by kernel_rfl) (by kernel_rfl) (by rfl) (fun _ _ _ h => h) (by assumption) ?_)
            simp only [Act.put, List.setIfInBounds_toArray, List.set_cons_zero, List.set_cons_succ]
            first | (refine held_take 8 rfl (by kernel_rfl) (by kernel_rfl) (by kernel_rfl) (by rfl) (fun _ _ _ h => h) (by assumption) (by intro w hSw; (try dsimp only at hSw); go_simp; first | done | with_reducible rfl) ?_) | (refine held_skip 8 rfl (by kernel_rfl) (by kernel_rfl) (by kernel_rfl) (by rfl) (fun _ _ _ h => h) (by assumption) ?_)
            simp only [Act.put, List.setIfInBounds_toArray, List.set_cons_zero, List.set_cons_succ]
            first | (refine held_take 9 rfl (by kernel_rfl) (by kernel_rfl) (by kernel_rfl) (by rfl) (fun _ _ _ h => h) (by assumption) (by intro w hSw; (try dsimp only at hSw); go_simp; first | done | with_reducible rfl) ?_) | (refine held_skip 9 rfl (by kernel_rfl) (by kernel_rfl) (by kernel_rfl) (by rfl) (fun _ _ _ h => h) (by assumption) ?_)
            simp only [Act.put, List.setIfInBounds_toArray, List.set_cons_zero, List.set_cons_succ]
            first | (refine held_take 10 rfl (by kernel_rfl) (by kernel_rfl) (by kernel_rfl) (by rfl) (fun _ _ _ h => h) (by assumption) (by intro w hSw; (try dsimp only at hSw); go_simp; first | done | with_reducible rfl) ?_) | (refine held_skip 10 rfl (by kernel_rfl) (by kernel_rfl) (by kernel_rfl) (by rfl) (fun _ _ _ h => h) (by assumption) ?_)
            simp only [Act.put, List.setIfInBounds_toArray, List.set_cons_zero, List.set_cons_succ]
            refine held_one 5 (by kernel_rfl) rfl (fun K hK => ?_)
            go_simp
            go_at_call 24
            refine (HVA.out _ (ex_trans hB3 (ex_trans hb hHeld.2.2.2.2.2.2.2.2.2.2.2))).mono ?_; rintro e w4 ⟨rfl, hb4⟩
            go_wp2_with fail
            refine hK.out _ _ (by (try dsimp only); exact ⟨keep_cell hb4 hHeld.1, keep_cell hb4 hHeld.2.1, keep_cell hb4 hHeld.2.2.1, keep_cell hb4 hHeld.2.2.2.1, keep_cell hb4 hHeld.2.2.2.2.1, keep_cell hb4 hHeld.2.2.2.2.2.1, keep_cell hb4 hHeld.2.2.2.2.2.2.1, keep_cell hb4 hHeld.2.2.2.2.2.2.2.1, keep_cell hb4 hHeld.2.2.2.2.2.2.2.2.1, keep_cell hb4 hHeld.2.2.2.2.2.2.2.2.2.1, keep_cell hb4 hHeld.2.2.2.2.2.2.2.2.2.2.1, ex_trans hHeld.2.2.2.2.2.2.2.2.2.2.2 hb4⟩) (fun hNew => ?_)
            clear hK K hHeld
            have hHeld := hNew
            clear hNew
            try simp only [Act.put, List.setIfInBounds_toArray, List.set_cons_zero, List.set_cons_succ]
            refine held_one 11 (by kernel_rfl) rfl (fun K hK => ?_)
            go_simp
            go_at_call 24
            refine (HVB.out _ (ex_trans hB3 (ex_trans hb hHeld.2.2.2.2.2.2.2.2.2.2.2))).mono ?_; rintro e w5 ⟨rfl, hb5⟩
            go_wp2_with fail
            refine hK.out _ _ (by (try dsimp only); exact ⟨keep_cell hb5 hHeld.1, keep_cell hb5 hHeld.2.1, keep_cell hb5 hHeld.2.2.1, keep_cell hb5 hHeld.2.2.2.1, keep_cell hb5 hHeld.2.2.2.2.1, keep_cell hb5 hHeld.2.2.2.2.2.1, keep_cell hb5 hHeld.2.2.2.2.2.2.1, keep_cell hb5 hHeld.2.2.2.2.2.2.2.1, keep_cell hb5 hHeld.2.2.2.2.2.2.2.2.1, keep_cell hb5 hHeld.2.2.2.2.2.2.2.2.2.1, keep_cell hb5 hHeld.2.2.2.2.2.2.2.2.2.2.1, ex_trans hHeld.2.2.2.2.2.2.2.2.2.2.2 hb5⟩) (fun hNew => ?_)
            clear hK K hHeld
            have hHeld := hNew
            clear hNew
            try simp only [Act.put, List.setIfInBounds_toArray, List.set_cons_zero, List.set_cons_succ]
            first | (refine held_take 12 rfl (by kernel_rfl) (by kernel_rfl) (by kernel_rfl) (by rfl) (fun _ _ _ h => h) (by assumption) (by intro w hSw; (try dsimp only at hSw); go_simp; first | done | with_reducible rfl) ?_) | (refine held_skip 12 rfl (by kernel_rfl) (by kernel_rfl) (by kernel_rfl) (by rfl) (fun _ _ _ h => h) (by assumption) ?_)
            simp only [Act.put, List.setIfInBounds_toArray, List.set_cons_zero, List.set_cons_succ]
            refine wpAnyH_done (by kernel_rfl) ?_ _
            have hbk := hHeld.2.2.2.2.2.2.2.2.2.2.2
            have y5 := hHeld.2.2.2.2.2.2.2.2.2.2.1
            have hb2 := ex_trans hb hbk
            clear hHeld hb4 hb5 y0 x0_0 x0_1 x0_2 x0_3 x0_4 x1_0 x1_1 x1_2 x1_3 x1_4
            have lg5 := keep_lt hbk hgw
            have HD := Lib.hid (show difA a.attrs b.attrs nms[k] = false by unfold difA; rw [← HV.out.1, ← HV.out.2]; simp [Vl.eqb, eqS, h1, h2, h3])
            have HX := Lib.hid (show (((nms.take (k + 1)).filter (difA a.attrs b.attrs)).foldl putS []) = (((nms.take k).filter (difA a.attrs b.attrs)).foldl putS []) from by rw [take_filter_succ _ nms hlt, HD.out]; simp)
            go_wp2_with fail
            go_roundw
            case rel => exact ⟨k + 1, q, _, c4, by omega, by go_num, rfl, by rw [HX.out]; exact HR4.out.below hbk, hb2⟩
            case measure => simp [intOf]; omega
    · obtain rfl : nms.length = k := by omega
      have i2 : ¬ ((nms.length : Int) < (a.attrs.length : Int) + (b.attrs.length : Int)) := by omega
      have hq := HR4.out
      rw [List.take_of_length_le (Nat.le_refl _)] at hq
      obtain ⟨r, hr⟩ : ∃ r, r = chgL a b := ⟨_, rfl⟩
      have hre : ((nms.filter (difA a.attrs b.attrs)).foldl putS []) = r := by rw [hr, HNM.out]; rfl
      rw [hre] at hq
      have HQ := Lib.hid hq
      have HRE := Lib.hid hr
      have hrl := hq.len
      clear hq hre hr
      go_wp2_with (at_builtin; refine wpList_append_row rfl _ _ _ rfl encStr Try.underlying34 hi hi0 hi1 hi2 rfl rfl rfl (FRow.any0 _ _ _ _ w.heap.size _) (Src.of_row encStr (HQ.out.below (ex_alloc (Below.refl _ _) _))) (by unfold maxLen; omega) (by omega) (by have := hb.size; have := hB3.size; simp; omega) ?_; intro A6 c6 w6 hr6 hc6 hx6)
      go_returns
      rw [← HRE.out]
      exact ⟨A6, c6, by rw [hrl]; simp, by rw [hrl]; simpa using hr6, Below.mark (B := w.heap.size) (w := w) (ex_alloc (ex_trans hB3 hb) _) hc6 (by have := hb.size; have := hB3.size; simp; omega) (by simp [rowBs_zero])⟩
set_option maxHeartbeats 6400000 in
theorem impl_ChangedAttrs (a : Fil) (A : Option Addr) (n c : Nat) (b : Fil) (B : Option Addr) (m d : Nat) (w : World) (hS : Sl 4 RAtr w A n a.attrs) (hT : Sl 4 RAtr w B m b.attrs) (hn : n ≤ 536870911) (hm : m ≤ 536870911) :
    Calls Try.prog 29 #[a.v A n c, b.v B m d] w (NewRow (fun v => v) 9 1 eStr w (chgL a b)) := by
  obtain rfl : a.attrs.length = n := hS.len
  obtain rfl : b.attrs.length = m := hT.len
  obtain ⟨ii, hi, hi0, hi1, hi2⟩ := info_parts info_string
  have HNA := Lib.hid fun w' (hb : Below w.heap.size w w') => impl_AttrNames a A a.attrs.length c w' (hS.mono mAtr hb) (by omega)
  have HNB := Lib.hid fun w' (hb : Below w.heap.size w w') => impl_AttrNames b B b.attrs.length d w' (hT.mono mAtr hb) (by omega)
  have HGA := Lib.hid fun (nm : ByteArray) w' (hb : Below w.heap.size w w') => impl_GetAttr a A a.attrs.length c nm w' (hS.mono mAtr hb) (by omega)
  have HGB := Lib.hid fun (nm : ByteArray) w' (hb : Below w.heap.size w w') => impl_GetAttr b B b.attrs.length d nm w' (hT.mono mAtr hb) (by omega)
  have hNl := allN_len a b
  have HCL := Lib.hid (chg_len a b)
  clear hS hT
  go_enter Try.func29, Try.ntmps29
  go_upto_region 2 with fail
  generalize hW : World.alloc (World.alloc (World.alloc w _) _) _ = W0
  have hb0 : HasB W0 [(w.heap.size, #[.int .i64 a.id, .int .i64 a.owner, .bool a.shared, .int .i64 a.link, .slice A a.attrs.length c], 28), (w.heap.size + 1, #[.int .i64 b.id, .int .i64 b.owner, .bool b.shared, .int .i64 b.link, .slice B b.attrs.length d], 28)] := by
    rw [← hW]; intro x hx
    simp only [List.mem_cons, List.not_mem_nil, or_false] at hx
    rcases hx with rfl | rfl
    all_goals (simp only; repeat first | exact hp_new (by simp) | rw [hp_old (by simp <;> omega)])
  have hB0 : Below w.heap.size w W0 := by rw [← hW]; go_grown
  have hz0 : w.heap.size + 2 < W0.heap.size := by rw [← hW]; simp
  clear hW
  have HB0 := Lib.hid hb0
  clear hb0
  have kb0 := HB0.out _ (List.Mem.head _)
  have x0_0 := blk_cell? kb0 0
  have x0_1 := blk_cell? kb0 1
  have x0_2 := blk_cell? kb0 2
  have x0_3 := blk_cell? kb0 3
  have x0_4 := blk_cell? kb0 4
  have zb0 := blk_lt kb0
  have kb1 := HB0.out _ (List.Mem.tail _ (List.Mem.head _))
  have x1_0 := blk_cell? kb1 0
  have x1_1 := blk_cell? kb1 1
  have x1_2 := blk_cell? kb1 2
  have x1_3 := blk_cell? kb1 3
  have x1_4 := blk_cell? kb1 4
  have zb1 := blk_lt kb1
  simp only [List.getElem?_toArray, List.getElem?_cons_zero, List.getElem?_cons_succ] at x0_0 x0_1 x0_2 x0_3 x0_4 x1_0 x1_1 x1_2 x1_3 x1_4
  simp only at zb0 zb1
  clear kb0 kb1
  refine wp_region_held_drew (S := (fun w' => w'.cell? ⟨w.heap.size, 0, none⟩ = some (.int .i64 a.id) ∧ w'.cell? ⟨w.heap.size, 1, none⟩ = some (.int .i64 a.owner) ∧ w'.cell? ⟨w.heap.size, 2, none⟩ = some (.bool a.shared) ∧ w'.cell? ⟨w.heap.size, 3, none⟩ = some (.int .i64 a.link) ∧ w'.cell? ⟨w.heap.size, 4, none⟩ = some (.slice A a.attrs.length c) ∧ w'.cell? ⟨w.heap.size + 1, 0, none⟩ = some (.int .i64 b.id) ∧ w'.cell? ⟨w.heap.size + 1, 1, none⟩ = some (.int .i64 b.owner) ∧ w'.cell? ⟨w.heap.size + 1, 2, none⟩ = some (.bool b.shared) ∧ w'.cell? ⟨w.heap.size + 1, 3, none⟩ = some (.int .i64 b.link) ∧ w'.cell? ⟨w.heap.size + 1, 4, none⟩ = some (.slice B b.attrs.length d) ∧ Below W0.heap.size W0 w')) (by kernel_rfl) (by (try dsimp only); exact ⟨x0_0, x0_1, x0_2, x0_3, x0_4, x1_0, x1_1, x1_2, x1_3, x1_4, (Below.refl _ _).drew⟩) (fun hHeld => ?_)
  first | (refine held_take 0 rfl (by kernel_rfl) (by kernel_rfl) (by kernel_rfl) (by rfl) (fun _ _ _ h => h) (by assumption) (by intro w hSw; (try dsimp only at hSw); go_simp; first | done | with_reducible rfl) ?_) | (refine held_skip 0 rfl (by kernel_rfl) (by kernel_rfl) (by kernel_rfl) (by rfl) (fun _ _ _ h => h) (by assumption) ?_)
  simp only [Act.put, List.setIfInBounds_toArray, List.set_cons_zero, List.set_cons_succ]
  first | (refine held_take 2 rfl (by kernel_rfl) (by kernel_rfl) (by kernel_rfl) (by rfl) (fun _ _ _ h => h) (by assumption) (by intro w hSw; (try dsimp only at hSw); go_simp; first | done | with_reducible rfl) ?_) | (refine held_skip 2 rfl (by kernel_rfl) (by kernel_rfl) (by kernel_rfl) (by rfl) (fun _ _ _ h => h) (by assumption) ?_)
  simp only [Act.put, List.setIfInBounds_toArray, List.set_cons_zero, List.set_cons_succ]
  first | (refine held_take 6 rfl (by kernel_rfl) (by kernel_rfl) (by kernel_rfl) (by rfl) (fun _ _ _ h => h) (by assumption) (by intro w hSw; (try dsimp only at hSw); go_simp; first | done | with_reducible rfl) ?_) | (refine held_skip 6 rfl (by kernel_rfl) (by kernel_rfl) (by kernel_rfl) (by rfl) (fun _ _ _ h => h) (by assumption) ?_)
  simp only [Act.put, List.setIfInBounds_toArray, List.set_cons_zero, List.set_cons_succ]
  refine held_one 1 (by kernel_rfl) rfl (fun K hK => ?_)
  go_simp
  go_at_call 14
  refine (HNA.out _ (ex_trans hB0 hHeld.2.2.2.2.2.2.2.2.2.2)).mono ?_; rintro e w1 ⟨A1, c1, rfl, hr1, hb1⟩
  go_wp2_with fail
  refine hK.out _ _ (by (try dsimp only); exact ⟨keep_cell hb1 hHeld.1, keep_cell hb1 hHeld.2.1, keep_cell hb1 hHeld.2.2.1, keep_cell hb1 hHeld.2.2.2.1, keep_cell hb1 hHeld.2.2.2.2.1, keep_cell hb1 hHeld.2.2.2.2.2.1, keep_cell hb1 hHeld.2.2.2.2.2.2.1, keep_cell hb1 hHeld.2.2.2.2.2.2.2.1, keep_cell hb1 hHeld.2.2.2.2.2.2.2.2.1, keep_cell hb1 hHeld.2.2.2.2.2.2.2.2.2.1, ex_trans hHeld.2.2.2.2.2.2.2.2.2.2 hb1⟩) (fun hNew => ?_)
  clear hK K hHeld
  have hHeld := hNew
  clear hNew
  try simp only [Act.put, List.setIfInBounds_toArray, List.set_cons_zero, List.set_cons_succ]
  refine held_one 3 (by kernel_rfl) rfl (fun K hK => ?_)
  go_simp
  go_at_call 14
  refine (HNB.out _ (ex_trans hB0 hHeld.2.2.2.2.2.2.2.2.2.2)).mono ?_; rintro e w2 ⟨A2, c2, rfl, hr2, hb2⟩
  go_wp2_with fail
  refine hK.out _ _ (by (try dsimp only); exact ⟨keep_cell hb2 hHeld.1, keep_cell hb2 hHeld.2.1, keep_cell hb2 hHeld.2.2.1, keep_cell hb2 hHeld.2.2.2.1, keep_cell hb2 hHeld.2.2.2.2.1, keep_cell hb2 hHeld.2.2.2.2.2.1, keep_cell hb2 hHeld.2.2.2.2.2.2.1, keep_cell hb2 hHeld.2.2.2.2.2.2.2.1, keep_cell hb2 hHeld.2.2.2.2.2.2.2.2.1, keep_cell hb2 hHeld.2.2.2.2.2.2.2.2.2.1, ex_trans hHeld.2.2.2.2.2.2.2.2.2.2 hb2⟩) (fun hNew => ?_)
  clear hK K hHeld
  have hHeld := hNew
  clear hNew
  try simp only [Act.put, List.setIfInBounds_toArray, List.set_cons_zero, List.set_cons_succ]
  simp only [List.length_map] at hr1 hr2
  have hr1' := hr1.below hb2
  refine held_one 4 (by kernel_rfl) rfl (fun K hK => ?_)
  refine step_append_row rfl (.tmp 10) (.tmp 12) _ rfl encStr Try.underlying34 hi hi0 hi1 hi2 rfl rfl rfl hr1' (Src.of_row encStr hr2) (by unfold maxLen; omega) (by omega) (by have := hb1.size; have := hb2.size; omega) ?_; intro A3 c3 w3 hr3 hc3 hx3
  have hba : ∀ x ∈ rowBs A1 c1, W0.heap.size ≤ x := fun x hx => (hr1'.base x hx).1
  refine hK.out _ _ (by (try dsimp only); exact ⟨hc3.cell hHeld.1 (fun h => by have h1 := hba _ h; simp only at h1; omega), hc3.cell hHeld.2.1 (fun h => by have h1 := hba _ h; simp only at h1; omega), hc3.cell hHeld.2.2.1 (fun h => by have h1 := hba _ h; simp only at h1; omega), hc3.cell hHeld.2.2.2.1 (fun h => by have h1 := hba _ h; simp only at h1; omega), hc3.cell hHeld.2.2.2.2.1 (fun h => by have h1 := hba _ h; simp only at h1; omega), hc3.cell hHeld.2.2.2.2.2.1 (fun h => by have h1 := hba _ h; simp only at h1; omega), hc3.cell hHeld.2.2.2.2.2.2.1 (fun h => by have h1 := hba _ h; simp only at h1; omega), hc3.cell hHeld.2.2.2.2.2.2.2.1 (fun h => by have h1 := hba _ h; simp only at h1; omega), hc3.cell hHeld.2.2.2.2.2.2.2.2.1 (fun h => by have h1 := hba _ h; simp only at h1; omega), hc3.cell hHeld.2.2.2.2.2.2.2.2.2.1 (fun h => by have h1 := hba _ h; simp only at h1; omega), Below.mark hHeld.2.2.2.2.2.2.2.2.2.2 hc3 hHeld.2.2.2.2.2.2.2.2.2.2.size hba⟩) (fun hNew => ?_)
  clear hK K hHeld
  have hHeld := hNew
  clear hNew
  try simp only [Act.put, List.setIfInBounds_toArray, List.set_cons_zero, List.set_cons_succ]
  have hn3 : a.attrs.length + b.attrs.length = (allN a b).length := (allN_len a b).symm
  rw [hn3] at hr3 ⊢
  have HR3 := Lib.hid (show FRow 9 1 eStr w3 W0.heap.size A3 (allN a b).length c3 (allN a b) from hr3)
  have hB03 := hHeld.2.2.2.2.2.2.2.2.2.2
  have HB3 := Lib.hid (HB0.out.below hB03)
  have hB3 := ex_trans hB0 hB03
  clear hr1 hr1' hr2 hb1 hb2 hr3 hc3 hx3 hba hn3 x0_0 x0_1 x0_2 x0_3 x0_4 x1_0 x1_1 x1_2 x1_3 x1_4 zb0 zb1
  first | (refine held_take 5 rfl (by kernel_rfl) (by kernel_rfl) (by kernel_rfl) (by rfl) (fun _ _ _ h => h) (by assumption) (by intro w hSw; (try dsimp only at hSw); go_simp; first | done | with_reducible rfl) ?_) | (refine held_skip 5 rfl (by kernel_rfl) (by kernel_rfl) (by kernel_rfl) (by rfl) (fun _ _ _ h => h) (by assumption) ?_)
  simp only [Act.put, List.setIfInBounds_toArray, List.set_cons_zero, List.set_cons_succ]
  refine wpAnyH_done (by kernel_rfl) ?_ _
  clear hHeld
  obtain ⟨nms, hnm⟩ : ∃ nms, nms = allN a b := ⟨_, rfl⟩
  have HNM := Lib.hid hnm
  rw [← hnm] at HR3 hNl ⊢
  have hNl1 := Nat.le_of_eq hNl
  have hNl2 := Nat.le_of_eq hNl.symm
  clear hnm hNl
  have HBL := Lib.hid (show ∀ k : Nat, (((nms.take k).filter (difA a.attrs b.attrs))).length ≤ a.attrs.length + b.attrs.length from fun k => Nat.le_trans (List.length_filter_le _ _) (by rw [List.length_take]; omega))
  go_wp2_with fail
  go_loopw [5, 15] (fun v i wr => ∃ (k q : Nat) (A4 : Option Addr) (c4 : Nat), k ≤ nms.length ∧ i = .int .i64 k ∧ v = .slice A4 q c4 ∧ FRow 9 1 eStr wr w3.heap.size A4 q c4 ((nms.take k).filter (difA a.attrs b.attrs)) ∧ Below w3.heap.size w3 wr) (fun _ i _ => nms.length - (intOf i).toNat)
  case atStart => exact ⟨0, 0, _, 0, Nat.zero_le _, rfl, rfl, FRow.any0 _ _ _ _ _ _, Below.refl _ _⟩
  case round =>
    obtain ⟨k, q, A4, c4, hk2, rfl, rfl, hr4, hb⟩ := hrel
    have HR4 := Lib.hid hr4
    have hql : q ≤ a.attrs.length + b.attrs.length := by rw [← hr4.len]; exact HBL.out k
    clear hr4
    have i0 : (0 : Int) ≤ (k : Int) := by omega
    by_cases hlt : k < nms.length
    · have i1 : (k : Int) < (nms.length : Int) := by omega
      have i2 : (k : Int) < (a.attrs.length : Int) + (b.attrs.length : Int) := by omega
      obtain ⟨g, rfl, hBg, hgw, hrb, hfr, hcell⟩ := (HR3.out.below hb).cell encStr (by omega)
      have y0 := hcell k hlt 0 _ rfl
      simp only [Nat.add_zero, Nat.mul_one] at y0
      have HBW := Lib.hid (HB3.out.below hb)
      have kb0 := HBW.out _ (List.Mem.head _)
      have x0_0 := blk_cell? kb0 0
      have x0_1 := blk_cell? kb0 1
      have x0_2 := blk_cell? kb0 2
      have x0_3 := blk_cell? kb0 3
      have x0_4 := blk_cell? kb0 4
      have zb0 := blk_lt kb0
      have kb1 := HBW.out _ (List.Mem.tail _ (List.Mem.head _))
      have x1_0 := blk_cell? kb1 0
      have x1_1 := blk_cell? kb1 1
      have x1_2 := blk_cell? kb1 2
      have x1_3 := blk_cell? kb1 3
      have x1_4 := blk_cell? kb1 4
      have zb1 := blk_lt kb1
      simp only [List.getElem?_toArray, List.getElem?_cons_zero, List.getElem?_cons_succ] at x0_0 x0_1 x0_2 x0_3 x0_4 x1_0 x1_1 x1_2 x1_3 x1_4
      simp only at zb0 zb1
      clear kb0 kb1
      obtain ⟨va, hva⟩ : ∃ v, v = getA a.attrs nms[k] := ⟨_, rfl⟩
      obtain ⟨vb, hvb⟩ : ∃ v, v = getA b.attrs nms[k] := ⟨_, rfl⟩
      have HVA := Lib.hid (HGA.out nms[k])
      have HVB := Lib.hid (HGB.out nms[k])
      rw [← hva] at HVA
      rw [← hvb] at HVB
      have HV := Lib.hid (And.intro hva hvb)
      clear hcell hfr hrb hva hvb
      cases h1 : (va.kind == vb.kind) with
      | false =>
        go_wp2_with fail
        refine wp_region_held_drew (S := (fun w' => w'.cell? ⟨w.heap.size, 0, none⟩ = some (.int .i64 a.id) ∧ w'.cell? ⟨w.heap.size, 1, none⟩ = some (.int .i64 a.owner) ∧ w'.cell? ⟨w.heap.size, 2, none⟩ = some (.bool a.shared) ∧ w'.cell? ⟨w.heap.size, 3, none⟩ = some (.int .i64 a.link) ∧ w'.cell? ⟨w.heap.size, 4, none⟩ = some (.slice A a.attrs.length c) ∧ w'.cell? ⟨w.heap.size + 1, 0, none⟩ = some (.int .i64 b.id) ∧ w'.cell? ⟨w.heap.size + 1, 1, none⟩ = some (.int .i64 b.owner) ∧ w'.cell? ⟨w.heap.size + 1, 2, none⟩ = some (.bool b.shared) ∧ w'.cell? ⟨w.heap.size + 1, 3, none⟩ = some (.int .i64 b.link) ∧ w'.cell? ⟨w.heap.size + 1, 4, none⟩ = some (.slice B b.attrs.length d) ∧ Below wr.heap.size wr w')) (by kernel_rfl) (by (try dsimp only); exact ⟨x0_0, x0_1, x0_2, x0_3, x0_4, x1_0, x1_1, x1_2, x1_3, x1_4, (Below.refl _ _).drew⟩) (fun hHeld => ?_)
        first | (refine held_take 0 rfl (by kernel_rfl) (by kernel_rfl) (by kernel_rfl) (by rfl) (fun _ _ _ h => h) (by assumption) (by intro w hSw; (try dsimp only at hSw); go_simp; first | done | with_reducible rfl) ?_) | (refine held_skip 0 rfl (by kernel_rfl) (by kernel_rfl) (by kernel_rfl) (by rfl) (fun _ _ _ h => h) (by assumption) ?_)
        simp only [Act.put, List.setIfInBounds_toArray, List.set_cons_zero, List.set_cons_succ]
        first | (refine held_take 1 rfl (by kernel_rfl) (by kernel_rfl) (by kernel_rfl) (by rfl) (fun _ _ _ h => h) (by assumption) (by intro w hSw; (try dsimp only at hSw); go_simp; first | done | with_reducible rfl) ?_) | (refine held_skip 1 rfl (by kernel_rfl) (by kernel_rfl) (by kernel_rfl) (by rfl) (fun _ _ _ h => h) (by assumption) ?_)
        simp only [Act.put, List.setIfInBounds_toArray, List.set_cons_zero, List.set_cons_succ]
        first | (refine held_take 3 rfl (by kernel_rfl) (by kernel_rfl) (by kernel_rfl) (by rfl) (fun _ _ _ h => h) (by assumption) (by intro w hSw; (try dsimp only at hSw); go_simp; first | done | with_reducible rfl) ?_) | (refine held_skip 3 rfl (by kernel_rfl) (by kernel_rfl) (by kernel_rfl) (by rfl) (fun _ _ _ h => h) (by assumption) ?_)
        simp only [Act.put, List.setIfInBounds_toArray, List.set_cons_zero, List.set_cons_succ]
        first | (refine held_take 4 rfl (by kernel_rfl) (by kernel_rfl) (by kernel_rfl) (by rfl) (fun _ _ _ h => h) (by assumption) (by intro w hSw; (try dsimp only at hSw); go_simp; first | done | with_reducible rfl) ?_) | (refine held_skip 4 rfl (by kernel_rfl) (by kernel_rfl) (by kernel_rfl) (by rfl) (fun _ _ _ h => h) (by assumption) ?_)
        simp only [Act.put, List.setIfInBounds_toArray, List.set_cons_zero, List.set_cons_succ]
        refine held_one 2 (by kernel_rfl) rfl (fun K hK => ?_)
        go_simp
        go_at_call 13
        refine (HVA.out _ (ex_trans hB3 (ex_trans hb hHeld.2.2.2.2.2.2.2.2.2.2))).mono ?_; rintro e w4 ⟨rfl, hb4⟩
        go_wp2_with fail
        refine hK.out _ _ (by (try dsimp only); exact ⟨keep_cell hb4 hHeld.1, keep_cell hb4 hHeld.2.1, keep_cell hb4 hHeld.2.2.1, keep_cell hb4 hHeld.2.2.2.1, keep_cell hb4 hHeld.2.2.2.2.1, keep_cell hb4 hHeld.2.2.2.2.2.1, keep_cell hb4 hHeld.2.2.2.2.2.2.1, keep_cell hb4 hHeld.2.2.2.2.2.2.2.1, keep_cell hb4 hHeld.2.2.2.2.2.2.2.2.1, keep_cell hb4 hHeld.2.2.2.2.2.2.2.2.2.1, ex_trans hHeld.2.2.2.2.2.2.2.2.2.2 hb4⟩) (fun hNew => ?_)
        clear hK K hHeld
        have hHeld := hNew
        clear hNew
        try simp only [Act.put, List.setIfInBounds_toArray, List.set_cons_zero, List.set_cons_succ]
        refine held_one 5 (by kernel_rfl) rfl (fun K hK => ?_)
        go_simp
        go_at_call 13
        refine (HVB.out _ (ex_trans hB3 (ex_trans hb hHeld.2.2.2.2.2.2.2.2.2.2))).mono ?_; rintro e w5 ⟨rfl, hb5⟩
        go_wp2_with fail
        refine hK.out _ _ (by (try dsimp only); exact ⟨keep_cell hb5 hHeld.1, keep_cell hb5 hHeld.2.1, keep_cell hb5 hHeld.2.2.1, keep_cell hb5 hHeld.2.2.2.1, keep_cell hb5 hHeld.2.2.2.2.1, keep_cell hb5 hHeld.2.2.2.2.2.1, keep_cell hb5 hHeld.2.2.2.2.2.2.1, keep_cell hb5 hHeld.2.2.2.2.2.2.2.1, keep_cell hb5 hHeld.2.2.2.2.2.2.2.2.1, keep_cell hb5 hHeld.2.2.2.2.2.2.2.2.2.1, ex_trans hHeld.2.2.2.2.2.2.2.2.2.2 hb5⟩) (fun hNew => ?_)
        clear hK K hHeld
        have hHeld := hNew
        clear hNew
        try simp only [Act.put, List.setIfInBounds_toArray, List.set_cons_zero, List.set_cons_succ]
        first | (refine held_take 6 rfl (by kernel_rfl) (by kernel_rfl) (by kernel_rfl) (by rfl) (fun _ _ _ h => h) (by assumption) (by intro w hSw; (try dsimp only at hSw); go_simp; first | done | with_reducible rfl) ?_) | (refine held_skip 6 rfl (by kernel_rfl) (by kernel_rfl) (by kernel_rfl) (by rfl) (fun _ _ _ h => h) (by assumption) ?_)
        simp only [Act.put, List.setIfInBounds_toArray, List.set_cons_zero, List.set_cons_succ]
        refine wpAnyH_done (by kernel_rfl) ?_ _
        have hbk := hHeld.2.2.2.2.2.2.2.2.2.2
        have hb2 := ex_trans hb hbk
        clear hHeld hb4 hb5 y0 x0_0 x0_1 x0_2 x0_3 x0_4 x1_0 x1_1 x1_2 x1_3 x1_4
        have HD := Lib.hid (show difA a.attrs b.attrs nms[k] = true by unfold difA; rw [← HV.out.1, ← HV.out.2]; simp [Vl.eqb, eqS, h1])
        have HX := Lib.hid (show ((nms.take (k + 1)).filter (difA a.attrs b.attrs)) = ((nms.take k).filter (difA a.attrs b.attrs)) ++ [nms[k]] from by rw [take_filter_succ _ nms hlt, HD.out]; simp)
        go_wp2_with (at_builtin; refine wpList_append_row rfl _ _ _ rfl encStr Try.underlying34 hi hi0 hi1 hi2 rfl rfl rfl (HR4.out.below (ex_alloc hbk _)) (src1 encStr _ nms[k] _ (by simp) rfl) (by unfold maxLen; omega) (by omega) (by have := hb2.size; simp; omega) ?_; intro A6 c6 w6 hr6 hc6 hx6)
        have HZ := Lib.hid (And.intro (show FRow 9 1 eStr w6 w3.heap.size A6 (q + 1) c6 ((nms.take (k + 1)).filter (difA a.attrs b.attrs)) by rw [HX.out]; exact hr6) (Below.mark (ex_alloc hb2 _) hc6 (by have := hb2.size; simp; omega) (fun x hx => (HR4.out.base x hx).1)))
        clear hr6 hc6 hx6
        go_wp2_with fail
        go_roundw
        case rel => exact ⟨k + 1, q + 1, A6, c6, by omega, by go_num, rfl, HZ.out⟩
        case measure => simp [intOf]; omega
      | true =>
        cases h2 : (va.int == vb.int) with
        | false =>
          go_wp2_with fail
          refine wp_region_held_drew (S := (fun w' => w'.cell? ⟨w.heap.size, 0, none⟩ = some (.int .i64 a.id) ∧ w'.cell? ⟨w.heap.size, 1, none⟩ = some (.int .i64 a.owner) ∧ w'.cell? ⟨w.heap.size, 2, none⟩ = some (.bool a.shared) ∧ w'.cell? ⟨w.heap.size, 3, none⟩ = some (.int .i64 a.link) ∧ w'.cell? ⟨w.heap.size, 4, none⟩ = some (.slice A a.attrs.length c) ∧ w'.cell? ⟨w.heap.size + 1, 0, none⟩ = some (.int .i64 b.id) ∧ w'.cell? ⟨w.heap.size + 1, 1, none⟩ = some (.int .i64 b.owner) ∧ w'.cell? ⟨w.heap.size + 1, 2, none⟩ = some (.bool b.shared) ∧ w'.cell? ⟨w.heap.size + 1, 3, none⟩ = some (.int .i64 b.link) ∧ w'.cell? ⟨w.heap.size + 1, 4, none⟩ = some (.slice B b.attrs.length d) ∧ Below wr.heap.size wr w')) (by kernel_rfl) (by (try dsimp only); exact ⟨x0_0, x0_1, x0_2, x0_3, x0_4, x1_0, x1_1, x1_2, x1_3, x1_4, (Below.refl _ _).drew⟩) (fun hHeld => ?_)
          first | (refine held_take 0 rfl (by kernel_rfl) (by kernel_rfl) (by kernel_rfl) (by rfl) (fun _ _ _ h => h) (by assumption) (by intro w hSw; (try dsimp only at hSw); go_simp; first | done | with_reducible rfl) ?_) | (refine held_skip 0 rfl (by kernel_rfl) (by kernel_rfl) (by kernel_rfl) (by rfl) (fun _ _ _ h => h) (by assumption) ?_)
          simp only [Act.put, List.setIfInBounds_toArray, List.set_cons_zero, List.set_cons_succ]
          first | (refine held_take 1 rfl (by kernel_rfl) (by kernel_rfl) (by kernel_rfl) (by rfl) (fun _ _ _ h => h) (by assumption) (by intro w hSw; (try dsimp only at hSw); go_simp; first | done | with_reducible rfl) ?_) | (refine held_skip 1 rfl (by kernel_rfl) (by kernel_rfl) (by kernel_rfl) (by rfl) (fun _ _ _ h => h) (by assumption) ?_)
          simp only [Act.put, List.setIfInBounds_toArray, List.set_cons_zero, List.set_cons_succ]
          first | (refine held_take 3 rfl (by kernel_rfl) (by kernel_rfl) (by kernel_rfl) (by rfl) (fun _ _ _ h => h) (by assumption) (by intro w hSw; (try dsimp only at hSw); go_simp; first | done | with_reducible rfl) ?_) | (refine held_skip 3 rfl (by kernel_rfl) (by kernel_rfl) (by kernel_rfl) (by rfl) (fun _ _ _ h => h) (by assumption) ?_)
          simp only [Act.put, List.setIfInBounds_toArray, List.set_cons_zero, List.set_cons_succ]
          first | (refine held_take 4 rfl (by kernel_rfl) (by kernel_rfl) (by kernel_rfl) (by rfl) (fun _ _ _ h => h) (by assumption) (by intro w hSw; (try dsimp only at hSw); go_simp; first | done | with_reducible rfl) ?_) | (refine held_skip 4 rfl (by kernel_rfl) (by kernel_rfl) (by kernel_rfl) (by rfl) (fun _ _ _ h => h) (by assumption) ?_)
          simp only [Act.put, List.setIfInBounds_toArray, List.set_cons_zero, List.set_cons_succ]
          refine held_one 2 (by kernel_rfl) rfl (fun K hK => ?_)
          go_simp
          go_at_call 13
          refine (HVA.out _ (ex_trans hB3 (ex_trans hb hHeld.2.2.2.2.2.2.2.2.2.2))).mono ?_; rintro e w4 ⟨rfl, hb4⟩
          go_wp2_with fail
          refine hK.out _ _ (by (try dsimp only); exact ⟨keep_cell hb4 hHeld.1, keep_cell hb4 hHeld.2.1, keep_cell hb4 hHeld.2.2.1, keep_cell hb4 hHeld.2.2.2.1, keep_cell hb4 hHeld.2.2.2.2.1, keep_cell hb4 hHeld.2.2.2.2.2.1, keep_cell hb4 hHeld.2.2.2.2.2.2.1, keep_cell hb4 hHeld.2.2.2.2.2.2.2.1, keep_cell hb4 hHeld.2.2.2.2.2.2.2.2.1, keep_cell hb4 hHeld.2.2.2.2.2.2.2.2.2.1, ex_trans hHeld.2.2.2.2.2.2.2.2.2.2 hb4⟩) (fun hNew => ?_)
          clear hK K hHeld
          have hHeld := hNew
          clear hNew
          try simp only [Act.put, List.setIfInBounds_toArray, List.set_cons_zero, List.set_cons_succ]
          refine held_one 5 (by kernel_rfl) rfl (fun K hK => ?_)
          go_simp
          go_at_call 13
          refine (HVB.out _ (ex_trans hB3 (ex_trans hb hHeld.2.2.2.2.2.2.2.2.2.2))).mono ?_; rintro e w5 ⟨rfl, hb5⟩
          go_wp2_with fail
          refine hK.out _ _ (by (try dsimp only); exact ⟨keep_cell hb5 hHeld.1, keep_cell hb5 hHeld.2.1, keep_cell hb5 hHeld.2.2.1, keep_cell hb5 hHeld.2.2.2.1, keep_cell hb5 hHeld.2.2.2.2.1, keep_cell hb5 hHeld.2.2.2.2.2.1, keep_cell hb5 hHeld.2.2.2.2.2.2.1, keep_cell hb5 hHeld.2.2.2.2.2.2.2.1, keep_cell hb5 hHeld.2.2.2.2.2.2.2.2.1, keep_cell hb5 hHeld.2.2.2.2.2.2.2.2.2.1, ex_trans hHeld.2.2.2.2.2.2.2.2.2.2 hb5⟩) (fun hNew => ?_)
          clear hK K hHeld
          have hHeld := hNew
          clear hNew
          try simp only [Act.put, List.setIfInBounds_toArray, List.set_cons_zero, List.set_cons_succ]
          first | (refine held_take 6 rfl (by kernel_rfl) (by kernel_rfl) (by kernel_rfl) (by rfl) (fun _ _ _ h => h) (by assumption) (by intro w hSw; (try dsimp only at hSw); go_simp; first | done | with_reducible rfl) ?_) | (refine held_skip 6 rfl (by kernel_rfl) (by kernel_rfl) (by kernel_rfl) (by rfl) (fun _ _ _ h => h) (by assumption) ?_)
          simp only [Act.put, List.setIfInBounds_toArray, List.set_cons_zero, List.set_cons_succ]
          refine wpAnyH_done (by kernel_rfl) ?_ _
          have hbk := hHeld.2.2.2.2.2.2.2.2.2.2
          have hb2 := ex_trans hb hbk
          clear hHeld hb4 hb5 y0 x0_0 x0_1 x0_2 x0_3 x0_4 x1_0 x1_1 x1_2 x1_3 x1_4
          have HD := Lib.hid (show difA a.attrs b.attrs nms[k] = true by unfold difA; rw [← HV.out.1, ← HV.out.2]; simp [Vl.eqb, eqS, h2])
          have HX := Lib.hid (show ((nms.take (k + 1)).filter (difA a.attrs b.attrs)) = ((nms.take k).filter (difA a.attrs b.attrs)) ++ [nms[k]] from by rw [take_filter_succ _ nms hlt, HD.out]; simp)
          go_wp2_with (at_builtin; refine wpList_append_row rfl _ _ _ rfl encStr Try.underlying34 hi hi0 hi1 hi2 rfl rfl rfl (HR4.out.below (ex_alloc hbk _)) (src1 encStr _ nms[k] _ (by simp) rfl) (by unfold maxLen; omega) (by omega) (by have := hb2.size; simp; omega) ?_; intro A6 c6 w6 hr6 hc6 hx6)
          have HZ := Lib.hid (And.intro (show FRow 9 1 eStr w6 w3.heap.size A6 (q + 1) c6 ((nms.take (k + 1)).filter (difA a.attrs b.attrs)) by rw [HX.out]; exact hr6) (Below.mark (ex_alloc hb2 _) hc6 (by have := hb2.size; simp; omega) (fun x hx => (HR4.out.base x hx).1)))
          clear hr6 hc6 hx6
          go_wp2_with fail
          go_roundw
          case rel => exact ⟨k + 1, q + 1, A6, c6, by omega, by go_num, rfl, HZ.out⟩
          case measure => simp [intOf]; omega
        | true =>
          cases h3 : (va.str.toList == vb.str.toList) with
          | false =>
            go_wp2_with fail
            refine wp_region_held_drew (S := (fun w' => w'.cell? ⟨w.heap.size, 0, none⟩ = some (.int .i64 a.id) ∧ w'.cell? ⟨w.heap.size, 1, none⟩ = some (.int .i64 a.owner) ∧ w'.cell? ⟨w.heap.size, 2, none⟩ = some (.bool a.shared) ∧ w'.cell? ⟨w.heap.size, 3, none⟩ = some (.int .i64 a.link) ∧ w'.cell? ⟨w.heap.size, 4, none⟩ = some (.slice A a.attrs.length c) ∧ w'.cell? ⟨w.heap.size + 1, 0, none⟩ = some (.int .i64 b.id) ∧ w'.cell? ⟨w.heap.size + 1, 1, none⟩ = some (.int .i64 b.owner) ∧ w'.cell? ⟨w.heap.size + 1, 2, none⟩ = some (.bool b.shared) ∧ w'.cell? ⟨w.heap.size + 1, 3, none⟩ = some (.int .i64 b.link) ∧ w'.cell? ⟨w.heap.size + 1, 4, none⟩ = some (.slice B b.attrs.length d) ∧ Below wr.heap.size wr w')) (by kernel_rfl) (by (try dsimp only); exact ⟨x0_0, x0_1, x0_2, x0_3, x0_4, x1_0, x1_1, x1_2, x1_3, x1_4, (Below.refl _ _).drew⟩) (fun hHeld => ?_)
            first | (refine held_take 0 rfl (by kernel_rfl) (by kernel_rfl) (by kernel_rfl) (by rfl) (fun _ _ _ h => h) (by assumption) (by intro w hSw; (try dsimp only at hSw); go_simp; first | done | with_reducible rfl) ?_) | (refine held_skip 0 rfl (by kernel_rfl) (by kernel_rfl) (by kernel_rfl) (by rfl) (fun _ _ _ h => h) (by assumption) ?_)
            simp only [Act.put, List.setIfInBounds_toArray, List.set_cons_zero, List.set_cons_succ]
            first | (refine held_take 1 rfl (by kernel_rfl) (by kernel_rfl) (by kernel_rfl) (by rfl) (fun _ _ _ h => h) (by assumption) (by intro w hSw; (try dsimp only at hSw); go_simp; first | done | with_reducible rfl) ?_) | (refine held_skip 1 rfl (by kernel_rfl) (by kernel_rfl) (by kernel_rfl) (by rfl) (fun _ _ _ h => h) (by assumption) ?_)
            simp only [Act.put, List.setIfInBounds_toArray, List.set_cons_zero, List.set_cons_succ]
            first | (refine held_take 3 rfl (by kernel_rfl) (by kernel_rfl) (by kernel_rfl) (by rfl) (fun _ _ _ h => h) (by assumption) (by intro w hSw; (try dsimp only at hSw); go_simp; first | done | with_reducible rfl) ?_) | (refine held_skip 3 rfl (by kernel_rfl) (by kernel_rfl) (by kernel_rfl) (by rfl) (fun _ _ _ h => h) (by assumption) ?_)
            simp only [Act.put, List.setIfInBounds_toArray, List.set_cons_zero, List.set_cons_succ]
            first | (refine held_take 4 rfl (by kernel_rfl) (by kernel_rfl) (by kernel_rfl) (by rfl) (fun _ _ _ h => h) (by assumption) (by intro w hSw; (try dsimp only at hSw); go_simp; first | done | with_reducible rfl) ?_) | (refine held_skip 4 rfl (by kernel_rfl) (by kernel_rfl) (by kernel_rfl) (by rfl) (fun _ _ _ h => h) (by assumption) ?_)
            simp only [Act.put, List.setIfInBounds_toArray, List.set_cons_zero, List.set_cons_succ]
            refine held_one 2 (by kernel_rfl) rfl (fun K hK => ?_)
            go_simp
            go_at_call 13
            refine (HVA.out _ (ex_trans hB3 (ex_trans hb hHeld.2.2.2.2.2.2.2.2.2.2))).mono ?_; rintro e w4 ⟨rfl, hb4⟩
            go_wp2_with fail
            refine hK.out _ _ (by (try dsimp only); exact ⟨keep_cell hb4 hHeld.1, keep_cell hb4 hHeld.2.1, keep_cell hb4 hHeld.2.2.1, keep_cell hb4 hHeld.2.2.2.1, keep_cell hb4 hHeld.2.2.2.2.1, keep_cell hb4 hHeld.2.2.2.2.2.1, keep_cell hb4 hHeld.2.2.2.2.2.2.1, keep_cell hb4 hHeld.2.2.2.2.2.2.2.1, keep_cell hb4 hHeld.2.2.2.2.2.2.2.2.1, keep_cell hb4 hHeld.2.2.2.2.2.2.2.2.2.1, ex_trans hHeld.2.2.2.2.2.2.2.2.2.2 hb4⟩) (fun hNew => ?_)
            clear hK K hHeld
            have hHeld := hNew
            clear hNew
            try simp only [Act.put, List.setIfInBounds_toArray, List.set_cons_zero, List.set_cons_succ]
            refine held_one 5 (by kernel_rfl) rfl (fun K hK => ?_)
            go_simp
            go_at_call 13
            refine (HVB.out _ (ex_trans hB3 (ex_trans hb hHeld.2.2.2.2.2.2.2.2.2.2))).mono ?_; rintro e w5 ⟨rfl, hb5⟩
            go_wp2_with fail
            refine hK.out _ _ (by (try dsimp only); exact ⟨keep_cell hb5 hHeld.1, keep_cell hb5 hHeld.2.1, keep_cell hb5 hHeld.2.2.1, keep_cell hb5 hHeld.2.2.2.1, keep_cell hb5 hHeld.2.2.2.2.1, keep_cell hb5 hHeld.2.2.2.2.2.1, keep_cell hb5 hHeld.2.2.2.2.2.2.1, keep_cell hb5 hHeld.2.2.2.2.2.2.2.1, keep_cell hb5 hHeld.2.2.2.2.2.2.2.2.1, keep_cell hb5 hHeld.2.2.2.2.2.2.2.2.2.1, ex_trans hHeld.2.2.2.2.2.2.2.2.2.2 hb5⟩) (fun hNew => ?_)
            clear hK K hHeld
            have hHeld := hNew
            clear hNew
            try simp only [Act.put, List.setIfInBounds_toArray, List.set_cons_zero, List.set_cons_succ]
            first | (refine held_take 6 rfl (by kernel_rfl) (by kernel_rfl) (by kernel_rfl) (by rfl) (fun _ _ _ h => h) (by assumption) (by intro w hSw; (try dsimp only at hSw); go_simp; first | done | with_reducible rfl) ?_) | (refine held_skip 6 rfl (by kernel_rfl) (by kernel_rfl) (by kernel_rfl) (by rfl) (fun _ _ _ h => h) (by assumption) ?_)
            simp only [Act.put, List.setIfInBounds_toArray, List.set_cons_zero, List.set_cons_succ]
            refine wpAnyH_done (by kernel_rfl) ?_ _
            have hbk := hHeld.2.2.2.2.2.2.2.2.2.2
            have hb2 := ex_trans hb hbk
            clear hHeld hb4 hb5 y0 x0_0 x0_1 x0_2 x0_3 x0_4 x1_0 x1_1 x1_2 x1_3 x1_4
            have HD := Lib.hid (show difA a.attrs b.attrs nms[k] = true by unfold difA; rw [← HV.out.1, ← HV.out.2]; simp [Vl.eqb, eqS, h3])
            have HX := Lib.hid (show ((nms.take (k + 1)).filter (difA a.attrs b.attrs)) = ((nms.take k).filter (difA a.attrs b.attrs)) ++ [nms[k]] from by rw [take_filter_succ _ nms hlt, HD.out]; simp)
            go_wp2_with (at_builtin; refine wpList_append_row rfl _ _ _ rfl encStr Try.underlying34 hi hi0 hi1 hi2 rfl rfl rfl (HR4.out.below (ex_alloc hbk _)) (src1 encStr _ nms[k] _ (by simp) rfl) (by unfold maxLen; omega) (by omega) (by have := hb2.size; simp; omega) ?_; intro A6 c6 w6 hr6 hc6 hx6)
            have HZ := Lib.hid (And.intro (show FRow 9 1 eStr w6 w3.heap.size A6 (q + 1) c6 ((nms.take (k + 1)).filter (difA a.attrs b.attrs)) by rw [HX.out]; exact hr6) (Below.mark (ex_alloc hb2 _) hc6 (by have := hb2.size; simp; omega) (fun x hx => (HR4.out.base x hx).1)))
            clear hr6 hc6 hx6
            go_wp2_with fail
            go_roundw
            case rel => exact ⟨k + 1, q + 1, A6, c6, by omega, by go_num, rfl, HZ.out⟩
            case measure => simp [intOf]; omega
          | true =>
            go_wp2_with fail
            refine wp_region_held_drew (S := (fun w' => w'.cell? ⟨w.heap.size, 0, none⟩ = some (.int .i64 a.id) ∧ w'.cell? ⟨w.heap.size, 1, none⟩ = some (.int .i64 a.owner) ∧ w'.cell? ⟨w.heap.size, 2, none⟩ = some (.bool a.shared) ∧ w'.cell? ⟨w.heap.size, 3, none⟩ = some (.int .i64 a.link) ∧ w'.cell? ⟨w.heap.size, 4, none⟩ = some (.slice A a.attrs.length c) ∧ w'.cell? ⟨w.heap.size + 1, 0, none⟩ = some (.int .i64 b.id) ∧ w'.cell? ⟨w.heap.size + 1, 1, none⟩ = some (.int .i64 b.owner) ∧ w'.cell? ⟨w.heap.size + 1, 2, none⟩ = some (.bool b.shared) ∧ w'.cell? ⟨w.heap.size + 1, 3, none⟩ = some (.int .i64 b.link) ∧ w'.cell? ⟨w.heap.size + 1, 4, none⟩ = some (.slice B b.attrs.length d) ∧ Below wr.heap.size wr w')) (by kernel_rfl) (by (try dsimp only); exact ⟨x0_0, x0_1, x0_2, x0_3, x0_4, x1_0, x1_1, x1_2, x1_3, x1_4, (Below.refl _ _).drew⟩) (fun hHeld => ?_)
            first | (refine held_take 0 rfl (by kernel_rfl) (by kernel_rfl) (by kernel_rfl) (by rfl) (fun _ _ _ h => h) (by assumption) (by intro w hSw; (try dsimp only at hSw); go_simp; first | done | with_reducible rfl) ?_) | (refine held_skip 0 rfl (by kernel_rfl) (by kernel_rfl) (by kernel_rfl) (by rfl) (fun _ _ _ h => h) (by assumption) ?_)
            simp only [Act.put, List.setIfInBounds_toArray, List.set_cons_zero, List.set_cons_succ]
            first | (refine held_take 1 rfl (by kernel_rfl) (by kernel_rfl) (by kernel_rfl) (by rfl) (fun _ _ _ h => h) (by assumption) (by intro w hSw; (try dsimp only at hSw); go_simp; first | done | with_reducible rfl) ?_) | (refine held_skip 1 rfl (by kernel_rfl) (by kernel_rfl) (by kernel_rfl) (by rfl) (fun _ _ _ h => h) (by assumption) ?_)
            simp only [Act.put, List.setIfInBounds_toArray, List.set_cons_zero, List.set_cons_succ]
            first | (refine held_take 3 rfl (by kernel_rfl) (by kernel_rfl) (by kernel_rfl) (by rfl) (fun _ _ _ h => h) (by assumption) (by intro w hSw; (try dsimp only at hSw); go_simp; first | done | with_reducible rfl) ?_) | (refine held_skip 3 rfl (by kernel_rfl) (by kernel_rfl) (by kernel_rfl) (by rfl) (fun _ _ _ h => h) (by assumption) ?_)
            simp only [Act.put, List.setIfInBounds_toArray, List.set_cons_zero, List.set_cons_succ]
            first | (refine held_take 4 rfl (by kernel_rfl) (by kernel_rfl) (by kernel_rfl) (by rfl) (fun _ _ _ h => h) (by assumption) (by intro w hSw; (try dsimp only at hSw); go_simp; first | done | with_reducible rfl) ?_) | (refine held_skip 4 rfl (by kernel_rfl) (by kernel_rfl) (by kernel_rfl) (by rfl) (fun _ _ _ h => h) (by assumption) ?_)
            simp only [Act.put, List.setIfInBounds_toArray, List.set_cons_zero, List.set_cons_succ]
            refine held_one 2 (by kernel_rfl) rfl (fun K hK => ?_)
            go_simp
            go_at_call 13
            refine (HVA.out _ (ex_trans hB3 (ex_trans hb hHeld.2.2.2.2.2.2.2.2.2.2))).mono ?_; rintro e w4 ⟨rfl, hb4⟩
            go_wp2_with fail
            refine hK.out _ _ (by (try dsimp only); exact ⟨keep_cell hb4 hHeld.1, keep_cell hb4 hHeld.2.1, keep_cell hb4 hHeld.2.2.1, keep_cell hb4 hHeld.2.2.2.1, keep_cell hb4 hHeld.2.2.2.2.1, keep_cell hb4 hHeld.2.2.2.2.2.1, keep_cell hb4 hHeld.2.2.2.2.2.2.1, keep_cell hb4 hHeld.2.2.2.2.2.2.2.1, keep_cell hb4 hHeld.2.2.2.2.2.2.2.2.1, keep_cell hb4 hHeld.2.2.2.2.2.2.2.2.2.1, ex_trans hHeld.2.2.2.2.2.2.2.2.2.2 hb4⟩) (fun hNew => ?_)
            clear hK K hHeld
            have hHeld := hNew
            clear hNew
            try simp only [Act.put, List.setIfInBounds_toArray, List.set_cons_zero, List.set_cons_succ]
            refine held_one 5 (by kernel_rfl) rfl (fun K hK => ?_)
            go_simp
            go_at_call 13
            refine (HVB.out _ (ex_trans hB3 (ex_trans hb hHeld.2.2.2.2.2.2.2.2.2.2))).mono ?_; rintro e w5 ⟨rfl, hb5⟩
            go_wp2_with fail
            refine hK.out _ _ (by (try dsimp only); exact ⟨keep_cell hb5 hHeld.1, keep_cell hb5 hHeld.2.1, keep_cell hb5 hHeld.2.2.1, keep_cell hb5 hHeld.2.2.2.1, keep_cell hb5 hHeld.2.2.2.2.1, keep_cell hb5 hHeld.2.2.2.2.2.1, keep_cell hb5 hHeld.2.2.2.2.2.2.1, keep_cell hb5 hHeld.2.2.2.2.2.2.2.1, keep_cell hb5 hHeld.2.2.2.2.2.2.2.2.1, keep_cell hb5 hHeld.2.2.2.2.2.2.2.2.2.1, ex_trans hHeld.2.2.2.2.2.2.2.2.2.2 hb5⟩) (fun hNew => ?_)
            clear hK K hHeld
            have hHeld := hNew
            clear hNew
            try simp only [Act.put, List.setIfInBounds_toArray, List.set_cons_zero, List.set_cons_succ]
            first | (refine held_take 6 rfl (by kernel_rfl) (by kernel_rfl) (by kernel_rfl) (by rfl) (fun _ _ _ h => h) (by assumption) (by intro w hSw; (try dsimp only at hSw); go_simp; first | done | with_reducible rfl) ?_) | (refine held_skip 6 rfl (by kernel_rfl) (by kernel_rfl) (by kernel_rfl) (by rfl) (fun _ _ _ h => h) (by assumption) ?_)
            simp only [Act.put, List.setIfInBounds_toArray, List.set_cons_zero, List.set_cons_succ]
            refine wpAnyH_done (by kernel_rfl) ?_ _
            have hbk := hHeld.2.2.2.2.2.2.2.2.2.2
            have hb2 := ex_trans hb hbk
            clear hHeld hb4 hb5 y0 x0_0 x0_1 x0_2 x0_3 x0_4 x1_0 x1_1 x1_2 x1_3 x1_4
            have HD := Lib.hid (show difA a.attrs b.attrs nms[k] = false by unfold difA; rw [← HV.out.1, ← HV.out.2]; simp [Vl.eqb, eqS, h1, h2, h3])
            have HX := Lib.hid (show ((nms.take (k + 1)).filter (difA a.attrs b.attrs)) = ((nms.take k).filter (difA a.attrs b.attrs)) from by rw [take_filter_succ _ nms hlt, HD.out]; simp)
            go_wp2_with fail
            go_roundw
            case rel => exact ⟨k + 1, q, _, c4, by omega, by go_num, rfl, by rw [HX.out]; exact HR4.out.below hbk, hb2⟩
            case measure => simp [intOf]; omega
    · obtain rfl : nms.length = k := by omega
      have i2 : ¬ ((nms.length : Int) < (a.attrs.length : Int) + (b.attrs.length : Int)) := by omega
      have hq := HR4.out
      rw [List.take_of_length_le (Nat.le_refl _)] at hq
      have HQ := Lib.hid hq
      have HRE := Lib.hid (show onceS (nms.filter (difA a.attrs b.attrs)) = chgL a b by rw [onceS_put, HNM.out]; rfl)
      clear hq
      go_wp2_with fail
      refine (impl_sortedOnce A4 q c4 (nms.filter (difA a.attrs b.attrs)) _ (HQ.out.sl encStr (fun _ => rfl)) (by omega)).mono ?_; rintro e w6 ⟨A6, c6, rfl, hr6, hb6⟩
      rw [HRE.out] at hr6 ⊢
      have HZ := Lib.hid (And.intro (hr6.re (fun x hx => Nat.le_trans (Nat.le_trans hB3.size hb.size) (hr6.base x hx).1)) (ex_trans (ex_trans hB3 hb) hb6))
      clear hr6 hb6
      go_wp2_with fail
      go_returns
      exact ⟨A6, c6, rfl, HZ.out⟩
end Go.Proofs.Ytjobgnioehkomaa
