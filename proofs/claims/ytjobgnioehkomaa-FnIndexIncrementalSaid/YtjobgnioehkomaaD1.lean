/-
  CONTRACTS: the library's functions on slices of flat elements; functions that append to a slice of their own.
-/
import Derived.WalkKit
import Derived.WalkSpells
import Derived.WalkLawsBesides
import Derived.Lib.Hide
import Derived.Handy
import Derived.StillTailTactics
import Derived.Deep.Light
import Derived.Deep.QuietTactic
import Derived.BigQuiet
import Derived.Deep.RegionHeld3
import Derived.Test.YtjobgnioehkomaaLib
import Derived.Test.YtjobgnioehkomaaOwn
import Derived.Test.YtjobgnioehkomaaRow
import Derived.Test.YtjobgnioehkomaaHld
import Derived.Test.YtjobgnioehkomaaC1
import Derived.Test.YtjobgnioehkomaaC2
import Derived.Test.YtjobgnioehkomaaT1
import Derived.Test.YtjobgnioehkomaaT2
import Derived.Test.YtjobgnioehkomaaT3
import Derived.Test.YtjobgnioehkomaaT4
import Derived.Test.YtjobgnioehkomaaC3
import Derived.Test.YtjobgnioehkomaaC4
import Derived.Test.YtjobgnioehkomaaRows
namespace Go.Proofs.Ytjobgnioehkomaa
open Go.RowKit
set_option linter.unusedVariables false
set_option maxRecDepth 100000
theorem info_string : (Try.prog.info? 9).map (fun i => (i.zero, i.size, i.bytes)) = some (some (.string ByteArray.empty), 1, 16) := by kernel_rfl
theorem src1 {α : Type} {size : Nat} {enc : α → List Value} (hE : Enc size enc) (w : World) (x : α) (e : TypeId) {g : Nat} (hg : g = w.heap.size) {cs : Array Value} (hcs : cs.toList = enc x) : Src size enc (w.alloc (.cells cs e)) (some ⟨g, 0, none⟩) 1 [x] := by
  subst hg
  refine Src.of_cells (by simp) fun j u hu => ?_
  rw [Addr.add_lit, Nat.zero_add, blk_cell? (blk_new w _), ← Array.getElem?_toList, hcs]
  exact hu
theorem take_map_succ {α β : Type} (f : α → β) (l : List α) {k : Nat} (h : k < l.length) : (l.take (k + 1)).map f = (l.take k).map f ++ [f l[k]] := by
  rw [List.take_succ_eq_append_getElem h, List.map_append]; rfl
theorem take_filter_succ {α : Type} (p : α → Bool) (l : List α) {k : Nat} (h : k < l.length) : (l.take (k + 1)).filter p = (l.take k).filter p ++ (if p l[k] then [l[k]] else []) := by
  rw [List.take_succ_eq_append_getElem h, List.filter_append]
  cases hp : p l[k] <;> simp [hp]
/-- the round's relation of a loop that appends to a row of the call's own -/
def App {α : Type} (e size : Nat) (enc : α → List Value) (w : World) (n : Nat) (l : List α) (v : Value) (wr : World) : Prop :=
  ∃ A c, v = .slice A n c ∧ FRow e size enc wr w.heap.size A n c l ∧ Below w.heap.size w wr
def AppB {α : Type} (e size : Nat) (enc : α → List Value) (w : World) (B n : Nat) (l : List α) (v : Value) (wr : World) : Prop :=
  ∃ A c, v = .slice A n c ∧ FRow e size enc wr B A n c l ∧ Below w.heap.size w wr
theorem keep_at {w w' : World} {B : Nat} (hb : Below B w w') {a : Addr} {v : Value} (ha : a.block < B) (h : w.cell? a = some v) : w'.cell? a = some v := (hb.cell ha).trans h
/-- what a function value that is asked of elements answers, wherever nothing below B has changed -/
def Pred {α : Type} (P : Program) (kf : Nat) (caps : Array Value) (v : α → Value) (p : α → Bool) (l : List α) (B : Nat) (w : World) : Prop :=
  ∀ w', Below B w w' → ∀ x ∈ l, Calls P kf (#[v x] ++ caps) w' fun e w2 => e = .returned (.bool (p x)) ∧ Below w'.heap.size w' w2
def idxI {α : Type} (p : α → Bool) (l : List α) : Int := match l.findIdx? p with | some i => i | none => -1
theorem idxI_at {α : Type} {p : α → Bool} {l : List α} {k : Nat} (hk : k < l.length) (hn : noneTo p l k) (h : p l[k] = true) : idxI p l = k := by
  unfold idxI
  rw [List.findIdx?_eq_some_iff_getElem.2 ⟨hk, h, fun j hj => by rw [hn j (by omega) hj]; simp⟩]
theorem idxI_none {α : Type} {p : α → Bool} {l : List α} {k : Nat} (hk : l.length ≤ k) (hn : noneTo p l k) : idxI p l = -1 := by
  unfold idxI
  rw [List.findIdx?_eq_none_iff.2 fun x hx => by obtain ⟨i, hi, rfl⟩ := List.getElem_of_mem hx; exact hn i hi (by omega)]
theorem idxI_nonneg {α : Type} (p : α → Bool) (l : List α) : decide (0 ≤ idxI p l) = l.any p := by
  unfold idxI
  cases h : l.findIdx? p with
  | none =>
    have h2 := List.findIdx?_eq_none_iff.1 h
    have h3 : l.any p = false := by rw [List.any_eq_false]; exact fun x hx => by rw [h2 x hx]; simp
    rw [h3]; rfl
  | some i =>
    obtain ⟨h1, h2, _⟩ := List.findIdx?_eq_some_iff_getElem.1 h
    have h3 : l.any p = true := List.any_eq_true.2 ⟨_, List.getElem_mem h1, h2⟩
    rw [h3]; exact decide_eq_true (show (0 : Int) ≤ (i : Int) by omega)
theorem noneTo_fun {α : Type} {p : α → Bool} {l : List α} {k : Nat} (h : noneTo p l k) : ∀ i (hi : i < l.length), i < k → p l[i] = false := fun i hi hk => h i hi hk
set_option maxHeartbeats 800000 in
theorem slices_Clone_Attr (A : Option Addr) (n c : Nat) (l : List Atr) (w : World) (hS : Sl 4 RAtr w A n l) (hn : n ≤ 1073741824) :
    Calls Try.prog 124 #[.slice A n c] w (NewRow id 84 4 eAtr w l) := by
  obtain rfl : l.length = n := hS.len
  obtain ⟨ii, hi, hi0, hi1, hi2⟩ := info_parts info_Attr
  have hnil := fun (w : World) (a : Option Addr) (n c : Nat) => Lib.run_eql_slice_nil (P := Try.prog) w 26 _ a n c 0 0 Try.underlying26
  cases A with
  | none =>
    have h0 : l.length = 0 := by
      rcases Nat.eq_zero_or_pos l.length with h | h
      · exact h
      · obtain ⟨_, _, h, _⟩ := hS.at_ h; cases h
    obtain rfl : l = [] := List.eq_nil_of_length_eq_zero h0
    clear hS
    go_enter Try.func124, Try.ntmps124
    go_wp2_with fail
    go_returns
    exact ⟨none, 0, rfl, FRow.any0 _ _ _ _ _ _, by go_grown⟩
  | some a =>
    have HS := Lib.hid hS
    clear hS
    go_enter Try.func124, Try.ntmps124
    go_wp2_with (at_builtin; refine wpList_append_row rfl _ _ _ rfl encAtr Try.underlying26 hi hi0 hi1 hi2 rfl rfl rfl (FRow.any0 _ _ _ _ _ _) (Src.of_sl encAtr (fun h => h) (HS.out.mono mAtr (by go_grown))) (by unfold maxLen; omega) (by omega) (show w.heap.size ≤ _ by simp) ?_; intro A2 c2 w2 hr2 hc2 hx2)
    go_returns
    exact ⟨A2, c2, by simp, by simpa using hr2, (Below.refl _ _).trans (Below.mark (by go_grown) hc2 (by simp) (by simp [rowBs_zero]))⟩
set_option maxHeartbeats 800000 in
theorem slices_IndexFunc_Attr (A : Option Addr) (n c : Nat) (l : List Atr) (kf : Nat) (caps : Array Value) (p : Atr → Bool) (B : Nat) (w : World) (hS : Sl 4 RAtr w A n l) (hn : n ≤ 1073741824) (hB : B ≤ w.heap.size)
    (hcf : ∀ args w, (callFunc kf args).run Try.prog w = .ok (.enter kf args) w) (hp : Pred Try.prog kf caps (fun a : Atr => .agg #[.string a.name, .int .i64 a.val.kind, .int .i64 a.val.int, .string a.val.str]) p l B w) :
    Calls Try.prog 66 #[.slice A n c, .func (.func kf) #[] caps] w fun e w' => e = .returned (.int .i64 (idxI p l)) ∧ Below w.heap.size w w' := by
  obtain rfl : l.length = n := hS.len
  have HP := Lib.hid hp
  clear hp
  go_enter Try.func66, Try.ntmps66
  go_wp2_with fail
  go_loopw [8] (fun i wr => ∃ k : Nat, k ≤ l.length ∧ i = .int .i64 k ∧ noneTo p l k ∧ Below w.heap.size w wr) (fun i _ => l.length - (intOf i).toNat)
  case atStart => exact ⟨0, Nat.zero_le _, rfl, noneTo_zero _ _, Below.refl _ _⟩
  case round =>
    obtain ⟨k, hk, rfl, hN, hb⟩ := hrel
    by_cases hlt : k < l.length
    · have i0 : (0 : Int) ≤ (k : Int) := by omega
      have i1 : (k : Int) < (l.length : Int) := by omega
      obtain ⟨b, off, rfl, bw, bc⟩ := hS.atr (by omega)
      have qq := bc k (by omega)
      obtain ⟨q0, q1, q2, q3⟩ := qq
      rw [← hb.cell (p := ⟨b, _, none⟩) bw] at q0 q1 q2 q3
      clear bc
      cases hf : p l[k] with
      | true =>
        have HZ := Lib.hid (idxI_at hlt hN hf)
        have HC := Lib.hid (HP.out wr (hb.mono hB) l[k] (List.getElem_mem _))
        have HF := Lib.hid hf
        clear hN hf
        go_wp2_with fail
        refine HC.out.mono ?_; rintro e w1 ⟨rfl, hb1⟩
        rw [HF.out]
        go_wp2_with fail
        go_returns
        exact ⟨ret_int HZ.out.symm, ex_trans hb hb1⟩
      | false =>
        have HN := Lib.hid (noneTo_succ hN (fun _ => hf))
        have HC := Lib.hid (HP.out wr (hb.mono hB) l[k] (List.getElem_mem _))
        have HF := Lib.hid hf
        clear hN hf
        go_wp2_with fail
        refine HC.out.mono ?_; rintro e w1 ⟨rfl, hb1⟩
        rw [HF.out]
        go_wp2_with fail
        go_roundw
        case rel => exact ⟨k + 1, by omega, by go_num, HN.out, ex_trans hb hb1⟩
        case measure => simp [intOf]; omega
    · have HZ := Lib.hid (idxI_none (by omega) hN)
      clear hN
      go_wp2_with fail
      go_returns
      exact ⟨ret_int HZ.out.symm, hb⟩
set_option maxHeartbeats 800000 in
theorem slices_Clone_int (A : Option Addr) (n c : Nat) (l : List Int) (w : World) (hS : Sl 1 RInt w A n l) (hn : n ≤ 1073741824) :
    Calls Try.prog 142 #[.slice A n c] w (NewRow id 3 1 eInt w l) := by
  obtain rfl : l.length = n := hS.len
  obtain ⟨ii, hi, hi0, hi1, hi2⟩ := info_parts info_int
  have hnil := fun (w : World) (a : Option Addr) (n c : Nat) => Lib.run_eql_slice_nil (P := Try.prog) w 24 _ a n c 0 0 Try.underlying24
  cases A with
  | none =>
    have h0 : l.length = 0 := by
      rcases Nat.eq_zero_or_pos l.length with h | h
      · exact h
      · obtain ⟨_, _, h, _⟩ := hS.at_ h; cases h
    obtain rfl : l = [] := List.eq_nil_of_length_eq_zero h0
    clear hS
    go_enter Try.func142, Try.ntmps142
    go_wp2_with fail
    go_returns
    exact ⟨none, 0, rfl, FRow.any0 _ _ _ _ _ _, by go_grown⟩
  | some a =>
    have HS := Lib.hid hS
    clear hS
    go_enter Try.func142, Try.ntmps142
    go_wp2_with (at_builtin; refine wpList_append_row rfl _ _ _ rfl encInt Try.underlying24 hi hi0 hi1 hi2 rfl rfl rfl (FRow.any0 _ _ _ _ _ _) (Src.of_sl encInt (fun h => h) (HS.out.mono mInt (by go_grown))) (by unfold maxLen; omega) (by omega) (show w.heap.size ≤ _ by simp) ?_; intro A2 c2 w2 hr2 hc2 hx2)
    go_returns
    exact ⟨A2, c2, by simp, by simpa using hr2, (Below.refl _ _).trans (Below.mark (by go_grown) hc2 (by simp) (by simp [rowBs_zero]))⟩
set_option maxHeartbeats 800000 in
theorem slices_IndexFunc_int (A : Option Addr) (n c : Nat) (l : List Int) (kf : Nat) (caps : Array Value) (p : Int → Bool) (B : Nat) (w : World) (hS : Sl 1 RInt w A n l) (hn : n ≤ 1073741824) (hB : B ≤ w.heap.size)
    (hcf : ∀ args w, (callFunc kf args).run Try.prog w = .ok (.enter kf args) w) (hp : Pred Try.prog kf caps (fun x : Int => .int .i64 x) p l B w) :
    Calls Try.prog 101 #[.slice A n c, .func (.func kf) #[] caps] w fun e w' => e = .returned (.int .i64 (idxI p l)) ∧ Below w.heap.size w w' := by
  obtain rfl : l.length = n := hS.len
  have HP := Lib.hid hp
  clear hp
  go_enter Try.func101, Try.ntmps101
  go_wp2_with fail
  go_loopw [8] (fun i wr => ∃ k : Nat, k ≤ l.length ∧ i = .int .i64 k ∧ noneTo p l k ∧ Below w.heap.size w wr) (fun i _ => l.length - (intOf i).toNat)
  case atStart => exact ⟨0, Nat.zero_le _, rfl, noneTo_zero _ _, Below.refl _ _⟩
  case round =>
    obtain ⟨k, hk, rfl, hN, hb⟩ := hrel
    by_cases hlt : k < l.length
    · have i0 : (0 : Int) ≤ (k : Int) := by omega
      have i1 : (k : Int) < (l.length : Int) := by omega
      obtain ⟨b, off, rfl, bw, bc⟩ := hS.int (by omega)
      have qq := bc k (by omega)
      have q0 := qq
      clear qq
      rw [← hb.cell (p := ⟨b, _, none⟩) bw] at q0
      clear bc
      cases hf : p l[k] with
      | true =>
        have HZ := Lib.hid (idxI_at hlt hN hf)
        have HC := Lib.hid (HP.out wr (hb.mono hB) l[k] (List.getElem_mem _))
        have HF := Lib.hid hf
        clear hN hf
        go_wp2_with fail
        refine HC.out.mono ?_; rintro e w1 ⟨rfl, hb1⟩
        rw [HF.out]
        go_wp2_with fail
        go_returns
        exact ⟨ret_int HZ.out.symm, ex_trans hb hb1⟩
      | false =>
        have HN := Lib.hid (noneTo_succ hN (fun _ => hf))
        have HC := Lib.hid (HP.out wr (hb.mono hB) l[k] (List.getElem_mem _))
        have HF := Lib.hid hf
        clear hN hf
        go_wp2_with fail
        refine HC.out.mono ?_; rintro e w1 ⟨rfl, hb1⟩
        rw [HF.out]
        go_wp2_with fail
        go_roundw
        case rel => exact ⟨k + 1, by omega, by go_num, HN.out, ex_trans hb hb1⟩
        case measure => simp [intOf]; omega
    · have HZ := Lib.hid (idxI_none (by omega) hN)
      clear hN
      go_wp2_with fail
      go_returns
      exact ⟨ret_int HZ.out.symm, hb⟩
set_option maxHeartbeats 800000 in
theorem impl_AttrNames (f : Fil) (A : Option Addr) (n c : Nat) (w : World) (hS : Sl 4 RAtr w A n f.attrs) (hn : n ≤ 1073741824) :
    Calls Try.prog 14 #[f.v A n c] w (NewRow id 9 1 eStr w (f.attrs.map (·.name))) := by
  obtain rfl : f.attrs.length = n := hS.len
  obtain ⟨ii, hi, hi0, hi1, hi2⟩ := info_parts info_string
  go_enter Try.func14, Try.ntmps14
  go_wp2_with fail
  go_loopw [3, 10] (fun v i wr => ∃ k : Nat, k ≤ f.attrs.length ∧ i = .int .i64 k ∧ App 9 1 eStr w k ((f.attrs.take k).map (·.name)) v wr) (fun _ i _ => f.attrs.length - (intOf i).toNat)
  case atStart => exact ⟨0, Nat.zero_le _, rfl, _, _, rfl, FRow.any0 _ _ _ _ _ _, by go_grown⟩
  case round =>
    obtain ⟨k, hk, rfl, A1, c1, rfl, hrow, hb⟩ := hrel
    by_cases hlt : k < f.attrs.length
    · obtain ⟨b, off, rfl, bw, bc⟩ := hS.atr (by omega)
      obtain ⟨q0, q1, q2, q3⟩ := bc k (by omega)
      rw [← hb.cell (p := ⟨b, _, none⟩) bw] at q0 q1 q2 q3
      have i0 : (0 : Int) ≤ (k : Int) := by omega
      have i1 : (k : Int) < (f.attrs.length : Int) := by omega
      have HR := Lib.hid hrow
      have HT := Lib.hid (take_map_succ (·.name) f.attrs hlt)
      clear bc hrow
      go_wp2_with (at_builtin; refine wpList_append_row rfl _ _ _ rfl encStr Try.underlying34 hi hi0 hi1 hi2 rfl rfl rfl (HR.out.below (by go_grown)) (src1 encStr _ f.attrs[k].name _ (by simp) rfl) (by unfold maxLen; omega) (by omega) (by have := hb.size; simp; omega) ?_; intro A2 c2 w2 hr2 hc2 hx2)
      have HR2 := Lib.hid (show App 9 1 eStr w (k + 1) ((f.attrs.take (k + 1)).map (·.name)) (.slice A2 (k + 1) c2) w2 from ⟨A2, c2, rfl, by rw [HT.out]; exact hr2, Below.mark (ex_trans hb (by go_grown)) hc2 (by have := hb.size; simp; omega) (fun b hb' => (HR.out.base b hb').1)⟩)
      clear hr2
      go_wp2_with fail
      go_roundw
      case rel => exact ⟨k + 1, by omega, by go_num, HR2.out⟩
      case measure => simp [intOf]; omega
    · have hrow' := hrow
      rw [List.take_of_length_le (by omega)] at hrow'
      obtain rfl : f.attrs.length = k := by omega
      have HR := Lib.hid hrow'
      clear hrow hrow'
      go_wp2_with fail
      go_returns
      exact ⟨A1, c1, by simp, by simpa using HR.out, hb⟩
set_option maxHeartbeats 800000 in
theorem spec_AttrNames (f : Fil) (A : Option Addr) (n c : Nat) (w : World) (hS : Sl 4 RAtr w A n f.attrs) (hn : n ≤ 1073741824) :
    Calls Try.prog 87 #[f.v A n c] w (NewRow id 9 1 eStr w (f.attrs.map (·.name))) := by
  obtain rfl : f.attrs.length = n := hS.len
  obtain ⟨ii, hi, hi0, hi1, hi2⟩ := info_parts info_string
  go_enter Try.func87, Try.ntmps87
  go_wp2_with fail
  go_loopw [3, 4] (fun v i wr => ∃ k : Nat, k ≤ f.attrs.length ∧ i = .int .i64 k ∧ wr.cell? ⟨w.heap.size, 4, none⟩ = some (.slice A f.attrs.length c) ∧ w.heap.size < wr.heap.size ∧ AppB 9 1 eStr w (w.heap.size + 1) k ((f.attrs.take k).map (·.name)) v wr) (fun _ i _ => f.attrs.length - (intOf i).toNat)
  case atStart => exact ⟨0, Nat.zero_le _, rfl, by go_simp, by simp <;> omega, _, _, rfl, FRow.any0 _ _ _ _ _ _, by go_grown⟩
  case round =>
    obtain ⟨k, hk, rfl, x4, hz, A1, c1, rfl, hrow, hb⟩ := hrel
    by_cases hlt : k < f.attrs.length
    · obtain ⟨b, off, rfl, bw, bc⟩ := hS.atr (by omega)
      obtain ⟨q0, q1, q2, q3⟩ := bc k (by omega)
      rw [← hb.cell (p := ⟨b, _, none⟩) bw] at q0 q1 q2 q3
      have i0 : (0 : Int) ≤ (k : Int) := by omega
      have i1 : (k : Int) < (f.attrs.length : Int) := by omega
      have HR := Lib.hid hrow
      have HT := Lib.hid (take_map_succ (·.name) f.attrs hlt)
      clear bc hrow
      go_wp2_with (at_builtin; refine wpList_append_row rfl _ _ _ rfl encStr Try.underlying34 hi hi0 hi1 hi2 rfl rfl rfl (HR.out.below (by go_grown)) (src1 encStr _ f.attrs[k].name _ (by simp) rfl) (by unfold maxLen; omega) (by omega) (by simp; omega) ?_; intro A2 c2 w2 hr2 hc2 hx2)
      have HR2 := Lib.hid (show AppB 9 1 eStr w (w.heap.size + 1) (k + 1) ((f.attrs.take (k + 1)).map (·.name)) (.slice A2 (k + 1) c2) w2 from ⟨A2, c2, rfl, by rw [HT.out]; exact hr2, Below.mark (ex_trans hb (by go_grown)) hc2 (by have := hb.size; simp; omega) (fun b hb' => by have := (HR.out.base b hb').1; omega)⟩)
      have x4' := keep_at (hc2.below (B := w.heap.size + 1) (by simp; omega) (fun b hb' => (HR.out.base b hb').1)) (by simp) (keep_cell (w := wr) (by go_grown) x4)
      have hz' : w.heap.size < w2.heap.size := by have := hc2.size; simp at this; omega
      clear hr2
      go_wp2_with fail
      go_roundw
      case rel => exact ⟨k + 1, by omega, by go_num, x4', hz', HR2.out⟩
      case measure => simp [intOf]; omega
    · have hrow' := hrow
      rw [List.take_of_length_le (by omega)] at hrow'
      obtain rfl : f.attrs.length = k := by omega
      have HR := Lib.hid hrow'
      clear hrow hrow'
      go_wp2_with fail
      go_returns
      exact ⟨A1, c1, by simp, (by simpa using HR.out : FRow _ _ _ _ (w.heap.size + 1) _ _ _ _).re fun b hb => by have := (HR.out.base b hb).1; omega, hb⟩
end Go.Proofs.Ytjobgnioehkomaa
