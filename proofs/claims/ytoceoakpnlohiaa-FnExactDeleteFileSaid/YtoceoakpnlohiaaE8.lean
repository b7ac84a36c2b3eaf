/-
  CONTRACTS: slices.Delete of one file; a file is struck from a store.
-/
import Derived.WalkKit
import Derived.WalkSpells
import Derived.WalkLawsBesides
import Derived.Lib.Hide
import Derived.Handy
import Derived.StillTailTactics
import Derived.Deep.Light
import Derived.Deep.QuietTactic
import Derived.BigQuiet
import Derived.Deep.RegionHeld3
import Derived.Deep.RegionLaw
import Derived.Sort.Walk0
import Derived.Deep.DeepCutAuto
import Derived.Maps.AppendAt
import Derived.Deep.AppendLies
import Derived.Test.YtoceoakpnlohiaaLib
import Derived.Test.YtoceoakpnlohiaaOwn
import Derived.Test.YtoceoakpnlohiaaRow
import Derived.Test.YtoceoakpnlohiaaN0
import Derived.Test.YtoceoakpnlohiaaRaw
import Derived.Test.YtoceoakpnlohiaaHld
import Derived.Test.YtoceoakpnlohiaaM0
import Derived.Test.YtoceoakpnlohiaaC1
import Derived.Test.YtoceoakpnlohiaaC2
import Derived.Test.YtoceoakpnlohiaaT1
import Derived.Test.YtoceoakpnlohiaaT2
import Derived.Test.YtoceoakpnlohiaaT3
import Derived.Test.YtoceoakpnlohiaaT4
import Derived.Test.YtoceoakpnlohiaaC3
import Derived.Test.YtoceoakpnlohiaaC4
import Derived.Test.YtoceoakpnlohiaaC5
import Derived.Test.YtoceoakpnlohiaaC8
import Derived.Test.YtoceoakpnlohiaaD1
import Derived.Test.YtoceoakpnlohiaaD3
import Derived.Test.YtoceoakpnlohiaaD5
import Derived.Test.YtoceoakpnlohiaaD7
import Derived.Test.YtoceoakpnlohiaaH1
import Derived.Test.YtoceoakpnlohiaaE3
import Derived.Test.YtoceoakpnlohiaaE4
import Derived.Test.YtoceoakpnlohiaaE5
import Derived.Test.YtoceoakpnlohiaaE6
import Derived.Test.YtoceoakpnlohiaaRows
namespace Go.Proofs.Ytoceoakpnlohiaa
open Go.RowKit
set_option linter.unusedVariables false
set_option maxRecDepth 100000
section
variable {α : Type} {P : Program} {size bytes : Nat} {enc : α → List Value} {w : World} {B n c m d : Nat} {A A2 : Option Addr} {l l2 : List α} {t ty e : TypeId} {i : TypeInfo} {z : Value}
theorem run_append_row_room (hE : Enc size enc) (ht : P.underlying t = some (.slice e)) (hi : P.info? e = some i) (hsize : i.size = size)
    (h : FRow e size enc w B A n c l) (hs : Src size enc w A2 m l2) (hroom : n + m ≤ c) :
    ∃ w', (Builtin.append_ #[t, t] ty #[.slice A n c, .slice A2 m d]).run P w = .ok (.slice A (n + m) c) w' ∧ FRow e size enc w' B A (n + m) c (l ++ l2) ∧ Chg (rowBs A c) w w' := by
  have hnl : (l2.flatMap enc).length = m * size := by rw [flat_len hE, hs.1]
  rcases Nat.eq_zero_or_pos m with hm | hm
  · subst hm
    obtain rfl : l2 = [] := List.eq_nil_of_length_eq_zero hs.1
    refine ⟨w, ?_, by simpa using h, Chg.refl _ _⟩
    have hnc := h.le
    cases A2 <;> cases A <;> simp [Builtin.append_, run_underlying ht, sizeOf, typeInfo, hi, Builtin.lenOf, Builtin.firstCells, hnc, storeCells, loadCells, loadCellsFrom]
  · obtain ⟨a2, rfl, hlt, hc2⟩ := hs.2 hm
    subst hsize
    obtain ⟨_, hnc, hcm, h0 | ⟨g, cur, hA, hBg, hg, hcs, htake⟩⟩ := h
    · omega
    · subst hA
      have hfit2 : n * i.size + (l2.flatMap enc).length ≤ cur.size := by rw [hnl, hcs, ← Nat.add_mul]; exact Nat.mul_le_mul_right _ hroom
      have hr := run_append_room (P := P) w t ty e i ht hi g n c cur hg a2 m d _ hnl hc2 (flat_one hE _) hroom hfit2
      have hrb : rowBs (some ⟨g, 0, none⟩) c = [g] := rowBs_pos (by omega)
      refine ⟨_, hr, ⟨by rw [List.length_append, ‹l.length = n›, hs.1], hroom, hcm, .inr ⟨g, _, rfl, hBg, setRow_heap w g cur _ e _ hg, ?_, ?_⟩⟩, ⟨rfl, rfl, rfl, by simp, fun k _ hk => setRow_other w g k _ (fun e => hk (by rw [hrb, e]; simp))⟩⟩
      · simp only [List.size_toArray, List.length_append, List.length_take, List.length_drop, Array.length_toList]
        omega
      · rw [htake, ← List.flatMap_append]
        have e2 : ((l ++ l2).flatMap enc).length = (n + m) * i.size := by rw [flat_len hE, List.length_append, ‹l.length = n›, hs.1]
        rw [← e2]
        exact List.take_left
theorem step_append_row_room {ops : Array Oper} {o : Oper} {a : Act} {K : Act → World → Prop} {Q : Exit → Act → World → Prop} {E : Prop} (hgd : o.guard = none) (s x : Operand) (t : TypeId)
    (ho : o.op = .call { callee := .builtin .append, args := #[s, x], argTypes := #[t, t] })
    (hE : Enc size enc) (ht : P.underlying t = some (.slice e)) (hi : P.info? e = some i) (hsize : i.size = size)
    (hs : a.eval s = .slice A n c) (hx : a.eval x = .slice A2 m d)
    (h : FRow e size enc w B A n c l) (hsrc : Src size enc w A2 m l2) (hroom : n + m ≤ c)
    (hK : ∀ w', FRow e size enc w' B A (n + m) c (l ++ l2) → Chg (rowBs A c) w w' → K (a.put o.dst (.slice A (n + m) c)) w') :
    if Region.wanted o (yielded ops a.tmps) = true then Oper.wp P o a w K Q else E := by
  have hw : Region.wanted o (yielded ops a.tmps) = true := by simp [Region.wanted, hgd]
  rw [if_pos hw]
  obtain ⟨w', hrun, h2, h3⟩ := run_append_row_room (P := P) (ty := o.type) (d := d) hE ht hi hsize h hsrc hroom
  unfold Oper.wp execOp
  simp only [ho, resolve, invoke, builtin, Sem.run_bind, Sem.run_pure, Result.andThen_ok, List.map_toArray, List.map_cons, List.map_nil, hs, hx, hrun]
  exact hK w' h2 h3
/-- cells behind the elements, within the capacity, are cleared -/
theorem run_clear_spare (hE : Enc size enc) (ht : P.underlying t = some (.slice e)) (hz : ∀ w, (zeroValue e).run P w = .ok z w) (hzs : z.cells.size = size) (hz1 : ∀ u ∈ z.cells.toList, u.oneCell' = true)
    (h : FRow e size enc w B A n c l) (hm : n + m ≤ c) (A' : Option Addr) (hA : 0 < m → ∀ g, A = some ⟨g, 0, none⟩ → A' = some ⟨g, n * size, none⟩) :
    ∃ w', (Builtin.clear_ #[t] ty #[.slice A' m d]).run P w = .ok (.tuple #[]) w' ∧ FRow e size enc w' B A n c l ∧ Chg (rowBs A c) w w' := by
  rcases Nat.eq_zero_or_pos m with h0 | h0
  · subst h0
    refine ⟨w, ?_, h, Chg.refl _ _⟩
    cases A' <;> simp [Builtin.clear_, run_underlying ht]
  · obtain ⟨g, hAg, hB, hg, hr, cur, hcur, hs, htk⟩ := h.row (by omega)
    obtain rfl := hA h0 g hAg
    have hzl : (Builtin.zeroCells z.cells m).toList.length = m * size := by rw [Array.length_toList, size_zeroCells, hzs]
    have hle : (n + m) * size ≤ c * size := Nat.mul_le_mul_right _ hm
    rw [Nat.add_mul] at hle
    have h1 : ∀ u ∈ (Builtin.zeroCells z.cells m).toList, u.oneCell' = true := fun u hu => by
      have hu' : u ∈ Builtin.zeroCells z.cells m := Array.mem_toList_iff.1 hu
      unfold Builtin.zeroCells at hu'
      rw [Array.mem_map] at hu'
      obtain ⟨i, hi, rfl⟩ := hu'
      have hlt : i % z.cells.size < z.cells.size := Nat.mod_lt _ (by rw [hzs]; exact hE.pos)
      rw [getElem!_pos z.cells (i % z.cells.size) hlt]
      exact hz1 _ (Array.getElem_mem_toList hlt)
    have hst := run_storeCells_at P g (n * size) e (Builtin.zeroCells z.cells m).toList 0 cur w hcur (by rw [hzl, hs]; omega) h1
    simp only [Nat.add_zero] at hst
    obtain ⟨m', rfl⟩ : ∃ m', m = m' + 1 := ⟨m - 1, by omega⟩
    refine ⟨w.setRow g (cur.toList.take (n * size) ++ (Builtin.zeroCells z.cells (m' + 1)).toList ++ cur.toList.drop (n * size + (Builtin.zeroCells z.cells (m' + 1)).toList.length)).toArray, by simp [Builtin.clear_, run_underlying ht, hz, hst], ⟨h.len, h.le, h.2.2.1, .inr ⟨g, _, hAg, hB, setRow_heap w g cur _ e _ hcur, ?_, ?_⟩⟩, ⟨rfl, rfl, rfl, by simp, fun b hb hn => setRow_other w g b _ (fun e => hn (by rw [hr, e]; simp))⟩⟩
    · simp only [List.size_toArray, List.length_append, List.length_take, List.length_drop, Array.length_toList, hzl]
      omega
    · rw [htk, List.append_assoc]
      have e2 : (l.flatMap enc).length = n * size := by rw [flat_len hE, h.len]
      rw [← e2]
      exact List.take_left
theorem wpList_clear_spare {ops : Array Oper} {rest : List Oper} {o : Oper} {a : Act} {Q : Exit → Act → World → Prop} (hgd : o.guard = none) (s : Operand)
    (ho : o.op = .call { callee := .builtin .clear, args := #[s], argTypes := #[t] }) (hE : Enc size enc)
    (ht : P.underlying t = some (.slice e)) (hz : ∀ w, (zeroValue e).run P w = .ok z w) (hzs : z.cells.size = size) (hz1 : ∀ u ∈ z.cells.toList, u.oneCell' = true)
    (h : FRow e size enc w B A n c l) (hm : n + m ≤ c) (A' : Option Addr) (hA : 0 < m → ∀ g, A = some ⟨g, 0, none⟩ → A' = some ⟨g, n * size, none⟩) (hs : a.eval s = .slice A' m d)
    (hK : ∀ w', FRow e size enc w' B A n c l → Chg (rowBs A c) w w' → wpList P ops Q rest (a.put o.dst (.tuple #[])) w') : wpList P ops Q (o :: rest) a w := by
  refine wpList_plain hgd fun K hK' => ?_
  obtain ⟨w', hrun, h2, h3⟩ := run_clear_spare (P := P) (ty := o.type) (d := d) hE ht hz hzs hz1 h hm A' hA
  unfold Oper.wp execOp
  simp only [ho, resolve, invoke, builtin, Sem.run_bind, Sem.run_pure, Result.andThen_ok, List.map_toArray, List.map_cons, List.map_nil, hs, hrun]
  exact hK' _ _ (hK w' h2 h3)
end
theorem zero_File : ∀ w, (zeroValue 60).run Try.prog w = .ok (.agg #[.int .i64 0, .int .i64 0, .bool false, .int .i64 0, .slice none 0 0]) w := fun _ => by kernel_rfl
set_option maxHeartbeats 3200000 in
theorem slices_Delete_File (A : Option Addr) (n c i B : Nat) (l : List Fh) (w : World) (h : FRow 60 5 eFh w B A n c l) (hi : i < n) (hn : n ≤ 1073741824) (hB : B ≤ w.heap.size) :
    Calls Try.prog 121 #[.slice A n c, .int .i64 i, .int .i64 ((i : Int) + 1)] w fun e' w' => e' = .returned (.slice A (n - 1) c) ∧ FRow 60 5 eFh w' B A (n - 1) c (l.take i ++ l.drop (i + 1)) ∧ Chg (rowBs A c) w w' := by
  obtain ⟨ii, hin, hi0, hi1, hi2⟩ := info_parts info_File
  have hcn := h.le
  obtain ⟨g, rfl, hBg, hgw, hrb, -⟩ := h.row (by omega)
  have HR := Lib.hid h
  have hcb : c ≤ 9223372036854775807 := by have := h.2.2.1; unfold maxLen at this; exact this
  have i0 : (0 : Int) ≤ (i : Int) := by omega
  have i1 : (i : Int) ≤ (n : Int) := by omega
  have i2 : (i : Int) ≤ (c : Int) := by omega
  have i3 : (i : Int) + 1 ≤ (n : Int) := by omega
  have i4 : (0 : Int) ≤ (i : Int) + 1 := by omega
  have i5 : (n : Int) ≤ (c : Int) := by omega
  have i6 : ((i : Int) == (i : Int) + 1) = false := by simp; omega
  have i7 : (i : Int) ≤ (i : Int) + 1 := by omega
  have i8 : (i : Int) + 1 ≤ (c : Int) := by omega
  have i9 : ((i : Int) + 1).toNat = i + 1 := by omega
  have i10 : ¬ (c = i) := by omega
  by_cases hci : c = i + 1
  · subst hci
    obtain rfl : n = i + 1 := by omega
    have hdl : l.drop (i + 1) = [] := List.drop_of_length_le (by rw [h.len]; exact Nat.le_refl _)
    rw [hdl]
    clear h hdl
    go_enter Try.func121, Try.ntmps121
    go_wp2_with fail
    go_region_law (refine step_append_row_room rfl (.tmp 22) (.tmp 25) _ rfl encFh Try.underlying30 hin hi1 rfl rfl ((HR.out.below (by go_grown)).cut encFh (k := i) (by omega)) (Src.none0 _ _) (by omega) ?_; intro w6 hr6 hc6)
    all_goals
      have HR6 := Lib.hid hr6
      have HC6 := Lib.hid hc6
      clear hr6 hc6
      go_wp2_with (refine wpList_clear_spare rfl _ rfl encFh Try.underlying30 zero_File rfl (by simp [Value.oneCell', Value.cells]) HR6.out (m := 1) (by omega) _ ?hA rfl ?_)
      case hA => intro _ g2 hg2; simp at hg2; subst hg2; simp
      intro w7 hr7 hc7
      have HR7 := Lib.hid hr7
      have HC7 := Lib.hid hc7
      clear hr7 hc7
      go_wp2_with fail
      go_returns
      exact ⟨rfl, by simpa using HR7.out, hrb ▸ ((Chg.of_below _ (by go_grown : Below w.heap.size w w.drew)).trans (hrb ▸ HC6.out)).trans (hrb ▸ HC7.out)⟩
  · skip
    have HS := Lib.hid (show ∀ AA, (¬ (c = i + 1) → AA = some (⟨g, (i + 1) * 5, none⟩ : Addr)) → Src 5 eFh w AA (n - (i + 1)) (l.drop (i + 1)) from fun AA hAA => by
      by_cases hq : c = i + 1
      · have e1 : n - (i + 1) = 0 := by omega
        have e2 : l.drop (i + 1) = [] := List.drop_of_length_le (by rw [h.len]; omega)
        rw [e1, e2]; exact Src.none0 _ _
      · rw [hAA hq]
        have hh := (Src.of_row encFh h).drop encFh (k := i + 1) (by omega)
        rw [Nat.zero_add] at hh; exact hh)
    clear h
    go_enter Try.func121, Try.ntmps121
    go_wp2_with fail
    go_region_law (refine step_append_row_room rfl (.tmp 22) (.tmp 25) _ rfl encFh Try.underlying30 hin hi1 rfl rfl ((HR.out.below (by go_grown)).cut encFh (k := i) (by omega)) ((HS.out _ (fun h => by first | rfl | exact absurd hci h)).below (by go_grown)) (by omega) ?_; intro w6 hr6 hc6)
    all_goals
      have HR6 := Lib.hid hr6
      have HC6 := Lib.hid hc6
      clear hr6 hc6
      go_wp2_with (refine wpList_clear_spare rfl _ rfl encFh Try.underlying30 zero_File rfl (by simp [Value.oneCell', Value.cells]) HR6.out (m := n - (i + (n - (i + 1)))) (by omega) _ ?hA rfl ?_)
      case hA => intro _ g2 hg2; simp at hg2; subst hg2; simp
      intro w7 hr7 hc7
      have HR7 := Lib.hid hr7
      have HC7 := Lib.hid hc7
      clear hr7 hc7
      go_wp2_with fail
      go_returns
      have e9 : i + (n - (i + 1)) = n - 1 := by omega
      rw [e9]
      have h9 := HR7.out
      rw [e9] at h9
      exact ⟨rfl, h9, ((Chg.of_below _ (by go_grown : Below w.heap.size w w.drew)).trans HC6.out).step HC7.out (fun b hb _ => by first | exact hb | (rw [hrb]; exact hb))⟩
end Go.Proofs.Ytoceoakpnlohiaa
