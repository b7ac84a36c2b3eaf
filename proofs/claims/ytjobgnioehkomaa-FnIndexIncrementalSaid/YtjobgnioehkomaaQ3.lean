/-
  CONTRACTS: RemoveFromIndex.
-/
import Derived.WalkKit
import Derived.WalkSpells
import Derived.WalkLawsBesides
import Derived.Lib.Hide
import Derived.Handy
import Derived.StillTailTactics
import Derived.Deep.Light
import Derived.Deep.QuietTactic
import Derived.BigQuiet
import Derived.Deep.RegionHeld3
import Derived.Deep.RegionLaw
import Derived.Sort.Walk0
import Derived.Deep.DeepCutAuto
import Derived.Test.YtjobgnioehkomaaLib
import Derived.Test.YtjobgnioehkomaaOwn
import Derived.Test.YtjobgnioehkomaaRow
import Derived.Test.YtjobgnioehkomaaN0
import Derived.Test.YtjobgnioehkomaaRaw
import Derived.Test.YtjobgnioehkomaaHld
import Derived.Test.YtjobgnioehkomaaM0
import Derived.Test.YtjobgnioehkomaaC1
import Derived.Test.YtjobgnioehkomaaC2
import Derived.Test.YtjobgnioehkomaaT1
import Derived.Test.YtjobgnioehkomaaT2
import Derived.Test.YtjobgnioehkomaaT3
import Derived.Test.YtjobgnioehkomaaT4
import Derived.Test.YtjobgnioehkomaaC3
import Derived.Test.YtjobgnioehkomaaC4
import Derived.Test.YtjobgnioehkomaaC5
import Derived.Test.YtjobgnioehkomaaD1
import Derived.Test.YtjobgnioehkomaaD3
import Derived.Test.YtjobgnioehkomaaD5
import Derived.Test.YtjobgnioehkomaaH1
import Derived.Test.YtjobgnioehkomaaE4
import Derived.Test.YtjobgnioehkomaaE5
import Derived.Test.YtjobgnioehkomaaQ0
import Derived.Test.YtjobgnioehkomaaQ1
import Derived.Test.YtjobgnioehkomaaQ2
import Derived.Test.YtjobgnioehkomaaRows
namespace Go.Proofs.Ytjobgnioehkomaa
open Go.RowKit
set_option linter.unusedVariables false
set_option maxRecDepth 100000
theorem FRow.apart {α : Type} {e size : Nat} {enc : α → List Value} {w : World} {B n c : Nat} {A : Option Addr} {l : List α} (h : FRow e size enc w B A n c l) {g T : Nat} {cs : Array Value} (hg : w.heap[g]? = some (.cells cs T (0, 0))) (hne : T ≠ e) : g ∉ rowBs A c := fun hm => by
  have hc : 0 < c := by
    rcases Nat.eq_zero_or_pos c with rfl | h0
    · simp [rowBs_zero] at hm
    · exact h0
  obtain ⟨g', -, -, -, hr, cur, hcur, -⟩ := h.row hc
  rw [hr] at hm
  obtain rfl : g = g' := by simpa using hm
  rw [hg] at hcur
  simp only [Option.some.injEq, Obj.cells.injEq] at hcur
  exact hne hcur.2.1
theorem NRow.apart {H β : Type} {K : NK H β} {w : World} {B n c : Nat} {A : Option Addr} {L : List (H × List β)} (h : NRow K w B A n c L) {g T : Nat} {cs : Array Value} (hg : w.heap[g]? = some (.cells cs T (0, 0))) (h1 : T ≠ K.e) (h2 : T ≠ K.e2) : g ∉ rowBs A c ++ K.all L := fun hm => by
  rcases List.mem_append.1 hm with hm | hm
  · exact h.1.apart hg h1 hm
  · obtain ⟨x, hx, hb⟩ := NK.all_mem.1 hm
    exact FRow.apart (h.2.1 x hx) hg h2 hb
/-- the cells of a header -/
theorem NRow.hcell {H β : Type} {K : NK H β} {w : World} {B n c : Nat} {A : Option Addr} {L : List (H × List β)} (hE : Enc K.size K.enc) (h : NRow K w B A n c L) (hn : 0 < n) : ∃ g, A = some ⟨g, 0, none⟩ ∧ B ≤ g ∧ g < w.heap.size ∧ rowBs A c = [g] ∧ (∀ j, w.frozen? ⟨g, j, none⟩ = false) ∧
    ∀ i (hi : i < L.length) j u, (K.enc L[i].1)[j]? = some u → w.cell? ⟨g, i * K.size + j, none⟩ = some u := by
  obtain ⟨g, hA, hB, hg, hr, hf, hc⟩ := h.1.cell hE hn
  refine ⟨g, hA, hB, hg, hr, hf, fun i hi j u hu => ?_⟩
  have := hc i (by simpa using hi) j u
  rw [List.getElem_map] at this
  exact this hu
theorem mix_step {α β : Type} {m' m : List β} (f : α → β) {L : List α} {j : Nat} (hl : m'.length = m.length) (hj : j < m.length) (hL : L.map f = mix m' m j) :
    ∃ hlt : j < L.length, f L[j] = m[j] ∧ (∀ x, f x = m'[j]'(by omega) → (L.set j x).map f = mix m' m (j + 1)) := by
  have hlen : L.length = m.length := by have := congrArg List.length hL; rw [List.length_map, mix_len hl (by omega)] at this; exact this
  refine ⟨by omega, ?_, fun x hx => ?_⟩
  · have h1 : (L.map f)[j]? = (mix m' m j)[j]? := by rw [hL]
    rw [List.getElem?_map, List.getElem?_eq_getElem (by omega), List.getElem?_eq_getElem (by rw [mix_len hl (by omega)]; exact hj), mix_at hl hj] at h1
    simpa using h1
  · rw [List.map_set, hL]
    exact mix_set hl hj hx.symm
theorem mapR_len (id : Int) : ∀ (ys : List Atr) (l : List Pst), (mapR id l ys).length = l.length
  | [], l => rfl
  | a :: ys, l => by
    have := mapR_len id ys (l.map (dropP a.name a.val id))
    rw [List.length_map] at this
    exact this
theorem mapR_succ (id : Int) (l : List Pst) (ys : List Atr) {k : Nat} (hk : k < ys.length) : mapR id l (ys.take (k + 1)) = (mapR id l (ys.take k)).map (dropP ys[k].name ys[k].val id) := by
  unfold mapR
  rw [List.take_succ_eq_append_getElem hk, List.foldl_append]
  rfl
theorem mapR_ids {id : Int} {M : Nat} : ∀ (ys : List Atr) (l : List Pst), (∀ p ∈ l, p.ids.length ≤ M) → ∀ p ∈ mapR id l ys, p.ids.length ≤ M
  | [], l, h => h
  | a :: ys, l, h => mapR_ids ys _ fun p hp => by
    obtain ⟨q, hq, rfl⟩ := List.mem_map.1 hp
    exact Nat.le_trans (dropP_cnt a.name a.val id q) (h q hq)
set_option maxHeartbeats 1600000 in
theorem spec_l07DropId (A : Option Addr) (n c : Nat) (l : List Int) (id : Int) (w : World) (hS : Sl 1 RInt w A n l) (hn : n ≤ 1073741824) :
    Calls Try.prog 111 #[.slice A n c, .int .i64 id] w (NewRow (fun v => v) 3 1 eInt w (dropId id l)) := by
  obtain rfl : l.length = n := hS.len
  obtain ⟨ii, hi, hi0, hi1, hi2⟩ := info_parts info_int
  go_enter Try.func111, Try.ntmps111
  go_wp2_with fail
  go_loopw [5, 6] (fun v i wr => ∃ k q : Nat, k ≤ l.length ∧ q ≤ k ∧ i = .int .i64 k ∧ App 3 1 eInt w q (dropId id (l.take k)) v wr) (fun _ i _ => l.length - (intOf i).toNat)
  case atStart => exact ⟨0, 0, Nat.zero_le _, Nat.le_refl _, rfl, _, _, rfl, FRow.any0 _ _ _ _ _ _, by go_grown⟩
  case round =>
    obtain ⟨k, q, hk2, hq, rfl, A1, c1, rfl, hrow, hb⟩ := hrel
    by_cases hlt : k < l.length
    · obtain ⟨b, off, rfl, bw, bc⟩ := hS.int (by omega)
      have q0 := bc k (by omega)
      rw [← hb.cell (p := ⟨b, _, none⟩) bw] at q0
      have i0 : (0 : Int) ≤ (k : Int) := by omega
      have i1 : (k : Int) < (l.length : Int) := by omega
      have HR := Lib.hid hrow
      clear bc hrow
      cases hf : (l[k] == id) with
      | true =>
        have HT := Lib.hid (show dropId id (l.take (k + 1)) = dropId id (l.take k) by unfold dropId; rw [take_filter_succ _ l hlt, hf]; simp)
        have hne : (l[k] != id) = false := by simpa [bne] using hf
        go_wp2_with fail
        go_roundw
        case rel => exact ⟨k + 1, q, by omega, by omega, by go_num, A1, c1, rfl, by rw [HT.out]; exact HR.out, hb⟩
        case measure => simp [intOf]; omega
      | false =>
        have HT := Lib.hid (show dropId id (l.take (k + 1)) = dropId id (l.take k) ++ [l[k]] by unfold dropId; rw [take_filter_succ _ l hlt, hf]; simp)
        have hne : (l[k] != id) = true := by simpa [bne] using hf
        go_wp2_with (at_builtin; refine wpList_append_row rfl _ _ _ rfl encInt Try.underlying24 hi hi0 hi1 hi2 rfl rfl rfl (HR.out.below (by go_grown)) (src1 encInt _ l[k] _ (by simp) rfl) (by unfold maxLen; omega) (by omega) (by have := hb.size; simp; omega) ?_; intro A3 c3 w5 hr5 hc5 hx5)
        have HR2 := Lib.hid (show App 3 1 eInt w (q + 1) (dropId id (l.take (k + 1))) (.slice A3 (q + 1) c3) w5 from ⟨A3, c3, rfl, by rw [HT.out]; exact hr5, Below.mark (ex_trans hb (by go_grown)) hc5 (by have := hb.size; simp; omega) (fun b hb' => by have := (HR.out.base b hb').1; omega)⟩)
        clear hr5
        go_wp2_with fail
        go_roundw
        case rel => exact ⟨k + 1, q + 1, by omega, by omega, by go_num, HR2.out⟩
        case measure => simp [intOf]; omega
    · rw [List.take_of_length_le (by omega)] at hrow
      obtain ⟨r, hr⟩ : ∃ r, r = dropId id l := ⟨_, rfl⟩
      rw [← hr] at hrow
      obtain rfl : r.length = q := hrow.len
      have HR := Lib.hid hrow
      have HE := Lib.hid hr
      clear hrow hr
      go_wp2_with fail
      go_returns
      rw [← HE.out]
      exact ⟨A1, c1, rfl, HR.out, hb⟩
theorem impl_RemoveFromIndex_1 (x n : Int) (b o : Nat) (w : World) (hc : w.cell? ⟨b, o, none⟩ = some (.int .i64 n)) :
    Calls Try.prog 108 #[.int .i64 x, .pointer (some ⟨b, o, none⟩)] w fun e w2 => e = .returned (.bool (x == n)) ∧ Below w.heap.size w w2 := by
  have hl := World.block_lt_of_cell? w _ hc
  simp only at hl
  go_enter Try.func108, Try.ntmps108
  go_wp2_with fail
  go_returns
  exact ⟨rfl, by go_grown⟩
theorem impl_RemoveFromIndex_2 (x : Ph) (w : World) :
    Calls Try.prog 110 #[.agg #[.string x.name, .int .i64 x.val.kind, .int .i64 x.val.int, .string x.val.str, .slice x.A x.n x.c]] w fun e w2 => e = .returned (.bool ((x.n : Int) == 0)) ∧ Below w.heap.size w w2 := by
  go_enter Try.func110, Try.ntmps110
  go_wp2_with fail
  go_returns
  exact ⟨ret_bool (by simp), by go_grown⟩

set_option maxHeartbeats 6400000 in
theorem impl_RemoveFromIndex (A : Option Addr) (n c : Nat) (l : List Pst) (f : Fil) (A2 : Option Addr) (n2 c2 : Nat) (w : World) (hT : Sl 5 RPst w A n l) (hS : Sl 4 RAtr w A2 n2 f.attrs) (hn : n ≤ 1073741824) (hn2 : n2 ≤ 1073741824) (hok : ∀ p ∈ l, p.ids.length ≤ 1073741824) :
    Calls Try.prog 40 #[.slice A n c, f.v A2 n2 c2] w (NewPsts 107 3 w (remX l f)) := by
  obtain rfl : l.length = n := hT.len
  obtain rfl : f.attrs.length = n2 := hS.len
  have HC := Lib.hid fun w' (hb : Below w.heap.size w w') => impl_copyIndex A l.length c l w' (hT.mono mPst hb) hn hok
  have HIDS := Lib.hid fun (k : Nat) => mapR_ids (id := f.id) (f.attrs.take k) l hok
  clear hT hok
  go_enter Try.func40, Try.ntmps40
  go_wp2_with fail
  refine (HC.out _ (by go_grown)).mono ?_; rintro e w1 ⟨A1, c1, rfl, hr1, hb1⟩
  have hB1 := ex_trans (w := w) (by go_grown) hb1
  have kf := below_keep hb1 (hp_new rfl)
  have uf := blk_cell? kf
  have hzf : w.heap.size < w1.heap.size := blk_lt kf
  have HR1 := Lib.hid (hr1.lower (show w.heap.size + 1 ≤ _ by simp))
  have HKF := Lib.hid kf
  have HB1 := Lib.hid hB1
  clear hr1 hb1 kf hB1
  go_wp2_with fail
  go_loopw [15] (fun i wr => ∃ k : Nat, k ≤ f.attrs.length ∧ i = .int .i64 k ∧ HasB wr [(w.heap.size, #[.int .i64 f.id, .int .i64 f.owner, .bool f.shared, .int .i64 f.link, .slice A2 f.attrs.length c2], 28)] ∧ PRows 107 3 wr (w.heap.size + 1) A1 l.length c1 (mapR f.id l (f.attrs.take k)) ∧ Below w.heap.size w wr) (fun i _ => f.attrs.length - (intOf i).toNat)
  case atStart => exact ⟨0, Nat.zero_le _, rfl, fun x hx => by simp only [List.mem_singleton] at hx; subst hx; exact HKF.out, HR1.out, HB1.out⟩
  case round =>
    obtain ⟨k, hk2, rfl, hbf, hrow, hb⟩ := hrel
    have HBF := Lib.hid hbf
    have HRW := Lib.hid hrow
    clear hbf hrow uf
    by_cases hlt : k < f.attrs.length
    · obtain ⟨b, off, rfl, bw, bc⟩ := hS.atr (by omega)
      obtain ⟨q0, q1, q2, q3⟩ := bc k (by omega)
      rw [← hb.cell (p := ⟨b, _, none⟩) bw] at q0 q1 q2 q3
      have i0 : (0 : Int) ≤ (k : Int) := by omega
      have i1 : (k : Int) < (f.attrs.length : Int) := by omega
      have bw' := keep_lt hb bw
      clear bc
      obtain ⟨m, hm⟩ : ∃ m, m = mapR f.id l (f.attrs.take k) := ⟨_, rfl⟩
      have hml : m.length = l.length := by rw [hm]; exact mapR_len _ _ _
      have HMI := Lib.hid (show ∀ p ∈ m, p.ids.length ≤ 1073741824 by rw [hm]; exact HIDS.out k)
      have HMS := Lib.hid (show mapR f.id l (f.attrs.take (k + 1)) = m.map (dropP f.attrs[k].name f.attrs[k].val f.id) by rw [hm]; exact mapR_succ _ _ _ hlt)
      have HRM := Lib.hid (show PRows 107 3 wr (w.heap.size + 1) A1 l.length c1 m by rw [hm]; exact HRW.out)
      have HML := Lib.hid hml
      clear hm HRW hml
      obtain ⟨W1, rfl⟩ : ∃ W1, W1 = wr := ⟨_, rfl⟩
      go_wp2_with fail
      go_loopw [21] (fun i wr => ∃ j : Nat, j ≤ l.length ∧ i = .int .i64 j ∧ HasB wr [(w.heap.size, #[.int .i64 f.id, .int .i64 f.owner, .bool f.shared, .int .i64 f.link, .slice (some ⟨b, off, none⟩) f.attrs.length c2], 28), (W1.heap.size, #[.string f.attrs[k].name, .int .i64 f.attrs[k].val.kind, .int .i64 f.attrs[k].val.int, .string f.attrs[k].val.str], 84)] ∧ PRows 107 3 wr (w.heap.size + 1) A1 l.length c1 (mix (m.map (dropP f.attrs[k].name f.attrs[k].val f.id)) m j) ∧ Below w.heap.size w wr) (fun i _ => l.length - (intOf i).toNat)
      case atStart =>
        refine ⟨0, Nat.zero_le _, rfl, fun x hx => ?_, by rw [mix_zero]; exact HRM.out.below (by go_grown), ex_trans hb (by go_grown)⟩
        simp only [List.mem_cons, List.not_mem_nil, or_false] at hx
        rcases hx with rfl | rfl
        · exact (hp_old (blk_lt (HBF.out _ (List.Mem.head _)))).trans (HBF.out _ (List.Mem.head _))
        · exact hp_new rfl
      case round =>
        obtain ⟨j, hj2, rfl, hbq, hrq, hbw⟩ := hrel
        have HBQ := Lib.hid hbq
        clear hbq
        by_cases hjl : j < l.length
        · obtain ⟨L, hL1, hL2⟩ := hrq
          obtain ⟨hjL, hat, hst⟩ := mix_step (m' := m.map (dropP f.attrs[k].name f.attrs[k].val f.id)) mkP (by simp) (by rw [HML.out]; exact hjl) hL2
          have hLl : L.length = l.length := hL1.len
          have hjm : j < m.length := by rw [HML.out]; exact hjl
          obtain ⟨g, rfl, hBg, hgw, hrb, hfr, hcell⟩ := hL1.hcell encPh (by omega)
          have y0 := hcell j hjL 0 _ rfl
          have y1 := hcell j hjL 1 _ rfl
          have y2 := hcell j hjL 2 _ rfl
          have y3 := hcell j hjL 3 _ rfl
          have y4 := hcell j hjL 4 _ rfl
          have hin := hL1.fil j hjL
          have hidl : L[j].2.length ≤ 1073741824 := by have := HMI.out m[j] (List.getElem_mem hjm); rw [← hat] at this; exact this
          have hbsj : ∀ b ∈ rowBs L[j].1.A L[j].1.c, b ∈ (KPst 107 3).all L := fun b hb => NK.all_mem.2 ⟨L[j], List.getElem_mem hjL, hb⟩
          have hd1 := (List.nodup_append.1 hL1.2.2).2.2
          have hgn : g ∉ rowBs L[j].1.A L[j].1.c := fun h => hd1 g (by rw [hrb]; simp) g (hbsj g h) rfl
          obtain ⟨x, hx⟩ : ∃ x, x = L[j] := ⟨_, rfl⟩
          rw [← hx] at y0 y1 y2 y3 y4 hin hidl hgn hat
          obtain ⟨h, ids⟩ := x
          simp only [Nat.add_zero] at y0
          simp only [NK.inner] at y0 y1 y2 y3 y4 hin hidl hgn
          have i2 : (0 : Int) ≤ (j : Int) := by omega
          have i3 : (j : Int) < (l.length : Int) := by omega
          have hmj : (m.map (dropP f.attrs[k].name f.attrs[k].val f.id))[j]'(by simp; omega) = (dropP f.attrs[k].name f.attrs[k].val f.id) m[j] := List.getElem_map ..
          have HST := Lib.hid hst
          have HAT := Lib.hid hat
          have HMJ := Lib.hid hmj
          have HL1 := Lib.hid hL1
          have HIN := Lib.hid hin
          have HX := Lib.hid hx
          clear hst hat hmj hL1 hin hd1 hbsj hcell hL2 hx
          have kf := HBQ.out _ (List.Mem.head _)
          have ka := HBQ.out _ (List.Mem.tail _ (List.Mem.head _))
          have uf := blk_cell? kf
          have ua := blk_cell? ka
          have lf := blk_lt kf
          have la := blk_lt ka
          simp only at lf la
          clear kf ka
          have HNO := Lib.hid fun (hne : isPst f.attrs[k].name f.attrs[k].val (mkP (h, ids)) = false) => show PRows 107 3 wr (w.heap.size + 1) (some ⟨g, 0, none⟩) l.length c1 (mix (m.map (dropP f.attrs[k].name f.attrs[k].val f.id)) m (j + 1)) from
            ⟨L, HL1.out, by
              have h9 := HST.out L[j] (by rw [HMJ.out, ← HAT.out, ← HX.out]; unfold dropP; rw [hne]; rfl)
              rwa [List.set_getElem_self] at h9⟩
          cases h0 : (h.name.toList == f.attrs[k].name.toList) with
          | false =>
            have HN := Lib.hid (HNO.out (by simp [isPst, eqS, Vl.eqb, mkP, h0]))
            go_wp2_with fail
            go_roundw
            case rel => exact ⟨j + 1, by omega, by go_num, HBQ.out.below (by go_grown), by obtain ⟨L9, h8, h9⟩ := HN.out; exact ⟨L9, h8.below (by go_grown), h9⟩, ex_trans hbw (by go_grown)⟩
            case measure => simp [intOf]; omega
          | true =>
            cases h1 : (h.val.kind == f.attrs[k].val.kind) with
            | false =>
              have HN := Lib.hid (HNO.out (by simp [isPst, eqS, Vl.eqb, mkP, h1]))
              go_wp2_with fail
              go_roundw
              case rel => exact ⟨j + 1, by omega, by go_num, HBQ.out.below (by go_grown), by obtain ⟨L9, h8, h9⟩ := HN.out; exact ⟨L9, h8.below (by go_grown), h9⟩, ex_trans hbw (by go_grown)⟩
              case measure => simp [intOf]; omega
            | true =>
              cases h2 : (h.val.int == f.attrs[k].val.int) with
              | false =>
                have HN := Lib.hid (HNO.out (by simp [isPst, eqS, Vl.eqb, mkP, h2]))
                go_wp2_with fail
                go_roundw
                case rel => exact ⟨j + 1, by omega, by go_num, HBQ.out.below (by go_grown), by obtain ⟨L9, h8, h9⟩ := HN.out; exact ⟨L9, h8.below (by go_grown), h9⟩, ex_trans hbw (by go_grown)⟩
                case measure => simp [intOf]; omega
              | true =>
                cases h3 : (h.val.str.toList == f.attrs[k].val.str.toList) with
                | false =>
                  have HN := Lib.hid (HNO.out (by simp [isPst, eqS, Vl.eqb, mkP, h3]))
                  go_wp2_with fail
                  go_roundw
                  case rel => exact ⟨j + 1, by omega, by go_num, HBQ.out.below (by go_grown), by obtain ⟨L9, h8, h9⟩ := HN.out; exact ⟨L9, h8.below (by go_grown), h9⟩, ex_trans hbw (by go_grown)⟩
                  case measure => simp [intOf]; omega
                | true =>
                  have hY := HST.out (⟨h.name, h.val, h.A, (dropId f.id ids).length, h.c⟩, dropId f.id ids) (by
                    rw [HMJ.out, ← HAT.out]
                    have hyes : isPst f.attrs[k].name f.attrs[k].val (mkP (h, ids)) = true := by simp [isPst, eqS, Vl.eqb, mkP, h0, h1, h2, h3]
                    unfold dropP; rw [hyes]; rfl)
                  have HY := Lib.hid hY
                  have HD := Lib.hid fun (W : World) (hbW : Below wr.heap.size wr W) => slices_DeleteFunc_int h.A h.n h.c ids 108 #[.pointer (some ⟨w.heap.size, 0, none⟩)] (fun x => x == f.id) (w.heap.size + 1) W (HIN.out.below hbW) (by rw [← HIN.out.len]; exact hidl) (Nat.le_trans (by omega) hbW.size) (fun _ _ => by kernel_rfl)
                    (fun w' hb x _ => impl_RemoveFromIndex_1 x f.id _ _ w' ((hb.cell (p := ⟨w.heap.size, 0, none⟩) (by simp)).trans ((hbW.cell (p := ⟨w.heap.size, 0, none⟩) lf).trans (uf 0))))
                  clear hY HNO
                  go_wp2_with fail
                  refine (HD.out _ (by go_grown)).mono ?_; rintro e w2 ⟨rfl, hr2, hc2⟩
                  have y5 : w2.cell? ⟨g, j * 5 + 4, none⟩ = some (.slice h.A h.n h.c) := hc2.cell (by go_simp) hgn
                  have hfr2 : ∀ j, w2.frozen? ⟨g, j, none⟩ = false := fun j => (hc2.frozen (a := ⟨g, j, none⟩) (by simp; omega) hgn).trans (by go_simp)
                  have HR2 := Lib.hid (And.intro hr2 hc2)
                  have gz : g < w2.heap.size := World.block_lt_of_cell? w2 _ y5
                  clear hr2 hc2
                  have HREL := Lib.hid (show HasB (w2.setCell ⟨g, j * 5 + 4, none⟩ (.slice h.A (dropId f.id ids).length h.c)) [(w.heap.size, #[.int .i64 f.id, .int .i64 f.owner, .bool f.shared, .int .i64 f.link, .slice (some ⟨b, off, none⟩) f.attrs.length c2], 28), (W1.heap.size, #[.string f.attrs[k].name, .int .i64 f.attrs[k].val.kind, .int .i64 f.attrs[k].val.int, .string f.attrs[k].val.str], 84)] ∧ PRows 107 3 (w2.setCell ⟨g, j * 5 + 4, none⟩ (.slice h.A (dropId f.id ids).length h.c)) (w.heap.size + 1) (some ⟨g, 0, none⟩) l.length c1 (mix (m.map (dropP f.attrs[k].name f.attrs[k].val f.id)) m (j + 1)) ∧ Below w.heap.size w (w2.setCell ⟨g, j * 5 + 4, none⟩ (.slice h.A (dropId f.id ids).length h.c)) from by
                    have hb0 : Below wr.heap.size wr (wr.alloc (.cells #[.string h.name, .int .i64 h.val.kind, .int .i64 h.val.int, .string h.val.str, .slice h.A h.n h.c] 107)) := by go_grown
                    have hc3 : Chg [g] w2 (w2.setCell ⟨g, j * 5 + 4, none⟩ (.slice h.A (dropId f.id ids).length h.c)) := (Chg.refl _ _).set (by simp) _
                    have hLa := HL1.out.below hb0
                    have hIa := HIN.out.below hb0
                    have hlc : (L.map (·.1))[j]'(by simpa using hjL) = h := by rw [List.getElem_map, ← HX.out]
                    have ho := (hLa.1.chg HR2.out.2 (fun b hb hm => by rw [hrb] at hb; simp only [List.mem_singleton] at hb; subst hb; exact hgn hm)).set1 encPh rfl (i := j) (j := 4) (u := .slice h.A (dropId f.id ids).length h.c) (x := ⟨h.name, h.val, h.A, (dropId f.id ids).length, h.c⟩) (by simpa using hjL) (by omega) (by rw [hlc]; rfl)
                    have hset := NRow.set_ (K := KPst 107 3) (x' := (⟨h.name, h.val, h.A, (dropId f.id ids).length, h.c⟩, dropId f.id ids)) hLa hjL HR2.out.1 (by rw [← HX.out]; exact HR2.out.2) (fun b hb => .inl (by rw [← HX.out]; exact hb)) (by rw [List.map_set]; exact ho) (by rw [hrb]; exact hc3)
                    have hbs : ∀ b ∈ rowBs h.A h.c, w.heap.size ≤ b := fun b hb => by have := (hIa.base b hb).1; omega
                    have hB2 := Below.mark (ex_trans hbw hb0) HR2.out.2 (ex_trans hbw hb0).size hbs
                    refine ⟨fun x hx => ?_, ⟨_, hset, HY.out⟩, Below.mark hB2 hc3 hB2.size (by simp only [List.mem_singleton]; intro b hb; omega)⟩
                    have hx0 := (HBQ.out.below hb0) x hx
                    have hty : x.2.2 = 28 ∨ x.2.2 = 84 := by
                      simp only [List.mem_cons, List.not_mem_nil, or_false] at hx
                      rcases hx with rfl | rfl
                      · exact .inl rfl
                      · exact .inr rfl
                    have n1 : x.1 ∉ rowBs h.A h.c := hIa.apart hx0 (by rcases hty with e | e <;> rw [e] <;> decide)
                    have n2 : x.1 ∉ rowBs (some ⟨g, 0, none⟩) c1 := hLa.1.apart hx0 (by rcases hty with e | e <;> rw [e] <;> decide)
                    rw [hrb] at n2
                    exact hc3.keepb (HR2.out.2.keepb hx0 n1) n2)
                  go_wp2_with fail
                  go_roundw
                  case rel => exact ⟨j + 1, by omega, by go_num, HREL.out.1, HREL.out.2.1, HREL.out.2.2⟩
                  case measure => simp [intOf]; omega
        · obtain rfl : l.length = j := by omega
          have e9 : mix (m.map (dropP f.attrs[k].name f.attrs[k].val f.id)) m l.length = m.map (dropP f.attrs[k].name f.attrs[k].val f.id) := by rw [← HML.out]; exact mix_all (by simp)
          rw [e9, ← HMS.out] at hrq
          have HRQ := Lib.hid hrq
          clear hrq e9
          go_wp2_with fail
          go_roundw
          case rel => exact ⟨k + 1, by omega, by go_num, fun x hx => HBQ.out x (by obtain rfl := List.mem_singleton.1 hx; exact List.Mem.head _), HRQ.out, hbw⟩
          case measure => simp [intOf]; omega
    · obtain rfl : f.attrs.length = k := by omega
      have hrow := HRW.out
      rw [List.take_of_length_le (Nat.le_refl _)] at hrow
      clear HRW
      have uf := blk_cell? (HBF.out _ (List.Mem.head _))
      have lf := blk_lt (HBF.out _ (List.Mem.head _))
      simp only at lf
      by_cases h0 : f.attrs.length = 0
      · have HE := Lib.hid (show remX l f = mapR f.id l f.attrs by rw [remX_eq, if_pos h0, List.eq_nil_of_length_eq_zero h0]; rfl)
        have HRR := Lib.hid hrow
        clear hrow
        go_wp2_with fail
        go_returns
        rw [HE.out]
        have hl9 := HRR.out.len
        exact ⟨A1, c1, by rw [hl9]; rfl, by rw [hl9]; obtain ⟨L9, h8, h9⟩ := HRR.out; exact ⟨L9, h8.re (fun b hb => by have := (h8.base b hb).1; omega), h9⟩, hb⟩
      · have HE := Lib.hid (show remX l f = (mapR f.id l f.attrs).filter someIds by rw [remX_eq, if_neg h0])
        obtain ⟨L, hL1, hL2⟩ := hrow
        have HD := Lib.hid (slices_DeleteFunc_Posting A1 l.length c1 (L.map (·.1)) 110 #[] (fun h : Ph => ((h.n : Int) == 0)) (w.heap.size + 1) wr hL1.1 hn lf (fun _ _ => by kernel_rfl) (fun w' hb x _ => impl_RemoveFromIndex_2 x w'))
        have hflt : ((L.map (·.1)).filter fun h : Ph => !((h.n : Int) == 0)) = (L.filter fun x => !((x.1.n : Int) == 0)).map (·.1) := by rw [List.filter_map]; rfl
        have hfin : (L.filter fun x => !((x.1.n : Int) == 0)).map mkP = remX l f := by
          rw [HE.out, ← hL2, List.filter_map]
          congr 1
          refine List.filter_congr fun x hx => ?_
          have h9 : x.2.length = x.1.n := FRow.len (hL1.2.1 x hx)
          simp only [Function.comp, someIds, mkP, h9]
          rw [Bool.eq_iff_iff]; simp
        have HF := Lib.hid (And.intro hflt (And.intro hfin (And.intro hL1 hL2)))
        have i9 : (0 : Int) < (f.attrs.length : Int) := by omega
        clear hflt hfin hL1 hL2
        go_wp2_with fail
        refine HD.out.mono ?_; rintro e w2 ⟨rfl, hr2, hc2⟩
        rw [HF.out.1] at hr2
        have hN := NRow.part (l' := L.filter fun x => !((x.1.n : Int) == 0)) HF.out.2.2.1 List.filter_sublist hr2 hc2 (fun b hb => .inl hb)
        have hl9 := congrArg List.length HF.out.2.1
        rw [List.length_map] at hl9
        have HN := Lib.hid (And.intro hN (And.intro hl9 (Below.mark hb hc2 hb.size (fun b hb => by have := (HF.out.2.2.1.1.base b hb).1; omega))))
        have HEL := Lib.hid (show ((L.map (·.1)).filter fun h : Ph => !((h.n : Int) == 0)).length = (remX l f).length by rw [HF.out.1, List.length_map, hl9])
        clear hN hl9 hr2 hc2
        go_wp2_with fail
        go_returns
        obtain ⟨hN, hl9, hB9⟩ := HN.out
        refine ⟨A1, c1, by rw [HEL.out]; rfl, ⟨_, ?_, HF.out.2.1⟩, hB9⟩
        have h8 := hN.re (B' := w.heap.size) (fun b hb => by have := (hN.base b hb).1; omega)
        rw [List.length_map, hl9] at h8
        exact h8

end Go.Proofs.Ytjobgnioehkomaa
