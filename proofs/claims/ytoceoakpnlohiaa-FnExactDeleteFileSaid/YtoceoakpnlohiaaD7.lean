/-
  CONTRACTS: AddField.
-/
import Derived.WalkKit
import Derived.WalkSpells
import Derived.WalkLawsBesides
import Derived.Lib.Hide
import Derived.Handy
import Derived.StillTailTactics
import Derived.Deep.Light
import Derived.Deep.QuietTactic
import Derived.BigQuiet
import Derived.Deep.RegionHeld3
import Derived.Deep.RegionLaw
import Derived.Sort.Walk0
import Derived.Test.YtoceoakpnlohiaaLib
import Derived.Test.YtoceoakpnlohiaaOwn
import Derived.Test.YtoceoakpnlohiaaRow
import Derived.Test.YtoceoakpnlohiaaRaw
import Derived.Test.YtoceoakpnlohiaaHld
import Derived.Test.YtoceoakpnlohiaaM0
import Derived.Test.YtoceoakpnlohiaaC1
import Derived.Test.YtoceoakpnlohiaaC2
import Derived.Test.YtoceoakpnlohiaaT1
import Derived.Test.YtoceoakpnlohiaaT2
import Derived.Test.YtoceoakpnlohiaaT3
import Derived.Test.YtoceoakpnlohiaaT4
import Derived.Test.YtoceoakpnlohiaaC3
import Derived.Test.YtoceoakpnlohiaaC4
import Derived.Test.YtoceoakpnlohiaaC5
import Derived.Test.YtoceoakpnlohiaaD1
import Derived.Test.YtoceoakpnlohiaaD3
import Derived.Test.YtoceoakpnlohiaaD4
import Derived.Test.YtoceoakpnlohiaaH1
import Derived.Test.YtoceoakpnlohiaaI1
import Derived.Test.YtoceoakpnlohiaaRows
namespace Go.Proofs.Ytoceoakpnlohiaa
open Go.RowKit
set_option linter.unusedVariables false
set_option maxRecDepth 100000
theorem bless_trans {x y z : List UInt8} (h1 : Op.bytesLess x y = true) (h2 : Op.bytesLess y z = true) : Op.bytesLess x z = true := by
  rw [bytesLess_eq, decide_eq_true_eq] at *
  exact List.lt_trans h1 h2
theorem Src.take {α : Type} {size m k : Nat} {enc : α → List Value} {w : World} {A : Option Addr} {l : List α} (hE : Enc size enc) (h : Src size enc w A m l) (hk : k ≤ m) : Src size enc w A k (l.take k) := by
  refine ⟨by rw [List.length_take, h.1]; omega, fun hp => ?_⟩
  obtain ⟨a, hA, hlt, hc⟩ := h.2 (by omega)
  refine ⟨a, hA, hlt, fun j u hu => hc j u ?_⟩
  rw [← flat_take hE] at hu
  have hj := (List.getElem?_eq_some_iff.1 hu).1
  rw [List.length_take] at hj
  rwa [List.getElem?_take_of_lt (by omega)] at hu
def insL {α : Type} (l : List α) (x : α) (k : Nat) : List α := l.take k ++ x :: l.drop k
theorem insL_len {α : Type} (l : List α) (x : α) (k : Nat) : (insL l x k).length = l.length + 1 := by
  unfold insL; simp; omega
/-- the place: the first element that is not less -/
noncomputable def addAt (l : List Fld) (f : Fld) : Nat := l.findIdx fun x => !Op.bytesLess x.name.toList f.name.toList
theorem addAt_le (l : List Fld) (f : Fld) : addAt l f ≤ l.length := List.findIdx_le_length
noncomputable def addOk (l : List Fld) (f : Fld) : Bool := okSchema l && okSchema (insL l f (addAt l f))
noncomputable def addF (l : List Fld) (f : Fld) : List Fld := if addOk l f then insL l f (addAt l f) else l
theorem addF_len (l : List Fld) (f : Fld) : (addF l f).length ≤ l.length + 1 := by
  unfold addF; split
  · rw [insL_len]; exact Nat.le_refl _
  · omega
theorem okSchema_asc {l : List Fld} (h : okSchema l = true) {i : Nat} (hi : i + 1 < l.length) : Op.bytesLess l[i].name.toList l[i + 1].name.toList = true := by
  unfold okSchema at h
  split at h
  · rename_i hall
    have hb := hall (i + 1) hi
    rw [badAt_succ hi] at hb
    cases hq : Op.bytesLess l[i].name.toList l[i + 1].name.toList with
    | true => rfl
    | false => rw [hq] at hb; simp at hb
  · cases h
theorem okSchema_lt {l : List Fld} (h : okSchema l = true) {i j : Nat} (hij : i < j) (hj : j < l.length) : Op.bytesLess (l[i]'(by omega)).name.toList l[j].name.toList = true := by
  induction j with
  | zero => omega
  | succ j ih =>
    rcases Nat.lt_or_ge i j with hlt | hge
    · exact bless_trans (ih hlt (by omega)) (okSchema_asc h hj)
    · obtain rfl : i = j := by omega
      exact okSchema_asc h hj
/-- a name that is there already: the longer list is no schema -/
theorem addOk_any {l : List Fld} {f : Fld} (hv : okSchema l = true) (ha : (l.any fun x => eqS x.name f.name) = true) : addOk l f = false := by
  obtain ⟨y, hy, he⟩ := List.any_eq_true.1 ha
  obtain ⟨j, hj, rfl⟩ := List.getElem_of_mem hy
  have hn : l[j].name.toList = f.name.toList := by unfold eqS at he; simpa using he
  have hle : addAt l f ≤ j := by
    refine Nat.le_of_not_lt fun hlt => ?_
    have := List.not_of_lt_findIdx (p := fun x : Fld => !Op.bytesLess x.name.toList f.name.toList) (xs := l) hlt
    simp only [hn, bless_irrefl] at this
    simp at this
  unfold addOk
  rw [hv, Bool.true_and]
  cases hq : okSchema (insL l f (addAt l f)) with
  | false => rfl
  | true =>
    have hk : addAt l f < l.length := by omega
    have h1 := okSchema_asc hq (i := addAt l f) (by rw [insL_len]; omega)
    have e0 : (insL l f (addAt l f))[addAt l f]'(by rw [insL_len]; omega) = f := by
      simp [insL, List.length_take, Nat.min_eq_left (Nat.le_of_lt hk)]
    have e1 : (insL l f (addAt l f))[addAt l f + 1]'(by rw [insL_len]; omega) = l[addAt l f] := by
      simp [insL, List.length_take, Nat.min_eq_left (Nat.le_of_lt hk)]
    rw [e0, e1] at h1
    exfalso
    rcases Nat.lt_or_ge (addAt l f) j with hlt | hge
    · have h2 := bless_trans h1 (okSchema_lt hv hlt hj)
      rw [hn, bless_irrefl] at h2; cases h2
    · have hjj : addAt l f = j := by omega
      simp only [hjj, hn, bless_irrefl] at h1
      cases h1
noncomputable def gtF (f x : Fld) : Bool := Op.bytesLess f.name.toList x.name.toList
theorem findIdx_same {α : Type} {p q : α → Bool} : ∀ {l : List α}, (∀ x ∈ l, p x = q x) → l.findIdx p = l.findIdx q
  | [], _ => rfl
  | a :: l, h => by
    rw [List.findIdx_cons, List.findIdx_cons, h a (by simp), findIdx_same (l := l) fun x hx => h x (by simp [hx])]
theorem addAt_gt {l : List Fld} {f : Fld} (ha : (l.any fun x => eqS x.name f.name) = false) : addAt l f = l.findIdx (gtF f) := by
  unfold addAt
  refine findIdx_same fun x hx => ?_
  have h1 := List.any_eq_false.1 ha x hx
  unfold gtF
  rw [bless_gt x.name.toList f.name.toList]
  have : (x.name.toList == f.name.toList) = false := by unfold eqS at h1; simpa using h1
  rw [this, Bool.or_false]
theorem idxI_place {α : Type} (p : α → Bool) (l : List α) : (idxI p l < 0 ∧ l.findIdx p = l.length) ∨ (idxI p l = (l.findIdx p : Int) ∧ l.findIdx p < l.length) := by
  unfold idxI
  cases h : l.findIdx? p with
  | none => left; exact ⟨by simp, List.findIdx_eq_length.2 (fun x hx => by simpa using List.findIdx?_eq_none_iff.1 h x hx)⟩
  | some i =>
    right
    obtain ⟨hi, hp, hn⟩ := List.findIdx?_eq_some_iff_getElem.1 h
    have : l.findIdx p = i := (List.findIdx_eq hi).2 ⟨hp, fun j hj => by simpa using hn j hj⟩
    rw [this]
    exact ⟨rfl, hi⟩
theorem impl_AddField_1 (x : Fld) (f : Fld) (b : Nat) (w : World) (hc : w.cell? ⟨b, 0, none⟩ = some (.string f.name)) :
    Calls Try.prog 70 #[.agg #[.string x.name, .int .i64 x.kind], .pointer (some ⟨b, 0, none⟩)] w fun e w2 => e = .returned (.bool (gtF f x)) ∧ Below w.heap.size w w2 := by
  have hl := World.block_lt_of_cell? w _ hc
  simp only at hl
  go_enter Try.func70, Try.ntmps70
  go_wp2_with fail
  go_returns
  refine ⟨ret_bool ?_, by go_grown⟩
  show _ = gtF f x
  unfold gtF
  rw [bless_gt x.name.toList f.name.toList, Bool.not_or]
theorem pred_gt {P : Program} {kf : Nat} {B : Nat} {w : World} {f : Fld} {b : Nat} {l : List Fld} (hq : b < B) (hc : w.cell? ⟨b, 0, none⟩ = some (.string f.name))
    (h : ∀ w' (x : Fld), w'.cell? ⟨b, 0, none⟩ = some (.string f.name) → Calls P kf #[.agg #[.string x.name, .int .i64 x.kind], .pointer (some ⟨b, 0, none⟩)] w' fun e w2 => e = .returned (.bool (gtF f x)) ∧ Below w'.heap.size w' w2) :
    Pred P kf #[.pointer (some ⟨b, 0, none⟩)] (fun f : Fld => .agg #[.string f.name, .int .i64 f.kind]) (gtF f) l B w :=
  fun w' hb x _ => h w' x ((hb.cell (p := ⟨b, 0, none⟩) hq).trans hc)
set_option maxHeartbeats 1600000 in
theorem impl_AddField (A : Option Addr) (n c : Nat) (l : List Fld) (f : Fld) (w : World) (hS : Sl 2 RFld w A n l) (hn : n ≤ 1073741823) (hok : ∀ y ∈ l, y.ok 1073741824) (hf : f.ok 1073741824) :
    Calls Try.prog 27 #[.slice A n c, .agg #[.string f.name, .int .i64 f.kind]] w (NewRow (fun v => .tuple #[v, .bool (addOk l f)]) 46 2 eFld w (addF l f)) := by
  have HV := Lib.hid fun w' (hb : Below w.heap.size w w') => impl_IsValidSchema A n c l w' (hS.mono mFld hb) (by omega) hok
  have HH := Lib.hid fun w' (hb : Below w.heap.size w w') => impl_hasField A n c l f.name w' (hS.mono mFld hb) (by omega)
  have HC := Lib.hid fun w' (hb : Below w.heap.size w w') => slices_Clone_Field A n c l w' (hS.mono mFld hb) (by omega)
  have HI := Lib.hid fun w' (hb : Below w.heap.size w w') => slices_IndexFunc_Field A n c l 70 #[.pointer (some ⟨w.heap.size, 0, none⟩)] (gtF f) (w.heap.size + 1) w' (hS.mono mFld hb) (by omega)
  have HV2 := Lib.hid fun A' c' w' (h : FRow 46 2 eFld w' w.heap.size A' (l.length + 1) c' (insL l f (addAt l f))) => impl_IsValidSchema A' (l.length + 1) c' _ w' (h.sl (R := RFld) encFld (fun _ => rfl)) (by have := hS.len; omega) (fun y hy => by
    unfold insL at hy
    rcases List.mem_append.1 hy with h | h
    · exact hok y (List.mem_of_mem_take h)
    · rcases List.mem_cons.1 h with h | h
      · exact h ▸ hf
      · exact hok y (List.mem_of_mem_drop h))
  obtain rfl : l.length = n := hS.len
  clear hok hf
  cases hv : okSchema l with
  | false =>
    have hz : addOk l f = false := by unfold addOk; rw [hv]; rfl
    have hr : addF l f = l := by unfold addF; rw [hz]; rfl
    rw [hz, hr]
    have Hv := Lib.hid hv
    clear hz hr hv hS HI HV2
    go_enter Try.func27, Try.ntmps27
    go_wp2_with fail
    refine (HC.out _ (by go_grown)).mono ?_; rintro e w2 ⟨A2, c2, rfl, hr2, hb2⟩
    have hB2 := ex_trans (w := w) (by go_grown) hb2
    have HR2 := Lib.hid (hr2.re (B' := w.heap.size) (fun b hb => by have := (hr2.base b hb).1; simp at this; omega))
    clear hr2
    go_wp2_with fail
    refine (HV.out _ hB2).mono ?_; rintro e w1 ⟨rfl, hb1⟩
    rw [Hv.out]
    go_wp2_with fail
    go_returns
    exact ⟨A2, c2, rfl, HR2.out.below hb1, ex_trans hB2 hb1⟩
  | true =>
    cases ha : (l.any fun x => eqS x.name f.name) with
    | true =>
      have hz : addOk l f = false := addOk_any hv ha
      have hr : addF l f = l := by unfold addF; rw [hz]; rfl
      rw [hz, hr]
      have Hv := Lib.hid hv
      have Ha := Lib.hid ha
      clear hz hr hv ha hS HI HV2
      go_enter Try.func27, Try.ntmps27
      go_wp2_with fail
      refine (HC.out _ (by go_grown)).mono ?_; rintro e w2 ⟨A2, c2, rfl, hr2, hb2⟩
      have hB2 := ex_trans (w := w) (by go_grown) hb2
      have x2 : w2.cell? ⟨w.heap.size, 0, none⟩ = some (.string f.name) := keep_cell hb2 (by go_simp)
      have HR2 := Lib.hid (hr2.re (B' := w.heap.size) (fun b hb => by have := (hr2.base b hb).1; simp at this; omega))
      clear hr2
      go_wp2_with fail
      refine (HV.out _ hB2).mono ?_; rintro e w1 ⟨rfl, hb1⟩
      rw [Hv.out]
      have hB1 := ex_trans hB2 hb1
      have x1 := keep_cell hb1 x2
      go_wp2_with fail
      refine (HH.out _ hB1).mono ?_; rintro e w3 ⟨rfl, hb3⟩
      rw [Ha.out]
      go_wp2_with fail
      go_returns
      exact ⟨A2, c2, rfl, (HR2.out.below hb1).below hb3, ex_trans hB1 hb3⟩
    | false =>
      have hat := addAt_gt ha
      have Hv := Lib.hid hv
      have Ha := Lib.hid ha
      have HP := Lib.hid (hat ▸ idxI_place (gtF f) l)
      have HO := Lib.hid (show addOk l f = okSchema (insL l f (addAt l f)) by unfold addOk; rw [hv]; rfl)
      clear hv ha hS hat
      go_enter Try.func27, Try.ntmps27
      go_wp2_with fail
      refine (HC.out _ (by go_grown)).mono ?_; rintro e w2 ⟨A2, c2, rfl, hr2, hb2⟩
      have hB2 := ex_trans (w := w) (by go_grown) hb2
      have x2 : w2.cell? ⟨w.heap.size, 0, none⟩ = some (.string f.name) := keep_cell hb2 (by go_simp)
      have y2 : w2.cell? ⟨w.heap.size, 1, none⟩ = some (.int .i64 f.kind) := keep_cell hb2 (by go_simp)
      have z2 : w.heap.size < w2.heap.size := keep_lt hb2 (by simp)
      have HR2 := Lib.hid (hr2.re (B' := w.heap.size + 1) (fun b hb => by have := (hr2.base b hb).1; simp at this; omega))
      clear hr2
      go_wp2_with fail
      refine (HV.out _ hB2).mono ?_; rintro e w1 ⟨rfl, hb1⟩
      rw [Hv.out]
      have hB1 := ex_trans hB2 hb1
      have x1 := keep_cell hb1 x2
      have y1 := keep_cell hb1 y2
      have z1 := keep_lt hb1 z2
      go_wp2_with fail
      refine (HH.out _ hB1).mono ?_; rintro e w3 ⟨rfl, hb3⟩
      rw [Ha.out]
      have hB3 := ex_trans hB1 hb3
      have x3 := keep_cell hb3 x1
      have y3 := keep_cell hb3 y1
      have z3 := keep_lt hb3 z1
      have HX := Lib.hid (HI.out w3 hB3 (by omega) (fun _ _ => by kernel_rfl) (pred_gt (by omega) x3 fun w' x h => impl_AddField_1 x f _ w' h))
      go_wp2_with fail
      refine HX.out.mono ?_; rintro e w4 ⟨rfl, hb4⟩
      have hB4 := ex_trans hB3 hb4
      have x4 := keep_cell hb4 x3
      have y4 := keep_cell hb4 y3
      have z4 := keep_lt hb4 z3
      have HR4 := Lib.hid (((HR2.out.below hb1).below hb3).below hb4)
      have HLT := Lib.hid fun b (hb : b ∈ rowBs A2 c2) => (HR4.out.base b hb).2
      have hle := addAt_le l f
      rcases HP.out with ⟨q1, q2⟩ | ⟨q1, q2⟩
      · have hneg := q1
        clear q1
        go_wp2_with fail
        refine (slices_Insert_Field A2 l.length c2 l.length l f w4.heap.size 1 (w.heap.size + 1) (w4.alloc _) (HR4.out.below (by go_grown)) (by omega) (by simp; omega) (blk_new w4 _) (fun hb => by have := HLT.out _ hb; omega) (by omega)).mono ?_; rintro e w5 ⟨A5, c5, rfl, hr5, hc5, hx5⟩
        have q3 : insL l f (addAt l f) = insL l f l.length := by rw [q2]
        have HR5 := Lib.hid (show FRow 46 2 eFld w5 w.heap.size A5 (l.length + 1) c5 (insL l f (addAt l f)) from by rw [q3]; exact hr5.re (fun b hb => by have := (hr5.base b hb).1; omega))
        have hB5 : Below w.heap.size w w5 := Below.mark (ex_alloc hB4 _) hc5 (by have := hB4.size; simp; omega) (fun b hb => by have := (HR4.out.base b hb).1; omega)
        clear hr5 hx5 hc5
        go_wp2_with fail
        refine (HV2.out _ _ _ HR5.out).mono ?_; rintro e w6 ⟨rfl, hb6⟩
        have hB6 := ex_trans hB5 hb6
        cases ho : okSchema (insL l f (addAt l f)) with
        | false =>
          go_wp2_with fail
          refine (HC.out _ hB6).mono ?_; rintro e w7 ⟨A7, c7, rfl, hr7, hb7⟩
          go_wp2_with fail
          go_returns
          have hz : addOk l f = false := by rw [HO.out, ho]
          have hr : addF l f = l := by unfold addF; rw [hz]; rfl
          rw [hz, hr]
          exact ⟨A7, c7, rfl, hr7.re (fun b hb => by have := (hr7.base b hb).1; have := hB6.size; omega), ex_trans hB6 hb7⟩
        | true =>
          go_wp2_with fail
          go_returns
          have hz : addOk l f = true := by rw [HO.out, ho]
          have hr : addF l f = insL l f (addAt l f) := by unfold addF; rw [hz]; rfl
          rw [hz, hr]
          exact ⟨A5, c5, by rw [insL_len]; rfl, by rw [insL_len]; exact HR5.out.below hb6, hB6⟩
      · rw [q1]
        have hpos : (0 : Int) ≤ (addAt l f : Int) := by omega
        go_wp2_with fail
        refine (slices_Insert_Field A2 l.length c2 (addAt l f) l f w4.heap.size 1 (w.heap.size + 1) (w4.alloc _) (HR4.out.below (by go_grown)) (by omega) (by simp; omega) (blk_new w4 _) (fun hb => by have := HLT.out _ hb; omega) (by omega)).mono ?_; rintro e w5 ⟨A5, c5, rfl, hr5, hc5, hx5⟩
        have HR5 := Lib.hid (show FRow 46 2 eFld w5 w.heap.size A5 (l.length + 1) c5 (insL l f (addAt l f)) from hr5.re (fun b hb => by have := (hr5.base b hb).1; omega))
        have hB5 : Below w.heap.size w w5 := Below.mark (ex_alloc hB4 _) hc5 (by have := hB4.size; simp; omega) (fun b hb => by have := (HR4.out.base b hb).1; omega)
        clear hr5 hx5 hc5
        go_wp2_with fail
        refine (HV2.out _ _ _ HR5.out).mono ?_; rintro e w6 ⟨rfl, hb6⟩
        have hB6 := ex_trans hB5 hb6
        cases ho : okSchema (insL l f (addAt l f)) with
        | false =>
          go_wp2_with fail
          refine (HC.out _ hB6).mono ?_; rintro e w7 ⟨A7, c7, rfl, hr7, hb7⟩
          go_wp2_with fail
          go_returns
          have hz : addOk l f = false := by rw [HO.out, ho]
          have hr : addF l f = l := by unfold addF; rw [hz]; rfl
          rw [hz, hr]
          exact ⟨A7, c7, rfl, hr7.re (fun b hb => by have := (hr7.base b hb).1; have := hB6.size; omega), ex_trans hB6 hb7⟩
        | true =>
          go_wp2_with fail
          go_returns
          have hz : addOk l f = true := by rw [HO.out, ho]
          have hr : addF l f = insL l f (addAt l f) := by unfold addF; rw [hz]; rfl
          rw [hz, hr]
          exact ⟨A5, c5, by rw [insL_len]; rfl, by rw [insL_len]; exact HR5.out.below hb6, hB6⟩
def lessTo (l : List Fld) (f : Fld) (k : Nat) : Prop := ∀ i (h : i < l.length), i < k → Op.bytesLess l[i].name.toList f.name.toList = true
theorem lessTo_succ {l : List Fld} {f : Fld} {k : Nat} (hk : k < l.length) (h : lessTo l f k) (hb : Op.bytesLess l[k].name.toList f.name.toList = true) : lessTo l f (k + 1) := fun i hi hlt => by
  by_cases e : i = k
  · subst e; exact hb
  · exact h i hi (by omega)
theorem lessTo_at {l : List Fld} {f : Fld} {k : Nat} (hk : k ≤ l.length) (h : lessTo l f k) (hb : ∀ (hlt : k < l.length), Op.bytesLess l[k].name.toList f.name.toList = false) : k = addAt l f := by
  unfold addAt
  rcases Nat.lt_or_ge k l.length with hlt | hge
  · exact ((List.findIdx_eq hlt).2 ⟨by rw [hb hlt]; rfl, fun j hj => by rw [h j (by omega) hj]; rfl⟩).symm
  · obtain rfl : k = l.length := by omega
    refine (List.findIdx_eq_length.2 fun x hx => ?_).symm
    obtain ⟨i, hi, rfl⟩ := List.getElem_of_mem hx
    rw [h i hi hi]; rfl
theorem src_fld {w : World} {g : Nat} (f : Fld) (h0 : w.cell? ⟨g, 0, none⟩ = some (.string f.name)) (h1 : w.cell? ⟨g, 1, none⟩ = some (.int .i64 f.kind)) : Src 2 eFld w (some ⟨g, 0, none⟩) 1 [f] :=
  Src.of_cells (World.block_lt_of_cell? w _ h0) fun j u hu => by
    rw [Addr.add_lit, Nat.zero_add]
    match j, hu with
    | 0, hu => obtain rfl : _ = u := by simpa [eFld] using hu
               exact h0
    | 1, hu => obtain rfl : _ = u := by simpa [eFld] using hu
               exact h1
    | (j + 2), hu => simp [eFld] at hu
theorem Src.drop {α : Type} {size m k : Nat} {enc : α → List Value} {w : World} {b off : Nat} {l : List α} (hE : Enc size enc) (h : Src size enc w (some ⟨b, off, none⟩) m l) (hk : k ≤ m) : Src size enc w (some ⟨b, off + k * size, none⟩) (m - k) (l.drop k) := by
  refine ⟨by rw [List.length_drop, h.1], fun hp => ?_⟩
  obtain ⟨a, hA, hlt, hc⟩ := h.2 (by omega)
  obtain rfl : (⟨b, off, none⟩ : Addr) = a := by simpa using hA
  refine ⟨_, rfl, hlt, fun j u hu => ?_⟩
  rw [← flat_drop hE, List.getElem?_drop] at hu
  have := hc _ u hu
  rw [Addr.add_lit] at this ⊢
  rw [Nat.add_assoc]; exact this
set_option maxHeartbeats 6400000 in
theorem spec_AddField (A : Option Addr) (n c : Nat) (l : List Fld) (f : Fld) (w : World) (hS : Sl 2 RFld w A n l) (hcap : n ≤ c) (hn : n ≤ 1073741823) (hok : ∀ y ∈ l, y.ok 1073741824) (hf : f.ok 1073741824) :
    Calls Try.prog 24 #[.slice A n c, .agg #[.string f.name, .int .i64 f.kind]] w (NewRow (fun v => .tuple #[v, .bool (addOk l f)]) 46 2 eFld w (addF l f)) := by
  have HV := Lib.hid fun w' (hb : Below w.heap.size w w') => spec_IsValidSchema A n c l w' (hS.mono mFld hb) (by omega) hok
  have HV2 := Lib.hid fun A' c' w' (h : FRow 46 2 eFld w' w.heap.size A' (l.length + 1) c' (insL l f (addAt l f))) => spec_IsValidSchema A' (l.length + 1) c' _ w' (h.sl (R := RFld) encFld (fun _ => rfl)) (by have := hS.len; omega) (fun y hy => by
    unfold insL at hy
    rcases List.mem_append.1 hy with h | h
    · exact hok y (List.mem_of_mem_take h)
    · rcases List.mem_cons.1 h with h | h
      · exact h ▸ hf
      · exact hok y (List.mem_of_mem_drop h))
  obtain rfl : l.length = n := hS.len
  have HS := Lib.hid hS
  obtain ⟨ii, hi, hi0, hi1, hi2⟩ := info_parts info_Field
  clear hok hf
  have HA : ∀ (W : World) (hb : Below w.heap.size w W), Src 2 eFld W A l.length l := fun W hb => Src.of_sl (R := RFld) encFld (fun h => h) (HS.out.mono mFld hb)
  have HA' := Lib.hid HA
  clear HA
  have same : ∀ (A2 : Option Addr) (c2 : Nat) (W1 W2 : World), FRow 46 2 eFld W1 w.heap.size A2 (0 + l.length) c2 ([] ++ l) → Below w.heap.size w W1 → Below W1.heap.size W1 W2 → FRow 46 2 eFld W2 w.heap.size A2 l.length c2 l ∧ Below w.heap.size w W2 :=
    fun A2 c2 W1 W2 h hb hb2 => ⟨by simpa using h.below hb2, ex_trans hb hb2⟩
  have SAME := Lib.hid same
  clear same
  cases hv : okSchema l with
  | false =>
    have hz : addOk l f = false := by unfold addOk; rw [hv]; rfl
    have hr : addF l f = l := by unfold addF; rw [hz]; rfl
    rw [hz, hr]
    have Hv := Lib.hid hv
    clear hz hr hv hS HV2
    go_enter Try.func24, Try.ntmps24
    go_wp2_with (at_builtin; refine wpList_append_row rfl _ _ _ rfl encFld Try.underlying29 hi hi0 hi1 hi2 rfl rfl rfl (FRow.any0 _ _ _ _ _ _) (HA'.out _ (by go_grown)) (by unfold maxLen; omega) (by omega) (show w.heap.size ≤ _ by simp <;> omega) ?_; intro A2 c2 w2 hr2 hc2 hx2)
    have hB2 := (Below.refl _ _).trans (Below.mark (B := w.heap.size) (w := w) (by go_grown) hc2 (by simp <;> omega) (by simp [rowBs_zero]))
    have HR := Lib.hid hr2
    clear hr2 hx2 hc2
    go_wp2_with fail
    refine (HV.out _ hB2).mono ?_; rintro e w3 ⟨rfl, hb3⟩
    rw [Hv.out]
    go_wp2_with fail
    go_returns
    obtain ⟨h1, h2⟩ := SAME.out _ _ _ _ HR.out hB2 hb3
    exact ⟨A2, c2, by simp, h1, h2⟩
  | true =>
    have HO := Lib.hid (show addOk l f = okSchema (insL l f (addAt l f)) by unfold addOk; rw [hv]; rfl)
    have Hv := Lib.hid hv
    clear hv
    go_enter Try.func24, Try.ntmps24
    go_wp2_with (at_builtin; refine wpList_append_row rfl _ _ _ rfl encFld Try.underlying29 hi hi0 hi1 hi2 rfl rfl rfl (FRow.any0 _ _ _ _ _ _) (HA'.out _ (by go_grown)) (by unfold maxLen; omega) (by omega) (show w.heap.size ≤ _ by simp <;> omega) ?_; intro A2 c2 w2 hr2 hc2 hx2)
    have hB2 := (Below.refl _ _).trans (Below.mark (B := w.heap.size) (w := w) (by go_grown) hc2 (by simp <;> omega) (by simp [rowBs_zero]))
    have x2 : w2.cell? ⟨w.heap.size, 0, none⟩ = some (.string f.name) := hc2.cell (by go_simp) (by simp [rowBs_zero])
    have y2 : w2.cell? ⟨w.heap.size, 1, none⟩ = some (.int .i64 f.kind) := hc2.cell (by go_simp) (by simp [rowBs_zero])
    have z2 : w.heap.size < w2.heap.size := by have := hc2.size; simp at this; omega
    have HR := Lib.hid hr2
    clear hr2 hx2 hc2
    go_wp2_with fail
    refine (HV.out _ hB2).mono ?_; rintro e w3 ⟨rfl, hb3⟩
    rw [Hv.out]
    have hB3 := ex_trans hB2 hb3
    have x3 := keep_cell hb3 x2
    have y3 := keep_cell hb3 y2
    have z3 := keep_lt hb3 z2
    have HR3 := Lib.hid (SAME.out _ _ _ _ HR.out hB2 hb3)
    clear HR
    go_wp2_with fail
    go_loopw [7] (fun i wr => ∃ k : Nat, k ≤ l.length ∧ i = .int .i64 k ∧ lessTo l f k ∧ Below w3.heap.size w3 wr) (fun i _ => l.length - (intOf i).toNat)
    case atStart => exact ⟨0, Nat.zero_le _, rfl, fun _ _ h => absurd h (by omega), Below.refl _ _⟩
    case round =>
      obtain ⟨k, hk2, rfl, hl, hb⟩ := hrel
      have x5 := keep_cell hb x3
      have y5 := keep_cell hb y3
      have z5 := keep_lt hb z3
      have hBw := ex_trans hB3 hb
      have i0 : (0 : Int) ≤ (k : Int) := by omega
      have i2 : (k : Int) ≤ (l.length : Int) := by omega
      have i3 : (k : Int) ≤ (c : Int) := by omega
      have HL := Lib.hid hl
      clear hl
      by_cases hlt : k < l.length
      · obtain ⟨b, off, rfl, bw, bc⟩ := hS.fld (by omega)
        obtain ⟨q0, q1⟩ := bc k (by omega)
        rw [← hBw.cell (p := ⟨b, _, none⟩) bw] at q0 q1
        have i1 : (k : Int) < (l.length : Int) := by omega
        have hd : decide ((k : Int) < (l.length : Int)) = true := decide_eq_true i1
        clear bc
        cases hq : Op.bytesLess l[k].name.toList f.name.toList with
        | true =>
          go_wp2_with fail
          go_quiet (fail)
          go_wp2_with fail
          go_roundw
          case rel => exact ⟨k + 1, by omega, by go_num, lessTo_succ hlt HL.out hq, ex_drewN hb _⟩
          case measure => simp [intOf]; omega
        | false =>
          have HK := Lib.hid (lessTo_at hk2 HL.out fun _ => hq)
          clear HL
          go_wp2_with fail
          go_quiet (fail)
          go_wp2_with fail
          have xq : (wr.drewN nq).cell? ⟨w.heap.size, 0, none⟩ = some (.string f.name) := x5
          have yq : (wr.drewN nq).cell? ⟨w.heap.size, 1, none⟩ = some (.int .i64 f.kind) := y5
          have zq : w.heap.size < (wr.drewN nq).heap.size := z5
          have hBq : Below w3.heap.size w3 (wr.drewN nq) := ex_drewN hb _
          clear x5 y5 z5 hBw hb q0 q1
          generalize wr.drewN nq = wq at *
          clear wr
          go_region_law (first
            | (refine step_append_row rfl (.tmp 32) (.tmp 35) _ rfl encFld Try.underlying29 hi hi0 hi1 hi2 rfl rfl rfl (FRow.any0 _ _ _ _ w3.heap.size _) ((HA'.out _ (ex_trans hB3 (by repeat first | exact hBq | refine Below.drew ?_ | refine ex_alloc ?_ _))).take encFld (k := k) hk2) (by unfold maxLen; omega) (by omega) (by have := hBq.size; simp <;> omega) ?_; intro A6 c6 w6 hr6 hc6 hx6; have hB6 : Below w3.heap.size w3 w6 := (Below.mark (B := w3.heap.size) (w := w3) (by repeat first | exact hBq | refine Below.drew ?_ | refine ex_alloc ?_ _) hc6 (by have := hBq.size; simp <;> omega) (by simp [rowBs_zero])); have x6 : w6.cell? ⟨w.heap.size, 0, none⟩ = some (.string f.name) := hc6.cell (by go_simp) (by simp [rowBs_zero]); have y6 : w6.cell? ⟨w.heap.size, 1, none⟩ = some (.int .i64 f.kind) := hc6.cell (by go_simp) (by simp [rowBs_zero]); have z6 : wq.heap.size < w6.heap.size := (by have := hc6.size; simp at this; omega); have HC6 := Lib.hid hc6; have HR6 := Lib.hid (show FRow 46 2 eFld w6 w3.heap.size A6 k c6 (l.take k) by simpa using hr6); clear hr6 hx6 hc6)
            | (refine step_append_row rfl (.tmp 36) (.tmp 38) _ rfl encFld Try.underlying29 hi hi0 hi1 hi2 rfl rfl rfl (HR6.out.below (by go_grown)) (by refine src_fld f ?_ ?_ <;> first | (go_simp; done) | (refine HC6.out.cell ?_ (by simp [rowBs_zero]); go_simp; done)) (by unfold maxLen; omega) (by omega) (by have := hB6.size; simp <;> omega) ?_; intro A8 c8 w8 hr8 hc8 hx8; have hB8 : Below w3.heap.size w3 w8 := (Below.mark (B := w3.heap.size) (w := w3) (by repeat first | exact hB6 | refine Below.drew ?_ | refine ex_alloc ?_ _) hc8 (by have := hB6.size; simp <;> omega) (fun b hb => (HR6.out.base b hb).1)); have z8 : w3.heap.size ≤ w8.heap.size := hB8.size; have HR8 := Lib.hid hr8; clear hr8 hx8 hc8))
          all_goals
            clear x6 y6 z6 HC6 xq yq hBq zq
            have HR8' := Lib.hid (show FRow 46 2 eFld w8 w3.heap.size A8 (k + 1) c8 (l.take k ++ [f]) from HR8.out)
            clear HR8 HR6
            have hck : ¬ (c = k) := by omega
            go_wp2_with (at_builtin; refine wpList_append_row rfl _ _ _ rfl encFld Try.underlying29 hi hi0 hi1 hi2 rfl rfl rfl HR8'.out ((HA'.out _ (ex_trans hB3 hB8)).drop encFld hk2) (by unfold maxLen; omega) (by omega) z8 ?_; intro A9 c9 w9 hr9 hc9 hx9)
            have e9 : k + 1 + (l.length - k) = l.length + 1 := by omega
            rw [e9]
            have HR9 := Lib.hid (show FRow 46 2 eFld w9 w3.heap.size A9 (l.length + 1) c9 (insL l f (addAt l f)) by rw [← HK.out, ← e9]; simpa [insL] using hr9)
            have hB9 : Below w3.heap.size w3 w9 := Below.mark hB8 hc9 z8 (fun b hb => (HR8'.out.base b hb).1)
            clear hr9 hc9 hx9 hB8 z8
            refine (HV2.out _ _ _ (HR9.out.re fun b hb => by have := (HR9.out.base b hb).1; omega)).mono ?_; rintro e w10 ⟨rfl, hb10⟩
            have hB10 := ex_trans hB9 hb10
            cases ho : okSchema (insL l f (addAt l f)) with
            | false =>
              go_wp2_with fail
              go_returns
              have hz : addOk l f = false := by rw [HO.out, ho]
              have hr : addF l f = l := by unfold addF; rw [hz]; rfl
              rw [hz, hr]
              exact ⟨A2, c2, rfl, HR3.out.1.below hB10, ex_trans hB3 hB10⟩
            | true =>
              go_wp2_with fail
              go_returns
              have hz : addOk l f = true := by rw [HO.out, ho]
              have hr : addF l f = insL l f (addAt l f) := by unfold addF; rw [hz]; rfl
              rw [hz, hr]
              exact ⟨A9, c9, by rw [insL_len]; rfl, by rw [insL_len]; exact (HR9.out.below hb10).re fun b hb => by have := (HR9.out.base b hb).1; omega, ex_trans hB3 hB10⟩
      · obtain rfl : k = l.length := by omega
        have hd : decide ((l.length : Int) < (l.length : Int)) = false := decide_eq_false (by omega)
        have HK := Lib.hid (lessTo_at (Nat.le_refl _) HL.out fun h => absurd h (by omega))
        clear HL hlt
        go_wp2_with fail
        go_quiet (fail)
        go_wp2_with fail
        have xq : (wr.drewN nq).cell? ⟨w.heap.size, 0, none⟩ = some (.string f.name) := x5
        have yq : (wr.drewN nq).cell? ⟨w.heap.size, 1, none⟩ = some (.int .i64 f.kind) := y5
        have zq : w.heap.size < (wr.drewN nq).heap.size := z5
        have hBq : Below w3.heap.size w3 (wr.drewN nq) := ex_drewN hb _
        clear x5 y5 z5 hBw hb
        generalize wr.drewN nq = wq at *
        clear wr
        go_region_law (first
          | (refine step_append_row rfl (.tmp 32) (.tmp 35) _ rfl encFld Try.underlying29 hi hi0 hi1 hi2 rfl rfl rfl (FRow.any0 _ _ _ _ w3.heap.size _) ((HA'.out _ (ex_trans hB3 (by repeat first | exact hBq | refine Below.drew ?_ | refine ex_alloc ?_ _))).take encFld (k := l.length) (Nat.le_refl _)) (by unfold maxLen; omega) (by omega) (by have := hBq.size; simp <;> omega) ?_; intro A6 c6 w6 hr6 hc6 hx6; have hB6 : Below w3.heap.size w3 w6 := (Below.mark (B := w3.heap.size) (w := w3) (by repeat first | exact hBq | refine Below.drew ?_ | refine ex_alloc ?_ _) hc6 (by have := hBq.size; simp <;> omega) (by simp [rowBs_zero])); have x6 : w6.cell? ⟨w.heap.size, 0, none⟩ = some (.string f.name) := hc6.cell (by go_simp) (by simp [rowBs_zero]); have y6 : w6.cell? ⟨w.heap.size, 1, none⟩ = some (.int .i64 f.kind) := hc6.cell (by go_simp) (by simp [rowBs_zero]); have z6 : wq.heap.size < w6.heap.size := (by have := hc6.size; simp at this; omega); have HC6 := Lib.hid hc6; have HR6 := Lib.hid (show FRow 46 2 eFld w6 w3.heap.size A6 l.length c6 (l.take l.length) by simpa using hr6); clear hr6 hx6 hc6)
          | (refine step_append_row rfl (.tmp 36) (.tmp 38) _ rfl encFld Try.underlying29 hi hi0 hi1 hi2 rfl rfl rfl (HR6.out.below (by go_grown)) (by refine src_fld f ?_ ?_ <;> first | (go_simp; done) | (refine HC6.out.cell ?_ (by simp [rowBs_zero]); go_simp; done)) (by unfold maxLen; omega) (by omega) (by have := hB6.size; simp <;> omega) ?_; intro A8 c8 w8 hr8 hc8 hx8; have hB8 : Below w3.heap.size w3 w8 := (Below.mark (B := w3.heap.size) (w := w3) (by repeat first | exact hB6 | refine Below.drew ?_ | refine ex_alloc ?_ _) hc8 (by have := hB6.size; simp <;> omega) (fun b hb => (HR6.out.base b hb).1)); have z8 : w3.heap.size ≤ w8.heap.size := hB8.size; have HR8 := Lib.hid hr8; clear hr8 hx8 hc8))
        all_goals
          clear x6 y6 z6 HC6 xq yq hBq zq
          have HR8' := Lib.hid (show FRow 46 2 eFld w8 w3.heap.size A8 (l.length + 1) c8 (l.take l.length ++ [f]) from HR8.out)
          clear HR8 HR6
          have h1l : (l.length : Int) ≤ (c : Int) := i3
          rcases A with _ | a
          all_goals by_cases hcl : c = l.length
        all_goals
          go_wp2_with (at_builtin; refine wpList_append_row rfl _ _ _ rfl encFld Try.underlying29 hi hi0 hi1 hi2 rfl rfl rfl HR8'.out ((Src.none0 _ _)) (by unfold maxLen; omega) (by omega) z8 ?_; intro A9 c9 w9 hr9 hc9 hx9)
          have HR9 := Lib.hid (show FRow 46 2 eFld w9 w3.heap.size A9 (l.length + 1) c9 (insL l f (addAt l f)) by rw [← HK.out]; simpa [insL] using hr9)
          have hB9 : Below w3.heap.size w3 w9 := Below.mark hB8 hc9 z8 (fun b hb => (HR8'.out.base b hb).1)
          clear hr9 hc9 hx9 hB8 z8
          refine (HV2.out _ _ _ (HR9.out.re fun b hb => by have := (HR9.out.base b hb).1; omega)).mono ?_; rintro e w10 ⟨rfl, hb10⟩
          have hB10 := ex_trans hB9 hb10
          cases ho : okSchema (insL l f (addAt l f)) with
          | false =>
            go_wp2_with fail
            go_returns
            have hz : addOk l f = false := by rw [HO.out, ho]
            have hr : addF l f = l := by unfold addF; rw [hz]; rfl
            rw [hz, hr]
            exact ⟨A2, c2, rfl, HR3.out.1.below hB10, ex_trans hB3 hB10⟩
          | true =>
            go_wp2_with fail
            go_returns
            have hz : addOk l f = true := by rw [HO.out, ho]
            have hr : addF l f = insL l f (addAt l f) := by unfold addF; rw [hz]; rfl
            rw [hz, hr]
            exact ⟨A9, c9, by rw [insL_len]; rfl, by rw [insL_len]; exact (HR9.out.below hb10).re fun b hb => by have := (HR9.out.base b hb).1; omega, ex_trans hB3 hB10⟩
end Go.Proofs.Ytoceoakpnlohiaa
