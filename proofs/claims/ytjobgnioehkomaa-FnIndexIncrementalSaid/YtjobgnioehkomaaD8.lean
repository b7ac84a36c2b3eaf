/-
  CONTRACTS: SetAttr.
-/
import Derived.WalkKit
import Derived.WalkSpells
import Derived.WalkLawsBesides
import Derived.Lib.Hide
import Derived.Handy
import Derived.StillTailTactics
import Derived.Deep.Light
import Derived.Deep.QuietTactic
import Derived.BigQuiet
import Derived.Deep.RegionHeld3
import Derived.Deep.RegionLaw
import Derived.Sort.Walk0
import Derived.Deep.DeepCutAuto
import Derived.Test.YtjobgnioehkomaaLib
import Derived.Test.YtjobgnioehkomaaOwn
import Derived.Test.YtjobgnioehkomaaRow
import Derived.Test.YtjobgnioehkomaaN0
import Derived.Test.YtjobgnioehkomaaRaw
import Derived.Test.YtjobgnioehkomaaHld
import Derived.Test.YtjobgnioehkomaaM0
import Derived.Test.YtjobgnioehkomaaC1
import Derived.Test.YtjobgnioehkomaaC2
import Derived.Test.YtjobgnioehkomaaT1
import Derived.Test.YtjobgnioehkomaaT2
import Derived.Test.YtjobgnioehkomaaT3
import Derived.Test.YtjobgnioehkomaaT4
import Derived.Test.YtjobgnioehkomaaC3
import Derived.Test.YtjobgnioehkomaaC4
import Derived.Test.YtjobgnioehkomaaC5
import Derived.Test.YtjobgnioehkomaaD1
import Derived.Test.YtjobgnioehkomaaD3
import Derived.Test.YtjobgnioehkomaaD4
import Derived.Test.YtjobgnioehkomaaD5
import Derived.Test.YtjobgnioehkomaaH1
import Derived.Test.YtjobgnioehkomaaE4
import Derived.Test.YtjobgnioehkomaaI1
import Derived.Test.YtjobgnioehkomaaI2
import Derived.Test.YtjobgnioehkomaaD7
import Derived.Test.YtjobgnioehkomaaRows
namespace Go.Proofs.Ytjobgnioehkomaa
open Go.RowKit
set_option linter.unusedVariables false
set_option maxRecDepth 100000
noncomputable def gtA (nm : ByteArray) (x : Atr) : Bool := Op.bytesLess nm.toList x.name.toList
def dropA (l : List Atr) (nm : ByteArray) : List Atr := l.filter fun a => !eqS a.name nm
noncomputable def setL (l : List Atr) (nm : ByteArray) (v : Vl) : List Atr := if v.kind == 0 then dropA l nm else insL (dropA l nm) ⟨nm, v⟩ ((dropA l nm).findIdx (gtA nm))
noncomputable def setA (f : Fil) (nm : ByteArray) (v : Vl) : Fil := { f with attrs := setL f.attrs nm v }
theorem setL_len (l : List Atr) (nm : ByteArray) (v : Vl) : (setL l nm v).length ≤ l.length + 1 := by
  have : (dropA l nm).length ≤ l.length := List.length_filter_le _ _
  unfold setL; split
  · omega
  · rw [insL_len]; omega
def vAtr : Atr → Value := fun a => .agg #[.string a.name, .int .i64 a.val.kind, .int .i64 a.val.int, .string a.val.str]
theorem pred_atr {P : Program} {kf : Nat} {B : Nat} {w : World} {nm : ByteArray} {b : Nat} {l : List Atr} {p : Atr → Bool} (hq : b < B) (hc : w.cell? ⟨b, 0, none⟩ = some (.string nm))
    (h : ∀ w' (x : Atr), w'.cell? ⟨b, 0, none⟩ = some (.string nm) → Calls P kf #[.agg #[.string x.name, .int .i64 x.val.kind, .int .i64 x.val.int, .string x.val.str], .pointer (some ⟨b, 0, none⟩)] w' fun e w2 => e = .returned (.bool (p x)) ∧ Below w'.heap.size w' w2) :
    Pred P kf #[.pointer (some ⟨b, 0, none⟩)] (fun a : Atr => .agg #[.string a.name, .int .i64 a.val.kind, .int .i64 a.val.int, .string a.val.str]) p l B w :=
  fun w' hb x _ => h w' x ((hb.cell (p := ⟨b, 0, none⟩) hq).trans hc)
theorem impl_SetAttr_1 (x : Atr) (nm : ByteArray) (b : Nat) (w : World) (hc : w.cell? ⟨b, 0, none⟩ = some (.string nm)) :
    Calls Try.prog 65 #[.agg #[.string x.name, .int .i64 x.val.kind, .int .i64 x.val.int, .string x.val.str], .pointer (some ⟨b, 0, none⟩)] w fun e w2 => e = .returned (.bool (eqS x.name nm)) ∧ Below w.heap.size w w2 := by
  have hl := World.block_lt_of_cell? w _ hc
  simp only at hl
  go_enter Try.func65, Try.ntmps65
  go_wp2_with fail
  go_returns
  exact ⟨rfl, by go_grown⟩
theorem impl_SetAttr_2 (x : Atr) (nm : ByteArray) (b : Nat) (w : World) (hc : w.cell? ⟨b, 0, none⟩ = some (.string nm)) :
    Calls Try.prog 67 #[.agg #[.string x.name, .int .i64 x.val.kind, .int .i64 x.val.int, .string x.val.str], .pointer (some ⟨b, 0, none⟩)] w fun e w2 => e = .returned (.bool (gtA nm x)) ∧ Below w.heap.size w w2 := by
  have hl := World.block_lt_of_cell? w _ hc
  simp only at hl
  go_enter Try.func67, Try.ntmps67
  go_wp2_with fail
  go_returns
  refine ⟨ret_bool ?_, by go_grown⟩
  show _ = gtA nm x
  unfold gtA
  rw [bless_gt x.name.toList nm.toList, Bool.not_or]
set_option maxHeartbeats 3200000 in
theorem impl_SetAttr (f : Fil) (A : Option Addr) (n c : Nat) (nm : ByteArray) (v : Vl) (w : World) (hS : Sl 4 RAtr w A n f.attrs) (hn : n ≤ 1073741823) :
    Calls Try.prog 12 #[f.v A n c, .string nm, .agg #[.int .i64 v.kind, .int .i64 v.int, .string v.str]] w (NewFilR id 84 w (setA f nm v)) := by
  have HC := Lib.hid fun w' (hb : Below w.heap.size w w') => impl_copyFile f A n c w' (hS.mono mAtr hb) (by omega)
  obtain rfl : f.attrs.length = n := hS.len
  clear hS
  go_enter Try.func12, Try.ntmps12
  go_wp2_with fail
  refine (HC.out _ (by go_grown)).mono ?_; rintro e w1 ⟨A1, c1, rfl, hr1, hb1⟩
  have hB1 := ex_trans (w := w) (by go_grown) hb1
  have hz1 : w.heap.size + 3 < w1.heap.size := by have := hb1.size; simp at this; omega
  have hba : ∀ b ∈ rowBs A1 c1, w.heap.size + 1 + 1 + 1 < b ∧ b < w1.heap.size := fun b hb => by have := hr1.base b hb; simp at this; omega
  have hn1 : w.heap.size + 1 ∉ rowBs A1 c1 := fun h => by have := hba _ h; omega
  have hn2 : w.heap.size + 1 + 1 ∉ rowBs A1 c1 := fun h => by have := hba _ h; omega
  have hn3 : w.heap.size + 1 + 1 + 1 ∉ rowBs A1 c1 := fun h => by have := hba _ h; omega
  have hn4 : w1.heap.size ∉ rowBs A1 c1 := fun h => by have := hba _ h; omega
  have k1 : w1.heap[w.heap.size + 1]? = some (.cells #[.string nm] 9 (0, 0)) := below_keep hb1 (by repeat first | exact hp_new (by simp) | rw [hp_old (by simp)])
  have k2 : w1.heap[w.heap.size + 1 + 1]? = some (.cells #[.int .i64 v.kind, .int .i64 v.int, .string v.str] 30 (0, 0)) := below_keep hb1 (by repeat first | exact hp_new (by simp) | rw [hp_old (by simp)])
  have k3 : w1.heap[w.heap.size + 1 + 1 + 1]? = some (.cells #[.int .i64 0, .int .i64 0, .bool false, .int .i64 0, .slice none 0 0] 28 (0, 0)) := below_keep hb1 (by repeat first | exact hp_new (by simp) | rw [hp_old (by simp)])
  have HK := Lib.hid (And.intro k1 (And.intro k2 k3))
  have HD := Lib.hid (slices_DeleteFunc_Attr A1 f.attrs.length c1 f.attrs 65 #[.pointer (some ⟨w.heap.size + 1, 0, none⟩)] (fun x => eqS x.name nm) (w.heap.size + 1 + 1 + 1 + 1) (w1.alloc (.cells #[.int .i64 f.id, .int .i64 f.owner, .bool f.shared, .int .i64 f.link, .slice A1 f.attrs.length c1] 28)) ((hr1.below (by go_grown)).re (fun b hb => (hba b hb).1)) (by omega) (by simp; omega) (fun _ _ => by kernel_rfl) (pred_atr (by omega) ((blk_cell? (g := w.heap.size + 1) ((hp_old (by omega)).trans k1) 0)) (fun w' x h => impl_SetAttr_1 x nm _ w' h)))
  clear hr1
  go_wp2_with fail
  refine HD.out.mono ?_; rintro e w2 ⟨rfl, hr2, hc2⟩
  have q1 : w2.heap[w.heap.size + 1]? = some (.cells #[.string nm] 9 (0, 0)) := hc2.keepb ((hp_old (by omega)).trans HK.out.1) hn1
  have q2 : w2.heap[w.heap.size + 1 + 1]? = some (.cells #[.int .i64 v.kind, .int .i64 v.int, .string v.str] 30 (0, 0)) := hc2.keepb ((hp_old (by omega)).trans HK.out.2.1) hn2
  have q3 : w2.heap[w.heap.size + 1 + 1 + 1]? = some (.cells #[.int .i64 0, .int .i64 0, .bool false, .int .i64 0, .slice none 0 0] 28 (0, 0)) := hc2.keepb ((hp_old (by omega)).trans HK.out.2.2) hn3
  have q4 : w2.heap[w1.heap.size]? = some (.cells #[.int .i64 f.id, .int .i64 f.owner, .bool f.shared, .int .i64 f.link, .slice A1 f.attrs.length c1] 28 (0, 0)) := hc2.keepb (hp_new rfl) hn4
  have b1 := blk_cell? q1
  have b2 := blk_cell? q2
  have b3 := blk_cell? q3
  have b4 := blk_cell? q4
  have f3 := blk_free q3
  have f4 := blk_free q4
  have HQ := Lib.hid (And.intro q1 (And.intro q2 (And.intro q3 q4)))
  have HR := Lib.hid hr2
  have HC2 := Lib.hid hc2
  clear q1 q2 q3 q4 hr2 hc2
  have hdl : (dropA f.attrs nm).length ≤ f.attrs.length := List.length_filter_le _ _
  have HBW := Lib.hid (Below.mark (B := w.heap.size) (w := w) (ex_alloc hB1 _) HC2.out (by simp; omega) (fun b hb => by have := hba b hb; omega))
  cases hv : (v.kind == 0) with
  | true =>
    go_wp2_with fail
    refine bodyPost_ret (v := f.v A1 (dropA f.attrs nm).length c1) (by simp [results, Try.results12, go_sem, b3]; rfl) rfl ?_
    have hch : Chg [w1.heap.size, w.heap.size + 1 + 1 + 1] w2 (sets (w2.setCell ⟨w1.heap.size, 4, none⟩ (.slice A1 (dropA f.attrs nm).length c1)) (w.heap.size + 1 + 1 + 1) 0 [.int .i64 f.id, .int .i64 f.owner, .bool f.shared, .int .i64 f.link, .slice A1 (dropA f.attrs nm).length c1]) :=
      sets_chg (bs := [w1.heap.size, w.heap.size + 1 + 1 + 1]) (g := w.heap.size + 1 + 1 + 1) (w := w2) (w1 := w2) (by simp) _ _ 0 ((Chg.refl _ _).set (by simp) _)
    have hr : setA f nm v = { f with attrs := dropA f.attrs nm } := by unfold setA setL; rw [hv]; rfl
    rw [hr]
    refine ⟨A1, c1, rfl, (HR.out.chg hch fun b hb h => ?_).re (fun b hb => by have := hba b hb; omega), Below.mark HBW.out hch HBW.out.size (by simp; omega)⟩
    have h9 := hba b hb
    simp at h
    rcases h with h | h
    · omega
    · omega
  | false =>
    have HI := Lib.hid fun (W : World) (h : FRow 84 4 eAtr W (w.heap.size + 1 + 1 + 1 + 1) A1 (dropA f.attrs nm).length c1 (dropA f.attrs nm)) => slices_IndexFunc_Attr A1 (dropA f.attrs nm).length c1 (dropA f.attrs nm) 67 #[.pointer (some ⟨w.heap.size + 1, 0, none⟩)] (gtA nm) (w.heap.size + 1 + 1 + 1 + 1) W (h.sl encAtr (fun _ => rfl)) (by omega)
    have hcs : Chg [w1.heap.size] w2 (w2.setCell ⟨w1.heap.size, 4, none⟩ (.slice A1 (dropA f.attrs nm).length c1)) := (Chg.refl _ _).set (by simp) _
    have HR3 := Lib.hid (HR.out.chg hcs fun b hb h => by have h9 := hba b hb; simp at h; omega)
    have hw2 : w1.heap.size < w2.heap.size := by have := HC2.out.size; simp at this; omega
    have r1 := (blk_far w2 ⟨w1.heap.size, 4, none⟩ (show w.heap.size + 1 ≠ w1.heap.size by omega) (.slice A1 (dropA f.attrs nm).length c1)).trans HQ.out.1
    have r2 := (blk_far w2 ⟨w1.heap.size, 4, none⟩ (show w.heap.size + 1 + 1 ≠ w1.heap.size by omega) (.slice A1 (dropA f.attrs nm).length c1)).trans HQ.out.2.1
    have r3 := (blk_far w2 ⟨w1.heap.size, 4, none⟩ (show w.heap.size + 1 + 1 + 1 ≠ w1.heap.size by omega) (.slice A1 (dropA f.attrs nm).length c1)).trans HQ.out.2.2.1
    have r4 := blk_set HQ.out.2.2.2 4 (.slice A1 (dropA f.attrs nm).length c1)
    have HR9 := Lib.hid (And.intro r1 (And.intro r2 (And.intro r3 r4)))
    have HB3 := Lib.hid (Below.mark (B := w.heap.size) HBW.out hcs HBW.out.size (by simp; omega))
    have HX := Lib.hid (HI.out _ HR3.out (by simp; omega) (fun _ _ => by kernel_rfl) (pred_atr (by omega) (blk_cell? r1 0) (fun w' x h => impl_SetAttr_2 x nm _ w' h)))
    clear r1 r2 r3 r4 hcs HI
    go_wp2_with fail
    refine HX.out.mono ?_; rintro e w4 ⟨rfl, hb4⟩
    have q1 := below_keep hb4 HR9.out.1
    have q2 := below_keep hb4 HR9.out.2.1
    have q3 := below_keep hb4 HR9.out.2.2.1
    have q4 := below_keep hb4 HR9.out.2.2.2
    have hB4 := ex_trans HB3.out hb4
    have HR4 := Lib.hid (HR3.out.below hb4)
    have hw4 : w1.heap.size < w4.heap.size := blk_lt q4
    clear b1 b2 b3 b4 f3 f4 hb4
    have c1' := blk_cell? q1
    have c2' := blk_cell? q2
    have c3' := blk_cell? q3
    have c4' := blk_cell? q4
    have HQ4 := Lib.hid (And.intro q3 q4)
    have hr : setA f nm v = { f with attrs := insL (dropA f.attrs nm) ⟨nm, v⟩ ((dropA f.attrs nm).findIdx (gtA nm)) } := by unfold setA setL; rw [hv]; rfl
    have HRR := Lib.hid hr
    have hle : (dropA f.attrs nm).findIdx (gtA nm) ≤ (dropA f.attrs nm).length := List.findIdx_le_length
    have HINS := Lib.hid fun (i : Nat) (hi : i ≤ (dropA f.attrs nm).length) => slices_Insert_Attr A1 (dropA f.attrs nm).length c1 i (dropA f.attrs nm) ⟨nm, v⟩ w4.heap.size 1 (w.heap.size + 1 + 1 + 1 + 1) (w4.alloc (.cells #[.string nm, .int .i64 v.kind, .int .i64 v.int, .string v.str] 84)) (HR4.out.below (by go_grown)) (by omega) (by simp; omega) (blk_new w4 _) (fun hb => by have := hba _ hb; omega) hi
    have hins : ∀ i, (insL (dropA f.attrs nm) ⟨nm, v⟩ i).length = (dropA f.attrs nm).length + 1 := fun i => insL_len _ _ _
    have HL := Lib.hid hins
    clear q1 q2 q3 q4 hr hins
    rcases idxI_place (gtA nm) (dropA f.attrs nm) with ⟨p1, p2⟩ | ⟨p1, p2⟩
    · have HP := Lib.hid p2
      clear p2
      go_wp2_with fail
      refine (HINS.out _ (Nat.le_refl _)).mono ?_; rintro e w5 ⟨A5, c5, rfl, hr5, hc5, hx5⟩
      have n3 : w.heap.size + 1 + 1 + 1 ∉ rowBs A1 c1 := hn3
      have u3 := hc5.keepb ((hp_old (by omega)).trans HQ4.out.1) hn3
      have u4 := hc5.keepb ((hp_old (by omega)).trans HQ4.out.2) hn4
      have hB5 : Below w.heap.size w w5 := Below.mark (ex_alloc hB4 _) hc5 (by have := hB4.size; simp; omega) (fun b hb => by have := hba b hb; omega)
      have hbase := fun b hb => (hr5.base b hb).1
      have hap : w1.heap.size ∉ rowBs A5 c5 := fun h => by
        rcases hx5 _ h with h | h
        · exact hn4 h
        · simp at h; omega
      have HR5 := Lib.hid hr5
      have HF := Lib.hid (And.intro hbase hap)
      clear c1' c2' c3' c4' hr5 hc5 hx5 hbase hap n3
      have d3 := blk_cell? u3
      have d4 := blk_cell? u4
      have g3 := blk_free u3
      have g4 := blk_free u4
      clear u3 u4
      go_wp2_with fail
      refine bodyPost_ret (v := f.v A5 ((dropA f.attrs nm).length + 1) c5) (by simp [results, Try.results12, go_sem, d3]) rfl ?_
      have hch : Chg [w1.heap.size, w.heap.size + 1 + 1 + 1] w5 (sets (w5.setCell ⟨w1.heap.size, 4, none⟩ (.slice A5 ((dropA f.attrs nm).length + 1) c5)) (w.heap.size + 1 + 1 + 1) 0 [.int .i64 f.id, .int .i64 f.owner, .bool f.shared, .int .i64 f.link, .slice A5 ((dropA f.attrs nm).length + 1) c5]) :=
        sets_chg (bs := [w1.heap.size, w.heap.size + 1 + 1 + 1]) (g := w.heap.size + 1 + 1 + 1) (w := w5) (w1 := w5) (by simp) _ _ 0 ((Chg.refl _ _).set (by simp) _)
      have hlen := HL.out ((dropA f.attrs nm).findIdx (gtA nm))
      rw [HRR.out]
      refine ⟨A5, c5, by simp only [hlen]; rfl, ?_, Below.mark hB5 hch hB5.size (by have := hB4.size; simp; omega)⟩
      have h9 := (HR5.out.chg hch fun b hb h => by
        have h1 := HF.out.1 b hb
        simp at h
        rcases h with h | h
        · subst h; exact HF.out.2 hb
        · omega).re (B' := w.heap.size) (fun b hb => by have := HF.out.1 b hb; omega)
      simp only [hlen]
      have e9 := HP.out
      first | exact h9 | (rw [e9]; exact h9)
    · rw [p1]
      have hpos : (0 : Int) ≤ ((dropA f.attrs nm).findIdx (gtA nm) : Int) := by omega
      have HP := Lib.hid (rfl : (dropA f.attrs nm).findIdx (gtA nm) = (dropA f.attrs nm).findIdx (gtA nm))
      clear p1
      go_wp2_with fail
      refine (HINS.out _ hle).mono ?_; rintro e w5 ⟨A5, c5, rfl, hr5, hc5, hx5⟩
      have n3 : w.heap.size + 1 + 1 + 1 ∉ rowBs A1 c1 := hn3
      have u3 := hc5.keepb ((hp_old (by omega)).trans HQ4.out.1) hn3
      have u4 := hc5.keepb ((hp_old (by omega)).trans HQ4.out.2) hn4
      have hB5 : Below w.heap.size w w5 := Below.mark (ex_alloc hB4 _) hc5 (by have := hB4.size; simp; omega) (fun b hb => by have := hba b hb; omega)
      have hbase := fun b hb => (hr5.base b hb).1
      have hap : w1.heap.size ∉ rowBs A5 c5 := fun h => by
        rcases hx5 _ h with h | h
        · exact hn4 h
        · simp at h; omega
      have HR5 := Lib.hid hr5
      have HF := Lib.hid (And.intro hbase hap)
      clear c1' c2' c3' c4' hr5 hc5 hx5 hbase hap n3
      have d3 := blk_cell? u3
      have d4 := blk_cell? u4
      have g3 := blk_free u3
      have g4 := blk_free u4
      clear u3 u4
      go_wp2_with fail
      refine bodyPost_ret (v := f.v A5 ((dropA f.attrs nm).length + 1) c5) (by simp [results, Try.results12, go_sem, d3]) rfl ?_
      have hch : Chg [w1.heap.size, w.heap.size + 1 + 1 + 1] w5 (sets (w5.setCell ⟨w1.heap.size, 4, none⟩ (.slice A5 ((dropA f.attrs nm).length + 1) c5)) (w.heap.size + 1 + 1 + 1) 0 [.int .i64 f.id, .int .i64 f.owner, .bool f.shared, .int .i64 f.link, .slice A5 ((dropA f.attrs nm).length + 1) c5]) :=
        sets_chg (bs := [w1.heap.size, w.heap.size + 1 + 1 + 1]) (g := w.heap.size + 1 + 1 + 1) (w := w5) (w1 := w5) (by simp) _ _ 0 ((Chg.refl _ _).set (by simp) _)
      have hlen := HL.out ((dropA f.attrs nm).findIdx (gtA nm))
      rw [HRR.out]
      refine ⟨A5, c5, by simp only [hlen]; rfl, ?_, Below.mark hB5 hch hB5.size (by have := hB4.size; simp; omega)⟩
      have h9 := (HR5.out.chg hch fun b hb h => by
        have h1 := HF.out.1 b hb
        simp at h
        rcases h with h | h
        · subst h; exact HF.out.2 hb
        · omega).re (B' := w.heap.size) (fun b hb => by have := HF.out.1 b hb; omega)
      simp only [hlen]
      have e9 := HP.out
      first | exact h9 | (rw [e9]; exact h9)
theorem setA_ok {f : Fil} {nm : ByteArray} {v : Vl} {M : Nat} (h : f.ok M) (hl : f.attrs.length + 1 ≤ M) (hn : nm.size ≤ M) (hv : v.ok M) : (setA f nm v).ok M := by
  refine ⟨Nat.le_trans (setL_len f.attrs nm v) hl, fun a ha => ?_⟩
  have hd : ∀ a ∈ dropA f.attrs nm, a.ok M := fun a ha => h.2 a ((List.mem_filter.1 ha).1)
  have ha' : a ∈ setL f.attrs nm v := ha
  unfold setL at ha'
  split at ha'
  · exact hd a ha'
  · unfold insL at ha'
    rcases List.mem_append.1 ha' with h1 | h1
    · exact hd a (List.mem_of_mem_take h1)
    · rcases List.mem_cons.1 h1 with h1 | h1
      · subst h1; exact ⟨hn, hv⟩
      · exact hd a (List.mem_of_mem_drop h1)
theorem Src.drop3 {α : Type} {size m k : Nat} {enc : α → List Value} {w : World} {b off : Nat} {l : List α} (hE : Enc size enc) (h : Src size enc w (some ⟨b, off, none⟩) m l) (hk : k ≤ m) : Src size enc w (some ⟨b, off + k * size, none⟩) (m - k) (l.drop k) := by
  refine ⟨by rw [List.length_drop, h.1], fun hp => ?_⟩
  obtain ⟨a, hA, hlt, hc⟩ := h.2 (by omega)
  obtain rfl : (⟨b, off, none⟩ : Addr) = a := by simpa using hA
  refine ⟨_, rfl, hlt, fun j u hu => ?_⟩
  rw [← flat_drop hE, List.getElem?_drop] at hu
  have := hc _ u hu
  rw [Addr.add_lit] at this ⊢
  rw [Nat.add_assoc]; exact this
theorem leqS (a b : ByteArray) : (Op.bytesLess a.toList b.toList || a.toList == b.toList) = !(Op.bytesLess b.toList a.toList) := by
  rw [bless_gt a.toList b.toList, Bool.not_not]
def leTo (r : List Atr) (nm : ByteArray) (k : Nat) : Prop := ∀ i (h : i < r.length), i < k → Op.bytesLess nm.toList r[i].name.toList = false
theorem leTo_succ {r : List Atr} {nm : ByteArray} {k : Nat} (hk : k < r.length) (h : leTo r nm k) (hb : Op.bytesLess nm.toList r[k].name.toList = false) : leTo r nm (k + 1) := fun i hi hlt => by
  by_cases e : i = k
  · subst e; exact hb
  · exact h i hi (by omega)
theorem leTo_at {r : List Atr} {nm : ByteArray} {k : Nat} (hk : k ≤ r.length) (h : leTo r nm k) (hb : ∀ (hlt : k < r.length), Op.bytesLess nm.toList r[k].name.toList = true) : k = r.findIdx (gtA nm) := by
  rcases Nat.lt_or_ge k r.length with hlt | hge
  · exact ((List.findIdx_eq hlt).2 ⟨hb hlt, fun j hj => h j (by omega) hj⟩).symm
  · obtain rfl : k = r.length := by omega
    refine (List.findIdx_eq_length.2 fun x hx => ?_).symm
    obtain ⟨i, hi, rfl⟩ := List.getElem_of_mem hx
    exact h i hi hi
theorem src_atr {w : World} {g : Nat} (x : Atr) (h0 : w.cell? ⟨g, 0, none⟩ = some (.string x.name)) (h1 : w.cell? ⟨g, 1, none⟩ = some (.int .i64 x.val.kind)) (h2 : w.cell? ⟨g, 2, none⟩ = some (.int .i64 x.val.int)) (h3 : w.cell? ⟨g, 3, none⟩ = some (.string x.val.str)) : Src 4 eAtr w (some ⟨g, 0, none⟩) 1 [x] :=
  Src.of_cells (World.block_lt_of_cell? w _ h0) fun j u hu => by
    rw [Addr.add_lit, Nat.zero_add]
    match j, hu with
    | 0, hu => obtain rfl : _ = u := by simpa [eAtr] using hu
               exact h0
    | 1, hu => obtain rfl : _ = u := by simpa [eAtr] using hu
               exact h1
    | 2, hu => obtain rfl : _ = u := by simpa [eAtr] using hu
               exact h2
    | 3, hu => obtain rfl : _ = u := by simpa [eAtr] using hu
               exact h3
    | (j + 4), hu => simp [eAtr] at hu
set_option maxHeartbeats 12800000 in
theorem spec_SetAttr (f : Fil) (A : Option Addr) (n c : Nat) (nm : ByteArray) (v : Vl) (w : World) (hS : Sl 4 RAtr w A n f.attrs) (hn : n ≤ 1073741823) :
    Calls Try.prog 23 #[f.v A n c, .string nm, .agg #[.int .i64 v.kind, .int .i64 v.int, .string v.str]] w (NewFilR id 84 w (setA f nm v)) := by
  obtain rfl : f.attrs.length = n := hS.len
  obtain ⟨ii, hi, hi0, hi1, hi2⟩ := info_parts info_Attr
  go_enter Try.func23, Try.ntmps23
  go_wp2_with fail
  go_loopw [7, 8] (fun vv i wr => ∃ k q : Nat, k ≤ f.attrs.length ∧ q ≤ k ∧ i = .int .i64 k ∧ HasB wr [(w.heap.size, #[.int .i64 f.id, .int .i64 f.owner, .bool f.shared, .int .i64 f.link, .slice A f.attrs.length c], 28), (w.heap.size + 1, #[.int .i64 v.kind, .int .i64 v.int, .string v.str], 30), (w.heap.size + 1 + 1, #[.int .i64 0, .int .i64 0, .bool false, .int .i64 0, .slice none 0 0], 28)] ∧ AppB 84 4 eAtr w (w.heap.size + 1 + 1 + 1) q (dropA (f.attrs.take k) nm) vv wr) (fun _ i _ => f.attrs.length - (intOf i).toNat)
  case atStart =>
    refine ⟨0, 0, Nat.zero_le _, Nat.le_refl _, rfl, fun x hx => ?_, _, _, rfl, FRow.any0 _ _ _ _ _ _, by go_grown⟩
    simp only [List.mem_cons, List.not_mem_nil, or_false] at hx
    rcases hx with rfl | rfl | rfl
    all_goals (simp only; repeat first | exact hp_new (by simp) | rw [hp_old (by simp <;> omega)])
  case round =>
    obtain ⟨k, q, hk2, hq, rfl, hB, A1, c1, rfl, hrow, hb⟩ := hrel
    have HB := Lib.hid hB
    clear hB
    have HU0 := HB.out _ (List.Mem.head _)
    have HU1 := HB.out _ (List.Mem.tail _ (List.Mem.head _))
    have HU2 := HB.out _ (List.Mem.tail _ (List.Mem.tail _ (List.Mem.head _)))
    have u0 := blk_cell? HU0
    have u1 := blk_cell? HU1
    have u2 := blk_cell? HU2
    have v0 := blk_free HU0
    have v2 := blk_free HU2
    have z0 : w.heap.size + 1 + 1 < wr.heap.size := blk_lt HU2
    have z1 : w.heap.size + 1 < wr.heap.size := by omega
    have z2 : w.heap.size < wr.heap.size := by omega
    clear HU0 HU1 HU2
    by_cases hlt : k < f.attrs.length
    · obtain ⟨b, off, rfl, bw, bc⟩ := hS.atr (by omega)
      obtain ⟨q0, q1, q2, q3⟩ := bc k (by omega)
      rw [← hb.cell (p := ⟨b, _, none⟩) bw] at q0 q1 q2 q3
      have i0 : (0 : Int) ≤ (k : Int) := by omega
      have i1 : (k : Int) < (f.attrs.length : Int) := by omega
      have HR := Lib.hid hrow
      clear bc hrow
      cases hf : eqS f.attrs[k].name nm with
      | true =>
        have HT := Lib.hid (show dropA (f.attrs.take (k + 1)) nm = dropA (f.attrs.take k) nm by unfold dropA; rw [take_filter_succ _ f.attrs hlt, hf]; simp)
        have hne : (f.attrs[k].name.toList != nm.toList) = false := by unfold eqS at hf; simpa [bne] using hf
        unfold eqS at hf
        go_wp2_with fail
        go_roundw
        case rel => exact ⟨k + 1, q, by omega, by omega, by go_num, HB.out, A1, c1, rfl, by rw [HT.out]; exact HR.out, hb⟩
        case measure => simp [intOf]; omega
      | false =>
        have HT := Lib.hid (show dropA (f.attrs.take (k + 1)) nm = dropA (f.attrs.take k) nm ++ [f.attrs[k]] by unfold dropA; rw [take_filter_succ _ f.attrs hlt, hf]; simp)
        have hne : (f.attrs[k].name.toList != nm.toList) = true := by unfold eqS at hf; simpa [bne] using hf
        unfold eqS at hf
        go_wp2_with (at_builtin; refine wpList_append_row rfl _ _ _ rfl encAtr Try.underlying26 hi hi0 hi1 hi2 rfl rfl rfl (HR.out.below (by go_grown)) (src1 encAtr _ f.attrs[k] _ (by simp) rfl) (by unfold maxLen; omega) (by omega) (by simp; omega) ?_; intro A3 c3 w5 hr5 hc5 hx5)
        have HR2 := Lib.hid (show HasB w5 [(w.heap.size, #[.int .i64 f.id, .int .i64 f.owner, .bool f.shared, .int .i64 f.link, .slice (some ⟨b, off, none⟩) f.attrs.length c], 28), (w.heap.size + 1, #[.int .i64 v.kind, .int .i64 v.int, .string v.str], 30), (w.heap.size + 1 + 1, #[.int .i64 0, .int .i64 0, .bool false, .int .i64 0, .slice none 0 0], 28)] ∧ AppB 84 4 eAtr w (w.heap.size + 1 + 1 + 1) (q + 1) (dropA (f.attrs.take (k + 1)) nm) (.slice A3 (q + 1) c3) w5 from ⟨(HB.out.below (by go_grown)).chg hc5 (fun x hx h => by
            have h1 := (HR.out.base _ h).1
            simp only [List.mem_cons, List.not_mem_nil, or_false] at hx
            rcases hx with rfl | rfl | rfl <;> simp only at h1 <;> omega), A3, c3, rfl, by rw [HT.out]; exact hr5, Below.mark (ex_trans hb (by go_grown)) hc5 (by have := hb.size; simp; omega) (fun b hb' => by have := (HR.out.base b hb').1; omega)⟩)
        clear hr5 u0 u1 u2 v0 v2
        have u0 := blk_cell? (HR2.out.1 _ (List.Mem.head _))
        go_wp2_with fail
        go_roundw
        case rel => exact ⟨k + 1, q + 1, by omega, by omega, by go_num, HR2.out⟩
        case measure => simp [intOf]; omega
    · rw [List.take_of_length_le (by omega)] at hrow
      obtain ⟨r, hr⟩ : ∃ r, r = dropA f.attrs nm := ⟨_, rfl⟩
      rw [← hr] at hrow
      obtain rfl : r.length = q := hrow.len
      have hcap := hrow.le
      have HR := Lib.hid hrow
      have HN := Lib.hid (fun b hb' => (hrow.base b hb').1)
      clear hrow
      cases hv : (v.kind == 0) with
      | true =>
        have hv' : (v.kind != 0) = false := by simp [bne, hv]
        have hres : setA f nm v = { f with attrs := r } := by unfold setA setL; rw [hv, hr]; rfl
        have HS2 := Lib.hid hres
        clear hv hres hr
        go_wp2_with fail
        refine bodyPost_ret (v := f.v A1 r.length c1) (by simp [results, Try.results23, go_sem, u2]) rfl ?_
        have hch : Chg [w.heap.size, w.heap.size + 1 + 1] wr (sets (wr.setCell ⟨w.heap.size, 4, none⟩ (.slice A1 r.length c1)) (w.heap.size + 1 + 1) 0 [.int .i64 f.id, .int .i64 f.owner, .bool f.shared, .int .i64 f.link, .slice A1 r.length c1]) :=
          sets_chg (bs := [w.heap.size, w.heap.size + 1 + 1]) (g := w.heap.size + 1 + 1) (w := wr) (w1 := wr) (by simp) _ _ 0 ((Chg.refl _ _).set (by simp) _)
        rw [HS2.out]
        refine ⟨A1, c1, rfl, (HR.out.chg hch fun b hb h => ?_).re (fun b hb => by have := HN.out b hb; omega), Below.mark hb hch hb.size (by simp; omega)⟩
        have h9 := HN.out b hb
        simp at h
        omega
      | false =>
        have hv' : (v.kind != 0) = true := by simp [bne, hv]
        have hres : setA f nm v = { f with attrs := insL r ⟨nm, v⟩ (r.findIdx (gtA nm)) } := by unfold setA setL; rw [hv, hr]; rfl
        have HS2 := Lib.hid hres
        clear hv hres hr
        go_wp2_with fail
        go_loop [9] (fun i => ∃ j : Nat, j ≤ r.length ∧ i = .int .i64 j ∧ leTo r nm j) (fun i => r.length - (intOf i).toNat)
        case atStart => exact ⟨0, Nat.zero_le _, rfl, fun _ _ h => absurd h (by omega)⟩
        case round =>
          obtain ⟨j, hj2, rfl, hT⟩ := hrel
          have HT := Lib.hid hT
          clear hT
          have i0 : (0 : Int) ≤ (j : Int) := by omega
          have i2 : (j : Int) ≤ (r.length : Int) := by omega
          have i3 : (j : Int) ≤ (c1 : Int) := by omega
          by_cases hjt : j < r.length
          · obtain ⟨g, rfl, hBg, hgw, hrb, hfr, hcell⟩ := HR.out.cell encAtr (by omega)
            have q0 := hcell j hjt 0 _ rfl
            simp only [Nat.add_zero] at q0
            have i1 : (j : Int) < (r.length : Int) := by omega
            have hd : decide ((j : Int) < (r.length : Int)) = true := decide_eq_true i1
            clear hcell hfr
            cases hq : Op.bytesLess nm.toList r[j].name.toList with
            | false =>
              have hle : (Op.bytesLess r[j].name.toList nm.toList || r[j].name.toList == nm.toList) = true := by rw [leqS, hq]; rfl
              go_wp2_with fail
              go_round
              case rel => exact ⟨j + 1, by omega, by go_num, leTo_succ hjt HT.out hq⟩
              case measure => simp [intOf]; omega
            | true =>
              have hle : (Op.bytesLess r[j].name.toList nm.toList || r[j].name.toList == nm.toList) = false := by rw [leqS, hq]; rfl
              have HK := Lib.hid (leTo_at hj2 HT.out fun _ => hq)
              clear HT
              go_upto_region 11 with fail
              go_cut [10] (fun s10 w' => ∃ (A8 : Option Addr) (c8 : Nat), s10 = .slice A8 (j + 1) c8 ∧ FRow 84 4 eAtr w' wr.heap.size A8 (j + 1) c8 (r.take j ++ [⟨nm, v⟩]) ∧ HasB w' [(w.heap.size, #[.int .i64 f.id, .int .i64 f.owner, .bool f.shared, .int .i64 f.link, .slice A f.attrs.length c], 28), (w.heap.size + 1, #[.int .i64 v.kind, .int .i64 v.int, .string v.str], 30), (w.heap.size + 1 + 1, #[.int .i64 0, .int .i64 0, .bool false, .int .i64 0, .slice none 0 0], 28)] ∧ Below w.heap.size w w' ∧ FRow 84 4 eAtr w' (w.heap.size + 1 + 1 + 1) (some ⟨g, 0, none⟩) r.length c1 r ∧ wr.heap.size ≤ w'.heap.size)
              case first =>
                go_region_law (first
                  | (refine step_append_row rfl (.tmp 53) (.tmp 56) _ rfl encAtr Try.underlying26 hi hi0 hi1 hi2 rfl rfl rfl (FRow.any0 _ _ _ _ wr.heap.size _) (((Src.of_row encAtr HR.out).below (by go_grown)).take encAtr (k := j) (by omega)) (by unfold maxLen; omega) (by omega) (by simp <;> omega) ?_; intro A6 c6 w6 hr6 hc6 hx6; have hB6 : Below w.heap.size w w6 := (Below.mark (B := w.heap.size) (w := w) (by repeat first | exact hb | refine Below.drew ?_ | refine ex_alloc ?_ _) hc6 (by have := hb.size; simp <;> omega) (by simp [rowBs_zero])); have HC6' := Lib.hid (show Chg [] wr w6 from (Chg.of_below _ (by go_grown)).trans (hc6.mono (by simp [rowBs_zero]))); have z6 : wr.heap.size < w6.heap.size := (by have := hc6.size; simp at this; omega); have x60 : w6.cell? ⟨w.heap.size + 1, 0, none⟩ = some (.int .i64 v.kind) := hc6.cell (by go_simp) (by simp [rowBs_zero]); have x61 : w6.cell? ⟨w.heap.size + 1, 1, none⟩ = some (.int .i64 v.int) := hc6.cell (by go_simp) (by simp [rowBs_zero]); have x62 : w6.cell? ⟨w.heap.size + 1, 2, none⟩ = some (.string v.str) := hc6.cell (by go_simp) (by simp [rowBs_zero]); have HC6 := Lib.hid hc6; have HR6 := Lib.hid (show FRow 84 4 eAtr w6 wr.heap.size A6 j c6 (r.take j) by simpa using hr6); clear hr6 hx6 hc6)
                  | (refine step_append_row rfl (.tmp 57) (.tmp 61) _ rfl encAtr Try.underlying26 hi hi0 hi1 hi2 rfl rfl rfl (HR6.out.below (by go_grown)) (by refine src_atr ⟨nm, v⟩ ?_ ?_ ?_ ?_ <;> first | (go_simp; done) | (refine HC6.out.cell ?_ (by simp [rowBs_zero]); go_simp; done)) (by unfold maxLen; omega) (by omega) (by have := hB6.size; simp <;> omega) ?_; intro A8 c8 w8 hr8 hc8 hx8; have hB8 : Below w.heap.size w w8 := (Below.mark (B := w.heap.size) (w := w) (by repeat first | exact hB6 | refine Below.drew ?_ | refine ex_alloc ?_ _) hc8 (by have := hB6.size; simp <;> omega) (fun b hb => by have := (HR6.out.base b hb).1; omega)); have HC8 := Lib.hid (show Chg (rowBs A6 c6) wr w8 from ((HC6'.out.mono (by simp)).trans (Chg.of_below _ (by go_grown))).trans hc8); have HR8 := Lib.hid hr8; clear hr8 hx8 hc8))
                all_goals
                  have HR8' := Lib.hid (show FRow 84 4 eAtr w8 wr.heap.size A8 (j + 1) c8 (r.take j ++ [⟨nm, v⟩]) from HR8.out)
                  have HB8 := Lib.hid (show HasB w8 [(w.heap.size, #[.int .i64 f.id, .int .i64 f.owner, .bool f.shared, .int .i64 f.link, .slice A f.attrs.length c], 28), (w.heap.size + 1, #[.int .i64 v.kind, .int .i64 v.int, .string v.str], 30), (w.heap.size + 1 + 1, #[.int .i64 0, .int .i64 0, .bool false, .int .i64 0, .slice none 0 0], 28)] from HB.out.chg HC8.out (fun x hx h => by
                            have h1 := (HR6.out.base _ h).1
                            simp only [List.mem_cons, List.not_mem_nil, or_false] at hx
                            rcases hx with rfl | rfl | rfl <;> simp only at h1 <;> omega))
                  have HO8 := Lib.hid (show FRow 84 4 eAtr w8 (w.heap.size + 1 + 1 + 1) (some ⟨g, 0, none⟩) r.length c1 r from HR.out.chg HC8.out (fun b hb h => (by have h1 := (HR6.out.base b h).1; have h2 := (HR.out.base b hb).2; omega)))
                  go_wp2_with fail
                  go_meet
                  exact ⟨A8, c8, rfl, HR8'.out, HB8.out, hB8, HO8.out, HC8.out.size⟩
              case rest =>
                generalize wc = w8 at *
                obtain ⟨A8, c8, rfl, hr8, hb8, hB8, ho8, z8⟩ := hcut
                have HR8' := Lib.hid hr8
                have HB8 := Lib.hid hb8
                have HO8 := Lib.hid ho8
                clear hr8 hb8 ho8 u0 u1 u2 v0 v2
                have hck : ¬ (c1 = j) := by omega
                go_wp2_with (at_builtin; refine wpList_append_row rfl _ _ _ rfl encAtr Try.underlying26 hi hi0 hi1 hi2 rfl rfl rfl HR8'.out (by have hh := Src.drop3 encAtr (Src.of_row encAtr HO8.out) hj2; rw [Nat.zero_add] at hh; exact hh) (by unfold maxLen; omega) (by omega) z8 ?_; intro A9 c9 w9 hr9 hc9 hx9; have HB := Lib.hid (HB8.out.chg hc9 (fun x hx h => by
                          have h1 := (HR8'.out.base _ h).1
                          simp only [List.mem_cons, List.not_mem_nil, or_false] at hx
                          rcases hx with rfl | rfl | rfl <;> simp only at h1 <;> omega)); have HU0 := HB.out _ (List.Mem.head _); have HU2 := HB.out _ (List.Mem.tail _ (List.Mem.tail _ (List.Mem.head _))); have u0 := blk_cell? HU0; have u2 := blk_cell? HU2; have v0 := blk_free HU0; have v2 := blk_free HU2; have z9 : w.heap.size + 1 + 1 < w9.heap.size := (blk_lt HU2); have hB9 : Below w.heap.size w w9 := Below.mark hB8 hc9 (by omega) (fun b hb => (by have := (HR8'.out.base b hb).1; omega)); have HR9 := Lib.hid hr9; clear HU0 HU2 hr9 hc9 hx9)
                all_goals
                  refine bodyPost_ret (v := f.v A9 (j + 1 + (r.length - j)) c9) (by simp [results, Try.results23, go_sem, u2]) rfl ?_
                  have hch : Chg [w.heap.size, w.heap.size + 1 + 1] w9 (sets (w9.setCell ⟨w.heap.size, 4, none⟩ (.slice A9 (j + 1 + (r.length - j)) c9)) (w.heap.size + 1 + 1) 0 [.int .i64 f.id, .int .i64 f.owner, .bool f.shared, .int .i64 f.link, .slice A9 (j + 1 + (r.length - j)) c9]) :=
                    sets_chg (bs := [w.heap.size, w.heap.size + 1 + 1]) (g := w.heap.size + 1 + 1) (w := w9) (w1 := w9) (by simp) _ _ 0 ((Chg.refl _ _).set (by simp) _)
                  rw [HS2.out]
                  have hl9 : (insL r ⟨nm, v⟩ (r.findIdx (gtA nm))).length = j + 1 + (r.length - j) := by rw [insL_len] <;> omega
                  have h9 := (HR9.out.chg hch fun b hb h => by
                      have h1 := (HR9.out.base b hb).1
                      simp at h
                      omega).re (B' := w.heap.size) (fun b hb => by have := (HR9.out.base b hb).1; omega)
                  refine ⟨A9, c9, by simp only [hl9]; rfl, ?_, Below.mark hB9 hch hB9.size (by simp; omega)⟩
                  have e9 : insL r ⟨nm, v⟩ (r.findIdx (gtA nm)) = (r.take j ++ [⟨nm, v⟩]) ++ r.drop j := by rw [← HK.out]; simp [insL]
                  simp only [hl9]
                  rw [e9]
                  exact h9

          · obtain rfl : j = r.length := by omega
            have hd : decide ((r.length : Int) < (r.length : Int)) = false := decide_eq_false (by omega)
            have HK := Lib.hid (leTo_at (Nat.le_refl _) HT.out fun h => absurd h (by omega))
            clear HT hjt
            go_upto_region 11 with fail
            go_cut [10] (fun s10 w' => ∃ (A8 : Option Addr) (c8 : Nat), s10 = .slice A8 (r.length + 1) c8 ∧ FRow 84 4 eAtr w' wr.heap.size A8 (r.length + 1) c8 (r.take r.length ++ [⟨nm, v⟩]) ∧ HasB w' [(w.heap.size, #[.int .i64 f.id, .int .i64 f.owner, .bool f.shared, .int .i64 f.link, .slice A f.attrs.length c], 28), (w.heap.size + 1, #[.int .i64 v.kind, .int .i64 v.int, .string v.str], 30), (w.heap.size + 1 + 1, #[.int .i64 0, .int .i64 0, .bool false, .int .i64 0, .slice none 0 0], 28)] ∧ Below w.heap.size w w' ∧ FRow 84 4 eAtr w' (w.heap.size + 1 + 1 + 1) A1 r.length c1 r ∧ wr.heap.size ≤ w'.heap.size)
            case first =>
              go_region_law (first
                | (refine step_append_row rfl (.tmp 53) (.tmp 56) _ rfl encAtr Try.underlying26 hi hi0 hi1 hi2 rfl rfl rfl (FRow.any0 _ _ _ _ wr.heap.size _) (((Src.of_row encAtr HR.out).below (by go_grown)).take encAtr (k := r.length) (by omega)) (by unfold maxLen; omega) (by omega) (by simp <;> omega) ?_; intro A6 c6 w6 hr6 hc6 hx6; have hB6 : Below w.heap.size w w6 := (Below.mark (B := w.heap.size) (w := w) (by repeat first | exact hb | refine Below.drew ?_ | refine ex_alloc ?_ _) hc6 (by have := hb.size; simp <;> omega) (by simp [rowBs_zero])); have HC6' := Lib.hid (show Chg [] wr w6 from (Chg.of_below _ (by go_grown)).trans (hc6.mono (by simp [rowBs_zero]))); have z6 : wr.heap.size < w6.heap.size := (by have := hc6.size; simp at this; omega); have x60 : w6.cell? ⟨w.heap.size + 1, 0, none⟩ = some (.int .i64 v.kind) := hc6.cell (by go_simp) (by simp [rowBs_zero]); have x61 : w6.cell? ⟨w.heap.size + 1, 1, none⟩ = some (.int .i64 v.int) := hc6.cell (by go_simp) (by simp [rowBs_zero]); have x62 : w6.cell? ⟨w.heap.size + 1, 2, none⟩ = some (.string v.str) := hc6.cell (by go_simp) (by simp [rowBs_zero]); have HC6 := Lib.hid hc6; have HR6 := Lib.hid (show FRow 84 4 eAtr w6 wr.heap.size A6 r.length c6 (r.take r.length) by simpa using hr6); clear hr6 hx6 hc6)
                | (refine step_append_row rfl (.tmp 57) (.tmp 61) _ rfl encAtr Try.underlying26 hi hi0 hi1 hi2 rfl rfl rfl (HR6.out.below (by go_grown)) (by refine src_atr ⟨nm, v⟩ ?_ ?_ ?_ ?_ <;> first | (go_simp; done) | (refine HC6.out.cell ?_ (by simp [rowBs_zero]); go_simp; done)) (by unfold maxLen; omega) (by omega) (by have := hB6.size; simp <;> omega) ?_; intro A8 c8 w8 hr8 hc8 hx8; have hB8 : Below w.heap.size w w8 := (Below.mark (B := w.heap.size) (w := w) (by repeat first | exact hB6 | refine Below.drew ?_ | refine ex_alloc ?_ _) hc8 (by have := hB6.size; simp <;> omega) (fun b hb => by have := (HR6.out.base b hb).1; omega)); have HC8 := Lib.hid (show Chg (rowBs A6 c6) wr w8 from ((HC6'.out.mono (by simp)).trans (Chg.of_below _ (by go_grown))).trans hc8); have HR8 := Lib.hid hr8; clear hr8 hx8 hc8))
              all_goals
                have HR8' := Lib.hid (show FRow 84 4 eAtr w8 wr.heap.size A8 (r.length + 1) c8 (r.take r.length ++ [⟨nm, v⟩]) from HR8.out)
                have HB8 := Lib.hid (show HasB w8 [(w.heap.size, #[.int .i64 f.id, .int .i64 f.owner, .bool f.shared, .int .i64 f.link, .slice A f.attrs.length c], 28), (w.heap.size + 1, #[.int .i64 v.kind, .int .i64 v.int, .string v.str], 30), (w.heap.size + 1 + 1, #[.int .i64 0, .int .i64 0, .bool false, .int .i64 0, .slice none 0 0], 28)] from HB.out.chg HC8.out (fun x hx h => by
                          have h1 := (HR6.out.base _ h).1
                          simp only [List.mem_cons, List.not_mem_nil, or_false] at hx
                          rcases hx with rfl | rfl | rfl <;> simp only at h1 <;> omega))
                have HO8 := Lib.hid (show FRow 84 4 eAtr w8 (w.heap.size + 1 + 1 + 1) A1 r.length c1 r from HR.out.chg HC8.out (fun b hb h => (by have h1 := (HR6.out.base b h).1; have h2 := (HR.out.base b hb).2; omega)))
                go_wp2_with fail
                go_meet
                exact ⟨A8, c8, rfl, HR8'.out, HB8.out, hB8, HO8.out, HC8.out.size⟩
            case rest =>
              generalize wc = w8 at *
              obtain ⟨A8, c8, rfl, hr8, hb8, hB8, ho8, z8⟩ := hcut
              have HR8' := Lib.hid hr8
              have HB8 := Lib.hid hb8
              have HO8 := Lib.hid ho8
              clear hr8 hb8 ho8 u0 u1 u2 v0 v2
              have h1l : (r.length : Int) ≤ (c1 : Int) := i3
              go_wp2_with (at_builtin; refine wpList_append_row rfl _ _ _ rfl encAtr Try.underlying26 hi hi0 hi1 hi2 rfl rfl rfl HR8'.out (Src.none0 _ _) (by unfold maxLen; omega) (by omega) z8 ?_; intro A9 c9 w9 hr9 hc9 hx9; have HB := Lib.hid (HB8.out.chg hc9 (fun x hx h => by
                        have h1 := (HR8'.out.base _ h).1
                        simp only [List.mem_cons, List.not_mem_nil, or_false] at hx
                        rcases hx with rfl | rfl | rfl <;> simp only at h1 <;> omega)); have HU0 := HB.out _ (List.Mem.head _); have HU2 := HB.out _ (List.Mem.tail _ (List.Mem.tail _ (List.Mem.head _))); have u0 := blk_cell? HU0; have u2 := blk_cell? HU2; have v0 := blk_free HU0; have v2 := blk_free HU2; have z9 : w.heap.size + 1 + 1 < w9.heap.size := (blk_lt HU2); have hB9 : Below w.heap.size w w9 := Below.mark hB8 hc9 (by omega) (fun b hb => (by have := (HR8'.out.base b hb).1; omega)); have HR9 := Lib.hid hr9; clear HU0 HU2 hr9 hc9 hx9)
              all_goals
                refine bodyPost_ret (v := f.v A9 (r.length + 1) c9) (by simp [results, Try.results23, go_sem, u2]) rfl ?_
                have hch : Chg [w.heap.size, w.heap.size + 1 + 1] w9 (sets (w9.setCell ⟨w.heap.size, 4, none⟩ (.slice A9 (r.length + 1) c9)) (w.heap.size + 1 + 1) 0 [.int .i64 f.id, .int .i64 f.owner, .bool f.shared, .int .i64 f.link, .slice A9 (r.length + 1) c9]) :=
                  sets_chg (bs := [w.heap.size, w.heap.size + 1 + 1]) (g := w.heap.size + 1 + 1) (w := w9) (w1 := w9) (by simp) _ _ 0 ((Chg.refl _ _).set (by simp) _)
                rw [HS2.out]
                have hl9 : (insL r ⟨nm, v⟩ (r.findIdx (gtA nm))).length = r.length + 1 := by rw [insL_len] <;> omega
                have h9 := (HR9.out.chg hch fun b hb h => by
                    have h1 := (HR9.out.base b hb).1
                    simp at h
                    omega).re (B' := w.heap.size) (fun b hb => by have := (HR9.out.base b hb).1; omega)
                refine ⟨A9, c9, by simp only [hl9]; rfl, ?_, Below.mark hB9 hch hB9.size (by simp; omega)⟩
                have e9 : insL r ⟨nm, v⟩ (r.findIdx (gtA nm)) = (r.take r.length ++ [⟨nm, v⟩]) ++ [] := by rw [← HK.out]; simp [insL]
                simp only [hl9]
                rw [e9]
                exact h9

end Go.Proofs.Ytjobgnioehkomaa
