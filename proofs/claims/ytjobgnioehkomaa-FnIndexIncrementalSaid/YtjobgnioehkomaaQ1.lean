/-
  CONTRACTS: postings are deleted from a row of the call's own.
-/
import Derived.WalkKit
import Derived.WalkSpells
import Derived.WalkLawsBesides
import Derived.Lib.Hide
import Derived.Handy
import Derived.StillTailTactics
import Derived.Deep.Light
import Derived.Deep.QuietTactic
import Derived.BigQuiet
import Derived.Deep.RegionHeld3
import Derived.Laws.CopyRow
import Derived.Test.YtjobgnioehkomaaLib
import Derived.Test.YtjobgnioehkomaaOwn
import Derived.Test.YtjobgnioehkomaaRow
import Derived.Test.YtjobgnioehkomaaHld
import Derived.Test.YtjobgnioehkomaaM0
import Derived.Test.YtjobgnioehkomaaC1
import Derived.Test.YtjobgnioehkomaaC2
import Derived.Test.YtjobgnioehkomaaT1
import Derived.Test.YtjobgnioehkomaaT2
import Derived.Test.YtjobgnioehkomaaT3
import Derived.Test.YtjobgnioehkomaaT4
import Derived.Test.YtjobgnioehkomaaC3
import Derived.Test.YtjobgnioehkomaaC4
import Derived.Test.YtjobgnioehkomaaC5
import Derived.Test.YtjobgnioehkomaaD1
import Derived.Test.YtjobgnioehkomaaD3
import Derived.Test.YtjobgnioehkomaaH1
import Derived.Test.YtjobgnioehkomaaRows
namespace Go.Proofs.Ytjobgnioehkomaa
open Go.RowKit
set_option linter.unusedVariables false
set_option maxRecDepth 100000
theorem zero_Posting : ∀ w, (zeroValue 107).run Try.prog w = .ok (.agg #[.string ByteArray.empty, .int .i64 0, .int .i64 0, .string ByteArray.empty, .slice none 0 0]) w := fun _ => by kernel_rfl
set_option maxHeartbeats 3200000 in
theorem slices_DeleteFunc_Posting (A : Option Addr) (n c : Nat) (l : List Ph) (kf : Nat) (caps : Array Value) (p : Ph → Bool) (B : Nat) (w : World) (h : FRow 107 5 ePh w B A n c l) (hn : n ≤ 1073741824) (hB : B ≤ w.heap.size)
    (hcf : ∀ args w, (callFunc kf args).run Try.prog w = .ok (.enter kf args) w) (hp : Pred Try.prog kf caps (fun p : Ph => .agg #[.string p.name, .int .i64 p.val.kind, .int .i64 p.val.int, .string p.val.str, .slice p.A p.n p.c]) p l B w) :
    Calls Try.prog 109 #[.slice A n c, .func (.func kf) #[] caps] w fun e' w' => e' = .returned (.slice A (l.filter fun x => !p x).length c) ∧ FRow 107 5 ePh w' B A (l.filter fun x => !p x).length c (l.filter fun x => !p x) ∧ Chg (rowBs A c) w w' := by
  obtain rfl : l.length = n := h.len
  have HI := Lib.hid (slices_IndexFunc_Posting A l.length c l kf caps p B w (h.sl encPh (fun _ => rfl)) hn hB hcf hp)
  cases hx : l.findIdx? p with
  | none =>
    have h0 := List.findIdx?_eq_none_iff.1 hx
    have e1 : (l.filter fun x => !p x) = l := List.filter_eq_self.2 fun x hm => by rw [h0 x hm]; rfl
    have ei : idxI p l = -1 := by unfold idxI; rw [hx]
    rw [e1]
    have HR := Lib.hid h
    clear hp h h0 e1
    have HI' := HI.out
    rw [ei] at HI'
    have HJ := Lib.hid HI'
    clear HI' ei hx HI
    go_enter Try.func109, Try.ntmps109
    go_wp2_with fail
    refine HJ.out.mono ?_; rintro e w1 ⟨rfl, hb1⟩
    go_wp2_with fail
    go_returns
    exact ⟨rfl, HR.out.below hb1, Chg.of_below _ hb1⟩
  | some i0 =>
    obtain ⟨hi0, hpi, hni⟩ := List.findIdx?_eq_some_iff_getElem.1 hx
    have ei : idxI p l = i0 := by unfold idxI; rw [hx]
    have hD0 := DelInv.start hi0 (fun j hj hji => by have := hni j hji; simpa using this) hpi
    have hcn := h.le
    obtain ⟨g, hA, hBg, hgw, hrb, -⟩ := h.row (by omega)
    subst hA
    have hk0 : (l.filter fun x => !p x).length < l.length := by
      rcases Nat.lt_or_ge (l.filter fun x => !p x).length l.length with h1 | h1
      · exact h1
      · have := (List.filter_eq_self.1 (List.filter_sublist.eq_of_length (Nat.le_antisymm (List.length_filter_le _ _) h1))) _ (List.getElem_mem hi0)
        rw [hpi] at this
        cases this
    rw [hrb]
    have hrb' := Lib.hid hrb
    have HR := Lib.hid h
    have HP := Lib.hid hp
    have HD := Lib.hid hD0
    have HI' := HI.out
    rw [ei] at HI'
    have HJ := Lib.hid HI'
    have HK0 := Lib.hid hk0
    have ge : ((i0 : Int) == -1) = false := by simp <;> omega
    clear HI' ei hx HI h hp hD0 hk0 hni hpi hrb
    go_enter Try.func109, Try.ntmps109
    go_wp2_with fail
    refine HJ.out.mono ?_; rintro e w1 ⟨rfl, hb1⟩
    go_wp2_with fail
    go_loopw [5, 6] (fun ii jj wr => ∃ j i : Nat, ∃ cur : List Ph, j ≤ l.length ∧ i < j ∧ ii = .int .i64 i ∧ jj = .int .i64 j ∧ DelInv p l j i cur ∧ FRow 107 5 ePh wr B (some ⟨g, 0, none⟩) l.length c cur ∧ Chg [g] w wr) (fun _ jj _ => l.length - (intOf jj).toNat)
    case atStart => exact ⟨i0 + 1, i0, l, by omega, by omega, rfl, by first | rfl | go_num, HD.out, HR.out.below hb1, Chg.of_below _ hb1⟩
    case round =>
      obtain ⟨j, i, cur, hj, hij, rfl, rfl, hD, hF, hC⟩ := hrel
      by_cases hlt : j < l.length
      · have i0' : (0 : Int) ≤ (j : Int) := by omega
        have i1' : (j : Int) < (l.length : Int) := by omega
        have i2' : (0 : Int) ≤ (i : Int) := by omega
        have i3' : (i : Int) < (l.length : Int) := by omega
        obtain ⟨g', hg', -, hgr, -, hfr, hcj⟩ := hF.cell encPh (by omega)
        obtain rfl : g = g' := by simpa using hg'
        have hat := hD.at_ hlt
        have q0 := hcj j (by rw [hD.1]; omega) 0 (.string l[j].name) (by rw [hat]; rfl)
        obtain ⟨v0, p0⟩ : ∃ v, wr.cell? ⟨g, i * 5 + 0, none⟩ = some v := ⟨_, hcj i (by rw [hD.1]; omega) 0 _ rfl⟩
        have q1 := hcj j (by rw [hD.1]; omega) 1 (.int .i64 l[j].val.kind) (by rw [hat]; rfl)
        obtain ⟨v1, p1⟩ : ∃ v, wr.cell? ⟨g, i * 5 + 1, none⟩ = some v := ⟨_, hcj i (by rw [hD.1]; omega) 1 _ rfl⟩
        have q2 := hcj j (by rw [hD.1]; omega) 2 (.int .i64 l[j].val.int) (by rw [hat]; rfl)
        obtain ⟨v2, p2⟩ : ∃ v, wr.cell? ⟨g, i * 5 + 2, none⟩ = some v := ⟨_, hcj i (by rw [hD.1]; omega) 2 _ rfl⟩
        have q3 := hcj j (by rw [hD.1]; omega) 3 (.string l[j].val.str) (by rw [hat]; rfl)
        obtain ⟨v3, p3⟩ : ∃ v, wr.cell? ⟨g, i * 5 + 3, none⟩ = some v := ⟨_, hcj i (by rw [hD.1]; omega) 3 _ rfl⟩
        have q4 := hcj j (by rw [hD.1]; omega) 4 (.slice l[j].A l[j].n l[j].c) (by rw [hat]; rfl)
        obtain ⟨v4, p4⟩ : ∃ v, wr.cell? ⟨g, i * 5 + 4, none⟩ = some v := ⟨_, hcj i (by rw [hD.1]; omega) 4 _ rfl⟩
        have HC := Lib.hid fun (w' : World) (hb' : Below wr.heap.size wr w') => HP.out w' ((hC.below hB (by simpa using hBg)).trans (hb'.mono (Nat.le_trans hB hC.size))) l[j] (List.getElem_mem _)
        have HL := Lib.hid hD.1
        clear hg' hcj hat
        simp only [Nat.add_zero] at q0 p0
        cases hf : p l[j] with
        | true =>
          have HN := Lib.hid (hD.skip hlt hf)
          have HF := Lib.hid hF
          have Hf := Lib.hid hf
          clear hD hF hf
          go_wp2_with fail
          refine (HC.out _ (by go_grown)).mono ?_; rintro e w2 ⟨rfl, hb2⟩
          rw [Hf.out]
          go_wp2_with fail
          go_roundw
          case rel => exact ⟨j + 1, i, cur, by omega, by omega, rfl, by go_num, HN.out, HF.out.below (ex_trans (by go_grown) hb2), hC.trans (Chg.of_below _ (ex_trans (by go_grown) hb2))⟩
          case measure => simp [intOf]; omega
        | false =>
          have HN := Lib.hid (hD.put hlt hf)
          have HF := Lib.hid hF
          have Hf := Lib.hid hf
          clear hD hF hf
          go_wp2_with fail
          refine (HC.out _ (by go_grown)).mono ?_; rintro e w2 ⟨rfl, hb2⟩
          rw [Hf.out]
          have hbx := ex_trans (w := wr) (by go_grown) hb2
          obtain ⟨hcc, hff⟩ := bcell hb2
          have hz2 : wr.heap.size < w2.heap.size := by have := hb2.size; simp at this; omega
          have y0 := keep_cell hbx p0
          have y1 := keep_cell hbx p1
          have y2 := keep_cell hbx p2
          have y3 := keep_cell hbx p3
          have y4 := keep_cell hbx p4
          have hfr2 : ∀ j, w2.frozen? ⟨g, j, none⟩ = false := fun j => (hbx.frozen (p := ⟨g, j, none⟩) hgr).trans (hfr j)
          go_wp2_with fail
          go_roundw
          case rel =>
            refine ⟨j + 1, i + 1, cur.set i l[j], by omega, by omega, by go_num, by go_num, HN.out, ?_, ?_⟩
            · have hh := FRow.setE (i := i) encPh (HF.out.below hbx) rfl (by rw [HL.out]; omega) l[j]
              exact hh
            · have hh := sets_chg (bs := [g]) (g := g) (w := w) (w1 := w2) (by simp) (ePh l[j]) w2 (i * 5) (hC.trans (Chg.of_below _ hbx))
              exact hh
          case measure => simp [intOf]; omega
      · obtain rfl : l.length = j := by omega
        have e1 : keep p l l.length = l.filter fun x => !p x := keep_all p l (Nat.le_refl _)
        have ei : i = (l.filter fun x => !p x).length := by rw [← e1]; exact hD.2.1.symm
        have ec : cur.take i = l.filter fun x => !p x := by rw [← e1]; exact hD.2.2.1
        have hic : i < c := by omega
        have hil : i < l.length := hij
        have HF := Lib.hid hF
        have HE := Lib.hid (And.intro ei ec)
        clear hF hD e1 ei ec
        go_wp2_with (refine wpList_clear_row rfl _ rfl encPh Try.underlying55 zero_Posting rfl (by simp [Value.oneCell', Value.cells]) HF.out (k := i) (by omega) _ ?hm _ _ ?hA rfl ?_)
        case hm => first | omega | simp
        case hA => intro _ g2 hg2; simp at hg2; subst hg2; simp
        intro w2 hr2 hc2
        rw [HE.out.2] at hr2
        have HR2 := Lib.hid hr2
        clear hr2
        go_wp2_with fail
        go_returns
        rw [hrb'.out] at hc2
        have e9 : Ending.returned (Value.slice (some ⟨g, 0, none⟩) i c) = .returned (.slice (some ⟨g, 0, none⟩) (l.filter fun x => !p x).length c) := by rw [← HE.out.1]
        have h9 := HR2.out
        rw [HE.out.1] at h9
        exact ⟨e9, h9, hC.trans hc2⟩
end Go.Proofs.Ytjobgnioehkomaa
