/-
  CONTRACTS: the library's stable sort, whole, at files' headers with their keys.
-/
import Derived.WalkKit
import Derived.WalkSpells
import Derived.WalkLawsBesides
import Derived.Lib.Hide
import Derived.Handy
import Derived.StillTailTactics
import Derived.Deep.Light
import Derived.Deep.QuietTactic
import Derived.BigQuiet
import Derived.Deep.RegionHeld3
import Derived.Deep.DeepCutAuto
import Derived.Test.YtjobgnioehkomaaLib
import Derived.Test.YtjobgnioehkomaaOwn
import Derived.Test.YtjobgnioehkomaaRow
import Derived.Test.YtjobgnioehkomaaN0
import Derived.Test.YtjobgnioehkomaaRaw
import Derived.Test.YtjobgnioehkomaaHld
import Derived.Test.YtjobgnioehkomaaHl2
import Derived.Test.YtjobgnioehkomaaHl3
import Derived.Test.YtjobgnioehkomaaM0
import Derived.Test.YtjobgnioehkomaaC1
import Derived.Test.YtjobgnioehkomaaC2
import Derived.Test.YtjobgnioehkomaaT1
import Derived.Test.YtjobgnioehkomaaT2
import Derived.Test.YtjobgnioehkomaaT3
import Derived.Test.YtjobgnioehkomaaT4
import Derived.Test.YtjobgnioehkomaaC3
import Derived.Test.YtjobgnioehkomaaC4
import Derived.Test.YtjobgnioehkomaaC5
import Derived.Test.YtjobgnioehkomaaD1
import Derived.Test.YtjobgnioehkomaaD3
import Derived.Test.YtjobgnioehkomaaH1
import Derived.Test.YtjobgnioehkomaaU0
import Derived.Test.YtjobgnioehkomaaU1
import Derived.Test.YtjobgnioehkomaaU2
import Derived.Test.YtjobgnioehkomaaRows
namespace Go.Proofs.Ytjobgnioehkomaa
open Go.RowKit
set_option linter.unusedVariables false
set_option maxRecDepth 100000
section
variable {α : Type} {key : α → Int}
/-- sorted piece by piece up to a -/
def ChsA (key : α → Int) (bs : Nat) (l0 : List α) (a : Nat) (cur : List α) : Prop := ∃ D, cur = D ++ l0.drop a ∧ D ++ chs key bs (l0.drop a) = chs key bs l0 ∧ D.length = a
/-- the pieces merged two by two up to a -/
def ChsB (key : α → Int) (bs : Nat) (l0 : List α) (a : Nat) (cur : List α) : Prop := ∃ D, cur = D ++ chs key bs (l0.drop a) ∧ D ++ chs key (2 * bs) (l0.drop a) = chs key (2 * bs) l0 ∧ D.length = a
theorem ChsA.start (bs : Nat) (l0 : List α) : ChsA key bs l0 0 l0 := ⟨[], by simp, by simp, rfl⟩
theorem ChsB.start (bs : Nat) (l0 : List α) : ChsB key bs l0 0 (chs key bs l0) := ⟨[], by simp, by simp, rfl⟩
theorem ChsA.cut {bs a : Nat} {l0 cur : List α} (h : ChsA key bs l0 a cur) (h0 : 0 < bs) (h1 : a + bs ≤ l0.length) :
    ∃ X D Y, cur = X ++ D ++ Y ∧ X.length = a ∧ D.length = bs ∧ ChsA key bs l0 (a + bs) (X ++ srt key D ++ Y) := by
  obtain ⟨D, rfl, h3, h4⟩ := h
  refine ⟨D, (l0.drop a).take bs, l0.drop (a + bs), ?_, h4, by rw [List.length_take, List.length_drop]; omega, D ++ srt key ((l0.drop a).take bs), rfl, ?_, ?_⟩
  · rw [← List.drop_drop, List.append_assoc, List.take_append_drop]
  · rw [← h3, chs_step (l := l0.drop a) h0 (by rw [List.length_drop]; omega), List.drop_drop, List.append_assoc]
  · rw [List.length_append, srt_len, List.length_take, List.length_drop]; omega
theorem ChsA.last {bs a : Nat} {l0 cur : List α} (h : ChsA key bs l0 a cur) (h1 : l0.length < a + bs) (h2 : a ≤ l0.length) :
    ∃ X D, cur = X ++ D ++ [] ∧ X.length = a ∧ a + D.length = l0.length ∧ X ++ srt key D ++ [] = chs key bs l0 := by
  obtain ⟨D, rfl, h3, h4⟩ := h
  refine ⟨D, l0.drop a, by simp, h4, by rw [List.length_drop]; omega, ?_⟩
  rw [← h3, chs_last (by rw [List.length_drop]; omega)]; simp
theorem ChsB.cut {bs a : Nat} {l0 cur : List α} (h : ChsB key bs l0 a cur) (h0 : 0 < bs) (h1 : a + 2 * bs ≤ l0.length) :
    ∃ X U V Y, cur = X ++ U ++ V ++ Y ∧ X.length = a ∧ U.length = bs ∧ V.length = bs ∧ Asc key U ∧ Asc key V ∧ ChsB key bs l0 (a + 2 * bs) (X ++ mrg key U V ++ Y) := by
  obtain ⟨D, rfl, h3, h4⟩ := h
  have e1 : ((l0.drop a).take bs) ++ ((l0.drop (a + bs)).take bs) = (l0.drop a).take (2 * bs) := by
    rw [show 2 * bs = bs + bs by omega, List.take_add, List.drop_drop]
  refine ⟨D, srt key ((l0.drop a).take bs), srt key ((l0.drop (a + bs)).take bs), chs key bs (l0.drop (a + 2 * bs)), ?_, h4, by rw [srt_len, List.length_take, List.length_drop]; omega, by rw [srt_len, List.length_take, List.length_drop]; omega, srt_asc _, srt_asc _, D ++ srt key ((l0.drop a).take (2 * bs)), ?_, ?_, ?_⟩
  · rw [chs_step (l := l0.drop a) h0 (by rw [List.length_drop]; omega), List.drop_drop, chs_step (l := l0.drop (a + bs)) h0 (by rw [List.length_drop]; omega), List.drop_drop, show a + bs + bs = a + 2 * bs by omega]
    simp only [List.append_assoc]
  · rw [srt_merge, e1]
  · rw [← h3, chs_step (bs := 2 * bs) (l := l0.drop a) (by omega) (by rw [List.length_drop]; omega), List.drop_drop, List.append_assoc]
  · rw [List.length_append, srt_len, List.length_take, List.length_drop]; omega
theorem ChsB.last {bs a : Nat} {l0 cur : List α} (h : ChsB key bs l0 a cur) (h0 : 0 < bs) (h1 : l0.length < a + 2 * bs) (h2 : a + bs < l0.length) :
    ∃ X U V, cur = X ++ U ++ V ++ [] ∧ X.length = a ∧ U.length = bs ∧ a + bs + V.length = l0.length ∧ Asc key U ∧ Asc key V ∧ X ++ mrg key U V ++ [] = chs key (2 * bs) l0 := by
  obtain ⟨D, rfl, h3, h4⟩ := h
  refine ⟨D, srt key ((l0.drop a).take bs), srt key (l0.drop (a + bs)), ?_, h4, by rw [srt_len, List.length_take, List.length_drop]; omega, by rw [srt_len, List.length_drop]; omega, srt_asc _, srt_asc _, ?_⟩
  · rw [chs_step (l := l0.drop a) h0 (by rw [List.length_drop]; omega), List.drop_drop, chs_last (l := l0.drop (a + bs)) (by rw [List.length_drop]; omega)]
    simp
  · rw [← h3, chs_last (bs := 2 * bs) (by rw [List.length_drop]; omega), srt_merge, ← List.drop_drop, List.take_append_drop]; simp
theorem ChsB.none {bs a : Nat} {l0 cur : List α} (h : ChsB key bs l0 a cur) (h2 : l0.length ≤ a + bs) : cur = chs key (2 * bs) l0 := by
  obtain ⟨D, rfl, h3, h4⟩ := h
  rw [← h3, chs_last (by rw [List.length_drop]; omega), chs_last (by rw [List.length_drop]; omega)]
theorem mem_srt3 {X D Y : List α} {y : α} (h : y ∈ X ++ srt key D ++ Y) : y ∈ X ++ D ++ Y := by
  simp only [List.mem_append, srt_mem] at h ⊢; exact h
theorem mem_mrg4 {X U V Y : List α} {y : α} (h : y ∈ X ++ mrg key U V ++ Y) : y ∈ X ++ U ++ V ++ Y := by
  simp only [List.mem_append, mrg_mem] at h ⊢
  rcases h with (h | (h | h)) | h <;> simp [h]
end
set_option maxHeartbeats 6400000 in
theorem slices_stable_File (A : Option Addr) (n c : Nat) (l : List HK) (kf : Nat) (caps : Array Value) (ok : HK → Prop) (B : Nat) (w : World) (h : FRow 28 5 eHk w B A n c l) (hn : n ≤ 1073741824)
    (hok : ∀ x ∈ l, ok x) (hB : B ≤ w.heap.size) (hcf : ∀ args w, (callFunc kf args).run Try.prog w = .ok (.enter kf args) w) (hp : Cmp2 Try.prog kf caps ok B w) :
    Calls Try.prog 162 #[.slice A n c, .int .i64 n, .func (.func kf) #[] caps] w fun e w' => e = .returned (.tuple #[]) ∧ FRow 28 5 eHk w' B A n c (srt hkey l) ∧ Chg (rowBs A c) w w' := by
  have hbs : ∀ x ∈ rowBs A c, B ≤ x := fun x hx => (h.base x hx).1
  have hln : l.length = n := h.len
  have HR := Lib.hid h
  have HP := Lib.hid hp
  have HOK := Lib.hid hok
  have HBS := Lib.hid hbs
  clear h hp hok hbs
  go_enter Try.func162, Try.ntmps162
  go_wp2_with fail
  go_loopw [7, 8] (fun aa bb wr => ∃ (a : Nat) (cur : List HK), a ≤ n ∧ aa = .int .i64 a ∧ bb = .int .i64 ((a + 20 : Nat) : Int) ∧ ChsA hkey 20 l a cur ∧ (∀ y ∈ cur, ok y) ∧ FRow 28 5 eHk wr B A n c cur ∧ Chg (rowBs A c) w wr) (fun aa _ _ => n - (intOf aa).toNat)
  case atStart => exact ⟨0, l, by omega, rfl, by first | rfl | go_num, ChsA.start 20 l, HOK.out, HR.out, Chg.refl _ _⟩
  case round =>
    obtain ⟨a, cur, ha, rfl, rfl, hI, hm, hF, hC⟩ := hrel
    have HM := Lib.hid hm
    have HF := Lib.hid hF
    have HC := Lib.hid hC
    have HBr := Lib.hid (Nat.le_trans hB hC.size)
    have HPr := Lib.hid (HP.out.on (hC.below hB HBS.out))
    clear hm hF hC
    by_cases hlt : a + 20 ≤ n
    · have i1 : ((a + 20 : Nat) : Int) ≤ (n : Int) := by omega
      have r1 : IntKind.i64.wrap (((a + 20 : Nat) : Int) + 20) = ((a + 20 : Nat) : Int) + 20 := IntWalk.i64_in _ (by omega)
      obtain ⟨X, D, Y, h1, h2, h3, h4⟩ := hI.cut (by omega) (by omega)
      have HX := Lib.hid (And.intro h1 h4)
      clear hI h1 h4
      generalize hab : a + 20 = b at *
      go_wp2_with fail
      refine (slices_insSort_File A n c cur X D Y a b _ _ rfl rfl kf caps ok B _ HF.out hn HX.out.1 h2 (by omega) HM.out HBr.out hcf HPr.out).mono ?_; rintro e w1 ⟨rfl, hF1, hC1⟩
      have HF1 := Lib.hid (And.intro hF1 hC1)
      clear hF1 hC1
      go_wp2_with fail
      go_roundw
      case rel => exact ⟨b, _, by omega, by first | rfl | go_num, by go_num, HX.out.2, fun y hy => HM.out y (by rw [HX.out.1]; exact mem_srt3 hy), HF1.out.1, HC.out.trans HF1.out.2⟩
      case measure => simp [intOf]; omega
    · have i1 : ¬ (((a + 20 : Nat) : Int) ≤ (n : Int)) := by omega
      obtain ⟨X, D, h1, h2, h3, h4⟩ := hI.last (by omega) (by omega)
      have HX := Lib.hid (And.intro h1 h4)
      clear hI h1 h4
      go_wp2_with fail
      refine (slices_insSort_File A n c cur X D [] a n _ _ rfl rfl kf caps ok B _ HF.out hn HX.out.1 h2 (by omega) HM.out HBr.out hcf HPr.out).mono ?_; rintro e w1 ⟨rfl, hF1, hC1⟩
      have HF1 := Lib.hid (And.intro hF1 hC1)
      clear hF1 hC1
      obtain ⟨W1, rfl⟩ : ∃ W1, W1 = wr := ⟨_, rfl⟩
      go_wp2_with fail
      go_loopw [6] (fun ss wr => ∃ (bs : Nat) (cur : List HK), 0 < bs ∧ bs ≤ 4294967296 ∧ ss = .int .i64 bs ∧ cur = chs hkey bs l ∧ FRow 28 5 eHk wr B A n c cur ∧ Chg (rowBs A c) w wr) (fun ss _ => n - (intOf ss).toNat)
      case atStart => exact ⟨20, _, by omega, by omega, rfl, HX.out.2, HF1.out.1, HC.out.trans HF1.out.2⟩
      case round =>
        obtain ⟨bs, cur2, p0, p1, rfl, hI, hF, hC⟩ := hrel
        obtain ⟨W2, rfl⟩ : ∃ W2, W2 = wr := ⟨_, rfl⟩
        have HI := Lib.hid hI
        have HF2 := Lib.hid hF
        have HC2 := Lib.hid hC
        clear hI hF hC
        by_cases hlt2 : bs < n
        · have i2 : (bs : Int) < (n : Int) := by omega
          have r1 : IntKind.i64.wrap (2 * (bs : Int)) = 2 * (bs : Int) := IntWalk.i64_in _ (by omega)
          have r2 : IntKind.i64.wrap ((bs : Int) * 2) = (bs : Int) * 2 := IntWalk.i64_in _ (by omega)
          go_wp2_with fail
          go_loopw [7, 8] (fun aa bb wr => ∃ (a : Nat) (cur : List HK), a ≤ n ∧ aa = .int .i64 a ∧ bb = .int .i64 ((a + 2 * bs : Nat) : Int) ∧ ChsB hkey bs l a cur ∧ (∀ y ∈ cur, ok y) ∧ FRow 28 5 eHk wr B A n c cur ∧ Chg (rowBs A c) w wr) (fun aa _ _ => n - (intOf aa).toNat)
          case atStart => exact ⟨0, cur2, by omega, rfl, by go_num, by rw [HI.out]; exact ChsB.start bs l, fun y hy => HOK.out y (by rw [HI.out] at hy; exact chs_mem hy), HF2.out, HC2.out⟩
          case round =>
            obtain ⟨a, cur, ha, rfl, rfl, hI, hm, hF, hC⟩ := hrel
            have HM := Lib.hid hm
            have HF := Lib.hid hF
            have HC := Lib.hid hC
            have HBr := Lib.hid (Nat.le_trans hB hC.size)
            have HPr := Lib.hid (HP.out.on (hC.below hB HBS.out))
            clear hm hF hC
            have r3 : IntKind.i64.wrap ((a : Int) + (bs : Int)) = (a : Int) + (bs : Int) := IntWalk.i64_in _ (by omega)
            by_cases hlt : a + 2 * bs ≤ n
            · have i1 : ((a + 2 * bs : Nat) : Int) ≤ (n : Int) := by omega
              have r4 : IntKind.i64.wrap (((a + 2 * bs : Nat) : Int) + 2 * (bs : Int)) = ((a + 2 * bs : Nat) : Int) + 2 * (bs : Int) := IntWalk.i64_in _ (by omega)
              obtain ⟨X, U, V, Y, h1, h2, h3, h4, h5, h6, h7⟩ := hI.cut p0 (by omega)
              have HX := Lib.hid (And.intro h1 (And.intro h5 (And.intro h6 h7)))
              clear hI h1 h5 h6 h7
              generalize hab : a + 2 * bs = b at *
              go_wp2_with fail
              refine (slices_symMerge_File kf caps ok B hcf (b - a) A n c cur _ X U V Y a (a + bs) b _ _ _ rfl (by omega) rfl _ HF.out hn (Nat.le_refl _) HX.out.1 rfl h2 (by omega) (by omega) (by omega) (by omega) HX.out.2.1 HX.out.2.2.1 HM.out HBr.out HPr.out).mono ?_; rintro e w1 ⟨rfl, hF1, hC1⟩
              have HF1 := Lib.hid (And.intro hF1 hC1)
              clear hF1 hC1
              go_wp2_with fail
              go_roundw
              case rel => exact ⟨b, _, by omega, by first | rfl | go_num, by go_num, HX.out.2.2.2, fun y hy => HM.out y (by rw [HX.out.1]; exact mem_mrg4 hy), HF1.out.1, HC.out.trans HF1.out.2⟩
              case measure => simp [intOf]; omega
            · have i1 : ¬ (((a + 2 * bs : Nat) : Int) ≤ (n : Int)) := by omega
              by_cases hlt3 : a + bs < n
              · have i3 : (a : Int) + (bs : Int) < (n : Int) := by omega
                obtain ⟨X, U, V, h1, h2, h3, h4, h5, h6, h7⟩ := hI.last p0 (by omega) (by omega)
                have HX := Lib.hid (And.intro h1 (And.intro h5 (And.intro h6 h7)))
                clear hI h1 h5 h6 h7
                go_wp2_with fail
                refine (slices_symMerge_File kf caps ok B hcf (n - a) A n c cur _ X U V [] a (a + bs) n _ _ _ rfl (by omega) rfl _ HF.out hn (Nat.le_refl _) HX.out.1 rfl h2 (by omega) (by omega) (by omega) (by omega) HX.out.2.1 HX.out.2.2.1 HM.out HBr.out HPr.out).mono ?_; rintro e w1 ⟨rfl, hF1, hC1⟩
                have HF1 := Lib.hid (And.intro hF1 hC1)
                clear hF1 hC1
                go_wp2_with fail
                go_roundw
                case rel => exact ⟨2 * bs, _, by omega, by omega, by go_num, HX.out.2.2.2, HF1.out.1, HC.out.trans HF1.out.2⟩
                case measure => simp [intOf]; omega
              · have i3 : ¬ ((a : Int) + (bs : Int) < (n : Int)) := by omega
                have HX := Lib.hid (hI.none (by omega))
                clear hI
                go_wp2_with fail
                go_roundw
                case rel => exact ⟨2 * bs, cur, by omega, by omega, by go_num, HX.out, HF.out, HC.out⟩
                case measure => simp [intOf]; omega
        · have i2 : ¬ ((bs : Int) < (n : Int)) := by omega
          go_wp2_with fail
          go_returns
          exact ⟨rfl, by rw [← chs_last (key := hkey) (bs := bs) (l := l) (by omega), ← HI.out]; exact HF2.out, HC2.out⟩
theorem slices_SortStable_File (A : Option Addr) (n c : Nat) (l : List HK) (kf : Nat) (caps : Array Value) (ok : HK → Prop) (B : Nat) (w : World) (h : FRow 28 5 eHk w B A n c l) (hn : n ≤ 1073741824)
    (hok : ∀ x ∈ l, ok x) (hB : B ≤ w.heap.size) (hcf : ∀ args w, (callFunc kf args).run Try.prog w = .ok (.enter kf args) w) (hp : Cmp2 Try.prog kf caps ok B w) :
    Calls Try.prog 151 #[.slice A n c, .func (.func kf) #[] caps] w fun e w' => e = .returned (.tuple #[]) ∧ FRow 28 5 eHk w' B A n c (srt hkey l) ∧ Chg (rowBs A c) w w' := by
  have HC := Lib.hid (slices_stable_File A n c l kf caps ok B w h hn hok hB hcf hp)
  clear h hok hp
  go_enter Try.func151, Try.ntmps151
  go_wp2_with fail
  refine HC.out.mono ?_; rintro e w1 ⟨rfl, hF1, hC1⟩
  have HF1 := Lib.hid (And.intro hF1 hC1)
  clear hF1 hC1
  go_wp2_with fail
  go_returns
  exact ⟨rfl, HF1.out.1, HF1.out.2⟩
end Go.Proofs.Ytjobgnioehkomaa
