/-
  CONTRACTS: the library's stable sort, at files' headers with their keys.
-/
import Derived.WalkKit
import Derived.WalkSpells
import Derived.WalkLawsBesides
import Derived.Lib.Hide
import Derived.Handy
import Derived.StillTailTactics
import Derived.Deep.Light
import Derived.Deep.QuietTactic
import Derived.BigQuiet
import Derived.Deep.RegionHeld3
import Derived.Deep.DeepCutAuto
import Derived.Test.YtjobgnioehkomaaLib
import Derived.Test.YtjobgnioehkomaaOwn
import Derived.Test.YtjobgnioehkomaaRow
import Derived.Test.YtjobgnioehkomaaN0
import Derived.Test.YtjobgnioehkomaaRaw
import Derived.Test.YtjobgnioehkomaaHld
import Derived.Test.YtjobgnioehkomaaHl2
import Derived.Test.YtjobgnioehkomaaHl3
import Derived.Test.YtjobgnioehkomaaM0
import Derived.Test.YtjobgnioehkomaaC1
import Derived.Test.YtjobgnioehkomaaC2
import Derived.Test.YtjobgnioehkomaaT1
import Derived.Test.YtjobgnioehkomaaT2
import Derived.Test.YtjobgnioehkomaaT3
import Derived.Test.YtjobgnioehkomaaT4
import Derived.Test.YtjobgnioehkomaaC3
import Derived.Test.YtjobgnioehkomaaC4
import Derived.Test.YtjobgnioehkomaaC5
import Derived.Test.YtjobgnioehkomaaD1
import Derived.Test.YtjobgnioehkomaaD3
import Derived.Test.YtjobgnioehkomaaH1
import Derived.Test.YtjobgnioehkomaaU0
import Derived.Test.YtjobgnioehkomaaRows
namespace Go.Proofs.Ytjobgnioehkomaa
open Go.RowKit
set_option linter.unusedVariables false
set_option maxRecDepth 100000
/-- a file's header with the number that it is sorted by -/
abbrev HK := Fh × Int
def eHk (p : HK) : List Value := eFh p.1
def hkey (p : HK) : Int := p.2
theorem encHk : Enc 5 eHk := ⟨by omega, fun _ => rfl, fun x u hu => encFh.one x.1 u hu⟩
def vFh (f : Fh) : Value := .agg #[.int .i64 f.id, .int .i64 f.owner, .bool f.shared, .int .i64 f.link, .slice f.A f.n f.c]
/-- what the comparing function value answers, wherever nothing below B has changed -/
def Cmp2 (P : Program) (kf : Nat) (caps : Array Value) (ok : HK → Prop) (B : Nat) (w : World) : Prop :=
  ∀ w', Below B w w' → ∀ x y, ok x → ok y → Calls P kf (#[vFh x.1, vFh y.1] ++ caps) w' fun e w2 => ∃ z : Int, e = .returned (.int .i64 z) ∧ decide (z < 0) = decide (x.2 < y.2) ∧ Below w'.heap.size w' w2
theorem Cmp2.on {P : Program} {kf : Nat} {caps : Array Value} {ok : HK → Prop} {B : Nat} {w w1 : World} (h : Cmp2 P kf caps ok B w) (hb : Below B w w1) : Cmp2 P kf caps ok B w1 :=
  fun w' hb' x y hx hy => h w' (hb.trans hb') x y hx hy
theorem Cmp2.less {P : Program} {kf : Nat} {caps : Array Value} {ok : HK → Prop} {l : List HK} {B : Nat} {w : World} (h : Cmp2 P kf caps ok B w) (hok : ∀ x ∈ l, ok x) {i j : Nat} (hi : i < l.length) (hj : j < l.length) {t : Bool} (ht : decide (ka hkey l i < ka hkey l j) = t) :
    ∀ w', Below B w w' → Calls P kf (#[vFh l[i].1, vFh l[j].1] ++ caps) w' fun e w2 => ∃ z : Int, e = .returned (.int .i64 z) ∧ decide (z < 0) = t ∧ Below w'.heap.size w' w2 := fun w' hb => by
  have h1 := h w' hb l[i] l[j] (hok _ (List.getElem_mem _)) (hok _ (List.getElem_mem _))
  rw [← ht, ka_get hi, ka_get hj]
  exact h1
section
variable {e n c B : Nat} {w : World} {A : Option Addr} {l : List HK}
theorem row_at (h : FRow e 5 eHk w B A n c l) {g : Nat} (hA : A = some ⟨g, 0, none⟩) {i : Nat} (hi : i < l.length) :
    w.cell? ⟨g, i * 5, none⟩ = some (.int .i64 l[i].1.id) ∧ w.cell? ⟨g, i * 5 + 1, none⟩ = some (.int .i64 l[i].1.owner) ∧ w.cell? ⟨g, i * 5 + 2, none⟩ = some (.bool l[i].1.shared) ∧ w.cell? ⟨g, i * 5 + 3, none⟩ = some (.int .i64 l[i].1.link) ∧ w.cell? ⟨g, i * 5 + 4, none⟩ = some (.slice l[i].1.A l[i].1.n l[i].1.c) := by
  obtain ⟨g', hA', _, _, _, _, hc⟩ := h.cell encHk (by rw [← h.len]; omega)
  obtain rfl : g' = g := by rw [hA] at hA'; simpa using hA'.symm
  exact ⟨hc i hi 0 _ rfl, hc i hi 1 _ rfl, hc i hi 2 _ rfl, hc i hi 3 _ rfl, hc i hi 4 _ rfl⟩
theorem row_free (h : FRow e 5 eHk w B A n c l) {g : Nat} (hA : A = some ⟨g, 0, none⟩) (hn : 0 < n) : ∀ j, w.frozen? ⟨g, j, none⟩ = false := by
  obtain ⟨g', hA', _, _, _, hf, _⟩ := h.cell encHk hn
  obtain rfl : g' = g := by rw [hA] at hA'; simpa using hA'.symm
  exact hf
theorem row_swap (h : FRow e 5 eHk w B A n c l) {g : Nat} (hA : A = some ⟨g, 0, none⟩) {i j : Nat} (hi : i < l.length) (hj : j < l.length) :
    FRow e 5 eHk (sets (sets w g (i * 5) (eHk l[j])) g (j * 5) (eHk l[i])) B A n c (swp l i j) ∧ Chg [g] w (sets (sets w g (i * 5) (eHk l[j])) g (j * 5) (eHk l[i])) := by
  rw [swp_eq hi hj]
  exact ⟨FRow.setE encHk (FRow.setE encHk h hA hi l[j]) hA (by rw [List.length_set]; exact hj) l[i], sets_chg (w1 := w) (by simp) _ _ _ (sets_chg (w1 := w) (by simp) _ _ _ (Chg.refl _ _))⟩
end
set_option maxHeartbeats 3200000 in
theorem slices_swapRange_File (A : Option Addr) (n c : Nat) (l : List HK) (a b m : Nat) (fv : Value) (B : Nat) (w : World) (h : FRow 28 5 eHk w B A n c l) (hn : n ≤ 1073741824) (ha : a + m ≤ n) (hb : b + m ≤ n) :
    Calls Try.prog 186 #[.slice A n c, .int .i64 a, .int .i64 b, .int .i64 m, fv] w fun e w' => e = .returned (.tuple #[]) ∧ FRow 28 5 eHk w' B A n c (swr l a b m) ∧ Chg (rowBs A c) w w' := by
  obtain rfl : l.length = n := h.len
  have HR := Lib.hid h
  clear h
  go_enter Try.func186, Try.ntmps186
  go_wp2_with fail
  go_loopw [10] (fun ii wr => ∃ i : Nat, ∃ cur : List HK, i ≤ m ∧ ii = .int .i64 i ∧ swr cur (a + i) (b + i) (m - i) = swr l a b m ∧ FRow 28 5 eHk wr B A l.length c cur ∧ Chg (rowBs A c) w wr) (fun ii _ => m - (intOf ii).toNat)
  case atStart => exact ⟨0, l, by omega, rfl, rfl, HR.out, Chg.refl _ _⟩
  case round =>
    obtain ⟨i, cur, hi, rfl, hE, hF, hC⟩ := hrel
    by_cases hlt : i < m
    · obtain ⟨g, rfl, -, hgw, hrb, -⟩ := hF.row (by have := hF.le; omega)
      have i0 : (0 : Int) ≤ (i : Int) := by omega
      have i1 : (i : Int) < (m : Int) := by omega
      have s1 : IntKind.i64.wrap ((a : Int) + (i : Int)) = (a : Int) + (i : Int) := IntWalk.i64_in _ (by omega)
      have s2 : 0 ≤ (a : Int) + (i : Int) := by omega
      have s3 : ((a : Int) + (i : Int)).toNat = a + i := by omega
      have s4 : (a : Int) + (i : Int) < (l.length : Int) := by omega
      have t1 : IntKind.i64.wrap ((b : Int) + (i : Int)) = (b : Int) + (i : Int) := IntWalk.i64_in _ (by omega)
      have t2 : 0 ≤ (b : Int) + (i : Int) := by omega
      have t3 : ((b : Int) + (i : Int)).toNat = b + i := by omega
      have t4 : (b : Int) + (i : Int) < (l.length : Int) := by omega
      have hi' : a + i < cur.length := by rw [hF.len]; omega
      have hj' : b + i < cur.length := by rw [hF.len]; omega
      have HN := Lib.hid (show swr (swp cur (a + i) (b + i)) (a + (i + 1)) (b + (i + 1)) (m - (i + 1)) = swr l a b m by rw [← hE, show m - i = (m - (i + 1)) + 1 by omega]; rfl)
      have HF := Lib.hid hF
      have HRB := Lib.hid hrb
      clear hE hF hrb
      go_wp2_with fail
      have hbd : Below wr.heap.size wr (World.drew wr) := (Below.refl _ _).drew
      have HFd := Lib.hid (HF.out.below hbd)
      have hfd := row_free HFd.out rfl (by omega)
      refine region_G (S := (fun w' => w'.cell? ⟨g, (a + i) * 5, none⟩ = some (.int .i64 (cur[a + i]'hi').1.id) ∧ w'.cell? ⟨g, (a + i) * 5 + 1, none⟩ = some (.int .i64 (cur[a + i]'hi').1.owner) ∧ w'.cell? ⟨g, (a + i) * 5 + 2, none⟩ = some (.bool (cur[a + i]'hi').1.shared) ∧ w'.cell? ⟨g, (a + i) * 5 + 3, none⟩ = some (.int .i64 (cur[a + i]'hi').1.link) ∧ w'.cell? ⟨g, (a + i) * 5 + 4, none⟩ = some (.slice (cur[a + i]'hi').1.A (cur[a + i]'hi').1.n (cur[a + i]'hi').1.c) ∧ w'.cell? ⟨g, (b + i) * 5, none⟩ = some (.int .i64 (cur[b + i]'hj').1.id) ∧ w'.cell? ⟨g, (b + i) * 5 + 1, none⟩ = some (.int .i64 (cur[b + i]'hj').1.owner) ∧ w'.cell? ⟨g, (b + i) * 5 + 2, none⟩ = some (.bool (cur[b + i]'hj').1.shared) ∧ w'.cell? ⟨g, (b + i) * 5 + 3, none⟩ = some (.int .i64 (cur[b + i]'hj').1.link) ∧ w'.cell? ⟨g, (b + i) * 5 + 4, none⟩ = some (.slice (cur[b + i]'hj').1.A (cur[b + i]'hj').1.n (cur[b + i]'hj').1.c))) [21, 23] (by kernel_rfl) (by (try dsimp only); obtain ⟨q0, q1, q2, q3, q4⟩ := row_at HFd.out rfl hi'; obtain ⟨p0, p1, p2, p3, p4⟩ := row_at HFd.out rfl hj'; exact ⟨q0, q1, q2, q3, q4, p0, p1, p2, p3, p4⟩) (fun hHeld => ?_)
      generalize World.drew wr = Wd at *
      refine heldG_pure 0 rfl (by kernel_rfl) (by kernel_rfl) (by kernel_rfl) (by kernel_rfl) (by rfl) (fun _ _ _ h => h) (by assumption) (by intro w _; go_simp; first | done | with_reducible rfl) ?_
      simp only [Act.put, List.setIfInBounds_toArray, List.set_cons_zero, List.set_cons_succ]
      refine heldG_pure 1 rfl (by kernel_rfl) (by kernel_rfl) (by kernel_rfl) (by kernel_rfl) (by rfl) (fun _ _ _ h => h) (by assumption) (by intro w _; go_simp; first | done | with_reducible rfl) ?_
      simp only [Act.put, List.setIfInBounds_toArray, List.set_cons_zero, List.set_cons_succ]
      refine heldG_pure 2 rfl (by kernel_rfl) (by kernel_rfl) (by kernel_rfl) (by kernel_rfl) (by rfl) (fun _ _ _ h => h) (by assumption) (by intro w _; go_simp; first | done | with_reducible rfl) ?_
      simp only [Act.put, List.setIfInBounds_toArray, List.set_cons_zero, List.set_cons_succ]
      refine heldG_pure 3 rfl (by kernel_rfl) (by kernel_rfl) (by kernel_rfl) (by kernel_rfl) (by rfl) (fun _ _ _ h => h) (by assumption) (by intro w _; go_simp; first | done | with_reducible rfl) ?_
      simp only [Act.put, List.setIfInBounds_toArray, List.set_cons_zero, List.set_cons_succ]
      refine heldG_pure 4 rfl (by kernel_rfl) (by kernel_rfl) (by kernel_rfl) (by kernel_rfl) (by rfl) (fun _ _ _ h => h) (by assumption) (by intro w _; go_simp; first | done | with_reducible rfl) ?_
      simp only [Act.put, List.setIfInBounds_toArray, List.set_cons_zero, List.set_cons_succ]
      refine heldG_pure 5 rfl (by kernel_rfl) (by kernel_rfl) (by kernel_rfl) (by kernel_rfl) (by rfl) (fun _ _ _ h => h) (by assumption) (by intro w _; go_simp; first | done | with_reducible rfl) ?_
      simp only [Act.put, List.setIfInBounds_toArray, List.set_cons_zero, List.set_cons_succ]
      refine heldG_pure 6 rfl (by kernel_rfl) (by kernel_rfl) (by kernel_rfl) (by kernel_rfl) (by rfl) (fun _ _ _ h => h) (by assumption) (by intro w _; go_simp; first | done | with_reducible rfl) ?_
      simp only [Act.put, List.setIfInBounds_toArray, List.set_cons_zero, List.set_cons_succ]
      refine heldG_pure 7 rfl (by kernel_rfl) (by kernel_rfl) (by kernel_rfl) (by kernel_rfl) (by rfl) (fun _ _ _ h => h) (by assumption) (by intro w _; go_simp; first | done | with_reducible rfl) ?_
      simp only [Act.put, List.setIfInBounds_toArray, List.set_cons_zero, List.set_cons_succ]
      refine heldG_pure 8 rfl (by kernel_rfl) (by kernel_rfl) (by kernel_rfl) (by kernel_rfl) (by rfl) (fun _ _ _ h => h) (by assumption) (by intro w _; go_simp; first | done | with_reducible rfl) ?_
      simp only [Act.put, List.setIfInBounds_toArray, List.set_cons_zero, List.set_cons_succ]
      refine heldG_pure 9 rfl (by kernel_rfl) (by kernel_rfl) (by kernel_rfl) (by kernel_rfl) (by rfl) (fun _ _ _ h => h) (by assumption) (by intro w _; go_simp; first | done | with_reducible rfl) ?_
      simp only [Act.put, List.setIfInBounds_toArray, List.set_cons_zero, List.set_cons_succ]
      refine heldG_pure 10 rfl (by kernel_rfl) (by kernel_rfl) (by kernel_rfl) (by kernel_rfl) (by rfl) (fun _ _ _ h => h) (by assumption) (by intro w _; go_simp; first | done | with_reducible rfl) ?_
      simp only [Act.put, List.setIfInBounds_toArray, List.set_cons_zero, List.set_cons_succ]
      refine heldG_pure 11 rfl (by kernel_rfl) (by kernel_rfl) (by kernel_rfl) (by kernel_rfl) (by rfl) (fun _ _ _ h => h) (by assumption) (by intro w _; go_simp; first | done | with_reducible rfl) ?_
      simp only [Act.put, List.setIfInBounds_toArray, List.set_cons_zero, List.set_cons_succ]
      refine heldG_pure 12 rfl (by kernel_rfl) (by kernel_rfl) (by kernel_rfl) (by kernel_rfl) (by rfl) (fun _ _ _ h => h) (by assumption) (by intro w _; go_simp; first | done | with_reducible rfl) ?_
      simp only [Act.put, List.setIfInBounds_toArray, List.set_cons_zero, List.set_cons_succ]
      refine heldG_take 13 rfl (by kernel_rfl) (by kernel_rfl) (by kernel_rfl) (by kernel_rfl) (by kernel_rfl) (by kernel_rfl) (by rfl) (fun _ _ _ h => h) (by assumption) (by intro w hSw; (try dsimp only at hSw); go_simp; first | done | with_reducible rfl) ?_
      simp only [Act.put, List.setIfInBounds_toArray, List.set_cons_zero, List.set_cons_succ]
      refine heldG_pure 14 rfl (by kernel_rfl) (by kernel_rfl) (by kernel_rfl) (by kernel_rfl) (by rfl) (fun _ _ _ h => h) (by assumption) (by intro w _; go_simp; first | done | with_reducible rfl) ?_
      simp only [Act.put, List.setIfInBounds_toArray, List.set_cons_zero, List.set_cons_succ]
      refine heldG_pure 15 rfl (by kernel_rfl) (by kernel_rfl) (by kernel_rfl) (by kernel_rfl) (by rfl) (fun _ _ _ h => h) (by assumption) (by intro w _; go_simp; first | done | with_reducible rfl) ?_
      simp only [Act.put, List.setIfInBounds_toArray, List.set_cons_zero, List.set_cons_succ]
      refine heldG_pure 16 rfl (by kernel_rfl) (by kernel_rfl) (by kernel_rfl) (by kernel_rfl) (by rfl) (fun _ _ _ h => h) (by assumption) (by intro w _; go_simp; first | done | with_reducible rfl) ?_
      simp only [Act.put, List.setIfInBounds_toArray, List.set_cons_zero, List.set_cons_succ]
      refine heldG_pure 17 rfl (by kernel_rfl) (by kernel_rfl) (by kernel_rfl) (by kernel_rfl) (by rfl) (fun _ _ _ h => h) (by assumption) (by intro w _; go_simp; first | done | with_reducible rfl) ?_
      simp only [Act.put, List.setIfInBounds_toArray, List.set_cons_zero, List.set_cons_succ]
      refine heldG_pure 18 rfl (by kernel_rfl) (by kernel_rfl) (by kernel_rfl) (by kernel_rfl) (by rfl) (fun _ _ _ h => h) (by assumption) (by intro w _; go_simp; first | done | with_reducible rfl) ?_
      simp only [Act.put, List.setIfInBounds_toArray, List.set_cons_zero, List.set_cons_succ]
      refine heldG_take 19 rfl (by kernel_rfl) (by kernel_rfl) (by kernel_rfl) (by kernel_rfl) (by kernel_rfl) (by kernel_rfl) (by rfl) (fun _ _ _ h => h) (by assumption) (by intro w hSw; (try dsimp only at hSw); go_simp; first | done | with_reducible rfl) ?_
      simp only [Act.put, List.setIfInBounds_toArray, List.set_cons_zero, List.set_cons_succ]
      refine heldG_pure 20 rfl (by kernel_rfl) (by kernel_rfl) (by kernel_rfl) (by kernel_rfl) (by rfl) (fun _ _ _ h => h) (by assumption) (by intro w _; go_simp; first | done | with_reducible rfl) ?_
      simp only [Act.put, List.setIfInBounds_toArray, List.set_cons_zero, List.set_cons_succ]
      have HSW := Lib.hid (row_swap HFd.out rfl hi' hj')
      refine heldG_last 21 (by kernel_rfl) rfl (by kernel_rfl) (fun K hK => ?_)
      go_simp
      refine hK.out _ _ ?_
      clear hK K
      try clear hHeld
      try simp only [Act.put, List.setIfInBounds_toArray, List.set_cons_zero, List.set_cons_succ]
      generalize hW1 : World.setCell (World.setCell (World.setCell (World.setCell (World.setCell (Wd) ⟨g, (a + i) * 5, none⟩ (.int .i64 (cur[b + i]'hj').1.id)) ⟨g, (a + i) * 5 + 1, none⟩ (.int .i64 (cur[b + i]'hj').1.owner)) ⟨g, (a + i) * 5 + 2, none⟩ (.bool (cur[b + i]'hj').1.shared)) ⟨g, (a + i) * 5 + 3, none⟩ (.int .i64 (cur[b + i]'hj').1.link)) ⟨g, (a + i) * 5 + 4, none⟩ (.slice (cur[b + i]'hj').1.A (cur[b + i]'hj').1.n (cur[b + i]'hj').1.c) = W1
      have HF1 : FRow 28 5 eHk W1 B (some ⟨g, 0, none⟩) l.length c (cur.set (a + i) cur[b + i]) := by rw [← hW1]; exact FRow.setE encHk HFd.out rfl hi' _
      obtain ⟨y0, y1, y2, y3, y4⟩ := row_at HF1 rfl (i := b + i) (by rw [List.length_set]; exact hj')
      have yf := row_free HF1 rfl (by omega)
      clear HF1 HFd
      refine heldG_post 22 rfl (by kernel_rfl) (by kernel_rfl) (by kernel_rfl) (by kernel_rfl) (by kernel_rfl) (by rfl) (fun _ _ _ h => h) (by intro w _; go_simp; first | done | with_reducible rfl) ?_
      simp only [Act.put, List.setIfInBounds_toArray, List.set_cons_zero, List.set_cons_succ]
      refine heldG_last 23 (by kernel_rfl) rfl (by kernel_rfl) (fun K hK => ?_)
      go_simp
      refine hK.out _ _ ?_
      clear hK K
      try clear hHeld
      try simp only [Act.put, List.setIfInBounds_toArray, List.set_cons_zero, List.set_cons_succ]
      refine anyG_done (by kernel_rfl) ?_ _
      subst hW1
      go_wp2_with fail
      go_roundw
      case rel => exact ⟨i + 1, swp cur (a + i) (b + i), by omega, by go_num, HN.out, HSW.out.1, by rw [HRB.out] at hC ⊢; exact hC.trans ((Chg.of_below _ hbd).trans HSW.out.2)⟩
      case measure => simp [intOf]; omega
    · obtain rfl : i = m := by omega
      rw [Nat.sub_self] at hE
      have HE := Lib.hid hE
      have HF := Lib.hid hF
      clear hE hF
      go_wp2_with fail
      go_returns
      exact ⟨rfl, by rw [← HE.out]; exact HF.out, hC⟩
theorem slices_swapRange_FileI (A : Option Addr) (n c : Nat) (l : List HK) (a b m : Nat) (ia ib im : Int) (ea : ia = a) (eb : ib = b) (em : im = m) (fv : Value) (B : Nat) (w : World) (h : FRow 28 5 eHk w B A n c l) (hn : n ≤ 1073741824) (ha : a + m ≤ n) (hb : b + m ≤ n) :
    Calls Try.prog 186 #[.slice A n c, .int .i64 ia, .int .i64 ib, .int .i64 im, fv] w fun e w' => e = .returned (.tuple #[]) ∧ FRow 28 5 eHk w' B A n c (swr l a b m) ∧ Chg (rowBs A c) w w' := by
  subst ea eb em
  exact slices_swapRange_File A n c l a b m fv B w h hn ha hb
/-- how far the rotation has come: cur is X U V Y, what is wanted is X V U Y -/
def RotI {α : Type} (m i j : Nat) (R cur : List α) : Prop := ∃ X U V Y : List α, cur = X ++ U ++ V ++ Y ∧ X ++ V ++ U ++ Y = R ∧ X.length + i = m ∧ U.length = i ∧ V.length = j
theorem RotI.len {α : Type} {m i j : Nat} {R cur : List α} (h : RotI m i j R cur) : i ≤ m ∧ m + j ≤ cur.length := by
  obtain ⟨X, U, V, Y, rfl, -, h1, h2, h3⟩ := h
  simp; omega
theorem RotI.more {α : Type} {m i j : Nat} {R cur : List α} (h : RotI m i j R cur) (hij : j < i) : RotI m (i - j) j R (swr cur (m - i) m j) := by
  obtain ⟨X, U, V, Y, rfl, hR, h1, h2, h3⟩ := h
  have e := swr_blocks (U.take j) V X (U.drop j) Y (by rw [List.length_take]; omega)
  rw [List.append_assoc X (U.take j), List.take_append_drop, List.length_take, List.length_drop, Nat.min_eq_left (by omega), show X.length + j + (U.length - j) = m by omega, show X.length = m - i by omega] at e
  refine ⟨X ++ V, U.drop j, U.take j, Y, by rw [e], ?_, by rw [List.length_append]; omega, by rw [List.length_drop]; omega, by rw [List.length_take]; omega⟩
  rw [← hR, List.append_assoc (X ++ V) (U.take j), List.take_append_drop]
theorem RotI.less {α : Type} {m i j : Nat} {R cur : List α} (h : RotI m i j R cur) (hij : i < j) : RotI m i (j - i) R (swr cur (m - i) (m + j - i) i) := by
  obtain ⟨X, U, V, Y, rfl, hR, h1, h2, h3⟩ := h
  have e := swr_blocks U (V.drop (j - i)) X (V.take (j - i)) Y (by rw [List.length_drop]; omega)
  rw [List.append_assoc (X ++ U) (V.take (j - i)), List.take_append_drop, List.length_take, Nat.min_eq_left (by omega), h2, show X.length + i + (j - i) = m + j - i by omega, show X.length = m - i by omega] at e
  refine ⟨X, V.drop (j - i), V.take (j - i), U ++ Y, by rw [e]; simp, ?_, by omega, by rw [List.length_drop]; omega, by rw [List.length_take]; omega⟩
  rw [← hR, ← List.append_assoc, List.append_assoc X (V.take (j - i)), List.take_append_drop]
theorem RotI.same {α : Type} {m i : Nat} {R cur : List α} (h : RotI m i i R cur) : swr cur (m - i) m i = R := by
  obtain ⟨X, U, V, Y, rfl, hR, h1, h2, h3⟩ := h
  have e := swr_blocks U V X [] Y (by omega)
  simp only [List.append_nil, List.length_nil, Nat.add_zero] at e
  rw [h2, show X.length + i = m by omega, show X.length = m - i by omega] at e
  rw [e, hR]
set_option maxHeartbeats 3200000 in
theorem slices_rotate_File (A : Option Addr) (n c : Nat) (l R : List HK) (a m b : Nat) (ia im ib : Int) (ea : ia = a) (em : im = m) (eb : ib = b) (fv : Value) (B : Nat) (w : World) (h : FRow 28 5 eHk w B A n c l) (hn : n ≤ 1073741824) (ham : a < m) (hmb : m < b) (hbn : b ≤ n) (hR : RotI m (m - a) (b - m) R l) :
    Calls Try.prog 184 #[.slice A n c, .int .i64 ia, .int .i64 im, .int .i64 ib, fv] w fun e w' => e = .returned (.tuple #[]) ∧ FRow 28 5 eHk w' B A n c R ∧ Chg (rowBs A c) w w' := by
  subst ea em eb
  have HR := Lib.hid (And.intro h hR)
  have r1 : IntKind.i64.wrap ((m : Int) - (a : Int)) = (m : Int) - (a : Int) := IntWalk.i64_in _ (by omega)
  have r2 : IntKind.i64.wrap ((b : Int) - (m : Int)) = (b : Int) - (m : Int) := IntWalk.i64_in _ (by omega)
  clear h hR
  go_enter Try.func184, Try.ntmps184
  go_wp2_with fail
  go_loopw [10, 11] (fun ii jj wr => ∃ i j : Nat, ∃ cur : List HK, 0 < i ∧ 0 < j ∧ ii = .int .i64 i ∧ jj = .int .i64 j ∧ RotI m i j R cur ∧ FRow 28 5 eHk wr B A n c cur ∧ Chg (rowBs A c) w wr) (fun ii jj _ => (intOf ii).toNat + (intOf jj).toNat)
  case atStart => exact ⟨m - a, b - m, l, by omega, by omega, by go_num, by go_num, HR.out.2, HR.out.1, Chg.refl _ _⟩
  case round =>
    obtain ⟨i, j, cur, hi, hj, rfl, rfl, hE, hF, hC⟩ := hrel
    obtain ⟨le1, le2⟩ := hE.len
    rw [hF.len] at le2
    have r3 : IntKind.i64.wrap ((m : Int) - (i : Int)) = (m : Int) - (i : Int) := IntWalk.i64_in _ (by omega)
    have HC := Lib.hid hC
    clear hC
    rcases Nat.lt_trichotomy j i with hlt | rfl | hlt
    · have i0 : ¬ ((i : Int) = (j : Int)) := by omega
      have i1 : (j : Int) < (i : Int) := by omega
      have r4 : IntKind.i64.wrap ((i : Int) - (j : Int)) = (i : Int) - (j : Int) := IntWalk.i64_in _ (by omega)
      have HN := Lib.hid (hE.more hlt)
      have HF := Lib.hid hF
      clear hE hF
      go_wp2_with fail
      refine (slices_swapRange_FileI A n c cur (m - i) m j _ _ _ (by omega) rfl rfl fv B _ HF.out hn (by omega) (by omega)).mono ?_; rintro e w1 ⟨rfl, hF1, hC1⟩
      have HF1 := Lib.hid (And.intro hF1 hC1)
      clear hF1 hC1
      go_wp2_with fail
      go_roundw
      case rel => exact ⟨i - j, j, _, by omega, by omega, by go_num, by go_num, HN.out, HF1.out.1, HC.out.trans HF1.out.2⟩
      case measure => simp [intOf]; omega
    · have HN := Lib.hid hE.same
      have HF := Lib.hid hF
      clear hE hF
      go_wp2_with fail
      refine (slices_swapRange_FileI A n c cur (m - j) m j _ _ _ (by omega) rfl rfl fv B _ HF.out hn (by omega) (by omega)).mono ?_; rintro e w1 ⟨rfl, hF1, hC1⟩
      have HF1 := Lib.hid (And.intro hF1 hC1)
      clear hF1 hC1
      go_wp2_with fail
      go_returns
      exact ⟨rfl, by rw [← HN.out]; exact HF1.out.1, HC.out.trans HF1.out.2⟩
    · have i0 : ¬ ((i : Int) = (j : Int)) := by omega
      have i1 : ¬ ((j : Int) < (i : Int)) := by omega
      have r4 : IntKind.i64.wrap ((j : Int) - (i : Int)) = (j : Int) - (i : Int) := IntWalk.i64_in _ (by omega)
      have r5 : IntKind.i64.wrap ((m : Int) + (j : Int)) = (m : Int) + (j : Int) := IntWalk.i64_in _ (by omega)
      have r6 : IntKind.i64.wrap ((m : Int) + (j : Int) - (i : Int)) = (m : Int) + (j : Int) - (i : Int) := IntWalk.i64_in _ (by omega)
      have HN := Lib.hid (hE.less hlt)
      have HF := Lib.hid hF
      clear hE hF
      go_wp2_with fail
      refine (slices_swapRange_FileI A n c cur (m - i) (m + j - i) i _ _ _ (by omega) (by omega) rfl fv B _ HF.out hn (by omega) (by omega)).mono ?_; rintro e w1 ⟨rfl, hF1, hC1⟩
      have HF1 := Lib.hid (And.intro hF1 hC1)
      clear hF1 hC1
      go_wp2_with fail
      go_roundw
      case rel => exact ⟨i, j - i, _, by omega, by omega, by go_num, by go_num, HN.out, HF1.out.1, HC.out.trans HF1.out.2⟩
      case measure => simp [intOf]; omega
section
variable {α : Type} {key : α → Int}
/-- x on its way down through the sorted part -/
def Down (key : α → Int) (X S Z : List α) (x : α) (j : Nat) (cur : List α) : Prop :=
  cur = mvd (X ++ S ++ Z) x j ∧ X.length ≤ j ∧ j ≤ X.length + S.length ∧ (j = X.length + S.length ∨ key x < ka key (X ++ S) j)
theorem Down.len {X S Z : List α} {x : α} {j : Nat} {cur : List α} (h : Down key X S Z x j cur) : cur.length = X.length + S.length + Z.length + 1 := by
  obtain ⟨rfl, h1, h2, -⟩ := h
  rw [mvd_len _ _ (by simp; omega)]; simp; omega
theorem Down.start (X S Z : List α) (x : α) : Down key X S Z x (X.length + S.length) (X ++ S ++ [x] ++ Z) := by
  refine ⟨?_, by omega, Nat.le_refl _, .inl rfl⟩
  have := mvd_self (X ++ S) Z x
  rw [List.length_append] at this
  exact this.symm
theorem Down.here {X S Z : List α} {x : α} {j : Nat} {cur : List α} (h : Down key X S Z x j cur) : ka key cur j = key x := by
  obtain ⟨rfl, h1, h2, -⟩ := h
  exact ka_at (mvd_at _ _ (by simp; omega))
theorem Down.prev {X S Z : List α} {x : α} {j : Nat} {cur : List α} (h : Down key X S Z x j cur) (h0 : X.length < j) : ka key cur (j - 1) = ka key (X ++ S) (j - 1) := by
  obtain ⟨rfl, h1, h2, -⟩ := h
  have h3 : ka key (mvd (X ++ S ++ Z) x j) (j - 1) = ka key (X ++ S ++ Z) (j - 1) := by unfold ka; rw [mvd_low _ _ (by simp; omega) (by omega)]
  rw [h3, ka_left (by simp; omega)]
theorem Down.step {X S Z : List α} {x : α} {j : Nat} {cur : List α} (h : Down key X S Z x j cur) (h0 : X.length < j) (hlt : ka key cur j < ka key cur (j - 1)) : Down key X S Z x (j - 1) (swp cur j (j - 1)) := by
  rw [h.here, h.prev h0] at hlt
  obtain ⟨rfl, h1, h2, -⟩ := h
  obtain ⟨k, rfl⟩ : ∃ k, j = k + 1 := ⟨j - 1, by omega⟩
  refine ⟨mvd_down _ _ (by simp; omega), by omega, by omega, .inr hlt⟩
theorem Down.done {X S Z : List α} {x : α} {j : Nat} {cur : List α} (h : Down key X S Z x j cur) (hS : Asc key S) (hge : j = X.length ∨ ¬ ka key cur j < ka key cur (j - 1)) : cur = X ++ insK key x S ++ Z := by
  have e := merge_one_right (key := key) (X := X) (U := S) (y := x) (Y := Z) (l := X ++ S ++ [x] ++ Z) rfl hS (a := X.length) (m := X.length + S.length) (i := j) rfl rfl h.2.1 h.2.2.1
  have hm : ka key (X ++ S ++ [x] ++ Z) (X.length + S.length) = key x := ka_at (by rw [← List.length_append]; simp)
  have hl : ∀ i, i < X.length + S.length → ka key (X ++ S ++ [x] ++ Z) i = ka key (X ++ S) i := fun i hi => by rw [List.append_assoc (X ++ S), ka_left (by simp; omega)]
  rw [mrg_cons, mrg_nil] at e
  rw [e]
  · exact h.1
  · rcases hge with hge | hge
    · exact .inl hge
    · rcases Nat.eq_or_lt_of_le h.2.1 with h0 | h0
      · exact .inl h0.symm
      · right
        rw [h.here, h.prev h0] at hge
        rw [hm, hl _ (by have := h.2.2.1; omega)]
        omega
  · rcases h.2.2.2 with h0 | h0
    · exact .inl h0
    · rcases Nat.eq_or_lt_of_le h.2.2.1 with h9 | h9
      · exact .inl h9
      · right; rw [hm, hl _ h9]; exact h0
/-- how far the insertion has come: the first k - a elements of D are sorted -/
def InsI (key : α → Int) (X D Y : List α) (k : Nat) (cur : List α) : Prop := cur = X ++ srt key (D.take k) ++ D.drop k ++ Y
theorem srt_snoc (l : List α) (x : α) : srt key (l ++ [x]) = insK key x (srt key l) := by unfold srt; rw [mrg_append]; rfl
theorem InsI.start (X D Y : List α) : InsI key X D Y 1 (X ++ D ++ Y) := by
  unfold InsI
  cases D with
  | nil => simp [srt]
  | cons d D => simp [srt, mrg, insK]
theorem InsI.len {X D Y : List α} {k : Nat} {cur : List α} (h : InsI key X D Y k cur) : cur.length = X.length + D.length + Y.length := by
  unfold InsI at h; rw [h]; simp only [List.length_append, srt_len, List.length_take, List.length_drop]; omega
theorem InsI.begin_ {X D Y : List α} {k : Nat} {cur : List α} (h : InsI key X D Y k cur) (hk : k < D.length) : Down key X (srt key (D.take k)) (D.drop (k + 1) ++ Y) D[k] (X.length + k) cur := by
  have e : (srt key (D.take k)).length = k := by rw [srt_len, List.length_take]; omega
  have := Down.start (key := key) X (srt key (D.take k)) (D.drop (k + 1) ++ Y) D[k]
  rw [e] at this
  unfold InsI at h
  have e2 : cur = X ++ srt key (D.take k) ++ [D[k]] ++ (D.drop (k + 1) ++ Y) := by
    rw [h, List.drop_eq_getElem_cons hk]
    simp only [List.append_assoc, List.cons_append, List.nil_append]
  rw [e2]; exact this
theorem InsI.next {X D Y : List α} {k j : Nat} {cur : List α} (hk : k < D.length) (h : Down key X (srt key (D.take k)) (D.drop (k + 1) ++ Y) D[k] j cur) (hge : j = X.length ∨ ¬ ka key cur j < ka key cur (j - 1)) : InsI key X D Y (k + 1) cur := by
  have := h.done (srt_asc _) hge
  unfold InsI
  rw [this, List.take_succ_eq_append_getElem hk, srt_snoc]
  simp
theorem InsI.end_ {X D Y : List α} {k : Nat} {cur : List α} (h : InsI key X D Y k cur) (hk : D.length ≤ k) : cur = X ++ srt key D ++ Y := by
  unfold InsI at h; rw [h, List.take_of_length_le hk, List.drop_of_length_le hk]; simp
theorem InsI.mem {X D Y : List α} {k : Nat} {cur : List α} (h : InsI key X D Y k cur) {y : α} (hy : y ∈ cur) : y ∈ X ++ D ++ Y := by
  unfold InsI at h
  rw [h] at hy
  simp only [List.mem_append, srt_mem] at hy ⊢
  rcases hy with ((hy | hy) | hy) | hy
  · exact .inl (.inl hy)
  · exact .inl (.inr (List.mem_of_mem_take hy))
  · exact .inl (.inr (List.mem_of_mem_drop hy))
  · exact .inr hy
end
set_option maxHeartbeats 6400000 in
theorem slices_insSort_File (A : Option Addr) (n c : Nat) (l X D Y : List HK) (a b : Nat) (ia ib : Int) (ea : ia = a) (eb : ib = b) (kf : Nat) (caps : Array Value) (ok : HK → Prop) (B : Nat) (w : World) (h : FRow 28 5 eHk w B A n c l) (hn : n ≤ 1073741824)
    (hl : l = X ++ D ++ Y) (ha : X.length = a) (hb : a + D.length = b) (hok : ∀ x ∈ l, ok x) (hB : B ≤ w.heap.size) (hcf : ∀ args w, (callFunc kf args).run Try.prog w = .ok (.enter kf args) w) (hp : Cmp2 Try.prog kf caps ok B w) :
    Calls Try.prog 177 #[.slice A n c, .int .i64 ia, .int .i64 ib, .func (.func kf) #[] caps] w fun e w' => e = .returned (.tuple #[]) ∧ FRow 28 5 eHk w' B A n c (X ++ srt hkey D ++ Y) ∧ Chg (rowBs A c) w w' := by
  subst ea eb
  have hbn : b ≤ n := by rw [← h.len, hl]; simp; omega
  have hbs : ∀ x ∈ rowBs A c, B ≤ x := fun x hx => (h.base x hx).1
  have HR := Lib.hid (And.intro h hl)
  have HP := Lib.hid hp
  have HOK := Lib.hid hok
  have HBS := Lib.hid hbs
  clear h hl hp hok hbs
  have r0 : IntKind.i64.wrap ((a : Int) + 1) = (a : Int) + 1 := IntWalk.i64_in _ (by omega)
  go_enter Try.func177, Try.ntmps177
  go_wp2_with fail
  go_loopw [8] (fun ii wr => ∃ k : Nat, ∃ cur : List HK, 0 < k ∧ (k = 1 ∨ a + k ≤ b) ∧ ii = .int .i64 ((a + k : Nat) : Int) ∧ InsI hkey X D Y k cur ∧ FRow 28 5 eHk wr B A n c cur ∧ Chg (rowBs A c) w wr) (fun ii _ => b - (intOf ii).toNat)
  case atStart => exact ⟨1, l, by omega, .inl rfl, by go_num, by rw [HR.out.2]; exact InsI.start X D Y, HR.out.1, Chg.refl _ _⟩
  case round =>
    obtain ⟨k, cur0, hk0, hk1, rfl, hI, hF, hC⟩ := hrel
    obtain ⟨W1, rfl⟩ : ∃ W1, W1 = wr := ⟨_, rfl⟩
    by_cases hlt : a + k < b
    · have i1 : ((a + k : Nat) : Int) < (b : Int) := by omega
      have hkD : k < D.length := by omega
      have r2 : IntKind.i64.wrap (((a + k : Nat) : Int) + 1) = ((a + k : Nat) : Int) + 1 := IntWalk.i64_in _ (by omega)
      have HI := Lib.hid (And.intro hI (hI.begin_ hkD))
      have HF := Lib.hid hF
      have HC := Lib.hid hC
      clear hI hF hC hk1
      generalize hak : a + k = i at *
      go_wp2_with fail
      go_loopw [9] (fun jj wr => ∃ j : Nat, ∃ cur : List HK, a ≤ j ∧ j ≤ i ∧ jj = .int .i64 j ∧ Down hkey X (srt hkey (D.take k)) (D.drop (k + 1) ++ Y) D[k] j cur ∧ (∀ y ∈ cur, ok y) ∧ FRow 28 5 eHk wr B A n c cur ∧ Chg (rowBs A c) w wr) (fun jj _ => (intOf jj).toNat)
      case atStart => exact ⟨i, cur0, by omega, Nat.le_refl _, rfl, by have := HI.out.2; rw [ha, hak] at this; exact this, fun y hy => HOK.out y (by rw [HR.out.2]; exact HI.out.1.mem hy), HF.out, HC.out⟩
      case round =>
        obtain ⟨j, cur, hj0, hj1, rfl, hD, hm, hF, hC⟩ := hrel
        have hcl : cur.length = n := hF.len
        by_cases h0 : a < j
        · have i2 : (a : Int) < (j : Int) := by omega
          obtain ⟨g, rfl, -, hgw, hrb, -⟩ := hF.row (by have := hF.le; omega)
          have i3 : (0 : Int) ≤ (j : Int) := by omega
          have i4 : (j : Int) < (n : Int) := by omega
          have s1 : IntKind.i64.wrap ((j : Int) - 1) = (j : Int) - 1 := IntWalk.i64_in _ (by omega)
          have s2 : 0 ≤ (j : Int) - 1 := by omega
          have s2' : 1 ≤ (j : Int) := by omega
          have s3 : ((j : Int) - 1).toNat = j - 1 := by omega
          have s4 : (j : Int) - 1 < (n : Int) := by omega
          have hi' : j < cur.length := by omega
          have hj' : j - 1 < cur.length := by omega
          have hCB : Below B w wr := hC.below hB HBS.out
          have hBr : B ≤ wr.heap.size := Nat.le_trans hB hC.size
          have HRB := Lib.hid hrb
          have HC1 := Lib.hid hC
          have HF1 := Lib.hid hF
          have HM := Lib.hid hm
          have HD := Lib.hid hD
          cases hcmp : decide (ka hkey cur j < ka hkey cur (j - 1)) with
          | false =>
            have HL := Lib.hid ((HP.out.on hCB).less hm hi' hj' hcmp)
            have HN := Lib.hid (InsI.next hkD hD (.inr (of_decide_eq_false hcmp)))
            clear hC hF hm hD hcmp hrb hCB
            go_wp2_with fail
            have hfr := row_free HF1.out rfl (by omega)
            refine wp_region_held_drew (S := (fun w' => w'.cell? ⟨g, j * 5, none⟩ = some (.int .i64 (cur[j]'hi').1.id) ∧ w'.cell? ⟨g, j * 5 + 1, none⟩ = some (.int .i64 (cur[j]'hi').1.owner) ∧ w'.cell? ⟨g, j * 5 + 2, none⟩ = some (.bool (cur[j]'hi').1.shared) ∧ w'.cell? ⟨g, j * 5 + 3, none⟩ = some (.int .i64 (cur[j]'hi').1.link) ∧ w'.cell? ⟨g, j * 5 + 4, none⟩ = some (.slice (cur[j]'hi').1.A (cur[j]'hi').1.n (cur[j]'hi').1.c) ∧ w'.cell? ⟨g, (j - 1) * 5, none⟩ = some (.int .i64 (cur[j - 1]'hj').1.id) ∧ w'.cell? ⟨g, (j - 1) * 5 + 1, none⟩ = some (.int .i64 (cur[j - 1]'hj').1.owner) ∧ w'.cell? ⟨g, (j - 1) * 5 + 2, none⟩ = some (.bool (cur[j - 1]'hj').1.shared) ∧ w'.cell? ⟨g, (j - 1) * 5 + 3, none⟩ = some (.int .i64 (cur[j - 1]'hj').1.link) ∧ w'.cell? ⟨g, (j - 1) * 5 + 4, none⟩ = some (.slice (cur[j - 1]'hj').1.A (cur[j - 1]'hj').1.n (cur[j - 1]'hj').1.c) ∧ FRow 28 5 eHk w' B (some ⟨g, 0, none⟩) n c cur ∧ Below wr.heap.size wr w')) (by kernel_rfl) (by (try dsimp only); obtain ⟨q0, q1, q2, q3, q4⟩ := row_at (HF1.out.below (Below.refl _ _).drew) rfl hi'; obtain ⟨p0, p1, p2, p3, p4⟩ := row_at (HF1.out.below (Below.refl _ _).drew) rfl hj'; exact ⟨q0, q1, q2, q3, q4, p0, p1, p2, p3, p4, (HF1.out.below (Below.refl _ _).drew), (Below.refl _ _).drew⟩) (fun hHeld => ?_)
            generalize World.drew wr = Wd at *
            first | (refine held_take 0 rfl (by kernel_rfl) (by kernel_rfl) (by kernel_rfl) (by rfl) (fun _ _ _ h => h) (by assumption) (by intro w hSw; (try dsimp only at hSw); go_simp; first | done | with_reducible rfl) ?_) | (refine held_skip 0 rfl (by kernel_rfl) (by kernel_rfl) (by kernel_rfl) (by rfl) (fun _ _ _ h => h) (by assumption) ?_)
            simp only [Act.put, List.setIfInBounds_toArray, List.set_cons_zero, List.set_cons_succ]
            first | (refine held_take 1 rfl (by kernel_rfl) (by kernel_rfl) (by kernel_rfl) (by rfl) (fun _ _ _ h => h) (by assumption) (by intro w hSw; (try dsimp only at hSw); go_simp; first | done | with_reducible rfl) ?_) | (refine held_skip 1 rfl (by kernel_rfl) (by kernel_rfl) (by kernel_rfl) (by rfl) (fun _ _ _ h => h) (by assumption) ?_)
            simp only [Act.put, List.setIfInBounds_toArray, List.set_cons_zero, List.set_cons_succ]
            first | (refine held_take 2 rfl (by kernel_rfl) (by kernel_rfl) (by kernel_rfl) (by rfl) (fun _ _ _ h => h) (by assumption) (by intro w hSw; (try dsimp only at hSw); go_simp; first | done | with_reducible rfl) ?_) | (refine held_skip 2 rfl (by kernel_rfl) (by kernel_rfl) (by kernel_rfl) (by rfl) (fun _ _ _ h => h) (by assumption) ?_)
            simp only [Act.put, List.setIfInBounds_toArray, List.set_cons_zero, List.set_cons_succ]
            first | (refine held_take 3 rfl (by kernel_rfl) (by kernel_rfl) (by kernel_rfl) (by rfl) (fun _ _ _ h => h) (by assumption) (by intro w hSw; (try dsimp only at hSw); go_simp; first | done | with_reducible rfl) ?_) | (refine held_skip 3 rfl (by kernel_rfl) (by kernel_rfl) (by kernel_rfl) (by rfl) (fun _ _ _ h => h) (by assumption) ?_)
            simp only [Act.put, List.setIfInBounds_toArray, List.set_cons_zero, List.set_cons_succ]
            first | (refine held_take 4 rfl (by kernel_rfl) (by kernel_rfl) (by kernel_rfl) (by rfl) (fun _ _ _ h => h) (by assumption) (by intro w hSw; (try dsimp only at hSw); go_simp; first | done | with_reducible rfl) ?_) | (refine held_skip 4 rfl (by kernel_rfl) (by kernel_rfl) (by kernel_rfl) (by rfl) (fun _ _ _ h => h) (by assumption) ?_)
            simp only [Act.put, List.setIfInBounds_toArray, List.set_cons_zero, List.set_cons_succ]
            first | (refine held_take 5 rfl (by kernel_rfl) (by kernel_rfl) (by kernel_rfl) (by rfl) (fun _ _ _ h => h) (by assumption) (by intro w hSw; (try dsimp only at hSw); go_simp; first | done | with_reducible rfl) ?_) | (refine held_skip 5 rfl (by kernel_rfl) (by kernel_rfl) (by kernel_rfl) (by rfl) (fun _ _ _ h => h) (by assumption) ?_)
            simp only [Act.put, List.setIfInBounds_toArray, List.set_cons_zero, List.set_cons_succ]
            first | (refine held_take 6 rfl (by kernel_rfl) (by kernel_rfl) (by kernel_rfl) (by rfl) (fun _ _ _ h => h) (by assumption) (by intro w hSw; (try dsimp only at hSw); go_simp; first | done | with_reducible rfl) ?_) | (refine held_skip 6 rfl (by kernel_rfl) (by kernel_rfl) (by kernel_rfl) (by rfl) (fun _ _ _ h => h) (by assumption) ?_)
            simp only [Act.put, List.setIfInBounds_toArray, List.set_cons_zero, List.set_cons_succ]
            first | (refine held_take 7 rfl (by kernel_rfl) (by kernel_rfl) (by kernel_rfl) (by rfl) (fun _ _ _ h => h) (by assumption) (by intro w hSw; (try dsimp only at hSw); go_simp; first | done | with_reducible rfl) ?_) | (refine held_skip 7 rfl (by kernel_rfl) (by kernel_rfl) (by kernel_rfl) (by rfl) (fun _ _ _ h => h) (by assumption) ?_)
            simp only [Act.put, List.setIfInBounds_toArray, List.set_cons_zero, List.set_cons_succ]
            first | (refine held_take 8 rfl (by kernel_rfl) (by kernel_rfl) (by kernel_rfl) (by rfl) (fun _ _ _ h => h) (by assumption) (by intro w hSw; (try dsimp only at hSw); go_simp; first | done | with_reducible rfl) ?_) | (refine held_skip 8 rfl (by kernel_rfl) (by kernel_rfl) (by kernel_rfl) (by rfl) (fun _ _ _ h => h) (by assumption) ?_)
            simp only [Act.put, List.setIfInBounds_toArray, List.set_cons_zero, List.set_cons_succ]
            first | (refine held_take 9 rfl (by kernel_rfl) (by kernel_rfl) (by kernel_rfl) (by rfl) (fun _ _ _ h => h) (by assumption) (by intro w hSw; (try dsimp only at hSw); go_simp; first | done | with_reducible rfl) ?_) | (refine held_skip 9 rfl (by kernel_rfl) (by kernel_rfl) (by kernel_rfl) (by rfl) (fun _ _ _ h => h) (by assumption) ?_)
            simp only [Act.put, List.setIfInBounds_toArray, List.set_cons_zero, List.set_cons_succ]
            first | (refine held_take 10 rfl (by kernel_rfl) (by kernel_rfl) (by kernel_rfl) (by rfl) (fun _ _ _ h => h) (by assumption) (by intro w hSw; (try dsimp only at hSw); go_simp; first | done | with_reducible rfl) ?_) | (refine held_skip 10 rfl (by kernel_rfl) (by kernel_rfl) (by kernel_rfl) (by rfl) (fun _ _ _ h => h) (by assumption) ?_)
            simp only [Act.put, List.setIfInBounds_toArray, List.set_cons_zero, List.set_cons_succ]
            first | (refine held_take 11 rfl (by kernel_rfl) (by kernel_rfl) (by kernel_rfl) (by rfl) (fun _ _ _ h => h) (by assumption) (by intro w hSw; (try dsimp only at hSw); go_simp; first | done | with_reducible rfl) ?_) | (refine held_skip 11 rfl (by kernel_rfl) (by kernel_rfl) (by kernel_rfl) (by rfl) (fun _ _ _ h => h) (by assumption) ?_)
            simp only [Act.put, List.setIfInBounds_toArray, List.set_cons_zero, List.set_cons_succ]
            first | (refine held_take 12 rfl (by kernel_rfl) (by kernel_rfl) (by kernel_rfl) (by rfl) (fun _ _ _ h => h) (by assumption) (by intro w hSw; (try dsimp only at hSw); go_simp; first | done | with_reducible rfl) ?_) | (refine held_skip 12 rfl (by kernel_rfl) (by kernel_rfl) (by kernel_rfl) (by rfl) (fun _ _ _ h => h) (by assumption) ?_)
            simp only [Act.put, List.setIfInBounds_toArray, List.set_cons_zero, List.set_cons_succ]
            first | (refine held_take 13 rfl (by kernel_rfl) (by kernel_rfl) (by kernel_rfl) (by rfl) (fun _ _ _ h => h) (by assumption) (by intro w hSw; (try dsimp only at hSw); go_simp; first | done | with_reducible rfl) ?_) | (refine held_skip 13 rfl (by kernel_rfl) (by kernel_rfl) (by kernel_rfl) (by rfl) (fun _ _ _ h => h) (by assumption) ?_)
            simp only [Act.put, List.setIfInBounds_toArray, List.set_cons_zero, List.set_cons_succ]
            refine held_one 14 (by kernel_rfl) rfl (fun K hK => ?_)
            go_simp
            refine (HL.out _ (hHeld.2.2.2.2.2.2.2.2.2.2.2.mono hBr)).mono ?_; rintro e w2 ⟨z, rfl, hz, hb2⟩
            go_wp2_with fail
            refine hK.out _ _ (by (try dsimp only); obtain ⟨q0, q1, q2, q3, q4⟩ := row_at (hHeld.2.2.2.2.2.2.2.2.2.2.1.below hb2) rfl hi'; obtain ⟨p0, p1, p2, p3, p4⟩ := row_at (hHeld.2.2.2.2.2.2.2.2.2.2.1.below hb2) rfl hj'; exact ⟨q0, q1, q2, q3, q4, p0, p1, p2, p3, p4, (hHeld.2.2.2.2.2.2.2.2.2.2.1.below hb2), ex_trans hHeld.2.2.2.2.2.2.2.2.2.2.2 hb2⟩) (fun hNew => ?_)
            clear hK K hHeld
            have hHeld := hNew
            clear hNew
            try simp only [Act.put, List.setIfInBounds_toArray, List.set_cons_zero, List.set_cons_succ]
            first | (refine held_take 15 rfl (by kernel_rfl) (by kernel_rfl) (by kernel_rfl) (by rfl) (fun _ _ _ h => h) (by assumption) (by intro w hSw; (try dsimp only at hSw); go_simp; first | done | with_reducible rfl) ?_) | (refine held_skip 15 rfl (by kernel_rfl) (by kernel_rfl) (by kernel_rfl) (by rfl) (fun _ _ _ h => h) (by assumption) ?_)
            simp only [Act.put, List.setIfInBounds_toArray, List.set_cons_zero, List.set_cons_succ]
            first | (refine held_take 16 rfl (by kernel_rfl) (by kernel_rfl) (by kernel_rfl) (by rfl) (fun _ _ _ h => h) (by assumption) (by intro w hSw; (try dsimp only at hSw); go_simp; first | done | with_reducible rfl) ?_) | (refine held_skip 16 rfl (by kernel_rfl) (by kernel_rfl) (by kernel_rfl) (by rfl) (fun _ _ _ h => h) (by assumption) ?_)
            simp only [Act.put, List.setIfInBounds_toArray, List.set_cons_zero, List.set_cons_succ]
            refine wpAnyH_done (by kernel_rfl) ?_ _
            rw [hz] at *
            go_wp2_with fail
            go_roundw
            case rel => exact ⟨k + 1, cur, by omega, .inr (by omega), by rw [← hak]; go_num, HN.out, hHeld.2.2.2.2.2.2.2.2.2.2.1, HC1.out.trans (Chg.of_below _ hHeld.2.2.2.2.2.2.2.2.2.2.2)⟩
            case measure => simp [intOf]; omega
          | true =>
            have HL := Lib.hid ((HP.out.on hCB).less hm hi' hj' hcmp)
            have HN := Lib.hid (hD.step (by omega) (of_decide_eq_true hcmp))
            clear hC hF hm hD hcmp hrb hCB
            go_wp2_with fail
            have hfr := row_free HF1.out rfl (by omega)
            refine wp_region_held_drew (S := (fun w' => w'.cell? ⟨g, j * 5, none⟩ = some (.int .i64 (cur[j]'hi').1.id) ∧ w'.cell? ⟨g, j * 5 + 1, none⟩ = some (.int .i64 (cur[j]'hi').1.owner) ∧ w'.cell? ⟨g, j * 5 + 2, none⟩ = some (.bool (cur[j]'hi').1.shared) ∧ w'.cell? ⟨g, j * 5 + 3, none⟩ = some (.int .i64 (cur[j]'hi').1.link) ∧ w'.cell? ⟨g, j * 5 + 4, none⟩ = some (.slice (cur[j]'hi').1.A (cur[j]'hi').1.n (cur[j]'hi').1.c) ∧ w'.cell? ⟨g, (j - 1) * 5, none⟩ = some (.int .i64 (cur[j - 1]'hj').1.id) ∧ w'.cell? ⟨g, (j - 1) * 5 + 1, none⟩ = some (.int .i64 (cur[j - 1]'hj').1.owner) ∧ w'.cell? ⟨g, (j - 1) * 5 + 2, none⟩ = some (.bool (cur[j - 1]'hj').1.shared) ∧ w'.cell? ⟨g, (j - 1) * 5 + 3, none⟩ = some (.int .i64 (cur[j - 1]'hj').1.link) ∧ w'.cell? ⟨g, (j - 1) * 5 + 4, none⟩ = some (.slice (cur[j - 1]'hj').1.A (cur[j - 1]'hj').1.n (cur[j - 1]'hj').1.c) ∧ FRow 28 5 eHk w' B (some ⟨g, 0, none⟩) n c cur ∧ Below wr.heap.size wr w')) (by kernel_rfl) (by (try dsimp only); obtain ⟨q0, q1, q2, q3, q4⟩ := row_at (HF1.out.below (Below.refl _ _).drew) rfl hi'; obtain ⟨p0, p1, p2, p3, p4⟩ := row_at (HF1.out.below (Below.refl _ _).drew) rfl hj'; exact ⟨q0, q1, q2, q3, q4, p0, p1, p2, p3, p4, (HF1.out.below (Below.refl _ _).drew), (Below.refl _ _).drew⟩) (fun hHeld => ?_)
            generalize World.drew wr = Wd at *
            first | (refine held_take 0 rfl (by kernel_rfl) (by kernel_rfl) (by kernel_rfl) (by rfl) (fun _ _ _ h => h) (by assumption) (by intro w hSw; (try dsimp only at hSw); go_simp; first | done | with_reducible rfl) ?_) | (refine held_skip 0 rfl (by kernel_rfl) (by kernel_rfl) (by kernel_rfl) (by rfl) (fun _ _ _ h => h) (by assumption) ?_)
            simp only [Act.put, List.setIfInBounds_toArray, List.set_cons_zero, List.set_cons_succ]
            first | (refine held_take 1 rfl (by kernel_rfl) (by kernel_rfl) (by kernel_rfl) (by rfl) (fun _ _ _ h => h) (by assumption) (by intro w hSw; (try dsimp only at hSw); go_simp; first | done | with_reducible rfl) ?_) | (refine held_skip 1 rfl (by kernel_rfl) (by kernel_rfl) (by kernel_rfl) (by rfl) (fun _ _ _ h => h) (by assumption) ?_)
            simp only [Act.put, List.setIfInBounds_toArray, List.set_cons_zero, List.set_cons_succ]
            first | (refine held_take 2 rfl (by kernel_rfl) (by kernel_rfl) (by kernel_rfl) (by rfl) (fun _ _ _ h => h) (by assumption) (by intro w hSw; (try dsimp only at hSw); go_simp; first | done | with_reducible rfl) ?_) | (refine held_skip 2 rfl (by kernel_rfl) (by kernel_rfl) (by kernel_rfl) (by rfl) (fun _ _ _ h => h) (by assumption) ?_)
            simp only [Act.put, List.setIfInBounds_toArray, List.set_cons_zero, List.set_cons_succ]
            first | (refine held_take 3 rfl (by kernel_rfl) (by kernel_rfl) (by kernel_rfl) (by rfl) (fun _ _ _ h => h) (by assumption) (by intro w hSw; (try dsimp only at hSw); go_simp; first | done | with_reducible rfl) ?_) | (refine held_skip 3 rfl (by kernel_rfl) (by kernel_rfl) (by kernel_rfl) (by rfl) (fun _ _ _ h => h) (by assumption) ?_)
            simp only [Act.put, List.setIfInBounds_toArray, List.set_cons_zero, List.set_cons_succ]
            first | (refine held_take 4 rfl (by kernel_rfl) (by kernel_rfl) (by kernel_rfl) (by rfl) (fun _ _ _ h => h) (by assumption) (by intro w hSw; (try dsimp only at hSw); go_simp; first | done | with_reducible rfl) ?_) | (refine held_skip 4 rfl (by kernel_rfl) (by kernel_rfl) (by kernel_rfl) (by rfl) (fun _ _ _ h => h) (by assumption) ?_)
            simp only [Act.put, List.setIfInBounds_toArray, List.set_cons_zero, List.set_cons_succ]
            first | (refine held_take 5 rfl (by kernel_rfl) (by kernel_rfl) (by kernel_rfl) (by rfl) (fun _ _ _ h => h) (by assumption) (by intro w hSw; (try dsimp only at hSw); go_simp; first | done | with_reducible rfl) ?_) | (refine held_skip 5 rfl (by kernel_rfl) (by kernel_rfl) (by kernel_rfl) (by rfl) (fun _ _ _ h => h) (by assumption) ?_)
            simp only [Act.put, List.setIfInBounds_toArray, List.set_cons_zero, List.set_cons_succ]
            first | (refine held_take 6 rfl (by kernel_rfl) (by kernel_rfl) (by kernel_rfl) (by rfl) (fun _ _ _ h => h) (by assumption) (by intro w hSw; (try dsimp only at hSw); go_simp; first | done | with_reducible rfl) ?_) | (refine held_skip 6 rfl (by kernel_rfl) (by kernel_rfl) (by kernel_rfl) (by rfl) (fun _ _ _ h => h) (by assumption) ?_)
            simp only [Act.put, List.setIfInBounds_toArray, List.set_cons_zero, List.set_cons_succ]
            first | (refine held_take 7 rfl (by kernel_rfl) (by kernel_rfl) (by kernel_rfl) (by rfl) (fun _ _ _ h => h) (by assumption) (by intro w hSw; (try dsimp only at hSw); go_simp; first | done | with_reducible rfl) ?_) | (refine held_skip 7 rfl (by kernel_rfl) (by kernel_rfl) (by kernel_rfl) (by rfl) (fun _ _ _ h => h) (by assumption) ?_)
            simp only [Act.put, List.setIfInBounds_toArray, List.set_cons_zero, List.set_cons_succ]
            first | (refine held_take 8 rfl (by kernel_rfl) (by kernel_rfl) (by kernel_rfl) (by rfl) (fun _ _ _ h => h) (by assumption) (by intro w hSw; (try dsimp only at hSw); go_simp; first | done | with_reducible rfl) ?_) | (refine held_skip 8 rfl (by kernel_rfl) (by kernel_rfl) (by kernel_rfl) (by rfl) (fun _ _ _ h => h) (by assumption) ?_)
            simp only [Act.put, List.setIfInBounds_toArray, List.set_cons_zero, List.set_cons_succ]
            first | (refine held_take 9 rfl (by kernel_rfl) (by kernel_rfl) (by kernel_rfl) (by rfl) (fun _ _ _ h => h) (by assumption) (by intro w hSw; (try dsimp only at hSw); go_simp; first | done | with_reducible rfl) ?_) | (refine held_skip 9 rfl (by kernel_rfl) (by kernel_rfl) (by kernel_rfl) (by rfl) (fun _ _ _ h => h) (by assumption) ?_)
            simp only [Act.put, List.setIfInBounds_toArray, List.set_cons_zero, List.set_cons_succ]
            first | (refine held_take 10 rfl (by kernel_rfl) (by kernel_rfl) (by kernel_rfl) (by rfl) (fun _ _ _ h => h) (by assumption) (by intro w hSw; (try dsimp only at hSw); go_simp; first | done | with_reducible rfl) ?_) | (refine held_skip 10 rfl (by kernel_rfl) (by kernel_rfl) (by kernel_rfl) (by rfl) (fun _ _ _ h => h) (by assumption) ?_)
            simp only [Act.put, List.setIfInBounds_toArray, List.set_cons_zero, List.set_cons_succ]
            first | (refine held_take 11 rfl (by kernel_rfl) (by kernel_rfl) (by kernel_rfl) (by rfl) (fun _ _ _ h => h) (by assumption) (by intro w hSw; (try dsimp only at hSw); go_simp; first | done | with_reducible rfl) ?_) | (refine held_skip 11 rfl (by kernel_rfl) (by kernel_rfl) (by kernel_rfl) (by rfl) (fun _ _ _ h => h) (by assumption) ?_)
            simp only [Act.put, List.setIfInBounds_toArray, List.set_cons_zero, List.set_cons_succ]
            first | (refine held_take 12 rfl (by kernel_rfl) (by kernel_rfl) (by kernel_rfl) (by rfl) (fun _ _ _ h => h) (by assumption) (by intro w hSw; (try dsimp only at hSw); go_simp; first | done | with_reducible rfl) ?_) | (refine held_skip 12 rfl (by kernel_rfl) (by kernel_rfl) (by kernel_rfl) (by rfl) (fun _ _ _ h => h) (by assumption) ?_)
            simp only [Act.put, List.setIfInBounds_toArray, List.set_cons_zero, List.set_cons_succ]
            first | (refine held_take 13 rfl (by kernel_rfl) (by kernel_rfl) (by kernel_rfl) (by rfl) (fun _ _ _ h => h) (by assumption) (by intro w hSw; (try dsimp only at hSw); go_simp; first | done | with_reducible rfl) ?_) | (refine held_skip 13 rfl (by kernel_rfl) (by kernel_rfl) (by kernel_rfl) (by rfl) (fun _ _ _ h => h) (by assumption) ?_)
            simp only [Act.put, List.setIfInBounds_toArray, List.set_cons_zero, List.set_cons_succ]
            refine held_one 14 (by kernel_rfl) rfl (fun K hK => ?_)
            go_simp
            refine (HL.out _ (hHeld.2.2.2.2.2.2.2.2.2.2.2.mono hBr)).mono ?_; rintro e w2 ⟨z, rfl, hz, hb2⟩
            go_wp2_with fail
            refine hK.out _ _ (by (try dsimp only); obtain ⟨q0, q1, q2, q3, q4⟩ := row_at (hHeld.2.2.2.2.2.2.2.2.2.2.1.below hb2) rfl hi'; obtain ⟨p0, p1, p2, p3, p4⟩ := row_at (hHeld.2.2.2.2.2.2.2.2.2.2.1.below hb2) rfl hj'; exact ⟨q0, q1, q2, q3, q4, p0, p1, p2, p3, p4, (hHeld.2.2.2.2.2.2.2.2.2.2.1.below hb2), ex_trans hHeld.2.2.2.2.2.2.2.2.2.2.2 hb2⟩) (fun hNew => ?_)
            clear hK K hHeld
            have hHeld := hNew
            clear hNew
            try simp only [Act.put, List.setIfInBounds_toArray, List.set_cons_zero, List.set_cons_succ]
            first | (refine held_take 15 rfl (by kernel_rfl) (by kernel_rfl) (by kernel_rfl) (by rfl) (fun _ _ _ h => h) (by assumption) (by intro w hSw; (try dsimp only at hSw); go_simp; first | done | with_reducible rfl) ?_) | (refine held_skip 15 rfl (by kernel_rfl) (by kernel_rfl) (by kernel_rfl) (by rfl) (fun _ _ _ h => h) (by assumption) ?_)
            simp only [Act.put, List.setIfInBounds_toArray, List.set_cons_zero, List.set_cons_succ]
            first | (refine held_take 16 rfl (by kernel_rfl) (by kernel_rfl) (by kernel_rfl) (by rfl) (fun _ _ _ h => h) (by assumption) (by intro w hSw; (try dsimp only at hSw); go_simp; first | done | with_reducible rfl) ?_) | (refine held_skip 16 rfl (by kernel_rfl) (by kernel_rfl) (by kernel_rfl) (by rfl) (fun _ _ _ h => h) (by assumption) ?_)
            simp only [Act.put, List.setIfInBounds_toArray, List.set_cons_zero, List.set_cons_succ]
            refine wpAnyH_done (by kernel_rfl) ?_ _
            have HF2 := Lib.hid hHeld.2.2.2.2.2.2.2.2.2.2
            have HF3 := Lib.hid HF2.out.1
            clear hHeld
            rw [hz] at *
            go_wp2_with fail
            have hbd : Below w2.heap.size w2 (World.drew w2) := (Below.refl _ _).drew
            have HFd := Lib.hid (HF3.out.below hbd)
            have hfd := row_free HFd.out rfl (by omega)
            refine region_G (S := (fun w' => w'.cell? ⟨g, j * 5, none⟩ = some (.int .i64 (cur[j]'hi').1.id) ∧ w'.cell? ⟨g, j * 5 + 1, none⟩ = some (.int .i64 (cur[j]'hi').1.owner) ∧ w'.cell? ⟨g, j * 5 + 2, none⟩ = some (.bool (cur[j]'hi').1.shared) ∧ w'.cell? ⟨g, j * 5 + 3, none⟩ = some (.int .i64 (cur[j]'hi').1.link) ∧ w'.cell? ⟨g, j * 5 + 4, none⟩ = some (.slice (cur[j]'hi').1.A (cur[j]'hi').1.n (cur[j]'hi').1.c) ∧ w'.cell? ⟨g, (j - 1) * 5, none⟩ = some (.int .i64 (cur[j - 1]'hj').1.id) ∧ w'.cell? ⟨g, (j - 1) * 5 + 1, none⟩ = some (.int .i64 (cur[j - 1]'hj').1.owner) ∧ w'.cell? ⟨g, (j - 1) * 5 + 2, none⟩ = some (.bool (cur[j - 1]'hj').1.shared) ∧ w'.cell? ⟨g, (j - 1) * 5 + 3, none⟩ = some (.int .i64 (cur[j - 1]'hj').1.link) ∧ w'.cell? ⟨g, (j - 1) * 5 + 4, none⟩ = some (.slice (cur[j - 1]'hj').1.A (cur[j - 1]'hj').1.n (cur[j - 1]'hj').1.c))) [15, 17] (by kernel_rfl) (by (try dsimp only); obtain ⟨q0, q1, q2, q3, q4⟩ := row_at HFd.out rfl hi'; obtain ⟨p0, p1, p2, p3, p4⟩ := row_at HFd.out rfl hj'; exact ⟨q0, q1, q2, q3, q4, p0, p1, p2, p3, p4⟩) (fun hHeld => ?_)
            generalize World.drew w2 = Wd at *
            refine heldG_pure 0 rfl (by kernel_rfl) (by kernel_rfl) (by kernel_rfl) (by kernel_rfl) (by rfl) (fun _ _ _ h => h) (by assumption) (by intro w _; go_simp; first | done | with_reducible rfl) ?_
            simp only [Act.put, List.setIfInBounds_toArray, List.set_cons_zero, List.set_cons_succ]
            refine heldG_pure 1 rfl (by kernel_rfl) (by kernel_rfl) (by kernel_rfl) (by kernel_rfl) (by rfl) (fun _ _ _ h => h) (by assumption) (by intro w _; go_simp; first | done | with_reducible rfl) ?_
            simp only [Act.put, List.setIfInBounds_toArray, List.set_cons_zero, List.set_cons_succ]
            refine heldG_pure 2 rfl (by kernel_rfl) (by kernel_rfl) (by kernel_rfl) (by kernel_rfl) (by rfl) (fun _ _ _ h => h) (by assumption) (by intro w _; go_simp; first | done | with_reducible rfl) ?_
            simp only [Act.put, List.setIfInBounds_toArray, List.set_cons_zero, List.set_cons_succ]
            refine heldG_pure 3 rfl (by kernel_rfl) (by kernel_rfl) (by kernel_rfl) (by kernel_rfl) (by rfl) (fun _ _ _ h => h) (by assumption) (by intro w _; go_simp; first | done | with_reducible rfl) ?_
            simp only [Act.put, List.setIfInBounds_toArray, List.set_cons_zero, List.set_cons_succ]
            refine heldG_pure 4 rfl (by kernel_rfl) (by kernel_rfl) (by kernel_rfl) (by kernel_rfl) (by rfl) (fun _ _ _ h => h) (by assumption) (by intro w _; go_simp; first | done | with_reducible rfl) ?_
            simp only [Act.put, List.setIfInBounds_toArray, List.set_cons_zero, List.set_cons_succ]
            refine heldG_pure 5 rfl (by kernel_rfl) (by kernel_rfl) (by kernel_rfl) (by kernel_rfl) (by rfl) (fun _ _ _ h => h) (by assumption) (by intro w _; go_simp; first | done | with_reducible rfl) ?_
            simp only [Act.put, List.setIfInBounds_toArray, List.set_cons_zero, List.set_cons_succ]
            refine heldG_pure 6 rfl (by kernel_rfl) (by kernel_rfl) (by kernel_rfl) (by kernel_rfl) (by rfl) (fun _ _ _ h => h) (by assumption) (by intro w _; go_simp; first | done | with_reducible rfl) ?_
            simp only [Act.put, List.setIfInBounds_toArray, List.set_cons_zero, List.set_cons_succ]
            refine heldG_pure 7 rfl (by kernel_rfl) (by kernel_rfl) (by kernel_rfl) (by kernel_rfl) (by rfl) (fun _ _ _ h => h) (by assumption) (by intro w _; go_simp; first | done | with_reducible rfl) ?_
            simp only [Act.put, List.setIfInBounds_toArray, List.set_cons_zero, List.set_cons_succ]
            refine heldG_pure 8 rfl (by kernel_rfl) (by kernel_rfl) (by kernel_rfl) (by kernel_rfl) (by rfl) (fun _ _ _ h => h) (by assumption) (by intro w _; go_simp; first | done | with_reducible rfl) ?_
            simp only [Act.put, List.setIfInBounds_toArray, List.set_cons_zero, List.set_cons_succ]
            refine heldG_take 9 rfl (by kernel_rfl) (by kernel_rfl) (by kernel_rfl) (by kernel_rfl) (by kernel_rfl) (by kernel_rfl) (by rfl) (fun _ _ _ h => h) (by assumption) (by intro w hSw; (try dsimp only at hSw); go_simp; first | done | with_reducible rfl) ?_
            simp only [Act.put, List.setIfInBounds_toArray, List.set_cons_zero, List.set_cons_succ]
            refine heldG_pure 10 rfl (by kernel_rfl) (by kernel_rfl) (by kernel_rfl) (by kernel_rfl) (by rfl) (fun _ _ _ h => h) (by assumption) (by intro w _; go_simp; first | done | with_reducible rfl) ?_
            simp only [Act.put, List.setIfInBounds_toArray, List.set_cons_zero, List.set_cons_succ]
            refine heldG_pure 11 rfl (by kernel_rfl) (by kernel_rfl) (by kernel_rfl) (by kernel_rfl) (by rfl) (fun _ _ _ h => h) (by assumption) (by intro w _; go_simp; first | done | with_reducible rfl) ?_
            simp only [Act.put, List.setIfInBounds_toArray, List.set_cons_zero, List.set_cons_succ]
            refine heldG_pure 12 rfl (by kernel_rfl) (by kernel_rfl) (by kernel_rfl) (by kernel_rfl) (by rfl) (fun _ _ _ h => h) (by assumption) (by intro w _; go_simp; first | done | with_reducible rfl) ?_
            simp only [Act.put, List.setIfInBounds_toArray, List.set_cons_zero, List.set_cons_succ]
            refine heldG_take 13 rfl (by kernel_rfl) (by kernel_rfl) (by kernel_rfl) (by kernel_rfl) (by kernel_rfl) (by kernel_rfl) (by rfl) (fun _ _ _ h => h) (by assumption) (by intro w hSw; (try dsimp only at hSw); go_simp; first | done | with_reducible rfl) ?_
            simp only [Act.put, List.setIfInBounds_toArray, List.set_cons_zero, List.set_cons_succ]
            refine heldG_pure 14 rfl (by kernel_rfl) (by kernel_rfl) (by kernel_rfl) (by kernel_rfl) (by rfl) (fun _ _ _ h => h) (by assumption) (by intro w _; go_simp; first | done | with_reducible rfl) ?_
            simp only [Act.put, List.setIfInBounds_toArray, List.set_cons_zero, List.set_cons_succ]
            have HSW := Lib.hid (row_swap HFd.out rfl hi' hj')
            refine heldG_last 15 (by kernel_rfl) rfl (by kernel_rfl) (fun K hK => ?_)
            go_simp
            refine hK.out _ _ ?_
            clear hK K
            try clear hHeld
            try simp only [Act.put, List.setIfInBounds_toArray, List.set_cons_zero, List.set_cons_succ]
            generalize hW1 : World.setCell (World.setCell (World.setCell (World.setCell (World.setCell (Wd) ⟨g, j * 5, none⟩ (.int .i64 (cur[j - 1]'hj').1.id)) ⟨g, j * 5 + 1, none⟩ (.int .i64 (cur[j - 1]'hj').1.owner)) ⟨g, j * 5 + 2, none⟩ (.bool (cur[j - 1]'hj').1.shared)) ⟨g, j * 5 + 3, none⟩ (.int .i64 (cur[j - 1]'hj').1.link)) ⟨g, j * 5 + 4, none⟩ (.slice (cur[j - 1]'hj').1.A (cur[j - 1]'hj').1.n (cur[j - 1]'hj').1.c) = W1
            have HF1 : FRow 28 5 eHk W1 B (some ⟨g, 0, none⟩) n c (cur.set (j) cur[j - 1]) := by rw [← hW1]; exact FRow.setE encHk HFd.out rfl hi' _
            obtain ⟨y0, y1, y2, y3, y4⟩ := row_at HF1 rfl (i := j - 1) (by rw [List.length_set]; exact hj')
            have yf := row_free HF1 rfl (by omega)
            clear HF1 HFd
            refine heldG_post 16 rfl (by kernel_rfl) (by kernel_rfl) (by kernel_rfl) (by kernel_rfl) (by kernel_rfl) (by rfl) (fun _ _ _ h => h) (by intro w _; go_simp; first | done | with_reducible rfl) ?_
            simp only [Act.put, List.setIfInBounds_toArray, List.set_cons_zero, List.set_cons_succ]
            refine heldG_last 17 (by kernel_rfl) rfl (by kernel_rfl) (fun K hK => ?_)
            go_simp
            refine hK.out _ _ ?_
            clear hK K
            try clear hHeld
            try simp only [Act.put, List.setIfInBounds_toArray, List.set_cons_zero, List.set_cons_succ]
            refine anyG_done (by kernel_rfl) ?_ _
            subst hW1
            go_wp2_with fail
            go_roundw
            case rel => exact ⟨j - 1, swp cur j (j - 1), by omega, by omega, by go_num, HN.out, fun y hy => HM.out y (mem_swp hy), HSW.out.1, by rw [HRB.out] at HC1 ⊢; exact HC1.out.trans ((Chg.of_below _ HF2.out.2).trans ((Chg.of_below _ hbd).trans HSW.out.2))⟩
            case measure => simp [intOf]; omega
        · obtain rfl : j = a := by omega
          have i2 : ¬ ((j : Int) < (j : Int)) := by omega
          have HN := Lib.hid (InsI.next hkD hD (.inl (by omega)))
          have HF1 := Lib.hid hF
          have HC1 := Lib.hid hC
          clear hC hF hm hD
          go_wp2_with fail
          refine wp_region_held_drew (S := (fun w' => FRow 28 5 eHk w' B A n c cur ∧ Chg (rowBs A c) w w')) (by kernel_rfl) (by (try dsimp only); exact ⟨HF1.out.below (Below.refl _ _).drew, HC1.out.trans (Chg.of_below _ (Below.refl _ _).drew)⟩) (fun hHeld => ?_)
          generalize World.drew wr = Wd at *
          first | (refine held_take 0 rfl (by kernel_rfl) (by kernel_rfl) (by kernel_rfl) (by rfl) (fun _ _ _ h => h) (by assumption) (by intro w hSw; (try dsimp only at hSw); go_simp; first | done | with_reducible rfl) ?_) | (refine held_skip 0 rfl (by kernel_rfl) (by kernel_rfl) (by kernel_rfl) (by rfl) (fun _ _ _ h => h) (by assumption) ?_)
          simp only [Act.put, List.setIfInBounds_toArray, List.set_cons_zero, List.set_cons_succ]
          first | (refine held_take 1 rfl (by kernel_rfl) (by kernel_rfl) (by kernel_rfl) (by rfl) (fun _ _ _ h => h) (by assumption) (by intro w hSw; (try dsimp only at hSw); go_simp; first | done | with_reducible rfl) ?_) | (refine held_skip 1 rfl (by kernel_rfl) (by kernel_rfl) (by kernel_rfl) (by rfl) (fun _ _ _ h => h) (by assumption) ?_)
          simp only [Act.put, List.setIfInBounds_toArray, List.set_cons_zero, List.set_cons_succ]
          first | (refine held_take 2 rfl (by kernel_rfl) (by kernel_rfl) (by kernel_rfl) (by rfl) (fun _ _ _ h => h) (by assumption) (by intro w hSw; (try dsimp only at hSw); go_simp; first | done | with_reducible rfl) ?_) | (refine held_skip 2 rfl (by kernel_rfl) (by kernel_rfl) (by kernel_rfl) (by rfl) (fun _ _ _ h => h) (by assumption) ?_)
          simp only [Act.put, List.setIfInBounds_toArray, List.set_cons_zero, List.set_cons_succ]
          first | (refine held_take 3 rfl (by kernel_rfl) (by kernel_rfl) (by kernel_rfl) (by rfl) (fun _ _ _ h => h) (by assumption) (by intro w hSw; (try dsimp only at hSw); go_simp; first | done | with_reducible rfl) ?_) | (refine held_skip 3 rfl (by kernel_rfl) (by kernel_rfl) (by kernel_rfl) (by rfl) (fun _ _ _ h => h) (by assumption) ?_)
          simp only [Act.put, List.setIfInBounds_toArray, List.set_cons_zero, List.set_cons_succ]
          first | (refine held_take 4 rfl (by kernel_rfl) (by kernel_rfl) (by kernel_rfl) (by rfl) (fun _ _ _ h => h) (by assumption) (by intro w hSw; (try dsimp only at hSw); go_simp; first | done | with_reducible rfl) ?_) | (refine held_skip 4 rfl (by kernel_rfl) (by kernel_rfl) (by kernel_rfl) (by rfl) (fun _ _ _ h => h) (by assumption) ?_)
          simp only [Act.put, List.setIfInBounds_toArray, List.set_cons_zero, List.set_cons_succ]
          first | (refine held_take 5 rfl (by kernel_rfl) (by kernel_rfl) (by kernel_rfl) (by rfl) (fun _ _ _ h => h) (by assumption) (by intro w hSw; (try dsimp only at hSw); go_simp; first | done | with_reducible rfl) ?_) | (refine held_skip 5 rfl (by kernel_rfl) (by kernel_rfl) (by kernel_rfl) (by rfl) (fun _ _ _ h => h) (by assumption) ?_)
          simp only [Act.put, List.setIfInBounds_toArray, List.set_cons_zero, List.set_cons_succ]
          first | (refine held_take 6 rfl (by kernel_rfl) (by kernel_rfl) (by kernel_rfl) (by rfl) (fun _ _ _ h => h) (by assumption) (by intro w hSw; (try dsimp only at hSw); go_simp; first | done | with_reducible rfl) ?_) | (refine held_skip 6 rfl (by kernel_rfl) (by kernel_rfl) (by kernel_rfl) (by rfl) (fun _ _ _ h => h) (by assumption) ?_)
          simp only [Act.put, List.setIfInBounds_toArray, List.set_cons_zero, List.set_cons_succ]
          first | (refine held_take 7 rfl (by kernel_rfl) (by kernel_rfl) (by kernel_rfl) (by rfl) (fun _ _ _ h => h) (by assumption) (by intro w hSw; (try dsimp only at hSw); go_simp; first | done | with_reducible rfl) ?_) | (refine held_skip 7 rfl (by kernel_rfl) (by kernel_rfl) (by kernel_rfl) (by rfl) (fun _ _ _ h => h) (by assumption) ?_)
          simp only [Act.put, List.setIfInBounds_toArray, List.set_cons_zero, List.set_cons_succ]
          first | (refine held_take 8 rfl (by kernel_rfl) (by kernel_rfl) (by kernel_rfl) (by rfl) (fun _ _ _ h => h) (by assumption) (by intro w hSw; (try dsimp only at hSw); go_simp; first | done | with_reducible rfl) ?_) | (refine held_skip 8 rfl (by kernel_rfl) (by kernel_rfl) (by kernel_rfl) (by rfl) (fun _ _ _ h => h) (by assumption) ?_)
          simp only [Act.put, List.setIfInBounds_toArray, List.set_cons_zero, List.set_cons_succ]
          first | (refine held_take 9 rfl (by kernel_rfl) (by kernel_rfl) (by kernel_rfl) (by rfl) (fun _ _ _ h => h) (by assumption) (by intro w hSw; (try dsimp only at hSw); go_simp; first | done | with_reducible rfl) ?_) | (refine held_skip 9 rfl (by kernel_rfl) (by kernel_rfl) (by kernel_rfl) (by rfl) (fun _ _ _ h => h) (by assumption) ?_)
          simp only [Act.put, List.setIfInBounds_toArray, List.set_cons_zero, List.set_cons_succ]
          first | (refine held_take 10 rfl (by kernel_rfl) (by kernel_rfl) (by kernel_rfl) (by rfl) (fun _ _ _ h => h) (by assumption) (by intro w hSw; (try dsimp only at hSw); go_simp; first | done | with_reducible rfl) ?_) | (refine held_skip 10 rfl (by kernel_rfl) (by kernel_rfl) (by kernel_rfl) (by rfl) (fun _ _ _ h => h) (by assumption) ?_)
          simp only [Act.put, List.setIfInBounds_toArray, List.set_cons_zero, List.set_cons_succ]
          first | (refine held_take 11 rfl (by kernel_rfl) (by kernel_rfl) (by kernel_rfl) (by rfl) (fun _ _ _ h => h) (by assumption) (by intro w hSw; (try dsimp only at hSw); go_simp; first | done | with_reducible rfl) ?_) | (refine held_skip 11 rfl (by kernel_rfl) (by kernel_rfl) (by kernel_rfl) (by rfl) (fun _ _ _ h => h) (by assumption) ?_)
          simp only [Act.put, List.setIfInBounds_toArray, List.set_cons_zero, List.set_cons_succ]
          first | (refine held_take 12 rfl (by kernel_rfl) (by kernel_rfl) (by kernel_rfl) (by rfl) (fun _ _ _ h => h) (by assumption) (by intro w hSw; (try dsimp only at hSw); go_simp; first | done | with_reducible rfl) ?_) | (refine held_skip 12 rfl (by kernel_rfl) (by kernel_rfl) (by kernel_rfl) (by rfl) (fun _ _ _ h => h) (by assumption) ?_)
          simp only [Act.put, List.setIfInBounds_toArray, List.set_cons_zero, List.set_cons_succ]
          first | (refine held_take 13 rfl (by kernel_rfl) (by kernel_rfl) (by kernel_rfl) (by rfl) (fun _ _ _ h => h) (by assumption) (by intro w hSw; (try dsimp only at hSw); go_simp; first | done | with_reducible rfl) ?_) | (refine held_skip 13 rfl (by kernel_rfl) (by kernel_rfl) (by kernel_rfl) (by rfl) (fun _ _ _ h => h) (by assumption) ?_)
          simp only [Act.put, List.setIfInBounds_toArray, List.set_cons_zero, List.set_cons_succ]
          first | (refine held_take 14 rfl (by kernel_rfl) (by kernel_rfl) (by kernel_rfl) (by rfl) (fun _ _ _ h => h) (by assumption) (by intro w hSw; (try dsimp only at hSw); go_simp; first | done | with_reducible rfl) ?_) | (refine held_skip 14 rfl (by kernel_rfl) (by kernel_rfl) (by kernel_rfl) (by rfl) (fun _ _ _ h => h) (by assumption) ?_)
          simp only [Act.put, List.setIfInBounds_toArray, List.set_cons_zero, List.set_cons_succ]
          first | (refine held_take 15 rfl (by kernel_rfl) (by kernel_rfl) (by kernel_rfl) (by rfl) (fun _ _ _ h => h) (by assumption) (by intro w hSw; (try dsimp only at hSw); go_simp; first | done | with_reducible rfl) ?_) | (refine held_skip 15 rfl (by kernel_rfl) (by kernel_rfl) (by kernel_rfl) (by rfl) (fun _ _ _ h => h) (by assumption) ?_)
          simp only [Act.put, List.setIfInBounds_toArray, List.set_cons_zero, List.set_cons_succ]
          first | (refine held_take 16 rfl (by kernel_rfl) (by kernel_rfl) (by kernel_rfl) (by rfl) (fun _ _ _ h => h) (by assumption) (by intro w hSw; (try dsimp only at hSw); go_simp; first | done | with_reducible rfl) ?_) | (refine held_skip 16 rfl (by kernel_rfl) (by kernel_rfl) (by kernel_rfl) (by rfl) (fun _ _ _ h => h) (by assumption) ?_)
          simp only [Act.put, List.setIfInBounds_toArray, List.set_cons_zero, List.set_cons_succ]
          refine wpAnyH_done (by kernel_rfl) ?_ _
          go_wp2_with fail
          go_roundw
          case rel => exact ⟨k + 1, cur, by omega, .inr (by omega), by rw [← hak]; go_num, HN.out, hHeld.1, hHeld.2⟩
          case measure => simp [intOf]; omega
    · have i1 : ¬ (((a + k : Nat) : Int) < (b : Int)) := by omega
      have HN := Lib.hid (hI.end_ (by omega))
      have HF := Lib.hid hF
      clear hI hF
      go_wp2_with fail
      go_returns
      have e9 := HN.out
      simp only [List.append_assoc] at e9
      exact ⟨rfl, by rw [← e9]; exact HF.out, hC⟩
end Go.Proofs.Ytjobgnioehkomaa
