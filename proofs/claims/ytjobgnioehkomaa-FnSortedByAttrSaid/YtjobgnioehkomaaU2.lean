/-
  CONTRACTS: the library's stable merge, at files' headers with their keys.
-/
import Derived.WalkKit
import Derived.WalkSpells
import Derived.WalkLawsBesides
import Derived.Lib.Hide
import Derived.Handy
import Derived.StillTailTactics
import Derived.Deep.Light
import Derived.Deep.QuietTactic
import Derived.BigQuiet
import Derived.Deep.RegionHeld3
import Derived.Deep.DeepCutAuto
import Derived.Test.YtjobgnioehkomaaLib
import Derived.Test.YtjobgnioehkomaaOwn
import Derived.Test.YtjobgnioehkomaaRow
import Derived.Test.YtjobgnioehkomaaN0
import Derived.Test.YtjobgnioehkomaaRaw
import Derived.Test.YtjobgnioehkomaaHld
import Derived.Test.YtjobgnioehkomaaHl2
import Derived.Test.YtjobgnioehkomaaHl3
import Derived.Test.YtjobgnioehkomaaM0
import Derived.Test.YtjobgnioehkomaaC1
import Derived.Test.YtjobgnioehkomaaC2
import Derived.Test.YtjobgnioehkomaaT1
import Derived.Test.YtjobgnioehkomaaT2
import Derived.Test.YtjobgnioehkomaaT3
import Derived.Test.YtjobgnioehkomaaT4
import Derived.Test.YtjobgnioehkomaaC3
import Derived.Test.YtjobgnioehkomaaC4
import Derived.Test.YtjobgnioehkomaaC5
import Derived.Test.YtjobgnioehkomaaD1
import Derived.Test.YtjobgnioehkomaaD3
import Derived.Test.YtjobgnioehkomaaH1
import Derived.Test.YtjobgnioehkomaaU0
import Derived.Test.YtjobgnioehkomaaU1
import Derived.Test.YtjobgnioehkomaaRows
namespace Go.Proofs.Ytjobgnioehkomaa
open Go.RowKit
set_option linter.unusedVariables false
set_option maxRecDepth 100000
section
variable {α : Type} {key : α → Int}
/-- one element on the left -/
theorem one_left {X U V Y l R : List α} (hl : l = X ++ U ++ V ++ Y) (hR : X ++ mrg key U V ++ Y = R) (hV : Asc key V) {a m b : Nat} (ha : X.length = a) (hm : a + U.length = m) (hb : m + V.length = b) (h1 : m = a + 1) :
    ∃ (P : List α) (x : α), P.length + 1 = l.length ∧ l = mvd P x a ∧ ∀ i, m ≤ i → i ≤ b → (i = m ∨ ka key l (i - 1) < ka key l a) → (i = b ∨ ka key l a ≤ ka key l i) → mvd P x (i - 1) = R := by
  obtain ⟨x, rfl⟩ : ∃ x, U = [x] := List.length_eq_one_iff.1 (by omega)
  refine ⟨X ++ V ++ Y, x, by rw [hl]; simp; omega, ?_, fun i hi1 hi2 c1 c2 => ?_⟩
  · have := mvd_self X (V ++ Y) x
    rw [ha] at this
    rw [hl, List.append_assoc X V Y, this]; simp
  · rw [← hR]; exact (merge_one_left hl hV ha h1.symm hb hi1 hi2 c1 c2).symm
/-- one element on the right -/
theorem one_right {X U V Y l R : List α} (hl : l = X ++ U ++ V ++ Y) (hR : X ++ mrg key U V ++ Y = R) (hU : Asc key U) {a m b : Nat} (ha : X.length = a) (hm : a + U.length = m) (hb : m + V.length = b) (h1 : b = m + 1) :
    ∃ (P : List α) (x : α), P.length + 1 = l.length ∧ l = mvd P x m ∧ ∀ i, a ≤ i → i ≤ m → (i = a ∨ ka key l (i - 1) ≤ ka key l m) → (i = m ∨ ka key l m < ka key l i) → mvd P x i = R := by
  obtain ⟨y, rfl⟩ : ∃ y, V = [y] := List.length_eq_one_iff.1 (by omega)
  refine ⟨X ++ U ++ Y, y, by rw [hl]; simp; omega, ?_, fun i hi1 hi2 c1 c2 => ?_⟩
  · have := mvd_self (X ++ U) Y y
    rw [List.length_append, ha, hm] at this
    rw [hl, this]
  · rw [← hR]; exact (merge_one_right hl hU ha hm hi1 hi2 c1 c2).symm
/-- both sides are cut -/
structure Cut (key : α → Int) (X U V Y R : List α) (a s m mid e b : Nat) (U1 U2 V1 V2 : List α) : Prop where
  u : U = U1 ++ U2
  v : V = V1 ++ V2
  lu1 : a + U1.length = s
  lu2 : s + U2.length = m
  lv1 : m + V1.length = e
  lv2 : e + V2.length = b
  au1 : Asc key U1
  au2 : Asc key U2
  av1 : Asc key V1
  av2 : Asc key V2
  res : X ++ mrg key U1 V1 ++ mrg key U2 V2 ++ Y = R
theorem mid_end {X U V Y l R : List α} (hl : l = X ++ U ++ V ++ Y) (hR : X ++ mrg key U V ++ Y = R) (hU : Asc key U) (hV : Asc key V) {a s m mid e b : Nat} (ha : X.length = a) (hm : a + U.length = m) (hb : m + V.length = b)
    (h1 : a ≤ s) (h2 : s ≤ m) (h3 : s ≤ mid) (he : e = mid + m - s) (h4 : e ≤ b) (c1 : s = m ∨ e = m ∨ ka key l (e - 1) < ka key l s) (c2 : s = a ∨ e = b ∨ ka key l (s - 1) ≤ ka key l e) :
    ∃ U1 U2 V1 V2, Cut key X U V Y R a s m mid e b U1 U2 V1 V2 := by
  have eu : U.take (s - a) ++ U.drop (s - a) = U := List.take_append_drop _ _
  have ev : V.take (e - m) ++ V.drop (e - m) = V := List.take_append_drop _ _
  have hU' := hU
  have hV' := hV
  rw [← eu] at hU'
  rw [← ev] at hV'
  have l1 : a + (U.take (s - a)).length = s := by rw [List.length_take]; omega
  have l2 : s + (U.drop (s - a)).length = m := by rw [List.length_drop]; omega
  have l3 : m + (V.take (e - m)).length = e := by rw [List.length_take]; omega
  have l4 : e + (V.drop (e - m)).length = b := by rw [List.length_drop]; omega
  have hx := merge_mid (key := key) (X := X) (Y := Y) (l := l) (by rw [eu, ev]; exact hl) hU' hV' ha l1 l2 l3 l4 c1 c2
  rw [eu, ev] at hx
  exact ⟨_, _, _, _, ⟨eu.symm, ev.symm, l1, l2, l3, l4, hU'.split.1, hU'.split.2.1, hV'.split.1, hV'.split.2.1, by rw [← hR, hx]; simp only [List.append_assoc]⟩⟩
theorem Cut.rot {X U V Y R l : List α} {a s m mid e b : Nat} {U1 U2 V1 V2 : List α} (h : Cut key X U V Y R a s m mid e b U1 U2 V1 V2) (hl : l = X ++ U ++ V ++ Y) (ha : X.length = a) : RotI m (m - s) (e - m) (X ++ U1 ++ V1 ++ (U2 ++ V2 ++ Y)) l :=
  ⟨X ++ U1, U2, V1, V2 ++ Y, by rw [hl, h.u, h.v]; simp, by simp, by have := h.lu1; have := h.lu2; simp; omega, by have := h.lu2; omega, by have := h.lv1; omega⟩
theorem Cut.norot {X U V Y R l : List α} {a s m mid e b : Nat} {U1 U2 V1 V2 : List α} (h : Cut key X U V Y R a s m mid e b U1 U2 V1 V2) (hl : l = X ++ U ++ V ++ Y) (hn : ¬ (s < m ∧ m < e)) : l = X ++ U1 ++ V1 ++ (U2 ++ V2 ++ Y) := by
  have h1 := h.lu2
  have h2 := h.lv1
  rw [hl, h.u, h.v]
  rcases Nat.eq_zero_or_pos U2.length with h3 | h3
  · obtain rfl := List.eq_nil_of_length_eq_zero h3; simp
  · obtain rfl := List.eq_nil_of_length_eq_zero (l := V1) (by omega); simp
theorem Cut.skip1 {X U V Y R : List α} {a s m mid e b : Nat} {U1 U2 V1 V2 : List α} (h : Cut key X U V Y R a s m mid e b U1 U2 V1 V2) (he : e = mid + m - s) (h3 : s ≤ mid) (hn : ¬ (a < s ∧ s < mid)) : mrg key U1 V1 = U1 ++ V1 := by
  have h1 := h.lu1
  have h2 := h.lv1
  rcases Nat.eq_zero_or_pos U1.length with h4 | h4
  · obtain rfl := List.eq_nil_of_length_eq_zero h4; rw [mrg_asc_nil h.av1]; rfl
  · obtain rfl := List.eq_nil_of_length_eq_zero (l := V1) (by omega); simp
theorem Cut.mem1 {X U V Y R l : List α} {a s m mid e b : Nat} {U1 U2 V1 V2 : List α} (h : Cut key X U V Y R a s m mid e b U1 U2 V1 V2) (hl : l = X ++ U ++ V ++ Y) {y : α} (hy : y ∈ X ++ U1 ++ V1 ++ (U2 ++ V2 ++ Y)) : y ∈ l := by
  rw [hl, h.u, h.v]
  simp only [List.mem_append] at hy ⊢
  rcases hy with ((hy | hy) | hy) | ((hy | hy) | hy) <;> simp [hy]
theorem Cut.mem2 {X U V Y R l : List α} {a s m mid e b : Nat} {U1 U2 V1 V2 : List α} (h : Cut key X U V Y R a s m mid e b U1 U2 V1 V2) (hl : l = X ++ U ++ V ++ Y) {y : α} (hy : y ∈ X ++ mrg key U1 V1 ++ U2 ++ V2 ++ Y) : y ∈ l := by
  rw [hl, h.u, h.v]
  simp only [List.mem_append, mrg_mem] at hy ⊢
  rcases hy with (((hy | (hy | hy)) | hy) | hy) | hy <;> simp [hy]
theorem Cut.skip2 {X U V Y R : List α} {a s m mid e b : Nat} {U1 U2 V1 V2 : List α} (h : Cut key X U V Y R a s m mid e b U1 U2 V1 V2) (he : e = mid + m - s) (h3 : s ≤ mid) (hn : ¬ (mid < e ∧ e < b)) : mrg key U2 V2 = U2 ++ V2 := by
  have h1 := h.lu2
  have h2 := h.lv2
  rcases Nat.eq_zero_or_pos U2.length with h4 | h4
  · obtain rfl := List.eq_nil_of_length_eq_zero h4; rw [mrg_asc_nil h.av2]; rfl
  · obtain rfl := List.eq_nil_of_length_eq_zero (l := V2) (by omega); simp
end
set_option maxHeartbeats 12800000 in
theorem symMerge_left (kf : Nat) (caps : Array Value) (ok : HK → Prop) (B : Nat) (hcf : ∀ args w, (callFunc kf args).run Try.prog w = .ok (.enter kf args) w) (N : Nat) (A : Option Addr) (n c : Nat) (l R X U V Y : List HK) (a m b : Nat) (w : World) (h : FRow 28 5 eHk w B A n c l) (hn : n ≤ 1073741824)
    (hN : b - a ≤ N + 1) (hl : l = X ++ U ++ V ++ Y) (hR : X ++ mrg hkey U V ++ Y = R) (ha : X.length = a) (hm : a + U.length = m) (hb : m + V.length = b) (hu : 0 < U.length) (hv : 0 < V.length) (hU : Asc hkey U) (hV : Asc hkey V) (hok : ∀ x ∈ l, ok x) (hB : B ≤ w.heap.size) (hp : Cmp2 Try.prog kf caps ok B w) (h1 : m = a + 1) :
    Calls Try.prog 178 #[.slice A n c, .int .i64 a, .int .i64 m, .int .i64 b, .func (.func kf) #[] caps] w fun e w' => e = .returned (.tuple #[]) ∧ FRow 28 5 eHk w' B A n c R ∧ Chg (rowBs A c) w w' := by
  have hbn : b ≤ n := by rw [← h.len, hl]; simp; omega
  have hbs : ∀ x ∈ rowBs A c, B ≤ x := fun x hx => (h.base x hx).1
  have hln : l.length = n := h.len
  have HR := Lib.hid (And.intro h hl)
  have HQ := Lib.hid hR
  have HP := Lib.hid hp
  have HOK := Lib.hid hok
  have HBS := Lib.hid hbs
  have HUV := Lib.hid (And.intro hU hV)
  clear h hl hR hp hok hbs hU hV
  have r1 : IntKind.i64.wrap ((m : Int) - (a : Int)) = (m : Int) - (a : Int) := IntWalk.i64_in _ (by omega)
  have r2 : IntKind.i64.wrap ((b : Int) - (m : Int)) = (b : Int) - (m : Int) := IntWalk.i64_in _ (by omega)
  obtain ⟨g, rfl, -, hgw, hrb, -⟩ := HR.out.1.row (by have := HR.out.1.le; omega)
  have HRB := Lib.hid hrb
  clear hrb
  have e1 : ((m : Int) - (a : Int) == 1) = true := by simp; omega
  obtain ⟨P, x, hPl, hlP, hPR⟩ := one_left HR.out.2 HQ.out HUV.out.2 ha hm hb h1
  have HPR := Lib.hid hPR
  have HLP := Lib.hid hlP
  clear hPR hlP
  have k3 : (a : Int) < (n : Int) := by omega
  have k4 : (0 : Int) ≤ (a : Int) := by omega
  go_enter Try.func178, Try.ntmps178
  go_wp2_with fail
  go_loopw [10, 11] (fun ii jj wr => ∃ i : Nat, m ≤ i ∧ ∃ j : Nat, i ≤ j ∧ j ≤ b ∧ ii = .int .i64 i ∧ jj = .int .i64 j ∧ (i = m ∨ ka hkey l (i - 1) < ka hkey l a) ∧ (j = b ∨ ka hkey l a ≤ ka hkey l j) ∧ Below w.heap.size w wr) (fun ii jj _ => (intOf jj).toNat - (intOf ii).toNat)
  case atStart => exact ⟨m, Nat.le_refl _, b, by omega, Nat.le_refl _, by first | rfl | go_num, by first | rfl | go_num, .inl rfl, .inl rfl, by first | exact Below.refl _ _ | assumption⟩
  case round =>
    obtain ⟨i, q1, j, q2, q3, rfl, rfl, c1, c2, hb1⟩ := hrel
    have HCC := Lib.hid (And.intro c1 c2)
    by_cases hlt : i < j
    · have i1 : (i : Int) < (j : Int) := by omega
      have t1 : IntKind.i64.wrap ((i : Int) + (j : Int)) = (i : Int) + (j : Int) := IntWalk.i64_in _ (by omega)
      have t2 : IntKind.u64.wrap ((i : Int) + (j : Int)) = (i : Int) + (j : Int) := IntWalk.u64_in _ (by omega)
      obtain ⟨h, t4, t5, t6⟩ : ∃ h : Nat, ((i : Int) + (j : Int)) / 2 = (h : Int) ∧ i ≤ h ∧ h < j := ⟨(i + j) / 2, by omega, by omega, by omega⟩
      have t3 : IntKind.i64.wrap (h : Int) = (h : Int) := IntWalk.i64_in _ (by omega)
      have hi' : h < l.length := by omega
      have hj' : a < l.length := by omega
      have hBr : B ≤ wr.heap.size := Nat.le_trans hB hb1.size
      have HF1 := Lib.hid (HR.out.1.below hb1)
      have HB1 := Lib.hid hb1
      have k1 : (h : Int) < (n : Int) := by omega
      have k2 : (0 : Int) ≤ (h : Int) := by omega
      have k5 : IntKind.i64.wrap ((h : Int) + 1) = (h : Int) + 1 := IntWalk.i64_in _ (by omega)
      cases hcmp : decide (ka hkey l (h) < ka hkey l (a)) with
      | true =>
        have HL := Lib.hid ((HP.out.on (hb1.mono hB)).less HOK.out hi' hj' hcmp)
        have HK := Lib.hid (of_decide_eq_true hcmp)
        clear c1 c2 hb1 hcmp
        go_wp2_with fail
        have hfr := row_free HF1.out rfl (by omega)
        refine wp_region_held_drew (S := (fun w' => w'.cell? ⟨g, h * 5, none⟩ = some (.int .i64 (l[h]'hi').1.id) ∧ w'.cell? ⟨g, h * 5 + 1, none⟩ = some (.int .i64 (l[h]'hi').1.owner) ∧ w'.cell? ⟨g, h * 5 + 2, none⟩ = some (.bool (l[h]'hi').1.shared) ∧ w'.cell? ⟨g, h * 5 + 3, none⟩ = some (.int .i64 (l[h]'hi').1.link) ∧ w'.cell? ⟨g, h * 5 + 4, none⟩ = some (.slice (l[h]'hi').1.A (l[h]'hi').1.n (l[h]'hi').1.c) ∧ w'.cell? ⟨g, a * 5, none⟩ = some (.int .i64 (l[a]'hj').1.id) ∧ w'.cell? ⟨g, a * 5 + 1, none⟩ = some (.int .i64 (l[a]'hj').1.owner) ∧ w'.cell? ⟨g, a * 5 + 2, none⟩ = some (.bool (l[a]'hj').1.shared) ∧ w'.cell? ⟨g, a * 5 + 3, none⟩ = some (.int .i64 (l[a]'hj').1.link) ∧ w'.cell? ⟨g, a * 5 + 4, none⟩ = some (.slice (l[a]'hj').1.A (l[a]'hj').1.n (l[a]'hj').1.c) ∧ FRow 28 5 eHk w' B (some ⟨g, 0, none⟩) n c l ∧ Below wr.heap.size wr w')) (by kernel_rfl) (by (try dsimp only); obtain ⟨q0, q1, q2, q3, q4⟩ := row_at (HF1.out.below (Below.refl _ _).drew) rfl hi'; obtain ⟨p0, p1, p2, p3, p4⟩ := row_at (HF1.out.below (Below.refl _ _).drew) rfl hj'; exact ⟨q0, q1, q2, q3, q4, p0, p1, p2, p3, p4, (HF1.out.below (Below.refl _ _).drew), (Below.refl _ _).drew⟩) (fun hHeld => ?_)
        generalize World.drew wr = Wd at *
        first | (refine held_take 0 rfl (by kernel_rfl) (by kernel_rfl) (by kernel_rfl) (by rfl) (fun _ _ _ h => h) (by assumption) (by intro w hSw; (try dsimp only at hSw); go_simp; first | done | with_reducible rfl) ?_) | (refine held_skip 0 rfl (by kernel_rfl) (by kernel_rfl) (by kernel_rfl) (by rfl) (fun _ _ _ h => h) (by assumption) ?_)
        simp only [Act.put, List.setIfInBounds_toArray, List.set_cons_zero, List.set_cons_succ]
        first | (refine held_take 1 rfl (by kernel_rfl) (by kernel_rfl) (by kernel_rfl) (by rfl) (fun _ _ _ h => h) (by assumption) (by intro w hSw; (try dsimp only at hSw); go_simp; first | done | with_reducible rfl) ?_) | (refine held_skip 1 rfl (by kernel_rfl) (by kernel_rfl) (by kernel_rfl) (by rfl) (fun _ _ _ h => h) (by assumption) ?_)
        simp only [Act.put, List.setIfInBounds_toArray, List.set_cons_zero, List.set_cons_succ]
        first | (refine held_take 2 rfl (by kernel_rfl) (by kernel_rfl) (by kernel_rfl) (by rfl) (fun _ _ _ h => h) (by assumption) (by intro w hSw; (try dsimp only at hSw); go_simp; first | done | with_reducible rfl) ?_) | (refine held_skip 2 rfl (by kernel_rfl) (by kernel_rfl) (by kernel_rfl) (by rfl) (fun _ _ _ h => h) (by assumption) ?_)
        simp only [Act.put, List.setIfInBounds_toArray, List.set_cons_zero, List.set_cons_succ]
        first | (refine held_take 3 rfl (by kernel_rfl) (by kernel_rfl) (by kernel_rfl) (by rfl) (fun _ _ _ h => h) (by assumption) (by intro w hSw; (try dsimp only at hSw); go_simp; first | done | with_reducible rfl) ?_) | (refine held_skip 3 rfl (by kernel_rfl) (by kernel_rfl) (by kernel_rfl) (by rfl) (fun _ _ _ h => h) (by assumption) ?_)
        simp only [Act.put, List.setIfInBounds_toArray, List.set_cons_zero, List.set_cons_succ]
        first | (refine held_take 4 rfl (by kernel_rfl) (by kernel_rfl) (by kernel_rfl) (by rfl) (fun _ _ _ h => h) (by assumption) (by intro w hSw; (try dsimp only at hSw); go_simp; first | done | with_reducible rfl) ?_) | (refine held_skip 4 rfl (by kernel_rfl) (by kernel_rfl) (by kernel_rfl) (by rfl) (fun _ _ _ h => h) (by assumption) ?_)
        simp only [Act.put, List.setIfInBounds_toArray, List.set_cons_zero, List.set_cons_succ]
        first | (refine held_take 5 rfl (by kernel_rfl) (by kernel_rfl) (by kernel_rfl) (by rfl) (fun _ _ _ h => h) (by assumption) (by intro w hSw; (try dsimp only at hSw); go_simp; first | done | with_reducible rfl) ?_) | (refine held_skip 5 rfl (by kernel_rfl) (by kernel_rfl) (by kernel_rfl) (by rfl) (fun _ _ _ h => h) (by assumption) ?_)
        simp only [Act.put, List.setIfInBounds_toArray, List.set_cons_zero, List.set_cons_succ]
        first | (refine held_take 6 rfl (by kernel_rfl) (by kernel_rfl) (by kernel_rfl) (by rfl) (fun _ _ _ h => h) (by assumption) (by intro w hSw; (try dsimp only at hSw); go_simp; first | done | with_reducible rfl) ?_) | (refine held_skip 6 rfl (by kernel_rfl) (by kernel_rfl) (by kernel_rfl) (by rfl) (fun _ _ _ h => h) (by assumption) ?_)
        simp only [Act.put, List.setIfInBounds_toArray, List.set_cons_zero, List.set_cons_succ]
        first | (refine held_take 7 rfl (by kernel_rfl) (by kernel_rfl) (by kernel_rfl) (by rfl) (fun _ _ _ h => h) (by assumption) (by intro w hSw; (try dsimp only at hSw); go_simp; first | done | with_reducible rfl) ?_) | (refine held_skip 7 rfl (by kernel_rfl) (by kernel_rfl) (by kernel_rfl) (by rfl) (fun _ _ _ h => h) (by assumption) ?_)
        simp only [Act.put, List.setIfInBounds_toArray, List.set_cons_zero, List.set_cons_succ]
        first | (refine held_take 8 rfl (by kernel_rfl) (by kernel_rfl) (by kernel_rfl) (by rfl) (fun _ _ _ h => h) (by assumption) (by intro w hSw; (try dsimp only at hSw); go_simp; first | done | with_reducible rfl) ?_) | (refine held_skip 8 rfl (by kernel_rfl) (by kernel_rfl) (by kernel_rfl) (by rfl) (fun _ _ _ h => h) (by assumption) ?_)
        simp only [Act.put, List.setIfInBounds_toArray, List.set_cons_zero, List.set_cons_succ]
        refine held_one 9 (by kernel_rfl) rfl (fun K hK => ?_)
        go_simp
        refine (HL.out _ (hHeld.2.2.2.2.2.2.2.2.2.2.2.mono hBr)).mono ?_; rintro e w2 ⟨z, rfl, hz, hb2⟩
        go_wp2_with fail
        refine hK.out _ _ (by (try dsimp only); obtain ⟨q0, q1, q2, q3, q4⟩ := row_at (hHeld.2.2.2.2.2.2.2.2.2.2.1.below hb2) rfl hi'; obtain ⟨p0, p1, p2, p3, p4⟩ := row_at (hHeld.2.2.2.2.2.2.2.2.2.2.1.below hb2) rfl hj'; exact ⟨q0, q1, q2, q3, q4, p0, p1, p2, p3, p4, (hHeld.2.2.2.2.2.2.2.2.2.2.1.below hb2), ex_trans hHeld.2.2.2.2.2.2.2.2.2.2.2 hb2⟩) (fun hNew => ?_)
        clear hK K hHeld
        have hHeld := hNew
        clear hNew
        try simp only [Act.put, List.setIfInBounds_toArray, List.set_cons_zero, List.set_cons_succ]
        first | (refine held_take 10 rfl (by kernel_rfl) (by kernel_rfl) (by kernel_rfl) (by rfl) (fun _ _ _ h => h) (by assumption) (by intro w hSw; (try dsimp only at hSw); go_simp; first | done | with_reducible rfl) ?_) | (refine held_skip 10 rfl (by kernel_rfl) (by kernel_rfl) (by kernel_rfl) (by rfl) (fun _ _ _ h => h) (by assumption) ?_)
        simp only [Act.put, List.setIfInBounds_toArray, List.set_cons_zero, List.set_cons_succ]
        refine wpAnyH_done (by kernel_rfl) ?_ _
        rw [hz] at *
        go_wp2_with fail
        go_roundw
        case rel => exact ⟨h + 1, by omega, j, by omega, by omega, by go_num, rfl, .inr HK.out, HCC.out.2, ex_trans HB1.out hHeld.2.2.2.2.2.2.2.2.2.2.2⟩
        case measure => simp [intOf]; omega
      | false =>
        have HL := Lib.hid ((HP.out.on (hb1.mono hB)).less HOK.out hi' hj' hcmp)
        have HK := Lib.hid (of_decide_eq_false hcmp)
        clear c1 c2 hb1 hcmp
        go_wp2_with fail
        have hfr := row_free HF1.out rfl (by omega)
        refine wp_region_held_drew (S := (fun w' => w'.cell? ⟨g, h * 5, none⟩ = some (.int .i64 (l[h]'hi').1.id) ∧ w'.cell? ⟨g, h * 5 + 1, none⟩ = some (.int .i64 (l[h]'hi').1.owner) ∧ w'.cell? ⟨g, h * 5 + 2, none⟩ = some (.bool (l[h]'hi').1.shared) ∧ w'.cell? ⟨g, h * 5 + 3, none⟩ = some (.int .i64 (l[h]'hi').1.link) ∧ w'.cell? ⟨g, h * 5 + 4, none⟩ = some (.slice (l[h]'hi').1.A (l[h]'hi').1.n (l[h]'hi').1.c) ∧ w'.cell? ⟨g, a * 5, none⟩ = some (.int .i64 (l[a]'hj').1.id) ∧ w'.cell? ⟨g, a * 5 + 1, none⟩ = some (.int .i64 (l[a]'hj').1.owner) ∧ w'.cell? ⟨g, a * 5 + 2, none⟩ = some (.bool (l[a]'hj').1.shared) ∧ w'.cell? ⟨g, a * 5 + 3, none⟩ = some (.int .i64 (l[a]'hj').1.link) ∧ w'.cell? ⟨g, a * 5 + 4, none⟩ = some (.slice (l[a]'hj').1.A (l[a]'hj').1.n (l[a]'hj').1.c) ∧ FRow 28 5 eHk w' B (some ⟨g, 0, none⟩) n c l ∧ Below wr.heap.size wr w')) (by kernel_rfl) (by (try dsimp only); obtain ⟨q0, q1, q2, q3, q4⟩ := row_at (HF1.out.below (Below.refl _ _).drew) rfl hi'; obtain ⟨p0, p1, p2, p3, p4⟩ := row_at (HF1.out.below (Below.refl _ _).drew) rfl hj'; exact ⟨q0, q1, q2, q3, q4, p0, p1, p2, p3, p4, (HF1.out.below (Below.refl _ _).drew), (Below.refl _ _).drew⟩) (fun hHeld => ?_)
        generalize World.drew wr = Wd at *
        first | (refine held_take 0 rfl (by kernel_rfl) (by kernel_rfl) (by kernel_rfl) (by rfl) (fun _ _ _ h => h) (by assumption) (by intro w hSw; (try dsimp only at hSw); go_simp; first | done | with_reducible rfl) ?_) | (refine held_skip 0 rfl (by kernel_rfl) (by kernel_rfl) (by kernel_rfl) (by rfl) (fun _ _ _ h => h) (by assumption) ?_)
        simp only [Act.put, List.setIfInBounds_toArray, List.set_cons_zero, List.set_cons_succ]
        first | (refine held_take 1 rfl (by kernel_rfl) (by kernel_rfl) (by kernel_rfl) (by rfl) (fun _ _ _ h => h) (by assumption) (by intro w hSw; (try dsimp only at hSw); go_simp; first | done | with_reducible rfl) ?_) | (refine held_skip 1 rfl (by kernel_rfl) (by kernel_rfl) (by kernel_rfl) (by rfl) (fun _ _ _ h => h) (by assumption) ?_)
        simp only [Act.put, List.setIfInBounds_toArray, List.set_cons_zero, List.set_cons_succ]
        first | (refine held_take 2 rfl (by kernel_rfl) (by kernel_rfl) (by kernel_rfl) (by rfl) (fun _ _ _ h => h) (by assumption) (by intro w hSw; (try dsimp only at hSw); go_simp; first | done | with_reducible rfl) ?_) | (refine held_skip 2 rfl (by kernel_rfl) (by kernel_rfl) (by kernel_rfl) (by rfl) (fun _ _ _ h => h) (by assumption) ?_)
        simp only [Act.put, List.setIfInBounds_toArray, List.set_cons_zero, List.set_cons_succ]
        first | (refine held_take 3 rfl (by kernel_rfl) (by kernel_rfl) (by kernel_rfl) (by rfl) (fun _ _ _ h => h) (by assumption) (by intro w hSw; (try dsimp only at hSw); go_simp; first | done | with_reducible rfl) ?_) | (refine held_skip 3 rfl (by kernel_rfl) (by kernel_rfl) (by kernel_rfl) (by rfl) (fun _ _ _ h => h) (by assumption) ?_)
        simp only [Act.put, List.setIfInBounds_toArray, List.set_cons_zero, List.set_cons_succ]
        first | (refine held_take 4 rfl (by kernel_rfl) (by kernel_rfl) (by kernel_rfl) (by rfl) (fun _ _ _ h => h) (by assumption) (by intro w hSw; (try dsimp only at hSw); go_simp; first | done | with_reducible rfl) ?_) | (refine held_skip 4 rfl (by kernel_rfl) (by kernel_rfl) (by kernel_rfl) (by rfl) (fun _ _ _ h => h) (by assumption) ?_)
        simp only [Act.put, List.setIfInBounds_toArray, List.set_cons_zero, List.set_cons_succ]
        first | (refine held_take 5 rfl (by kernel_rfl) (by kernel_rfl) (by kernel_rfl) (by rfl) (fun _ _ _ h => h) (by assumption) (by intro w hSw; (try dsimp only at hSw); go_simp; first | done | with_reducible rfl) ?_) | (refine held_skip 5 rfl (by kernel_rfl) (by kernel_rfl) (by kernel_rfl) (by rfl) (fun _ _ _ h => h) (by assumption) ?_)
        simp only [Act.put, List.setIfInBounds_toArray, List.set_cons_zero, List.set_cons_succ]
        first | (refine held_take 6 rfl (by kernel_rfl) (by kernel_rfl) (by kernel_rfl) (by rfl) (fun _ _ _ h => h) (by assumption) (by intro w hSw; (try dsimp only at hSw); go_simp; first | done | with_reducible rfl) ?_) | (refine held_skip 6 rfl (by kernel_rfl) (by kernel_rfl) (by kernel_rfl) (by rfl) (fun _ _ _ h => h) (by assumption) ?_)
        simp only [Act.put, List.setIfInBounds_toArray, List.set_cons_zero, List.set_cons_succ]
        first | (refine held_take 7 rfl (by kernel_rfl) (by kernel_rfl) (by kernel_rfl) (by rfl) (fun _ _ _ h => h) (by assumption) (by intro w hSw; (try dsimp only at hSw); go_simp; first | done | with_reducible rfl) ?_) | (refine held_skip 7 rfl (by kernel_rfl) (by kernel_rfl) (by kernel_rfl) (by rfl) (fun _ _ _ h => h) (by assumption) ?_)
        simp only [Act.put, List.setIfInBounds_toArray, List.set_cons_zero, List.set_cons_succ]
        first | (refine held_take 8 rfl (by kernel_rfl) (by kernel_rfl) (by kernel_rfl) (by rfl) (fun _ _ _ h => h) (by assumption) (by intro w hSw; (try dsimp only at hSw); go_simp; first | done | with_reducible rfl) ?_) | (refine held_skip 8 rfl (by kernel_rfl) (by kernel_rfl) (by kernel_rfl) (by rfl) (fun _ _ _ h => h) (by assumption) ?_)
        simp only [Act.put, List.setIfInBounds_toArray, List.set_cons_zero, List.set_cons_succ]
        refine held_one 9 (by kernel_rfl) rfl (fun K hK => ?_)
        go_simp
        refine (HL.out _ (hHeld.2.2.2.2.2.2.2.2.2.2.2.mono hBr)).mono ?_; rintro e w2 ⟨z, rfl, hz, hb2⟩
        go_wp2_with fail
        refine hK.out _ _ (by (try dsimp only); obtain ⟨q0, q1, q2, q3, q4⟩ := row_at (hHeld.2.2.2.2.2.2.2.2.2.2.1.below hb2) rfl hi'; obtain ⟨p0, p1, p2, p3, p4⟩ := row_at (hHeld.2.2.2.2.2.2.2.2.2.2.1.below hb2) rfl hj'; exact ⟨q0, q1, q2, q3, q4, p0, p1, p2, p3, p4, (hHeld.2.2.2.2.2.2.2.2.2.2.1.below hb2), ex_trans hHeld.2.2.2.2.2.2.2.2.2.2.2 hb2⟩) (fun hNew => ?_)
        clear hK K hHeld
        have hHeld := hNew
        clear hNew
        try simp only [Act.put, List.setIfInBounds_toArray, List.set_cons_zero, List.set_cons_succ]
        first | (refine held_take 10 rfl (by kernel_rfl) (by kernel_rfl) (by kernel_rfl) (by rfl) (fun _ _ _ h => h) (by assumption) (by intro w hSw; (try dsimp only at hSw); go_simp; first | done | with_reducible rfl) ?_) | (refine held_skip 10 rfl (by kernel_rfl) (by kernel_rfl) (by kernel_rfl) (by rfl) (fun _ _ _ h => h) (by assumption) ?_)
        simp only [Act.put, List.setIfInBounds_toArray, List.set_cons_zero, List.set_cons_succ]
        refine wpAnyH_done (by kernel_rfl) ?_ _
        rw [hz] at *
        go_wp2_with fail
        go_roundw
        case rel => exact ⟨i, by omega, h, by omega, by omega, rfl, by go_num, (by have := HCC.out.1; rw [h1] at this; exact this), .inr (by have := HK.out; omega), ex_trans HB1.out hHeld.2.2.2.2.2.2.2.2.2.2.2⟩
        case measure => simp [intOf]; omega
    · obtain rfl : i = j := by omega
      have i1 : ¬ ((i : Int) < (i : Int)) := by omega
      have HB2 := Lib.hid hb1
      have HFB := Lib.hid (HR.out.1.below hb1)
      have r5 : IntKind.i64.wrap ((i : Int) - 1) = (i : Int) - 1 := IntWalk.i64_in _ (by omega)
      have HX := Lib.hid (HPR.out i q1 q3 c1 c2)
      clear c1 c2 hb1 HCC
      obtain ⟨W1, rfl⟩ : ∃ W1, W1 = wr := ⟨_, rfl⟩
      go_wp2_with fail
      go_loopw [13] (fun kk wr => ∃ (k : Nat) (cur : List HK), a ≤ k ∧ k ≤ i - 1 ∧ kk = .int .i64 k ∧ cur = mvd P x k ∧ FRow 28 5 eHk wr B (some ⟨g, 0, none⟩) n c cur ∧ Chg [g] w wr) (fun kk _ => i - (intOf kk).toNat)
      case atStart => exact ⟨a, l, Nat.le_refl _, by omega, rfl, HLP.out, HFB.out, Chg.of_below _ HB2.out⟩
      case round =>
        obtain ⟨k, cur, p1, p2, rfl, hcur, hF, hC⟩ := hrel
        have hcl : cur.length = n := hF.len
        by_cases hlt : k < i - 1
        · have i2 : (k : Int) < (i : Int) - 1 := by omega
          have s1 : IntKind.i64.wrap ((k : Int) + 1) = (k : Int) + 1 := IntWalk.i64_in _ (by omega)
          have s2 : 0 ≤ (k : Int) + 1 := by omega
          have s3 : ((k : Int) + 1).toNat = k + 1 := by omega
          have s4 : (k : Int) + 1 < (n : Int) := by omega
          have s5 : (0 : Int) ≤ (k : Int) := by omega
          have s6 : (k : Int) < (n : Int) := by omega
          have hi' : k < cur.length := by omega
          have hj' : k + 1 < cur.length := by omega
          have HN := Lib.hid (show swp cur k (k + 1) = mvd P x (k + 1) by rw [hcur]; exact mvd_up P x (by omega))
          have HF := Lib.hid hF
          have HC := Lib.hid hC
          clear hcur hF hC
          go_wp2_with fail
          have hbd : Below wr.heap.size wr (World.drew wr) := (Below.refl _ _).drew
          have HFd := Lib.hid (HF.out.below hbd)
          have hfd := row_free HFd.out rfl (by omega)
          refine region_G (S := (fun w' => w'.cell? ⟨g, k * 5, none⟩ = some (.int .i64 (cur[k]'hi').1.id) ∧ w'.cell? ⟨g, k * 5 + 1, none⟩ = some (.int .i64 (cur[k]'hi').1.owner) ∧ w'.cell? ⟨g, k * 5 + 2, none⟩ = some (.bool (cur[k]'hi').1.shared) ∧ w'.cell? ⟨g, k * 5 + 3, none⟩ = some (.int .i64 (cur[k]'hi').1.link) ∧ w'.cell? ⟨g, k * 5 + 4, none⟩ = some (.slice (cur[k]'hi').1.A (cur[k]'hi').1.n (cur[k]'hi').1.c) ∧ w'.cell? ⟨g, (k + 1) * 5, none⟩ = some (.int .i64 (cur[k + 1]'hj').1.id) ∧ w'.cell? ⟨g, (k + 1) * 5 + 1, none⟩ = some (.int .i64 (cur[k + 1]'hj').1.owner) ∧ w'.cell? ⟨g, (k + 1) * 5 + 2, none⟩ = some (.bool (cur[k + 1]'hj').1.shared) ∧ w'.cell? ⟨g, (k + 1) * 5 + 3, none⟩ = some (.int .i64 (cur[k + 1]'hj').1.link) ∧ w'.cell? ⟨g, (k + 1) * 5 + 4, none⟩ = some (.slice (cur[k + 1]'hj').1.A (cur[k + 1]'hj').1.n (cur[k + 1]'hj').1.c))) [15, 17] (by kernel_rfl) (by (try dsimp only); obtain ⟨q0, q1, q2, q3, q4⟩ := row_at HFd.out rfl hi'; obtain ⟨p0, p1, p2, p3, p4⟩ := row_at HFd.out rfl hj'; exact ⟨q0, q1, q2, q3, q4, p0, p1, p2, p3, p4⟩) (fun hHeld => ?_)
          generalize World.drew wr = Wd at *
          refine heldG_pure 0 rfl (by kernel_rfl) (by kernel_rfl) (by kernel_rfl) (by kernel_rfl) (by rfl) (fun _ _ _ h => h) (by assumption) (by intro w _; go_simp; first | done | with_reducible rfl) ?_
          simp only [Act.put, List.setIfInBounds_toArray, List.set_cons_zero, List.set_cons_succ]
          refine heldG_pure 1 rfl (by kernel_rfl) (by kernel_rfl) (by kernel_rfl) (by kernel_rfl) (by rfl) (fun _ _ _ h => h) (by assumption) (by intro w _; go_simp; first | done | with_reducible rfl) ?_
          simp only [Act.put, List.setIfInBounds_toArray, List.set_cons_zero, List.set_cons_succ]
          refine heldG_pure 2 rfl (by kernel_rfl) (by kernel_rfl) (by kernel_rfl) (by kernel_rfl) (by rfl) (fun _ _ _ h => h) (by assumption) (by intro w _; go_simp; first | done | with_reducible rfl) ?_
          simp only [Act.put, List.setIfInBounds_toArray, List.set_cons_zero, List.set_cons_succ]
          refine heldG_pure 3 rfl (by kernel_rfl) (by kernel_rfl) (by kernel_rfl) (by kernel_rfl) (by rfl) (fun _ _ _ h => h) (by assumption) (by intro w _; go_simp; first | done | with_reducible rfl) ?_
          simp only [Act.put, List.setIfInBounds_toArray, List.set_cons_zero, List.set_cons_succ]
          refine heldG_pure 4 rfl (by kernel_rfl) (by kernel_rfl) (by kernel_rfl) (by kernel_rfl) (by rfl) (fun _ _ _ h => h) (by assumption) (by intro w _; go_simp; first | done | with_reducible rfl) ?_
          simp only [Act.put, List.setIfInBounds_toArray, List.set_cons_zero, List.set_cons_succ]
          refine heldG_pure 5 rfl (by kernel_rfl) (by kernel_rfl) (by kernel_rfl) (by kernel_rfl) (by rfl) (fun _ _ _ h => h) (by assumption) (by intro w _; go_simp; first | done | with_reducible rfl) ?_
          simp only [Act.put, List.setIfInBounds_toArray, List.set_cons_zero, List.set_cons_succ]
          refine heldG_pure 6 rfl (by kernel_rfl) (by kernel_rfl) (by kernel_rfl) (by kernel_rfl) (by rfl) (fun _ _ _ h => h) (by assumption) (by intro w _; go_simp; first | done | with_reducible rfl) ?_
          simp only [Act.put, List.setIfInBounds_toArray, List.set_cons_zero, List.set_cons_succ]
          refine heldG_pure 7 rfl (by kernel_rfl) (by kernel_rfl) (by kernel_rfl) (by kernel_rfl) (by rfl) (fun _ _ _ h => h) (by assumption) (by intro w _; go_simp; first | done | with_reducible rfl) ?_
          simp only [Act.put, List.setIfInBounds_toArray, List.set_cons_zero, List.set_cons_succ]
          refine heldG_pure 8 rfl (by kernel_rfl) (by kernel_rfl) (by kernel_rfl) (by kernel_rfl) (by rfl) (fun _ _ _ h => h) (by assumption) (by intro w _; go_simp; first | done | with_reducible rfl) ?_
          simp only [Act.put, List.setIfInBounds_toArray, List.set_cons_zero, List.set_cons_succ]
          refine heldG_take 9 rfl (by kernel_rfl) (by kernel_rfl) (by kernel_rfl) (by kernel_rfl) (by kernel_rfl) (by kernel_rfl) (by rfl) (fun _ _ _ h => h) (by assumption) (by intro w hSw; (try dsimp only at hSw); go_simp; first | done | with_reducible rfl) ?_
          simp only [Act.put, List.setIfInBounds_toArray, List.set_cons_zero, List.set_cons_succ]
          refine heldG_pure 10 rfl (by kernel_rfl) (by kernel_rfl) (by kernel_rfl) (by kernel_rfl) (by rfl) (fun _ _ _ h => h) (by assumption) (by intro w _; go_simp; first | done | with_reducible rfl) ?_
          simp only [Act.put, List.setIfInBounds_toArray, List.set_cons_zero, List.set_cons_succ]
          refine heldG_pure 11 rfl (by kernel_rfl) (by kernel_rfl) (by kernel_rfl) (by kernel_rfl) (by rfl) (fun _ _ _ h => h) (by assumption) (by intro w _; go_simp; first | done | with_reducible rfl) ?_
          simp only [Act.put, List.setIfInBounds_toArray, List.set_cons_zero, List.set_cons_succ]
          refine heldG_pure 12 rfl (by kernel_rfl) (by kernel_rfl) (by kernel_rfl) (by kernel_rfl) (by rfl) (fun _ _ _ h => h) (by assumption) (by intro w _; go_simp; first | done | with_reducible rfl) ?_
          simp only [Act.put, List.setIfInBounds_toArray, List.set_cons_zero, List.set_cons_succ]
          refine heldG_take 13 rfl (by kernel_rfl) (by kernel_rfl) (by kernel_rfl) (by kernel_rfl) (by kernel_rfl) (by kernel_rfl) (by rfl) (fun _ _ _ h => h) (by assumption) (by intro w hSw; (try dsimp only at hSw); go_simp; first | done | with_reducible rfl) ?_
          simp only [Act.put, List.setIfInBounds_toArray, List.set_cons_zero, List.set_cons_succ]
          refine heldG_pure 14 rfl (by kernel_rfl) (by kernel_rfl) (by kernel_rfl) (by kernel_rfl) (by rfl) (fun _ _ _ h => h) (by assumption) (by intro w _; go_simp; first | done | with_reducible rfl) ?_
          simp only [Act.put, List.setIfInBounds_toArray, List.set_cons_zero, List.set_cons_succ]
          have HSW := Lib.hid (row_swap HFd.out rfl hi' hj')
          refine heldG_last 15 (by kernel_rfl) rfl (by kernel_rfl) (fun K hK => ?_)
          go_simp
          refine hK.out _ _ ?_
          clear hK K
          try clear hHeld
          try simp only [Act.put, List.setIfInBounds_toArray, List.set_cons_zero, List.set_cons_succ]
          generalize hW1 : World.setCell (World.setCell (World.setCell (World.setCell (World.setCell (Wd) ⟨g, k * 5, none⟩ (.int .i64 (cur[k + 1]'hj').1.id)) ⟨g, k * 5 + 1, none⟩ (.int .i64 (cur[k + 1]'hj').1.owner)) ⟨g, k * 5 + 2, none⟩ (.bool (cur[k + 1]'hj').1.shared)) ⟨g, k * 5 + 3, none⟩ (.int .i64 (cur[k + 1]'hj').1.link)) ⟨g, k * 5 + 4, none⟩ (.slice (cur[k + 1]'hj').1.A (cur[k + 1]'hj').1.n (cur[k + 1]'hj').1.c) = W1
          have HF1 : FRow 28 5 eHk W1 B (some ⟨g, 0, none⟩) n c (cur.set (k) cur[k + 1]) := by rw [← hW1]; exact FRow.setE encHk HFd.out rfl hi' _
          obtain ⟨y0, y1, y2, y3, y4⟩ := row_at HF1 rfl (i := k + 1) (by rw [List.length_set]; exact hj')
          have yf := row_free HF1 rfl (by omega)
          clear HF1 HFd
          refine heldG_post 16 rfl (by kernel_rfl) (by kernel_rfl) (by kernel_rfl) (by kernel_rfl) (by kernel_rfl) (by rfl) (fun _ _ _ h => h) (by intro w _; go_simp; first | done | with_reducible rfl) ?_
          simp only [Act.put, List.setIfInBounds_toArray, List.set_cons_zero, List.set_cons_succ]
          refine heldG_last 17 (by kernel_rfl) rfl (by kernel_rfl) (fun K hK => ?_)
          go_simp
          refine hK.out _ _ ?_
          clear hK K
          try clear hHeld
          try simp only [Act.put, List.setIfInBounds_toArray, List.set_cons_zero, List.set_cons_succ]
          refine anyG_done (by kernel_rfl) ?_ _
          subst hW1
          go_wp2_with fail
          go_roundw
          case rel => exact ⟨k + 1, _, by omega, by omega, by go_num, HN.out, HSW.out.1, HC.out.trans ((Chg.of_below _ hbd).trans HSW.out.2)⟩
          case measure => simp [intOf]; omega
        · obtain rfl : k = i - 1 := by omega
          have i2 : ¬ (((i - 1 : Nat) : Int) < (i : Int) - 1) := by omega
          have HF := Lib.hid hF
          rw [HX.out] at hcur
          subst hcur
          clear hF
          go_wp2_with fail
          go_returns
          exact ⟨rfl, HF.out, by rw [HRB.out]; exact hC⟩
set_option maxHeartbeats 12800000 in
theorem symMerge_right (kf : Nat) (caps : Array Value) (ok : HK → Prop) (B : Nat) (hcf : ∀ args w, (callFunc kf args).run Try.prog w = .ok (.enter kf args) w) (N : Nat) (A : Option Addr) (n c : Nat) (l R X U V Y : List HK) (a m b : Nat) (w : World) (h : FRow 28 5 eHk w B A n c l) (hn : n ≤ 1073741824)
    (hN : b - a ≤ N + 1) (hl : l = X ++ U ++ V ++ Y) (hR : X ++ mrg hkey U V ++ Y = R) (ha : X.length = a) (hm : a + U.length = m) (hb : m + V.length = b) (hu : 0 < U.length) (hv : 0 < V.length) (hU : Asc hkey U) (hV : Asc hkey V) (hok : ∀ x ∈ l, ok x) (hB : B ≤ w.heap.size) (hp : Cmp2 Try.prog kf caps ok B w) (h1 : ¬ m = a + 1) (h2 : b = m + 1) :
    Calls Try.prog 178 #[.slice A n c, .int .i64 a, .int .i64 m, .int .i64 b, .func (.func kf) #[] caps] w fun e w' => e = .returned (.tuple #[]) ∧ FRow 28 5 eHk w' B A n c R ∧ Chg (rowBs A c) w w' := by
  have hbn : b ≤ n := by rw [← h.len, hl]; simp; omega
  have hbs : ∀ x ∈ rowBs A c, B ≤ x := fun x hx => (h.base x hx).1
  have hln : l.length = n := h.len
  have HR := Lib.hid (And.intro h hl)
  have HQ := Lib.hid hR
  have HP := Lib.hid hp
  have HOK := Lib.hid hok
  have HBS := Lib.hid hbs
  have HUV := Lib.hid (And.intro hU hV)
  clear h hl hR hp hok hbs hU hV
  have r1 : IntKind.i64.wrap ((m : Int) - (a : Int)) = (m : Int) - (a : Int) := IntWalk.i64_in _ (by omega)
  have r2 : IntKind.i64.wrap ((b : Int) - (m : Int)) = (b : Int) - (m : Int) := IntWalk.i64_in _ (by omega)
  obtain ⟨g, rfl, -, hgw, hrb, -⟩ := HR.out.1.row (by have := HR.out.1.le; omega)
  have HRB := Lib.hid hrb
  clear hrb
  have e1 : ((m : Int) - (a : Int) == 1) = false := by simp; omega
  have e2 : ((b : Int) - (m : Int) == 1) = true := by simp; omega
  obtain ⟨P, x, hPl, hlP, hPR⟩ := one_right HR.out.2 HQ.out HUV.out.1 ha hm hb h2
  have HPR := Lib.hid hPR
  have HLP := Lib.hid hlP
  clear hPR hlP
  have k3 : (m : Int) < (n : Int) := by omega
  have k4 : (0 : Int) ≤ (m : Int) := by omega
  go_enter Try.func178, Try.ntmps178
  go_wp2_with fail
  go_loopw [14, 15] (fun ii jj wr => ∃ i : Nat, a ≤ i ∧ ∃ j : Nat, i ≤ j ∧ j ≤ m ∧ ii = .int .i64 i ∧ jj = .int .i64 j ∧ (i = a ∨ ka hkey l (i - 1) ≤ ka hkey l m) ∧ (j = m ∨ ka hkey l m < ka hkey l j) ∧ Below w.heap.size w wr) (fun ii jj _ => (intOf jj).toNat - (intOf ii).toNat)
  case atStart => exact ⟨a, Nat.le_refl _, m, by omega, Nat.le_refl _, by first | rfl | go_num, by first | rfl | go_num, .inl rfl, .inl rfl, by first | exact Below.refl _ _ | assumption⟩
  case round =>
    obtain ⟨i, q1, j, q2, q3, rfl, rfl, c1, c2, hb1⟩ := hrel
    have HCC := Lib.hid (And.intro c1 c2)
    by_cases hlt : i < j
    · have i1 : (i : Int) < (j : Int) := by omega
      have t1 : IntKind.i64.wrap ((i : Int) + (j : Int)) = (i : Int) + (j : Int) := IntWalk.i64_in _ (by omega)
      have t2 : IntKind.u64.wrap ((i : Int) + (j : Int)) = (i : Int) + (j : Int) := IntWalk.u64_in _ (by omega)
      obtain ⟨h, t4, t5, t6⟩ : ∃ h : Nat, ((i : Int) + (j : Int)) / 2 = (h : Int) ∧ i ≤ h ∧ h < j := ⟨(i + j) / 2, by omega, by omega, by omega⟩
      have t3 : IntKind.i64.wrap (h : Int) = (h : Int) := IntWalk.i64_in _ (by omega)
      have hi' : m < l.length := by omega
      have hj' : h < l.length := by omega
      have hBr : B ≤ wr.heap.size := Nat.le_trans hB hb1.size
      have HF1 := Lib.hid (HR.out.1.below hb1)
      have HB1 := Lib.hid hb1
      have k1 : (h : Int) < (n : Int) := by omega
      have k2 : (0 : Int) ≤ (h : Int) := by omega
      have k5 : IntKind.i64.wrap ((h : Int) + 1) = (h : Int) + 1 := IntWalk.i64_in _ (by omega)
      cases hcmp : decide (ka hkey l (m) < ka hkey l (h)) with
      | true =>
        have HL := Lib.hid ((HP.out.on (hb1.mono hB)).less HOK.out hi' hj' hcmp)
        have HK := Lib.hid (of_decide_eq_true hcmp)
        clear c1 c2 hb1 hcmp
        go_wp2_with fail
        have hfr := row_free HF1.out rfl (by omega)
        refine wp_region_held_drew (S := (fun w' => w'.cell? ⟨g, m * 5, none⟩ = some (.int .i64 (l[m]'hi').1.id) ∧ w'.cell? ⟨g, m * 5 + 1, none⟩ = some (.int .i64 (l[m]'hi').1.owner) ∧ w'.cell? ⟨g, m * 5 + 2, none⟩ = some (.bool (l[m]'hi').1.shared) ∧ w'.cell? ⟨g, m * 5 + 3, none⟩ = some (.int .i64 (l[m]'hi').1.link) ∧ w'.cell? ⟨g, m * 5 + 4, none⟩ = some (.slice (l[m]'hi').1.A (l[m]'hi').1.n (l[m]'hi').1.c) ∧ w'.cell? ⟨g, h * 5, none⟩ = some (.int .i64 (l[h]'hj').1.id) ∧ w'.cell? ⟨g, h * 5 + 1, none⟩ = some (.int .i64 (l[h]'hj').1.owner) ∧ w'.cell? ⟨g, h * 5 + 2, none⟩ = some (.bool (l[h]'hj').1.shared) ∧ w'.cell? ⟨g, h * 5 + 3, none⟩ = some (.int .i64 (l[h]'hj').1.link) ∧ w'.cell? ⟨g, h * 5 + 4, none⟩ = some (.slice (l[h]'hj').1.A (l[h]'hj').1.n (l[h]'hj').1.c) ∧ FRow 28 5 eHk w' B (some ⟨g, 0, none⟩) n c l ∧ Below wr.heap.size wr w')) (by kernel_rfl) (by (try dsimp only); obtain ⟨q0, q1, q2, q3, q4⟩ := row_at (HF1.out.below (Below.refl _ _).drew) rfl hi'; obtain ⟨p0, p1, p2, p3, p4⟩ := row_at (HF1.out.below (Below.refl _ _).drew) rfl hj'; exact ⟨q0, q1, q2, q3, q4, p0, p1, p2, p3, p4, (HF1.out.below (Below.refl _ _).drew), (Below.refl _ _).drew⟩) (fun hHeld => ?_)
        generalize World.drew wr = Wd at *
        first | (refine held_take 0 rfl (by kernel_rfl) (by kernel_rfl) (by kernel_rfl) (by rfl) (fun _ _ _ h => h) (by assumption) (by intro w hSw; (try dsimp only at hSw); go_simp; first | done | with_reducible rfl) ?_) | (refine held_skip 0 rfl (by kernel_rfl) (by kernel_rfl) (by kernel_rfl) (by rfl) (fun _ _ _ h => h) (by assumption) ?_)
        simp only [Act.put, List.setIfInBounds_toArray, List.set_cons_zero, List.set_cons_succ]
        first | (refine held_take 1 rfl (by kernel_rfl) (by kernel_rfl) (by kernel_rfl) (by rfl) (fun _ _ _ h => h) (by assumption) (by intro w hSw; (try dsimp only at hSw); go_simp; first | done | with_reducible rfl) ?_) | (refine held_skip 1 rfl (by kernel_rfl) (by kernel_rfl) (by kernel_rfl) (by rfl) (fun _ _ _ h => h) (by assumption) ?_)
        simp only [Act.put, List.setIfInBounds_toArray, List.set_cons_zero, List.set_cons_succ]
        first | (refine held_take 2 rfl (by kernel_rfl) (by kernel_rfl) (by kernel_rfl) (by rfl) (fun _ _ _ h => h) (by assumption) (by intro w hSw; (try dsimp only at hSw); go_simp; first | done | with_reducible rfl) ?_) | (refine held_skip 2 rfl (by kernel_rfl) (by kernel_rfl) (by kernel_rfl) (by rfl) (fun _ _ _ h => h) (by assumption) ?_)
        simp only [Act.put, List.setIfInBounds_toArray, List.set_cons_zero, List.set_cons_succ]
        first | (refine held_take 3 rfl (by kernel_rfl) (by kernel_rfl) (by kernel_rfl) (by rfl) (fun _ _ _ h => h) (by assumption) (by intro w hSw; (try dsimp only at hSw); go_simp; first | done | with_reducible rfl) ?_) | (refine held_skip 3 rfl (by kernel_rfl) (by kernel_rfl) (by kernel_rfl) (by rfl) (fun _ _ _ h => h) (by assumption) ?_)
        simp only [Act.put, List.setIfInBounds_toArray, List.set_cons_zero, List.set_cons_succ]
        first | (refine held_take 4 rfl (by kernel_rfl) (by kernel_rfl) (by kernel_rfl) (by rfl) (fun _ _ _ h => h) (by assumption) (by intro w hSw; (try dsimp only at hSw); go_simp; first | done | with_reducible rfl) ?_) | (refine held_skip 4 rfl (by kernel_rfl) (by kernel_rfl) (by kernel_rfl) (by rfl) (fun _ _ _ h => h) (by assumption) ?_)
        simp only [Act.put, List.setIfInBounds_toArray, List.set_cons_zero, List.set_cons_succ]
        first | (refine held_take 5 rfl (by kernel_rfl) (by kernel_rfl) (by kernel_rfl) (by rfl) (fun _ _ _ h => h) (by assumption) (by intro w hSw; (try dsimp only at hSw); go_simp; first | done | with_reducible rfl) ?_) | (refine held_skip 5 rfl (by kernel_rfl) (by kernel_rfl) (by kernel_rfl) (by rfl) (fun _ _ _ h => h) (by assumption) ?_)
        simp only [Act.put, List.setIfInBounds_toArray, List.set_cons_zero, List.set_cons_succ]
        first | (refine held_take 6 rfl (by kernel_rfl) (by kernel_rfl) (by kernel_rfl) (by rfl) (fun _ _ _ h => h) (by assumption) (by intro w hSw; (try dsimp only at hSw); go_simp; first | done | with_reducible rfl) ?_) | (refine held_skip 6 rfl (by kernel_rfl) (by kernel_rfl) (by kernel_rfl) (by rfl) (fun _ _ _ h => h) (by assumption) ?_)
        simp only [Act.put, List.setIfInBounds_toArray, List.set_cons_zero, List.set_cons_succ]
        first | (refine held_take 7 rfl (by kernel_rfl) (by kernel_rfl) (by kernel_rfl) (by rfl) (fun _ _ _ h => h) (by assumption) (by intro w hSw; (try dsimp only at hSw); go_simp; first | done | with_reducible rfl) ?_) | (refine held_skip 7 rfl (by kernel_rfl) (by kernel_rfl) (by kernel_rfl) (by rfl) (fun _ _ _ h => h) (by assumption) ?_)
        simp only [Act.put, List.setIfInBounds_toArray, List.set_cons_zero, List.set_cons_succ]
        first | (refine held_take 8 rfl (by kernel_rfl) (by kernel_rfl) (by kernel_rfl) (by rfl) (fun _ _ _ h => h) (by assumption) (by intro w hSw; (try dsimp only at hSw); go_simp; first | done | with_reducible rfl) ?_) | (refine held_skip 8 rfl (by kernel_rfl) (by kernel_rfl) (by kernel_rfl) (by rfl) (fun _ _ _ h => h) (by assumption) ?_)
        simp only [Act.put, List.setIfInBounds_toArray, List.set_cons_zero, List.set_cons_succ]
        refine held_one 9 (by kernel_rfl) rfl (fun K hK => ?_)
        go_simp
        refine (HL.out _ (hHeld.2.2.2.2.2.2.2.2.2.2.2.mono hBr)).mono ?_; rintro e w2 ⟨z, rfl, hz, hb2⟩
        go_wp2_with fail
        refine hK.out _ _ (by (try dsimp only); obtain ⟨q0, q1, q2, q3, q4⟩ := row_at (hHeld.2.2.2.2.2.2.2.2.2.2.1.below hb2) rfl hi'; obtain ⟨p0, p1, p2, p3, p4⟩ := row_at (hHeld.2.2.2.2.2.2.2.2.2.2.1.below hb2) rfl hj'; exact ⟨q0, q1, q2, q3, q4, p0, p1, p2, p3, p4, (hHeld.2.2.2.2.2.2.2.2.2.2.1.below hb2), ex_trans hHeld.2.2.2.2.2.2.2.2.2.2.2 hb2⟩) (fun hNew => ?_)
        clear hK K hHeld
        have hHeld := hNew
        clear hNew
        try simp only [Act.put, List.setIfInBounds_toArray, List.set_cons_zero, List.set_cons_succ]
        first | (refine held_take 10 rfl (by kernel_rfl) (by kernel_rfl) (by kernel_rfl) (by rfl) (fun _ _ _ h => h) (by assumption) (by intro w hSw; (try dsimp only at hSw); go_simp; first | done | with_reducible rfl) ?_) | (refine held_skip 10 rfl (by kernel_rfl) (by kernel_rfl) (by kernel_rfl) (by rfl) (fun _ _ _ h => h) (by assumption) ?_)
        simp only [Act.put, List.setIfInBounds_toArray, List.set_cons_zero, List.set_cons_succ]
        first | (refine held_take 11 rfl (by kernel_rfl) (by kernel_rfl) (by kernel_rfl) (by rfl) (fun _ _ _ h => h) (by assumption) (by intro w hSw; (try dsimp only at hSw); go_simp; first | done | with_reducible rfl) ?_) | (refine held_skip 11 rfl (by kernel_rfl) (by kernel_rfl) (by kernel_rfl) (by rfl) (fun _ _ _ h => h) (by assumption) ?_)
        simp only [Act.put, List.setIfInBounds_toArray, List.set_cons_zero, List.set_cons_succ]
        refine wpAnyH_done (by kernel_rfl) ?_ _
        rw [hz] at *
        go_wp2_with fail
        go_roundw
        case rel => exact ⟨i, by omega, h, by omega, by omega, rfl, by go_num, HCC.out.1, .inr HK.out, ex_trans HB1.out hHeld.2.2.2.2.2.2.2.2.2.2.2⟩
        case measure => simp [intOf]; omega
      | false =>
        have HL := Lib.hid ((HP.out.on (hb1.mono hB)).less HOK.out hi' hj' hcmp)
        have HK := Lib.hid (of_decide_eq_false hcmp)
        clear c1 c2 hb1 hcmp
        go_wp2_with fail
        have hfr := row_free HF1.out rfl (by omega)
        refine wp_region_held_drew (S := (fun w' => w'.cell? ⟨g, m * 5, none⟩ = some (.int .i64 (l[m]'hi').1.id) ∧ w'.cell? ⟨g, m * 5 + 1, none⟩ = some (.int .i64 (l[m]'hi').1.owner) ∧ w'.cell? ⟨g, m * 5 + 2, none⟩ = some (.bool (l[m]'hi').1.shared) ∧ w'.cell? ⟨g, m * 5 + 3, none⟩ = some (.int .i64 (l[m]'hi').1.link) ∧ w'.cell? ⟨g, m * 5 + 4, none⟩ = some (.slice (l[m]'hi').1.A (l[m]'hi').1.n (l[m]'hi').1.c) ∧ w'.cell? ⟨g, h * 5, none⟩ = some (.int .i64 (l[h]'hj').1.id) ∧ w'.cell? ⟨g, h * 5 + 1, none⟩ = some (.int .i64 (l[h]'hj').1.owner) ∧ w'.cell? ⟨g, h * 5 + 2, none⟩ = some (.bool (l[h]'hj').1.shared) ∧ w'.cell? ⟨g, h * 5 + 3, none⟩ = some (.int .i64 (l[h]'hj').1.link) ∧ w'.cell? ⟨g, h * 5 + 4, none⟩ = some (.slice (l[h]'hj').1.A (l[h]'hj').1.n (l[h]'hj').1.c) ∧ FRow 28 5 eHk w' B (some ⟨g, 0, none⟩) n c l ∧ Below wr.heap.size wr w')) (by kernel_rfl) (by (try dsimp only); obtain ⟨q0, q1, q2, q3, q4⟩ := row_at (HF1.out.below (Below.refl _ _).drew) rfl hi'; obtain ⟨p0, p1, p2, p3, p4⟩ := row_at (HF1.out.below (Below.refl _ _).drew) rfl hj'; exact ⟨q0, q1, q2, q3, q4, p0, p1, p2, p3, p4, (HF1.out.below (Below.refl _ _).drew), (Below.refl _ _).drew⟩) (fun hHeld => ?_)
        generalize World.drew wr = Wd at *
        first | (refine held_take 0 rfl (by kernel_rfl) (by kernel_rfl) (by kernel_rfl) (by rfl) (fun _ _ _ h => h) (by assumption) (by intro w hSw; (try dsimp only at hSw); go_simp; first | done | with_reducible rfl) ?_) | (refine held_skip 0 rfl (by kernel_rfl) (by kernel_rfl) (by kernel_rfl) (by rfl) (fun _ _ _ h => h) (by assumption) ?_)
        simp only [Act.put, List.setIfInBounds_toArray, List.set_cons_zero, List.set_cons_succ]
        first | (refine held_take 1 rfl (by kernel_rfl) (by kernel_rfl) (by kernel_rfl) (by rfl) (fun _ _ _ h => h) (by assumption) (by intro w hSw; (try dsimp only at hSw); go_simp; first | done | with_reducible rfl) ?_) | (refine held_skip 1 rfl (by kernel_rfl) (by kernel_rfl) (by kernel_rfl) (by rfl) (fun _ _ _ h => h) (by assumption) ?_)
        simp only [Act.put, List.setIfInBounds_toArray, List.set_cons_zero, List.set_cons_succ]
        first | (refine held_take 2 rfl (by kernel_rfl) (by kernel_rfl) (by kernel_rfl) (by rfl) (fun _ _ _ h => h) (by assumption) (by intro w hSw; (try dsimp only at hSw); go_simp; first | done | with_reducible rfl) ?_) | (refine held_skip 2 rfl (by kernel_rfl) (by kernel_rfl) (by kernel_rfl) (by rfl) (fun _ _ _ h => h) (by assumption) ?_)
        simp only [Act.put, List.setIfInBounds_toArray, List.set_cons_zero, List.set_cons_succ]
        first | (refine held_take 3 rfl (by kernel_rfl) (by kernel_rfl) (by kernel_rfl) (by rfl) (fun _ _ _ h => h) (by assumption) (by intro w hSw; (try dsimp only at hSw); go_simp; first | done | with_reducible rfl) ?_) | (refine held_skip 3 rfl (by kernel_rfl) (by kernel_rfl) (by kernel_rfl) (by rfl) (fun _ _ _ h => h) (by assumption) ?_)
        simp only [Act.put, List.setIfInBounds_toArray, List.set_cons_zero, List.set_cons_succ]
        first | (refine held_take 4 rfl (by kernel_rfl) (by kernel_rfl) (by kernel_rfl) (by rfl) (fun _ _ _ h => h) (by assumption) (by intro w hSw; (try dsimp only at hSw); go_simp; first | done | with_reducible rfl) ?_) | (refine held_skip 4 rfl (by kernel_rfl) (by kernel_rfl) (by kernel_rfl) (by rfl) (fun _ _ _ h => h) (by assumption) ?_)
        simp only [Act.put, List.setIfInBounds_toArray, List.set_cons_zero, List.set_cons_succ]
        first | (refine held_take 5 rfl (by kernel_rfl) (by kernel_rfl) (by kernel_rfl) (by rfl) (fun _ _ _ h => h) (by assumption) (by intro w hSw; (try dsimp only at hSw); go_simp; first | done | with_reducible rfl) ?_) | (refine held_skip 5 rfl (by kernel_rfl) (by kernel_rfl) (by kernel_rfl) (by rfl) (fun _ _ _ h => h) (by assumption) ?_)
        simp only [Act.put, List.setIfInBounds_toArray, List.set_cons_zero, List.set_cons_succ]
        first | (refine held_take 6 rfl (by kernel_rfl) (by kernel_rfl) (by kernel_rfl) (by rfl) (fun _ _ _ h => h) (by assumption) (by intro w hSw; (try dsimp only at hSw); go_simp; first | done | with_reducible rfl) ?_) | (refine held_skip 6 rfl (by kernel_rfl) (by kernel_rfl) (by kernel_rfl) (by rfl) (fun _ _ _ h => h) (by assumption) ?_)
        simp only [Act.put, List.setIfInBounds_toArray, List.set_cons_zero, List.set_cons_succ]
        first | (refine held_take 7 rfl (by kernel_rfl) (by kernel_rfl) (by kernel_rfl) (by rfl) (fun _ _ _ h => h) (by assumption) (by intro w hSw; (try dsimp only at hSw); go_simp; first | done | with_reducible rfl) ?_) | (refine held_skip 7 rfl (by kernel_rfl) (by kernel_rfl) (by kernel_rfl) (by rfl) (fun _ _ _ h => h) (by assumption) ?_)
        simp only [Act.put, List.setIfInBounds_toArray, List.set_cons_zero, List.set_cons_succ]
        first | (refine held_take 8 rfl (by kernel_rfl) (by kernel_rfl) (by kernel_rfl) (by rfl) (fun _ _ _ h => h) (by assumption) (by intro w hSw; (try dsimp only at hSw); go_simp; first | done | with_reducible rfl) ?_) | (refine held_skip 8 rfl (by kernel_rfl) (by kernel_rfl) (by kernel_rfl) (by rfl) (fun _ _ _ h => h) (by assumption) ?_)
        simp only [Act.put, List.setIfInBounds_toArray, List.set_cons_zero, List.set_cons_succ]
        refine held_one 9 (by kernel_rfl) rfl (fun K hK => ?_)
        go_simp
        refine (HL.out _ (hHeld.2.2.2.2.2.2.2.2.2.2.2.mono hBr)).mono ?_; rintro e w2 ⟨z, rfl, hz, hb2⟩
        go_wp2_with fail
        refine hK.out _ _ (by (try dsimp only); obtain ⟨q0, q1, q2, q3, q4⟩ := row_at (hHeld.2.2.2.2.2.2.2.2.2.2.1.below hb2) rfl hi'; obtain ⟨p0, p1, p2, p3, p4⟩ := row_at (hHeld.2.2.2.2.2.2.2.2.2.2.1.below hb2) rfl hj'; exact ⟨q0, q1, q2, q3, q4, p0, p1, p2, p3, p4, (hHeld.2.2.2.2.2.2.2.2.2.2.1.below hb2), ex_trans hHeld.2.2.2.2.2.2.2.2.2.2.2 hb2⟩) (fun hNew => ?_)
        clear hK K hHeld
        have hHeld := hNew
        clear hNew
        try simp only [Act.put, List.setIfInBounds_toArray, List.set_cons_zero, List.set_cons_succ]
        first | (refine held_take 10 rfl (by kernel_rfl) (by kernel_rfl) (by kernel_rfl) (by rfl) (fun _ _ _ h => h) (by assumption) (by intro w hSw; (try dsimp only at hSw); go_simp; first | done | with_reducible rfl) ?_) | (refine held_skip 10 rfl (by kernel_rfl) (by kernel_rfl) (by kernel_rfl) (by rfl) (fun _ _ _ h => h) (by assumption) ?_)
        simp only [Act.put, List.setIfInBounds_toArray, List.set_cons_zero, List.set_cons_succ]
        first | (refine held_take 11 rfl (by kernel_rfl) (by kernel_rfl) (by kernel_rfl) (by rfl) (fun _ _ _ h => h) (by assumption) (by intro w hSw; (try dsimp only at hSw); go_simp; first | done | with_reducible rfl) ?_) | (refine held_skip 11 rfl (by kernel_rfl) (by kernel_rfl) (by kernel_rfl) (by rfl) (fun _ _ _ h => h) (by assumption) ?_)
        simp only [Act.put, List.setIfInBounds_toArray, List.set_cons_zero, List.set_cons_succ]
        refine wpAnyH_done (by kernel_rfl) ?_ _
        rw [hz] at *
        go_wp2_with fail
        go_roundw
        case rel => exact ⟨h + 1, by omega, j, by omega, by omega, by go_num, rfl, .inr (by have := HK.out; rw [Nat.add_sub_cancel]; omega), HCC.out.2, ex_trans HB1.out hHeld.2.2.2.2.2.2.2.2.2.2.2⟩
        case measure => simp [intOf]; omega
    · obtain rfl : i = j := by omega
      have i1 : ¬ ((i : Int) < (i : Int)) := by omega
      have HB2 := Lib.hid hb1
      have HFB := Lib.hid (HR.out.1.below hb1)
      have HX := Lib.hid (HPR.out i q1 q3 c1 c2)
      clear c1 c2 hb1 HCC
      obtain ⟨W1, rfl⟩ : ∃ W1, W1 = wr := ⟨_, rfl⟩
      go_wp2_with fail
      go_loopw [17] (fun kk wr => ∃ (k : Nat) (cur : List HK), i ≤ k ∧ k ≤ m ∧ kk = .int .i64 k ∧ cur = mvd P x k ∧ FRow 28 5 eHk wr B (some ⟨g, 0, none⟩) n c cur ∧ Chg [g] w wr) (fun kk _ => (intOf kk).toNat)
      case atStart => exact ⟨m, l, by omega, Nat.le_refl _, rfl, HLP.out, HFB.out, Chg.of_below _ HB2.out⟩
      case round =>
        obtain ⟨k, cur, p1, p2, rfl, hcur, hF, hC⟩ := hrel
        have hcl : cur.length = n := hF.len
        by_cases hlt : i < k
        · have i2 : (i : Int) < (k : Int) := by omega
          have s1 : IntKind.i64.wrap ((k : Int) - 1) = (k : Int) - 1 := IntWalk.i64_in _ (by omega)
          have s2 : 0 ≤ (k : Int) - 1 := by omega
          have s2' : 1 ≤ (k : Int) := by omega
          have s3 : ((k : Int) - 1).toNat = k - 1 := by omega
          have s4 : (k : Int) - 1 < (n : Int) := by omega
          have s5 : (0 : Int) ≤ (k : Int) := by omega
          have s6 : (k : Int) < (n : Int) := by omega
          have hi' : k < cur.length := by omega
          have hj' : k - 1 < cur.length := by omega
          have HN := Lib.hid (show swp cur k (k - 1) = mvd P x (k - 1) by rw [hcur]; have e := mvd_down P x (k := k - 1) (by omega); rw [show k - 1 + 1 = k by omega] at e; exact e)
          have HF := Lib.hid hF
          have HC := Lib.hid hC
          clear hcur hF hC
          go_wp2_with fail
          have hbd : Below wr.heap.size wr (World.drew wr) := (Below.refl _ _).drew
          have HFd := Lib.hid (HF.out.below hbd)
          have hfd := row_free HFd.out rfl (by omega)
          refine region_G (S := (fun w' => w'.cell? ⟨g, k * 5, none⟩ = some (.int .i64 (cur[k]'hi').1.id) ∧ w'.cell? ⟨g, k * 5 + 1, none⟩ = some (.int .i64 (cur[k]'hi').1.owner) ∧ w'.cell? ⟨g, k * 5 + 2, none⟩ = some (.bool (cur[k]'hi').1.shared) ∧ w'.cell? ⟨g, k * 5 + 3, none⟩ = some (.int .i64 (cur[k]'hi').1.link) ∧ w'.cell? ⟨g, k * 5 + 4, none⟩ = some (.slice (cur[k]'hi').1.A (cur[k]'hi').1.n (cur[k]'hi').1.c) ∧ w'.cell? ⟨g, (k - 1) * 5, none⟩ = some (.int .i64 (cur[k - 1]'hj').1.id) ∧ w'.cell? ⟨g, (k - 1) * 5 + 1, none⟩ = some (.int .i64 (cur[k - 1]'hj').1.owner) ∧ w'.cell? ⟨g, (k - 1) * 5 + 2, none⟩ = some (.bool (cur[k - 1]'hj').1.shared) ∧ w'.cell? ⟨g, (k - 1) * 5 + 3, none⟩ = some (.int .i64 (cur[k - 1]'hj').1.link) ∧ w'.cell? ⟨g, (k - 1) * 5 + 4, none⟩ = some (.slice (cur[k - 1]'hj').1.A (cur[k - 1]'hj').1.n (cur[k - 1]'hj').1.c))) [15, 17] (by kernel_rfl) (by (try dsimp only); obtain ⟨q0, q1, q2, q3, q4⟩ := row_at HFd.out rfl hi'; obtain ⟨p0, p1, p2, p3, p4⟩ := row_at HFd.out rfl hj'; exact ⟨q0, q1, q2, q3, q4, p0, p1, p2, p3, p4⟩) (fun hHeld => ?_)
          generalize World.drew wr = Wd at *
          refine heldG_pure 0 rfl (by kernel_rfl) (by kernel_rfl) (by kernel_rfl) (by kernel_rfl) (by rfl) (fun _ _ _ h => h) (by assumption) (by intro w _; go_simp; first | done | with_reducible rfl) ?_
          simp only [Act.put, List.setIfInBounds_toArray, List.set_cons_zero, List.set_cons_succ]
          refine heldG_pure 1 rfl (by kernel_rfl) (by kernel_rfl) (by kernel_rfl) (by kernel_rfl) (by rfl) (fun _ _ _ h => h) (by assumption) (by intro w _; go_simp; first | done | with_reducible rfl) ?_
          simp only [Act.put, List.setIfInBounds_toArray, List.set_cons_zero, List.set_cons_succ]
          refine heldG_pure 2 rfl (by kernel_rfl) (by kernel_rfl) (by kernel_rfl) (by kernel_rfl) (by rfl) (fun _ _ _ h => h) (by assumption) (by intro w _; go_simp; first | done | with_reducible rfl) ?_
          simp only [Act.put, List.setIfInBounds_toArray, List.set_cons_zero, List.set_cons_succ]
          refine heldG_pure 3 rfl (by kernel_rfl) (by kernel_rfl) (by kernel_rfl) (by kernel_rfl) (by rfl) (fun _ _ _ h => h) (by assumption) (by intro w _; go_simp; first | done | with_reducible rfl) ?_
          simp only [Act.put, List.setIfInBounds_toArray, List.set_cons_zero, List.set_cons_succ]
          refine heldG_pure 4 rfl (by kernel_rfl) (by kernel_rfl) (by kernel_rfl) (by kernel_rfl) (by rfl) (fun _ _ _ h => h) (by assumption) (by intro w _; go_simp; first | done | with_reducible rfl) ?_
          simp only [Act.put, List.setIfInBounds_toArray, List.set_cons_zero, List.set_cons_succ]
          refine heldG_pure 5 rfl (by kernel_rfl) (by kernel_rfl) (by kernel_rfl) (by kernel_rfl) (by rfl) (fun _ _ _ h => h) (by assumption) (by intro w _; go_simp; first | done | with_reducible rfl) ?_
          simp only [Act.put, List.setIfInBounds_toArray, List.set_cons_zero, List.set_cons_succ]
          refine heldG_pure 6 rfl (by kernel_rfl) (by kernel_rfl) (by kernel_rfl) (by kernel_rfl) (by rfl) (fun _ _ _ h => h) (by assumption) (by intro w _; go_simp; first | done | with_reducible rfl) ?_
          simp only [Act.put, List.setIfInBounds_toArray, List.set_cons_zero, List.set_cons_succ]
          refine heldG_pure 7 rfl (by kernel_rfl) (by kernel_rfl) (by kernel_rfl) (by kernel_rfl) (by rfl) (fun _ _ _ h => h) (by assumption) (by intro w _; go_simp; first | done | with_reducible rfl) ?_
          simp only [Act.put, List.setIfInBounds_toArray, List.set_cons_zero, List.set_cons_succ]
          refine heldG_pure 8 rfl (by kernel_rfl) (by kernel_rfl) (by kernel_rfl) (by kernel_rfl) (by rfl) (fun _ _ _ h => h) (by assumption) (by intro w _; go_simp; first | done | with_reducible rfl) ?_
          simp only [Act.put, List.setIfInBounds_toArray, List.set_cons_zero, List.set_cons_succ]
          refine heldG_take 9 rfl (by kernel_rfl) (by kernel_rfl) (by kernel_rfl) (by kernel_rfl) (by kernel_rfl) (by kernel_rfl) (by rfl) (fun _ _ _ h => h) (by assumption) (by intro w hSw; (try dsimp only at hSw); go_simp; first | done | with_reducible rfl) ?_
          simp only [Act.put, List.setIfInBounds_toArray, List.set_cons_zero, List.set_cons_succ]
          refine heldG_pure 10 rfl (by kernel_rfl) (by kernel_rfl) (by kernel_rfl) (by kernel_rfl) (by rfl) (fun _ _ _ h => h) (by assumption) (by intro w _; go_simp; first | done | with_reducible rfl) ?_
          simp only [Act.put, List.setIfInBounds_toArray, List.set_cons_zero, List.set_cons_succ]
          refine heldG_pure 11 rfl (by kernel_rfl) (by kernel_rfl) (by kernel_rfl) (by kernel_rfl) (by rfl) (fun _ _ _ h => h) (by assumption) (by intro w _; go_simp; first | done | with_reducible rfl) ?_
          simp only [Act.put, List.setIfInBounds_toArray, List.set_cons_zero, List.set_cons_succ]
          refine heldG_pure 12 rfl (by kernel_rfl) (by kernel_rfl) (by kernel_rfl) (by kernel_rfl) (by rfl) (fun _ _ _ h => h) (by assumption) (by intro w _; go_simp; first | done | with_reducible rfl) ?_
          simp only [Act.put, List.setIfInBounds_toArray, List.set_cons_zero, List.set_cons_succ]
          refine heldG_take 13 rfl (by kernel_rfl) (by kernel_rfl) (by kernel_rfl) (by kernel_rfl) (by kernel_rfl) (by kernel_rfl) (by rfl) (fun _ _ _ h => h) (by assumption) (by intro w hSw; (try dsimp only at hSw); go_simp; first | done | with_reducible rfl) ?_
          simp only [Act.put, List.setIfInBounds_toArray, List.set_cons_zero, List.set_cons_succ]
          refine heldG_pure 14 rfl (by kernel_rfl) (by kernel_rfl) (by kernel_rfl) (by kernel_rfl) (by rfl) (fun _ _ _ h => h) (by assumption) (by intro w _; go_simp; first | done | with_reducible rfl) ?_
          simp only [Act.put, List.setIfInBounds_toArray, List.set_cons_zero, List.set_cons_succ]
          have HSW := Lib.hid (row_swap HFd.out rfl hi' hj')
          refine heldG_last 15 (by kernel_rfl) rfl (by kernel_rfl) (fun K hK => ?_)
          go_simp
          refine hK.out _ _ ?_
          clear hK K
          try clear hHeld
          try simp only [Act.put, List.setIfInBounds_toArray, List.set_cons_zero, List.set_cons_succ]
          generalize hW1 : World.setCell (World.setCell (World.setCell (World.setCell (World.setCell (Wd) ⟨g, k * 5, none⟩ (.int .i64 (cur[k - 1]'hj').1.id)) ⟨g, k * 5 + 1, none⟩ (.int .i64 (cur[k - 1]'hj').1.owner)) ⟨g, k * 5 + 2, none⟩ (.bool (cur[k - 1]'hj').1.shared)) ⟨g, k * 5 + 3, none⟩ (.int .i64 (cur[k - 1]'hj').1.link)) ⟨g, k * 5 + 4, none⟩ (.slice (cur[k - 1]'hj').1.A (cur[k - 1]'hj').1.n (cur[k - 1]'hj').1.c) = W1
          have HF1 : FRow 28 5 eHk W1 B (some ⟨g, 0, none⟩) n c (cur.set (k) cur[k - 1]) := by rw [← hW1]; exact FRow.setE encHk HFd.out rfl hi' _
          obtain ⟨y0, y1, y2, y3, y4⟩ := row_at HF1 rfl (i := k - 1) (by rw [List.length_set]; exact hj')
          have yf := row_free HF1 rfl (by omega)
          clear HF1 HFd
          refine heldG_post 16 rfl (by kernel_rfl) (by kernel_rfl) (by kernel_rfl) (by kernel_rfl) (by kernel_rfl) (by rfl) (fun _ _ _ h => h) (by intro w _; go_simp; first | done | with_reducible rfl) ?_
          simp only [Act.put, List.setIfInBounds_toArray, List.set_cons_zero, List.set_cons_succ]
          refine heldG_last 17 (by kernel_rfl) rfl (by kernel_rfl) (fun K hK => ?_)
          go_simp
          refine hK.out _ _ ?_
          clear hK K
          try clear hHeld
          try simp only [Act.put, List.setIfInBounds_toArray, List.set_cons_zero, List.set_cons_succ]
          refine anyG_done (by kernel_rfl) ?_ _
          subst hW1
          go_wp2_with fail
          go_roundw
          case rel => exact ⟨k - 1, _, by omega, by omega, by go_num, HN.out, HSW.out.1, HC.out.trans ((Chg.of_below _ hbd).trans HSW.out.2)⟩
          case measure => simp [intOf]; omega
        · obtain rfl : k = i := by omega
          have i2 : ¬ ((k : Int) < (k : Int)) := by omega
          have HF := Lib.hid hF
          rw [HX.out] at hcur
          subst hcur
          clear hF
          go_wp2_with fail
          go_returns
          exact ⟨rfl, HF.out, by rw [HRB.out]; exact hC⟩
set_option maxHeartbeats 12800000 in
theorem symMerge_mid (kf : Nat) (caps : Array Value) (ok : HK → Prop) (B : Nat) (hcf : ∀ args w, (callFunc kf args).run Try.prog w = .ok (.enter kf args) w) (N : Nat)
    (ih : ∀ (A : Option Addr) (n c : Nat) (l R X U V Y : List HK) (a m b : Nat) (ia im ib : Int) (ea : ia = a) (em : im = m) (eb : ib = b) (w : World) (h : FRow 28 5 eHk w B A n c l) (hn : n ≤ 1073741824)
    (hN : b - a ≤ N) (hl : l = X ++ U ++ V ++ Y) (hR : X ++ mrg hkey U V ++ Y = R) (ha : X.length = a) (hm : a + U.length = m) (hb : m + V.length = b) (hu : 0 < U.length) (hv : 0 < V.length) (hU : Asc hkey U) (hV : Asc hkey V) (hok : ∀ x ∈ l, ok x) (hB : B ≤ w.heap.size) (hp : Cmp2 Try.prog kf caps ok B w),
    Calls Try.prog 178 #[.slice A n c, .int .i64 ia, .int .i64 im, .int .i64 ib, .func (.func kf) #[] caps] w fun e w' => e = .returned (.tuple #[]) ∧ FRow 28 5 eHk w' B A n c R ∧ Chg (rowBs A c) w w')
    (A : Option Addr) (n c : Nat) (l R X U V Y : List HK) (a m b : Nat) (w : World) (h : FRow 28 5 eHk w B A n c l) (hn : n ≤ 1073741824)
    (hN : b - a ≤ N + 1) (hl : l = X ++ U ++ V ++ Y) (hR : X ++ mrg hkey U V ++ Y = R) (ha : X.length = a) (hm : a + U.length = m) (hb : m + V.length = b) (hu : 0 < U.length) (hv : 0 < V.length) (hU : Asc hkey U) (hV : Asc hkey V) (hok : ∀ x ∈ l, ok x) (hB : B ≤ w.heap.size) (hp : Cmp2 Try.prog kf caps ok B w) (h1 : ¬ m = a + 1) (h2 : ¬ b = m + 1) :
    Calls Try.prog 178 #[.slice A n c, .int .i64 a, .int .i64 m, .int .i64 b, .func (.func kf) #[] caps] w fun e w' => e = .returned (.tuple #[]) ∧ FRow 28 5 eHk w' B A n c R ∧ Chg (rowBs A c) w w' := by
  have hbn : b ≤ n := by rw [← h.len, hl]; simp; omega
  have hbs : ∀ x ∈ rowBs A c, B ≤ x := fun x hx => (h.base x hx).1
  have hln : l.length = n := h.len
  have HR := Lib.hid (And.intro h hl)
  have HQ := Lib.hid hR
  have HP := Lib.hid hp
  have HOK := Lib.hid hok
  have HBS := Lib.hid hbs
  have HUV := Lib.hid (And.intro hU hV)
  have HI := Lib.hid ih
  clear h hl hR hp hok hbs hU hV ih
  have r1 : IntKind.i64.wrap ((m : Int) - (a : Int)) = (m : Int) - (a : Int) := IntWalk.i64_in _ (by omega)
  have r2 : IntKind.i64.wrap ((b : Int) - (m : Int)) = (b : Int) - (m : Int) := IntWalk.i64_in _ (by omega)
  obtain ⟨g, rfl, -, hgw, hrb, -⟩ := HR.out.1.row (by have := HR.out.1.le; omega)
  have HRB := Lib.hid hrb
  clear hrb
  have e1 : ((m : Int) - (a : Int) == 1) = false := by simp; omega
  have e2 : ((b : Int) - (m : Int) == 1) = false := by simp; omega
  have u1 : IntKind.i64.wrap ((a : Int) + (b : Int)) = (a : Int) + (b : Int) := IntWalk.i64_in _ (by omega)
  have u2 : IntKind.u64.wrap ((a : Int) + (b : Int)) = (a : Int) + (b : Int) := IntWalk.u64_in _ (by omega)
  obtain ⟨mid, u4, u5, u6⟩ : ∃ h : Nat, ((a : Int) + (b : Int)) / 2 = (h : Int) ∧ 2 * h ≤ a + b ∧ a + b ≤ 2 * h + 1 := ⟨(a + b) / 2, by omega, by omega, by omega⟩
  have u3 : IntKind.i64.wrap (mid : Int) = (mid : Int) := IntWalk.i64_in _ (by omega)
  have u7 : IntKind.i64.wrap ((mid : Int) + (m : Int)) = (mid : Int) + (m : Int) := IntWalk.i64_in _ (by omega)
  have u8 : IntKind.i64.wrap ((mid : Int) + (m : Int) - (b : Int)) = (mid : Int) + (m : Int) - (b : Int) := IntWalk.i64_in _ (by omega)
  have u9 : IntKind.i64.wrap ((mid : Int) + (m : Int) - 1) = (mid : Int) + (m : Int) - 1 := IntWalk.i64_in _ (by omega)
  go_enter Try.func178, Try.ntmps178
  go_upto_if 140 with fail
  go_cut [20, 21] from 138 to 146 (fun ss rr w' => ∃ lo hi : Nat, ss = .int .i64 lo ∧ rr = .int .i64 hi ∧ lo ≤ hi ∧ hi ≤ m ∧ hi ≤ mid ∧ a ≤ lo ∧ mid + m ≤ b + lo ∧ (hi = m ∨ hi = mid) ∧ (lo = a ∨ lo + b = mid + m) ∧ w' = w)
  case first =>
    by_cases h3 : mid < m
    · have h3' : (mid : Int) < (m : Int) := by omega
      go_wp2_with fail
      go_meet
      exact ⟨mid + m - b, mid, by go_num, by go_num, by omega, by omega, by omega, by omega, by omega, by omega, by omega, rfl⟩
    · have h3' : ¬ ((mid : Int) < (m : Int)) := by omega
      go_wp2_with fail
      go_meet
      exact ⟨a, m, by go_num, by go_num, by omega, by omega, by omega, by omega, by omega, by omega, by omega, rfl⟩
  case rest =>
    obtain ⟨lo, hi, rfl, rfl, v1, v2, v3, v4, v5, v6, v7, hw⟩ := hcut
    have hw' := hw.symm
    subst hw'
    go_wp2_with fail
    go_loopw [20, 21] (fun ii jj wr => ∃ i : Nat, lo ≤ i ∧ ∃ j : Nat, i ≤ j ∧ j ≤ hi ∧ ii = .int .i64 i ∧ jj = .int .i64 j ∧ (i = lo ∨ ka hkey l (i - 1) ≤ ka hkey l (mid + m - i)) ∧ (j = hi ∨ ka hkey l (mid + m - 1 - j) < ka hkey l j) ∧ Below w.heap.size w wr) (fun ii jj _ => (intOf jj).toNat - (intOf ii).toNat)
    case atStart => exact ⟨lo, Nat.le_refl _, hi, by omega, Nat.le_refl _, by first | rfl | go_num, by first | rfl | go_num, .inl rfl, .inl rfl, by first | exact Below.refl _ _ | assumption⟩
    case round =>
      obtain ⟨i, q1, j, q2, q3, rfl, rfl, c1, c2, hb1⟩ := hrel
      have HCC := Lib.hid (And.intro c1 c2)
      by_cases hlt : i < j
      · have i1 : (i : Int) < (j : Int) := by omega
        have t1 : IntKind.i64.wrap ((i : Int) + (j : Int)) = (i : Int) + (j : Int) := IntWalk.i64_in _ (by omega)
        have t2 : IntKind.u64.wrap ((i : Int) + (j : Int)) = (i : Int) + (j : Int) := IntWalk.u64_in _ (by omega)
        obtain ⟨h, t4, t5, t6⟩ : ∃ h : Nat, ((i : Int) + (j : Int)) / 2 = (h : Int) ∧ i ≤ h ∧ h < j := ⟨(i + j) / 2, by omega, by omega, by omega⟩
        have t3 : IntKind.i64.wrap (h : Int) = (h : Int) := IntWalk.i64_in _ (by omega)
        obtain ⟨q, w4, w5, w6⟩ : ∃ q : Nat, (mid : Int) + (m : Int) - 1 - (h : Int) = (q : Int) ∧ q + h + 1 ≤ mid + m ∧ mid + m ≤ q + h + 1 := ⟨mid + m - 1 - h, by omega, by omega, by omega⟩
        have w1 : IntKind.i64.wrap (q : Int) = (q : Int) := IntWalk.i64_in _ (by omega)
        have w2 : (0 : Int) ≤ (q : Int) := by omega
        have w3 : (q : Int) < (n : Int) := by omega
        have hi' : q < l.length := by omega
        have hj' : h < l.length := by omega
        have hBr : B ≤ wr.heap.size := Nat.le_trans hB hb1.size
        have HF1 := Lib.hid (HR.out.1.below hb1)
        have HB1 := Lib.hid hb1
        have k1 : (h : Int) < (n : Int) := by omega
        have k2 : (0 : Int) ≤ (h : Int) := by omega
        have k5 : IntKind.i64.wrap ((h : Int) + 1) = (h : Int) + 1 := IntWalk.i64_in _ (by omega)
        cases hcmp : decide (ka hkey l (q) < ka hkey l (h)) with
        | true =>
          have HL := Lib.hid ((HP.out.on (hb1.mono hB)).less HOK.out hi' hj' hcmp)
          have HK := Lib.hid (of_decide_eq_true hcmp)
          clear c1 c2 hb1 hcmp
          go_wp2_with fail
          have hfr := row_free HF1.out rfl (by omega)
          refine wp_region_held_drew (S := (fun w' => w'.cell? ⟨g, q * 5, none⟩ = some (.int .i64 (l[q]'hi').1.id) ∧ w'.cell? ⟨g, q * 5 + 1, none⟩ = some (.int .i64 (l[q]'hi').1.owner) ∧ w'.cell? ⟨g, q * 5 + 2, none⟩ = some (.bool (l[q]'hi').1.shared) ∧ w'.cell? ⟨g, q * 5 + 3, none⟩ = some (.int .i64 (l[q]'hi').1.link) ∧ w'.cell? ⟨g, q * 5 + 4, none⟩ = some (.slice (l[q]'hi').1.A (l[q]'hi').1.n (l[q]'hi').1.c) ∧ w'.cell? ⟨g, h * 5, none⟩ = some (.int .i64 (l[h]'hj').1.id) ∧ w'.cell? ⟨g, h * 5 + 1, none⟩ = some (.int .i64 (l[h]'hj').1.owner) ∧ w'.cell? ⟨g, h * 5 + 2, none⟩ = some (.bool (l[h]'hj').1.shared) ∧ w'.cell? ⟨g, h * 5 + 3, none⟩ = some (.int .i64 (l[h]'hj').1.link) ∧ w'.cell? ⟨g, h * 5 + 4, none⟩ = some (.slice (l[h]'hj').1.A (l[h]'hj').1.n (l[h]'hj').1.c) ∧ FRow 28 5 eHk w' B (some ⟨g, 0, none⟩) n c l ∧ Below wr.heap.size wr w')) (by kernel_rfl) (by (try dsimp only); obtain ⟨q0, q1, q2, q3, q4⟩ := row_at (HF1.out.below (Below.refl _ _).drew) rfl hi'; obtain ⟨p0, p1, p2, p3, p4⟩ := row_at (HF1.out.below (Below.refl _ _).drew) rfl hj'; exact ⟨q0, q1, q2, q3, q4, p0, p1, p2, p3, p4, (HF1.out.below (Below.refl _ _).drew), (Below.refl _ _).drew⟩) (fun hHeld => ?_)
          generalize World.drew wr = Wd at *
          first | (refine held_take 0 rfl (by kernel_rfl) (by kernel_rfl) (by kernel_rfl) (by rfl) (fun _ _ _ h => h) (by assumption) (by intro w hSw; (try dsimp only at hSw); go_simp; first | done | with_reducible rfl) ?_) | (refine held_skip 0 rfl (by kernel_rfl) (by kernel_rfl) (by kernel_rfl) (by rfl) (fun _ _ _ h => h) (by assumption) ?_)
          simp only [Act.put, List.setIfInBounds_toArray, List.set_cons_zero, List.set_cons_succ]
          first | (refine held_take 1 rfl (by kernel_rfl) (by kernel_rfl) (by kernel_rfl) (by rfl) (fun _ _ _ h => h) (by assumption) (by intro w hSw; (try dsimp only at hSw); go_simp; first | done | with_reducible rfl) ?_) | (refine held_skip 1 rfl (by kernel_rfl) (by kernel_rfl) (by kernel_rfl) (by rfl) (fun _ _ _ h => h) (by assumption) ?_)
          simp only [Act.put, List.setIfInBounds_toArray, List.set_cons_zero, List.set_cons_succ]
          first | (refine held_take 2 rfl (by kernel_rfl) (by kernel_rfl) (by kernel_rfl) (by rfl) (fun _ _ _ h => h) (by assumption) (by intro w hSw; (try dsimp only at hSw); go_simp; first | done | with_reducible rfl) ?_) | (refine held_skip 2 rfl (by kernel_rfl) (by kernel_rfl) (by kernel_rfl) (by rfl) (fun _ _ _ h => h) (by assumption) ?_)
          simp only [Act.put, List.setIfInBounds_toArray, List.set_cons_zero, List.set_cons_succ]
          first | (refine held_take 3 rfl (by kernel_rfl) (by kernel_rfl) (by kernel_rfl) (by rfl) (fun _ _ _ h => h) (by assumption) (by intro w hSw; (try dsimp only at hSw); go_simp; first | done | with_reducible rfl) ?_) | (refine held_skip 3 rfl (by kernel_rfl) (by kernel_rfl) (by kernel_rfl) (by rfl) (fun _ _ _ h => h) (by assumption) ?_)
          simp only [Act.put, List.setIfInBounds_toArray, List.set_cons_zero, List.set_cons_succ]
          first | (refine held_take 4 rfl (by kernel_rfl) (by kernel_rfl) (by kernel_rfl) (by rfl) (fun _ _ _ h => h) (by assumption) (by intro w hSw; (try dsimp only at hSw); go_simp; first | done | with_reducible rfl) ?_) | (refine held_skip 4 rfl (by kernel_rfl) (by kernel_rfl) (by kernel_rfl) (by rfl) (fun _ _ _ h => h) (by assumption) ?_)
          simp only [Act.put, List.setIfInBounds_toArray, List.set_cons_zero, List.set_cons_succ]
          first | (refine held_take 5 rfl (by kernel_rfl) (by kernel_rfl) (by kernel_rfl) (by rfl) (fun _ _ _ h => h) (by assumption) (by intro w hSw; (try dsimp only at hSw); go_simp; first | done | with_reducible rfl) ?_) | (refine held_skip 5 rfl (by kernel_rfl) (by kernel_rfl) (by kernel_rfl) (by rfl) (fun _ _ _ h => h) (by assumption) ?_)
          simp only [Act.put, List.setIfInBounds_toArray, List.set_cons_zero, List.set_cons_succ]
          first | (refine held_take 6 rfl (by kernel_rfl) (by kernel_rfl) (by kernel_rfl) (by rfl) (fun _ _ _ h => h) (by assumption) (by intro w hSw; (try dsimp only at hSw); go_simp; first | done | with_reducible rfl) ?_) | (refine held_skip 6 rfl (by kernel_rfl) (by kernel_rfl) (by kernel_rfl) (by rfl) (fun _ _ _ h => h) (by assumption) ?_)
          simp only [Act.put, List.setIfInBounds_toArray, List.set_cons_zero, List.set_cons_succ]
          first | (refine held_take 7 rfl (by kernel_rfl) (by kernel_rfl) (by kernel_rfl) (by rfl) (fun _ _ _ h => h) (by assumption) (by intro w hSw; (try dsimp only at hSw); go_simp; first | done | with_reducible rfl) ?_) | (refine held_skip 7 rfl (by kernel_rfl) (by kernel_rfl) (by kernel_rfl) (by rfl) (fun _ _ _ h => h) (by assumption) ?_)
          simp only [Act.put, List.setIfInBounds_toArray, List.set_cons_zero, List.set_cons_succ]
          first | (refine held_take 8 rfl (by kernel_rfl) (by kernel_rfl) (by kernel_rfl) (by rfl) (fun _ _ _ h => h) (by assumption) (by intro w hSw; (try dsimp only at hSw); go_simp; first | done | with_reducible rfl) ?_) | (refine held_skip 8 rfl (by kernel_rfl) (by kernel_rfl) (by kernel_rfl) (by rfl) (fun _ _ _ h => h) (by assumption) ?_)
          simp only [Act.put, List.setIfInBounds_toArray, List.set_cons_zero, List.set_cons_succ]
          first | (refine held_take 9 rfl (by kernel_rfl) (by kernel_rfl) (by kernel_rfl) (by rfl) (fun _ _ _ h => h) (by assumption) (by intro w hSw; (try dsimp only at hSw); go_simp; first | done | with_reducible rfl) ?_) | (refine held_skip 9 rfl (by kernel_rfl) (by kernel_rfl) (by kernel_rfl) (by rfl) (fun _ _ _ h => h) (by assumption) ?_)
          simp only [Act.put, List.setIfInBounds_toArray, List.set_cons_zero, List.set_cons_succ]
          first | (refine held_take 10 rfl (by kernel_rfl) (by kernel_rfl) (by kernel_rfl) (by rfl) (fun _ _ _ h => h) (by assumption) (by intro w hSw; (try dsimp only at hSw); go_simp; first | done | with_reducible rfl) ?_) | (refine held_skip 10 rfl (by kernel_rfl) (by kernel_rfl) (by kernel_rfl) (by rfl) (fun _ _ _ h => h) (by assumption) ?_)
          simp only [Act.put, List.setIfInBounds_toArray, List.set_cons_zero, List.set_cons_succ]
          refine held_one 11 (by kernel_rfl) rfl (fun K hK => ?_)
          go_simp
          refine (HL.out _ (hHeld.2.2.2.2.2.2.2.2.2.2.2.mono hBr)).mono ?_; rintro e w2 ⟨z, rfl, hz, hb2⟩
          go_wp2_with fail
          refine hK.out _ _ (by (try dsimp only); obtain ⟨q0, q1, q2, q3, q4⟩ := row_at (hHeld.2.2.2.2.2.2.2.2.2.2.1.below hb2) rfl hi'; obtain ⟨p0, p1, p2, p3, p4⟩ := row_at (hHeld.2.2.2.2.2.2.2.2.2.2.1.below hb2) rfl hj'; exact ⟨q0, q1, q2, q3, q4, p0, p1, p2, p3, p4, (hHeld.2.2.2.2.2.2.2.2.2.2.1.below hb2), ex_trans hHeld.2.2.2.2.2.2.2.2.2.2.2 hb2⟩) (fun hNew => ?_)
          clear hK K hHeld
          have hHeld := hNew
          clear hNew
          try simp only [Act.put, List.setIfInBounds_toArray, List.set_cons_zero, List.set_cons_succ]
          first | (refine held_take 12 rfl (by kernel_rfl) (by kernel_rfl) (by kernel_rfl) (by rfl) (fun _ _ _ h => h) (by assumption) (by intro w hSw; (try dsimp only at hSw); go_simp; first | done | with_reducible rfl) ?_) | (refine held_skip 12 rfl (by kernel_rfl) (by kernel_rfl) (by kernel_rfl) (by rfl) (fun _ _ _ h => h) (by assumption) ?_)
          simp only [Act.put, List.setIfInBounds_toArray, List.set_cons_zero, List.set_cons_succ]
          first | (refine held_take 13 rfl (by kernel_rfl) (by kernel_rfl) (by kernel_rfl) (by rfl) (fun _ _ _ h => h) (by assumption) (by intro w hSw; (try dsimp only at hSw); go_simp; first | done | with_reducible rfl) ?_) | (refine held_skip 13 rfl (by kernel_rfl) (by kernel_rfl) (by kernel_rfl) (by rfl) (fun _ _ _ h => h) (by assumption) ?_)
          simp only [Act.put, List.setIfInBounds_toArray, List.set_cons_zero, List.set_cons_succ]
          refine wpAnyH_done (by kernel_rfl) ?_ _
          rw [hz] at *
          go_wp2_with fail
          go_roundw
          case rel => exact ⟨i, by omega, h, by omega, by omega, rfl, by go_num, HCC.out.1,   .inr (by rw [show mid + m - 1 - h = q by omega]; exact HK.out), ex_trans HB1.out hHeld.2.2.2.2.2.2.2.2.2.2.2⟩
          case measure => simp [intOf]; omega
        | false =>
          have HL := Lib.hid ((HP.out.on (hb1.mono hB)).less HOK.out hi' hj' hcmp)
          have HK := Lib.hid (of_decide_eq_false hcmp)
          clear c1 c2 hb1 hcmp
          go_wp2_with fail
          have hfr := row_free HF1.out rfl (by omega)
          refine wp_region_held_drew (S := (fun w' => w'.cell? ⟨g, q * 5, none⟩ = some (.int .i64 (l[q]'hi').1.id) ∧ w'.cell? ⟨g, q * 5 + 1, none⟩ = some (.int .i64 (l[q]'hi').1.owner) ∧ w'.cell? ⟨g, q * 5 + 2, none⟩ = some (.bool (l[q]'hi').1.shared) ∧ w'.cell? ⟨g, q * 5 + 3, none⟩ = some (.int .i64 (l[q]'hi').1.link) ∧ w'.cell? ⟨g, q * 5 + 4, none⟩ = some (.slice (l[q]'hi').1.A (l[q]'hi').1.n (l[q]'hi').1.c) ∧ w'.cell? ⟨g, h * 5, none⟩ = some (.int .i64 (l[h]'hj').1.id) ∧ w'.cell? ⟨g, h * 5 + 1, none⟩ = some (.int .i64 (l[h]'hj').1.owner) ∧ w'.cell? ⟨g, h * 5 + 2, none⟩ = some (.bool (l[h]'hj').1.shared) ∧ w'.cell? ⟨g, h * 5 + 3, none⟩ = some (.int .i64 (l[h]'hj').1.link) ∧ w'.cell? ⟨g, h * 5 + 4, none⟩ = some (.slice (l[h]'hj').1.A (l[h]'hj').1.n (l[h]'hj').1.c) ∧ FRow 28 5 eHk w' B (some ⟨g, 0, none⟩) n c l ∧ Below wr.heap.size wr w')) (by kernel_rfl) (by (try dsimp only); obtain ⟨q0, q1, q2, q3, q4⟩ := row_at (HF1.out.below (Below.refl _ _).drew) rfl hi'; obtain ⟨p0, p1, p2, p3, p4⟩ := row_at (HF1.out.below (Below.refl _ _).drew) rfl hj'; exact ⟨q0, q1, q2, q3, q4, p0, p1, p2, p3, p4, (HF1.out.below (Below.refl _ _).drew), (Below.refl _ _).drew⟩) (fun hHeld => ?_)
          generalize World.drew wr = Wd at *
          first | (refine held_take 0 rfl (by kernel_rfl) (by kernel_rfl) (by kernel_rfl) (by rfl) (fun _ _ _ h => h) (by assumption) (by intro w hSw; (try dsimp only at hSw); go_simp; first | done | with_reducible rfl) ?_) | (refine held_skip 0 rfl (by kernel_rfl) (by kernel_rfl) (by kernel_rfl) (by rfl) (fun _ _ _ h => h) (by assumption) ?_)
          simp only [Act.put, List.setIfInBounds_toArray, List.set_cons_zero, List.set_cons_succ]
          first | (refine held_take 1 rfl (by kernel_rfl) (by kernel_rfl) (by kernel_rfl) (by rfl) (fun _ _ _ h => h) (by assumption) (by intro w hSw; (try dsimp only at hSw); go_simp; first | done | with_reducible rfl) ?_) | (refine held_skip 1 rfl (by kernel_rfl) (by kernel_rfl) (by kernel_rfl) (by rfl) (fun _ _ _ h => h) (by assumption) ?_)
          simp only [Act.put, List.setIfInBounds_toArray, List.set_cons_zero, List.set_cons_succ]
          first | (refine held_take 2 rfl (by kernel_rfl) (by kernel_rfl) (by kernel_rfl) (by rfl) (fun _ _ _ h => h) (by assumption) (by intro w hSw; (try dsimp only at hSw); go_simp; first | done | with_reducible rfl) ?_) | (refine held_skip 2 rfl (by kernel_rfl) (by kernel_rfl) (by kernel_rfl) (by rfl) (fun _ _ _ h => h) (by assumption) ?_)
          simp only [Act.put, List.setIfInBounds_toArray, List.set_cons_zero, List.set_cons_succ]
          first | (refine held_take 3 rfl (by kernel_rfl) (by kernel_rfl) (by kernel_rfl) (by rfl) (fun _ _ _ h => h) (by assumption) (by intro w hSw; (try dsimp only at hSw); go_simp; first | done | with_reducible rfl) ?_) | (refine held_skip 3 rfl (by kernel_rfl) (by kernel_rfl) (by kernel_rfl) (by rfl) (fun _ _ _ h => h) (by assumption) ?_)
          simp only [Act.put, List.setIfInBounds_toArray, List.set_cons_zero, List.set_cons_succ]
          first | (refine held_take 4 rfl (by kernel_rfl) (by kernel_rfl) (by kernel_rfl) (by rfl) (fun _ _ _ h => h) (by assumption) (by intro w hSw; (try dsimp only at hSw); go_simp; first | done | with_reducible rfl) ?_) | (refine held_skip 4 rfl (by kernel_rfl) (by kernel_rfl) (by kernel_rfl) (by rfl) (fun _ _ _ h => h) (by assumption) ?_)
          simp only [Act.put, List.setIfInBounds_toArray, List.set_cons_zero, List.set_cons_succ]
          first | (refine held_take 5 rfl (by kernel_rfl) (by kernel_rfl) (by kernel_rfl) (by rfl) (fun _ _ _ h => h) (by assumption) (by intro w hSw; (try dsimp only at hSw); go_simp; first | done | with_reducible rfl) ?_) | (refine held_skip 5 rfl (by kernel_rfl) (by kernel_rfl) (by kernel_rfl) (by rfl) (fun _ _ _ h => h) (by assumption) ?_)
          simp only [Act.put, List.setIfInBounds_toArray, List.set_cons_zero, List.set_cons_succ]
          first | (refine held_take 6 rfl (by kernel_rfl) (by kernel_rfl) (by kernel_rfl) (by rfl) (fun _ _ _ h => h) (by assumption) (by intro w hSw; (try dsimp only at hSw); go_simp; first | done | with_reducible rfl) ?_) | (refine held_skip 6 rfl (by kernel_rfl) (by kernel_rfl) (by kernel_rfl) (by rfl) (fun _ _ _ h => h) (by assumption) ?_)
          simp only [Act.put, List.setIfInBounds_toArray, List.set_cons_zero, List.set_cons_succ]
          first | (refine held_take 7 rfl (by kernel_rfl) (by kernel_rfl) (by kernel_rfl) (by rfl) (fun _ _ _ h => h) (by assumption) (by intro w hSw; (try dsimp only at hSw); go_simp; first | done | with_reducible rfl) ?_) | (refine held_skip 7 rfl (by kernel_rfl) (by kernel_rfl) (by kernel_rfl) (by rfl) (fun _ _ _ h => h) (by assumption) ?_)
          simp only [Act.put, List.setIfInBounds_toArray, List.set_cons_zero, List.set_cons_succ]
          first | (refine held_take 8 rfl (by kernel_rfl) (by kernel_rfl) (by kernel_rfl) (by rfl) (fun _ _ _ h => h) (by assumption) (by intro w hSw; (try dsimp only at hSw); go_simp; first | done | with_reducible rfl) ?_) | (refine held_skip 8 rfl (by kernel_rfl) (by kernel_rfl) (by kernel_rfl) (by rfl) (fun _ _ _ h => h) (by assumption) ?_)
          simp only [Act.put, List.setIfInBounds_toArray, List.set_cons_zero, List.set_cons_succ]
          first | (refine held_take 9 rfl (by kernel_rfl) (by kernel_rfl) (by kernel_rfl) (by rfl) (fun _ _ _ h => h) (by assumption) (by intro w hSw; (try dsimp only at hSw); go_simp; first | done | with_reducible rfl) ?_) | (refine held_skip 9 rfl (by kernel_rfl) (by kernel_rfl) (by kernel_rfl) (by rfl) (fun _ _ _ h => h) (by assumption) ?_)
          simp only [Act.put, List.setIfInBounds_toArray, List.set_cons_zero, List.set_cons_succ]
          first | (refine held_take 10 rfl (by kernel_rfl) (by kernel_rfl) (by kernel_rfl) (by rfl) (fun _ _ _ h => h) (by assumption) (by intro w hSw; (try dsimp only at hSw); go_simp; first | done | with_reducible rfl) ?_) | (refine held_skip 10 rfl (by kernel_rfl) (by kernel_rfl) (by kernel_rfl) (by rfl) (fun _ _ _ h => h) (by assumption) ?_)
          simp only [Act.put, List.setIfInBounds_toArray, List.set_cons_zero, List.set_cons_succ]
          refine held_one 11 (by kernel_rfl) rfl (fun K hK => ?_)
          go_simp
          refine (HL.out _ (hHeld.2.2.2.2.2.2.2.2.2.2.2.mono hBr)).mono ?_; rintro e w2 ⟨z, rfl, hz, hb2⟩
          go_wp2_with fail
          refine hK.out _ _ (by (try dsimp only); obtain ⟨q0, q1, q2, q3, q4⟩ := row_at (hHeld.2.2.2.2.2.2.2.2.2.2.1.below hb2) rfl hi'; obtain ⟨p0, p1, p2, p3, p4⟩ := row_at (hHeld.2.2.2.2.2.2.2.2.2.2.1.below hb2) rfl hj'; exact ⟨q0, q1, q2, q3, q4, p0, p1, p2, p3, p4, (hHeld.2.2.2.2.2.2.2.2.2.2.1.below hb2), ex_trans hHeld.2.2.2.2.2.2.2.2.2.2.2 hb2⟩) (fun hNew => ?_)
          clear hK K hHeld
          have hHeld := hNew
          clear hNew
          try simp only [Act.put, List.setIfInBounds_toArray, List.set_cons_zero, List.set_cons_succ]
          first | (refine held_take 12 rfl (by kernel_rfl) (by kernel_rfl) (by kernel_rfl) (by rfl) (fun _ _ _ h => h) (by assumption) (by intro w hSw; (try dsimp only at hSw); go_simp; first | done | with_reducible rfl) ?_) | (refine held_skip 12 rfl (by kernel_rfl) (by kernel_rfl) (by kernel_rfl) (by rfl) (fun _ _ _ h => h) (by assumption) ?_)
          simp only [Act.put, List.setIfInBounds_toArray, List.set_cons_zero, List.set_cons_succ]
          first | (refine held_take 13 rfl (by kernel_rfl) (by kernel_rfl) (by kernel_rfl) (by rfl) (fun _ _ _ h => h) (by assumption) (by intro w hSw; (try dsimp only at hSw); go_simp; first | done | with_reducible rfl) ?_) | (refine held_skip 13 rfl (by kernel_rfl) (by kernel_rfl) (by kernel_rfl) (by rfl) (fun _ _ _ h => h) (by assumption) ?_)
          simp only [Act.put, List.setIfInBounds_toArray, List.set_cons_zero, List.set_cons_succ]
          refine wpAnyH_done (by kernel_rfl) ?_ _
          rw [hz] at *
          go_wp2_with fail
          go_roundw
          case rel => exact ⟨h + 1, by omega, j, by omega, by omega, by go_num, rfl, .inr (by have := HK.out; rw [Nat.add_sub_cancel, show mid + m - (h + 1) = q by omega]; omega), HCC.out.2, ex_trans HB1.out hHeld.2.2.2.2.2.2.2.2.2.2.2⟩
          case measure => simp [intOf]; omega
      · obtain rfl : i = j := by omega
        have i1 : ¬ ((i : Int) < (i : Int)) := by omega
        obtain ⟨e, he1, he2⟩ : ∃ e, e + i ≤ mid + m ∧ mid + m ≤ e + i := ⟨mid + m - i, by omega, by omega⟩
        obtain ⟨U1, U2, V1, V2, hcc⟩ := mid_end (s := i) (mid := mid) (e := e) HR.out.2 HQ.out HUV.out.1 HUV.out.2 ha hm hb (by omega) (by omega) (by omega) (by omega) (by omega) (by rcases c2 with rfl | c2; rcases v6 with v6 | v6; exact .inl v6; exact .inr (.inl (by omega)); exact .inr (.inr (by rw [show e - 1 = mid + m - 1 - i by omega]; exact c2))) (by rcases c1 with rfl | c1; rcases v7 with v7 | v7; exact .inl v7; exact .inr (.inl (by omega)); exact .inr (.inr (by rw [show e = mid + m - i by omega]; exact c1)))
        have HCUT := Lib.hid hcc
        have HFB := Lib.hid (HR.out.1.below hb1)
        have HCB := Lib.hid (Chg.of_below [g] hb1)
        have HZB := Lib.hid hb1.size
        have l1 := hcc.lu1
        have l2 := hcc.lu2
        have l3 := hcc.lv1
        have l4 := hcc.lv2
        have w5 : IntKind.i64.wrap ((mid : Int) + (m : Int) - (i : Int)) = (e : Int) := (IntWalk.i64_in _ (by omega)).trans (by omega)
        clear c1 c2 hb1 HCC hcc
        go_upto_region 39 with fail
        go_cut [185] from 178 to 184 (fun bb w' => ∃ t : Bool, bb = .bool t ∧ (t = true ↔ (i < m ∧ m < e)) ∧ w' = wr)
        case first =>
          by_cases h6 : i < m
          · have i6 : (i : Int) < (m : Int) := by omega
            by_cases h7 : m < e
            · have i7 : (m : Int) < (e : Int) := by omega
              go_wp2_with fail
              go_meet
              exact ⟨true, rfl, by simp [h6, h7], rfl⟩
            · have i7 : ¬ ((m : Int) < (e : Int)) := by omega
              go_wp2_with fail
              go_meet
              exact ⟨false, rfl, by simp [h7], rfl⟩
          · have i6 : ¬ ((i : Int) < (m : Int)) := by omega
            go_wp2_with fail
            go_meet
            exact ⟨false, rfl, by simp [h6], rfl⟩
        case rest =>
          obtain ⟨t, rfl, ht, hw⟩ := hcut
          have hw' := hw.symm
          subst hw'
          go_upto_if 185 with fail
          go_cut [] from 185 to 191 (fun w' => FRow 28 5 eHk w' B (some ⟨g, 0, none⟩) n c (X ++ U1 ++ V1 ++ (U2 ++ V2 ++ Y)) ∧ Chg [g] w w')
          case first =>
            cases t with
            | true =>
              obtain ⟨h6, h7⟩ := ht.1 rfl
              go_wp2_with fail
              refine (slices_rotate_File _ n c l _ i m e _ _ _ rfl rfl rfl _ B _ HFB.out hn h6 h7 (by omega) (HCUT.out.rot HR.out.2 ha)).mono ?_; rintro e9 w3 ⟨rfl, hF3, hC3⟩
              have HF3 := Lib.hid (And.intro hF3 hC3)
              clear hF3 hC3
              go_wp2_with fail
              go_meet
              exact ⟨HF3.out.1, by have := HF3.out.2; rw [HRB.out] at this; exact HCB.out.trans this⟩
            | false =>
              have HE := Lib.hid (HCUT.out.norot HR.out.2 (fun h => by cases ht.2 h))
              go_wp2_with fail
              go_meet
              exact ⟨by rw [← HE.out]; exact HFB.out, HCB.out⟩
          case rest =>
            generalize wc = w4 at *
            have HCU := Lib.hid hcut
            clear hcut HFB HCB HZB ht
            go_upto_region 41 with fail
            go_cut [199] from 192 to 198 (fun bb w' => ∃ t : Bool, bb = .bool t ∧ (t = true ↔ (a < i ∧ i < mid)) ∧ w' = w4)
            case first =>
              by_cases h6 : a < i
              · have i6 : (a : Int) < (i : Int) := by omega
                by_cases h7 : i < mid
                · have i7 : (i : Int) < (mid : Int) := by omega
                  go_wp2_with fail
                  go_meet
                  exact ⟨true, rfl, by simp [h6, h7], rfl⟩
                · have i7 : ¬ ((i : Int) < (mid : Int)) := by omega
                  go_wp2_with fail
                  go_meet
                  exact ⟨false, rfl, by simp [h7], rfl⟩
              · have i6 : ¬ ((a : Int) < (i : Int)) := by omega
                go_wp2_with fail
                go_meet
                exact ⟨false, rfl, by simp [h6], rfl⟩
            case rest =>
              obtain ⟨t, rfl, ht, hw⟩ := hcut
              have hw' := hw.symm
              subst hw'
              go_upto_if 199 with fail
              go_cut [] from 199 to 205 (fun w' => FRow 28 5 eHk w' B (some ⟨g, 0, none⟩) n c (X ++ mrg hkey U1 V1 ++ U2 ++ V2 ++ Y) ∧ Chg [g] w w')
              case first =>
                cases t with
                | true =>
                  obtain ⟨h6, h7⟩ := ht.1 rfl
                  go_wp2_with fail
                  refine (HI.out _ n c _ (X ++ mrg hkey U1 V1 ++ (U2 ++ V2 ++ Y)) X U1 V1 (U2 ++ V2 ++ Y) a i mid _ _ _ rfl rfl rfl _ HCU.out.1 hn (by omega) rfl rfl ha (by omega) (by omega) (by omega) (by omega) HCUT.out.au1 HCUT.out.av1 (fun y hy => HOK.out y (HCUT.out.mem1 HR.out.2 hy)) (Nat.le_trans hB HCU.out.2.size) (HP.out.on (HCU.out.2.below hB (by have := HBS.out; rw [HRB.out] at this; exact this)))).mono ?_; rintro e9 w5 ⟨rfl, hF3, hC3⟩
                  have HF3 := Lib.hid (And.intro hF3 hC3)
                  clear hF3 hC3
                  go_wp2_with fail
                  go_meet
                  exact ⟨by have := HF3.out.1; simp only [List.append_assoc] at this ⊢; exact this, by have := HF3.out.2; rw [HRB.out] at this; exact HCU.out.2.trans this⟩
                | false =>
                  have HE := Lib.hid (HCUT.out.skip1 (by omega) (by omega) (fun h => by cases ht.2 h))
                  go_wp2_with fail
                  go_meet
                  exact ⟨by have := HCU.out.1; rw [HE.out]; simp only [List.append_assoc] at this ⊢; exact this, HCU.out.2⟩
              case rest =>
                generalize wc = w6 at *
                have HCV := Lib.hid hcut
                clear hcut HCU ht
                go_upto_region 43 with fail
                go_cut [213] from 206 to 212 (fun bb w' => ∃ t : Bool, bb = .bool t ∧ (t = true ↔ (mid < e ∧ e < b)) ∧ w' = w6)
                case first =>
                  by_cases h6 : mid < e
                  · have i6 : (mid : Int) < (e : Int) := by omega
                    by_cases h7 : e < b
                    · have i7 : (e : Int) < (b : Int) := by omega
                      go_wp2_with fail
                      go_meet
                      exact ⟨true, rfl, by simp [h6, h7], rfl⟩
                    · have i7 : ¬ ((e : Int) < (b : Int)) := by omega
                      go_wp2_with fail
                      go_meet
                      exact ⟨false, rfl, by simp [h7], rfl⟩
                  · have i6 : ¬ ((mid : Int) < (e : Int)) := by omega
                    go_wp2_with fail
                    go_meet
                    exact ⟨false, rfl, by simp [h6], rfl⟩
                case rest =>
                  obtain ⟨t, rfl, ht, hw⟩ := hcut
                  have hw' := hw.symm
                  subst hw'
                  cases t with
                  | true =>
                    obtain ⟨h6, h7⟩ := ht.1 rfl
                    go_wp2_with fail
                    refine (HI.out _ n c _ R (X ++ mrg hkey U1 V1) U2 V2 Y mid e b _ _ _ rfl rfl rfl _ HCV.out.1 hn (by omega) rfl HCUT.out.res (by rw [List.length_append, mrg_len]; omega) (by omega) (by omega) (by omega) (by omega) HCUT.out.au2 HCUT.out.av2 (fun y hy => HOK.out y (HCUT.out.mem2 HR.out.2 hy)) (Nat.le_trans hB HCV.out.2.size) (HP.out.on (HCV.out.2.below hB (by have := HBS.out; rw [HRB.out] at this; exact this)))).mono ?_; rintro e9 w5 ⟨rfl, hF3, hC3⟩
                    have HF3 := Lib.hid (And.intro hF3 hC3)
                    clear hF3 hC3
                    go_wp2_with fail
                    go_returns
                    exact ⟨rfl, HF3.out.1, by have := HF3.out.2; rw [HRB.out] at this ⊢; exact HCV.out.2.trans this⟩
                  | false =>
                    have HE := Lib.hid (HCUT.out.skip2 (by omega) (by omega) (fun h => by cases ht.2 h))
                    have HRR := Lib.hid (show X ++ mrg hkey U1 V1 ++ U2 ++ V2 ++ Y = R by rw [← HCUT.out.res, HE.out]; simp only [List.append_assoc])
                    go_wp2_with fail
                    go_returns
                    exact ⟨rfl, by rw [← HRR.out]; exact HCV.out.1, by rw [HRB.out]; exact HCV.out.2⟩
theorem slices_symMerge_File (kf : Nat) (caps : Array Value) (ok : HK → Prop) (B : Nat) (hcf : ∀ args w, (callFunc kf args).run Try.prog w = .ok (.enter kf args) w) : ∀ (N : Nat) (A : Option Addr) (n c : Nat) (l R X U V Y : List HK) (a m b : Nat) (ia im ib : Int) (ea : ia = a) (em : im = m) (eb : ib = b) (w : World) (h : FRow 28 5 eHk w B A n c l) (hn : n ≤ 1073741824)
    (hN : b - a ≤ N) (hl : l = X ++ U ++ V ++ Y) (hR : X ++ mrg hkey U V ++ Y = R) (ha : X.length = a) (hm : a + U.length = m) (hb : m + V.length = b) (hu : 0 < U.length) (hv : 0 < V.length) (hU : Asc hkey U) (hV : Asc hkey V) (hok : ∀ x ∈ l, ok x) (hB : B ≤ w.heap.size) (hp : Cmp2 Try.prog kf caps ok B w),
    Calls Try.prog 178 #[.slice A n c, .int .i64 ia, .int .i64 im, .int .i64 ib, .func (.func kf) #[] caps] w fun e w' => e = .returned (.tuple #[]) ∧ FRow 28 5 eHk w' B A n c R ∧ Chg (rowBs A c) w w' := by
  intro N
  induction N with
  | zero => intro A n c l R X U V Y a m b ia im ib ea em eb w h hn hN hl hR ha hm hb hu hv hU hV hok hB hp; omega
  | succ N ih =>
    intro A n c l R X U V Y a m b ia im ib ea em eb w h hn hN hl hR ha hm hb hu hv hU hV hok hB hp
    subst ea em eb
    by_cases h1 : m = a + 1
    · exact symMerge_left kf caps ok B hcf N A n c l R X U V Y a m b w h hn hN hl hR ha hm hb hu hv hU hV hok hB hp h1
    · by_cases h2 : b = m + 1
      · exact symMerge_right kf caps ok B hcf N A n c l R X U V Y a m b w h hn hN hl hR ha hm hb hu hv hU hV hok hB hp h1 h2
      · exact symMerge_mid kf caps ok B hcf N ih A n c l R X U V Y a m b w h hn hN hl hR ha hm hb hu hv hU hV hok hB hp h1 h2
end Go.Proofs.Ytjobgnioehkomaa
