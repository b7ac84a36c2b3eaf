/-
  CONTRACTS: copies of a file; a file is looked for.
-/
import Derived.WalkKit
import Derived.WalkSpells
import Derived.WalkLawsBesides
import Derived.Lib.Hide
import Derived.Handy
import Derived.StillTailTactics
import Derived.Deep.Light
import Derived.Deep.QuietTactic
import Derived.BigQuiet
import Derived.Deep.RegionHeld3
import Derived.Test.YtjobgnioehkomaaLib
import Derived.Test.YtjobgnioehkomaaOwn
import Derived.Test.YtjobgnioehkomaaRow
import Derived.Test.YtjobgnioehkomaaHld
import Derived.Test.YtjobgnioehkomaaM0
import Derived.Test.YtjobgnioehkomaaC1
import Derived.Test.YtjobgnioehkomaaC2
import Derived.Test.YtjobgnioehkomaaT1
import Derived.Test.YtjobgnioehkomaaT2
import Derived.Test.YtjobgnioehkomaaT3
import Derived.Test.YtjobgnioehkomaaT4
import Derived.Test.YtjobgnioehkomaaC3
import Derived.Test.YtjobgnioehkomaaC4
import Derived.Test.YtjobgnioehkomaaC5
import Derived.Test.YtjobgnioehkomaaD1
import Derived.Test.YtjobgnioehkomaaD5
import Derived.Test.YtjobgnioehkomaaH1
import Derived.Test.YtjobgnioehkomaaRows
namespace Go.Proofs.Ytjobgnioehkomaa
open Go.RowKit
set_option linter.unusedVariables false
set_option maxRecDepth 100000
/-- a file in new memory, its attributes' capacity known -/
def NewFilR (f : Value → Value) (ea : Nat) (w : World) (x : Fil) (en : Ending) (w' : World) : Prop :=
  ∃ A c, en = .returned (f (.agg #[.int .i64 x.id, .int .i64 x.owner, .bool x.shared, .int .i64 x.link, .slice A x.attrs.length c])) ∧ FRow ea 4 eAtr w' w.heap.size A x.attrs.length c x.attrs ∧ Below w.heap.size w w'
theorem NewFilR.v {f : Value → Value} {ea : Nat} {w w' : World} {x : Fil} {en : Ending} (h : NewFilR f ea w x en w') : NewFilV f ea w x en w' := by
  obtain ⟨A, c, h1, h2, h3⟩ := h
  exact ⟨A, c, _, h1, h2.osl (O := OAtr) encAtr (fun _ => ⟨rfl, rfl⟩), h2.fresh (Nat.le_refl _), h3⟩
theorem NewFilR.r {f : Value → Value} {ea : Nat} {w w' : World} {x : Fil} {en : Ending} (h : NewFilR f ea w x en w') : ReadFilV f w x en w' := by
  obtain ⟨A, c, h1, h2, h3⟩ := h
  exact ⟨A, c, h1, h2.sl encAtr (fun _ => rfl), h3⟩
set_option maxHeartbeats 1600000 in
theorem impl_copyFile (f : Fil) (A : Option Addr) (n c : Nat) (w : World) (hS : Sl 4 RAtr w A n f.attrs) (hn : n ≤ 1073741824) :
    Calls Try.prog 63 #[f.v A n c] w (NewFilR id 84 w f) := by
  have HC := Lib.hid fun w' (hb : Below w.heap.size w w') => slices_Clone_Attr A n c f.attrs w' (hS.mono mAtr hb) hn
  clear hS
  go_enter Try.func63, Try.ntmps63
  go_wp2_with fail
  refine (HC.out _ (by go_grown)).mono ?_; rintro e w1 ⟨A1, c1, rfl, hr1, hb1⟩
  have hz0 : w.heap.size + 1 < w1.heap.size := by have := hb1.size; simp at this; omega
  have hz1 : w.heap.size < w1.heap.size := by omega
  have hB1 := ex_trans (w := w) (by go_grown) hb1
  have x0 : w1.cell? ⟨w.heap.size, 0, none⟩ = some (.int .i64 f.id) := keep_cell hb1 (by go_simp)
  have x1 : w1.cell? ⟨w.heap.size, 1, none⟩ = some (.int .i64 f.owner) := keep_cell hb1 (by go_simp)
  have x2 : w1.cell? ⟨w.heap.size, 2, none⟩ = some (.bool f.shared) := keep_cell hb1 (by go_simp)
  have x3 : w1.cell? ⟨w.heap.size, 3, none⟩ = some (.int .i64 f.link) := keep_cell hb1 (by go_simp)
  have x4 : w1.cell? ⟨w.heap.size, 4, none⟩ = some (.slice A n c) := keep_cell hb1 (by go_simp)
  obtain ⟨hcc1, hff1⟩ := bcell hb1
  have HR := Lib.hid (And.intro hr1 hB1)
  clear hr1
  go_wp2_with fail
  refine bodyPost_ret (v := f.v A1 f.attrs.length c1) (by simp [results, Try.results63, go_sem, hcc1]) rfl ?_
  obtain ⟨hr1, hB1⟩ := HR.out
  have hch : Chg [w.heap.size, w.heap.size + 1] w1 (sets (w1.setCell ⟨w.heap.size, 4, none⟩ (.slice A1 f.attrs.length c1)) (w.heap.size + 1) 0 [.int .i64 f.id, .int .i64 f.owner, .bool f.shared, .int .i64 f.link, .slice A1 f.attrs.length c1]) :=
    sets_chg (bs := [w.heap.size, w.heap.size + 1]) (g := w.heap.size + 1) (w := w1) (w1 := w1) (by simp) _ _ 0 ((Chg.refl _ _).set (by simp) _)
  have hr2 := (hr1.chg hch fun b hb h => by have := (hr1.base b hb).1; simp at this h; omega).re (B' := w.heap.size) fun b hb => by have := (hr1.base b hb).1; simp at this; omega
  exact ⟨A1, c1, rfl, hr2, Below.mark hB1 hch hB1.size (by simp)⟩
set_option maxHeartbeats 1600000 in
theorem spec_l04Copy (f : Fil) (A : Option Addr) (n c : Nat) (w : World) (hS : Sl 4 RAtr w A n f.attrs) (hn : n ≤ 1073741824) :
    Calls Try.prog 117 #[f.v A n c] w (NewFilR id 84 w f) := by
  obtain rfl : f.attrs.length = n := hS.len
  have HS := Lib.hid hS
  clear hS
  obtain ⟨ii, hi, hi0, hi1, hi2⟩ := info_parts info_Attr
  go_enter Try.func117, Try.ntmps117
  go_wp2_with (at_builtin; refine wpList_append_row rfl _ _ _ rfl encAtr Try.underlying26 hi hi0 hi1 hi2 rfl rfl rfl (FRow.any0 _ _ _ _ _ _) (Src.of_sl (R := RAtr) encAtr (fun h => h) (HS.out.mono mAtr (by go_grown))) (by unfold maxLen; omega) (by omega) (show w.heap.size + 2 ≤ _ by simp) ?_; intro A1 c1 w1 hr1 hc1 hx1; have hb1 := Chg.blow hc1; have hz0 : w.heap.size + 1 < w1.heap.size := (by have := hb1.size; simp at this; omega); have hz1 : w.heap.size < w1.heap.size := (by omega); have x0 : w1.cell? ⟨w.heap.size, 0, none⟩ = some (.int .i64 f.id) := keep_cell hb1 (by go_simp); have x1 : w1.cell? ⟨w.heap.size, 1, none⟩ = some (.int .i64 f.owner) := keep_cell hb1 (by go_simp); have x2 : w1.cell? ⟨w.heap.size, 2, none⟩ = some (.bool f.shared) := keep_cell hb1 (by go_simp); have x3 : w1.cell? ⟨w.heap.size, 3, none⟩ = some (.int .i64 f.link) := keep_cell hb1 (by go_simp); have x4 : w1.cell? ⟨w.heap.size, 4, none⟩ = some (.slice A f.attrs.length c) := keep_cell hb1 (by go_simp); have y0 : w1.cell? ⟨w.heap.size + 1, 0, none⟩ = some (.int .i64 0) := keep_cell hb1 (by go_simp); have y1 : w1.cell? ⟨w.heap.size + 1, 1, none⟩ = some (.int .i64 0) := keep_cell hb1 (by go_simp); have y2 : w1.cell? ⟨w.heap.size + 1, 2, none⟩ = some (.bool false) := keep_cell hb1 (by go_simp); have y3 : w1.cell? ⟨w.heap.size + 1, 3, none⟩ = some (.int .i64 0) := keep_cell hb1 (by go_simp); have y4 : w1.cell? ⟨w.heap.size + 1, 4, none⟩ = some (.slice none 0 0) := keep_cell hb1 (by go_simp); obtain ⟨hcc1, hff1⟩ := bcell hb1; have HR := Lib.hid hr1; clear hr1)
  have hB1 := ex_trans (w := w) (by go_grown) hb1
  refine bodyPost_ret (v := f.v A1 f.attrs.length c1) (by simp [results, Try.results117, go_sem, y0, y1, y2, y3, y4]) rfl ?_
  have hr1 : FRow 84 4 eAtr w1 (w.heap.size + 2) A1 f.attrs.length c1 f.attrs := by simpa using HR.out
  have hch : Chg [w.heap.size, w.heap.size + 1] w1 (sets (w1.setCell ⟨w.heap.size, 4, none⟩ (.slice A1 f.attrs.length c1)) (w.heap.size + 1) 0 [.int .i64 f.id, .int .i64 f.owner, .bool f.shared, .int .i64 f.link, .slice A1 f.attrs.length c1]) :=
    sets_chg (bs := [w.heap.size, w.heap.size + 1]) (g := w.heap.size + 1) (w := w1) (w1 := w1) (by simp) _ _ 0 ((Chg.refl _ _).set (by simp) _)
  have hr2 := (hr1.chg hch fun b hb h => by have := (hr1.base b hb).1; simp at h; omega).re (B' := w.heap.size) fun b hb => by have := (hr1.base b hb).1; omega
  exact ⟨A1, c1, rfl, hr2, Below.mark hB1 hch hB1.size (by simp)⟩
def Fil.zero : Fil := ⟨0, 0, false, 0, []⟩
def atId (id : Int) (f : Fil) : Bool := f.id == id
def findF (s : Sto) (id : Int) : Fil := (s.files.find? (atId id)).getD Fil.zero
def hasFil (s : Sto) (id : Int) : Bool := s.files.any (atId id)
theorem findF_at {s : Sto} {id : Int} {k : Nat} (hk : k < s.files.length) (hn : noneTo (atId id) s.files k) (h : atId id s.files[k] = true) : findF s id = s.files[k] := by
  unfold findF; rw [find_at hk hn h]; rfl
theorem findF_none {s : Sto} {id : Int} {k : Nat} (hk : s.files.length ≤ k) (hn : noneTo (atId id) s.files k) : findF s id = Fil.zero := by
  unfold findF; rw [find_none hk hn]; rfl
theorem findF_ok {s : Sto} {M : Nat} (h : s.ok M) (id : Int) : (findF s id).ok M := by
  unfold findF
  cases hf : s.files.find? (atId id) with
  | none => exact ⟨Nat.zero_le _, fun a ha => by cases ha⟩
  | some f => exact h.2.2.2 f (List.mem_of_find?_eq_some hf)
theorem idx_cases {α : Type} (p : α → Bool) (l : List α) : (idxI p l = -1 ∧ noneTo p l l.length) ∨ ∃ (i : Nat) (h : i < l.length), idxI p l = (i : Int) ∧ p l[i] = true ∧ noneTo p l i := by
  cases hx : l.findIdx? p with
  | none =>
    have h0 := List.findIdx?_eq_none_iff.1 hx
    exact .inl ⟨by unfold idxI; rw [hx], fun i hi _ => h0 _ (List.getElem_mem hi)⟩
  | some i =>
    obtain ⟨hi, hp, hni⟩ := List.findIdx?_eq_some_iff_getElem.1 hx
    exact .inr ⟨i, hi, by unfold idxI; rw [hx], hp, fun j hj hji => by have := hni j hji; simpa using this⟩
theorem any_of_none {α : Type} {p : α → Bool} {l : List α} (h : noneTo p l l.length) : l.any p = false := by
  rw [List.any_eq_false]
  intro x hx
  obtain ⟨i, hi, rfl⟩ := List.getElem_of_mem hx
  rw [h i hi hi]; simp
set_option maxHeartbeats 1600000 in
theorem spec_l05Place (s : Sto) (A : Option Addr) (n c : Nat) (B : Option Addr) (m d : Nat) (id : Int) (w : World) (hT : Sl 5 RFil w B m s.files) (hm : m ≤ 1073741824) :
    Calls Try.prog 116 #[s.v A n c B m d, .int .i64 id] w fun e w' => e = .returned (.int .i64 (idxI (atId id) s.files)) ∧ Below w.heap.size w w' := by
  obtain rfl : s.files.length = m := hT.len
  go_enter Try.func116, Try.ntmps116
  go_wp2_with fail
  go_loop [5] (fun i => ∃ k : Nat, k ≤ s.files.length ∧ i = .int .i64 k ∧ noneTo (atId id) s.files k) (fun i => s.files.length - (intOf i).toNat)
  case atStart => exact ⟨0, Nat.zero_le _, rfl, noneTo_zero _ _⟩
  case round =>
    obtain ⟨k, hk, rfl, hN⟩ := hrel
    by_cases hlt : k < s.files.length
    · obtain ⟨b, off, rfl, bw, bc⟩ := hT.fil (by omega)
      obtain ⟨qA, qn, qc', q0, q1, q2, q3, q4, -⟩ := bc k (by omega)
      have i0 : (0 : Int) ≤ (k : Int) := by omega
      have i1 : (k : Int) < (s.files.length : Int) := by omega
      clear bc
      cases hf : (s.files[k].id == id) with
      | true =>
        have HZ := Lib.hid (idxI_at (p := atId id) hlt hN hf)
        clear hN
        go_wp2_with fail
        go_returns
        exact ⟨ret_int HZ.out.symm, by go_grown⟩
      | false =>
        have HN := Lib.hid (noneTo_succ hN (fun _ => hf))
        clear hN
        go_wp2_with fail
        go_round
        case rel => exact ⟨k + 1, by omega, by go_num, HN.out⟩
        case measure => simp [intOf]; omega
    · have HZ := Lib.hid (idxI_none (by omega) hN)
      clear hN
      go_wp2_with fail
      go_returns
      exact ⟨ret_int HZ.out.symm, by go_grown⟩
set_option maxHeartbeats 1600000 in
theorem spec_FindFile (s : Sto) (A : Option Addr) (n c : Nat) (B : Option Addr) (m d : Nat) (id : Int) (w : World) (hS : Sl 2 RFld w A n s.schema) (hT : Sl 5 RFil w B m s.files) (hok : s.ok 1073741824) :
    Calls Try.prog 74 #[s.v A n c B m d, .int .i64 id] w (NewFilR (fun v => .tuple #[v, .bool (hasFil s id)]) 84 w (findF s id)) := by
  obtain rfl : s.files.length = m := hT.len
  have hm := hok.2.2.1
  have HA := fun w' (hb : Below w.heap.size w w') => spec_l05Place s A n c B s.files.length d id w' (hT.mono mFil hb) hm
  rcases idx_cases (atId id) s.files with ⟨he, hN⟩ | ⟨i, hi, he, hp, hN⟩
  · rw [he] at HA
    have hz : findF s id = Fil.zero := findF_none (Nat.le_refl _) hN
    have hh : hasFil s id = false := any_of_none hN
    rw [hz, hh]
    have HA' := Lib.hid HA
    clear HA he hN hz hh hok hS hT
    go_enter Try.func74, Try.ntmps74
    go_wp2_with fail
    refine (HA'.out _ (by go_grown)).mono ?_; rintro e w1 ⟨rfl, hb1⟩
    have hB1 := ex_trans (w := w) (by go_grown) hb1
    have y0 : w1.cell? ⟨w.heap.size + 1, 0, none⟩ = some (.int .i64 0) := keep_cell hb1 (by go_simp)
    have y1 : w1.cell? ⟨w.heap.size + 1, 1, none⟩ = some (.int .i64 0) := keep_cell hb1 (by go_simp)
    have y2 : w1.cell? ⟨w.heap.size + 1, 2, none⟩ = some (.bool false) := keep_cell hb1 (by go_simp)
    have y3 : w1.cell? ⟨w.heap.size + 1, 3, none⟩ = some (.int .i64 0) := keep_cell hb1 (by go_simp)
    have y4 : w1.cell? ⟨w.heap.size + 1, 4, none⟩ = some (.slice none 0 0) := keep_cell hb1 (by go_simp)
    obtain ⟨hcc1, hff1⟩ := bcell hb1
    go_wp2_with fail
    refine bodyPost_ret (v := .tuple #[.agg #[.int .i64 0, .int .i64 0, .bool false, .int .i64 0, .slice none 0 0], .bool false]) (by simp [results, Try.results74, go_sem, y0, y1, y2, y3, y4]) rfl ?_
    have hch := sets_chg (bs := [w.heap.size + 1]) (g := w.heap.size + 1) (w := w1) (w1 := w1) (by simp) [.int .i64 0, .int .i64 0, .bool false, .int .i64 0, .slice none 0 0] w1 0 (Chg.refl _ _)
    exact ⟨none, 0, rfl, FRow.any0 _ _ _ _ _ _, Below.mark hB1 hch hB1.size (by simp)⟩
  · rw [he] at HA
    have hz : findF s id = s.files[i] := findF_at hi hN hp
    have hh : hasFil s id = true := List.any_eq_true.2 ⟨_, List.getElem_mem hi, hp⟩
    rw [hz, hh]
    have HA' := Lib.hid HA
    have hof : s.files[i].ok 1073741824 := hok.2.2.2 _ (List.getElem_mem hi)
    obtain ⟨b, off, rfl, bw, bc⟩ := hT.fil (by omega)
    obtain ⟨qA, qn, qc', q0, q1, q2, q3, q4, qS⟩ := bc i hi
    have hqn : qn ≤ 1073741824 := by rw [← qS.len]; exact hof.1
    have HC := Lib.hid fun w' (hb : Below w.heap.size w w') => spec_l04Copy s.files[i] qA qn qc' w' (qS.mono mAtr hb) hqn
    have i0 : (0 : Int) ≤ (i : Int) := by omega
    have i1 : (i : Int) < (s.files.length : Int) := by omega
    clear HA he hN hz hh hok hS hT bc qS hp hof
    go_enter Try.func74, Try.ntmps74
    go_wp2_with fail
    refine (HA'.out _ (by go_grown)).mono ?_; rintro e w1 ⟨rfl, hb1⟩
    have hB1 := ex_trans (w := w) (by go_grown) hb1
    have x1 : w1.cell? ⟨w.heap.size, 1, none⟩ = some (.slice (some ⟨b, off, none⟩) s.files.length d) := keep_cell hb1 (by go_simp)
    have y0 : w1.cell? ⟨w.heap.size + 1, 0, none⟩ = some (.int .i64 0) := keep_cell hb1 (by go_simp)
    have y1 : w1.cell? ⟨w.heap.size + 1, 1, none⟩ = some (.int .i64 0) := keep_cell hb1 (by go_simp)
    have y2 : w1.cell? ⟨w.heap.size + 1, 2, none⟩ = some (.bool false) := keep_cell hb1 (by go_simp)
    have y3 : w1.cell? ⟨w.heap.size + 1, 3, none⟩ = some (.int .i64 0) := keep_cell hb1 (by go_simp)
    have y4 : w1.cell? ⟨w.heap.size + 1, 4, none⟩ = some (.slice none 0 0) := keep_cell hb1 (by go_simp)
    have z1 : w.heap.size + 1 < w1.heap.size := keep_lt hb1 (by simp <;> omega)
    rw [← hB1.cell (p := ⟨b, _, none⟩) bw] at q0 q1 q2 q3 q4
    go_wp2_with fail
    refine (HC.out _ hB1).mono ?_; rintro e w2 ⟨A2, c2, rfl, hr2, hb2⟩
    have hB2 := ex_trans hB1 hb2
    have u0 := keep_cell hb2 y0
    have u1 := keep_cell hb2 y1
    have u2 := keep_cell hb2 y2
    have u3 := keep_cell hb2 y3
    have u4 := keep_cell hb2 y4
    obtain ⟨hcc2, hff2⟩ := bcell hb2
    have ff : ∀ o, w2.frozen? ⟨w.heap.size + 1, o, none⟩ = false := fun o => (hff2 _ o z1).trans ((hb1.frozen (p := ⟨w.heap.size + 1, o, none⟩) (by simp)).trans (by go_simp))
    clear hcc2 hff2
    have HR := Lib.hid (And.intro hr2 (And.intro hB1 z1))
    clear hr2
    go_wp2_with fail
    refine bodyPost_ret (v := .tuple #[.agg #[.int .i64 s.files[i].id, .int .i64 s.files[i].owner, .bool s.files[i].shared, .int .i64 s.files[i].link, .slice A2 s.files[i].attrs.length c2], .bool true]) (by simp [results, Try.results74, go_sem, u0, u1, u2, u3, u4]) rfl ?_
    obtain ⟨hr2, hB1, z1⟩ := HR.out
    have hch := sets_chg (bs := [w.heap.size + 1]) (g := w.heap.size + 1) (w := w2) (w1 := w2) (by simp) [.int .i64 s.files[i].id, .int .i64 s.files[i].owner, .bool s.files[i].shared, .int .i64 s.files[i].link, .slice A2 s.files[i].attrs.length c2] w2 0 (Chg.refl _ _)
    exact ⟨A2, c2, rfl, (hr2.chg hch fun b hb h => by have := (hr2.base b hb).1; simp at h; omega).re fun b hb => by have := (hr2.base b hb).1; omega, Below.mark hB2 hch hB2.size (by simp)⟩
end Go.Proofs.Ytjobgnioehkomaa
