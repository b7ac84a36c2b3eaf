/-
  CONTRACTS: BuildIndex.
-/
import Derived.WalkKit
import Derived.WalkSpells
import Derived.WalkLawsBesides
import Derived.Lib.Hide
import Derived.Handy
import Derived.StillTailTactics
import Derived.Deep.Light
import Derived.Deep.QuietTactic
import Derived.BigQuiet
import Derived.Deep.RegionHeld3
import Derived.Deep.RegionLaw
import Derived.Sort.Walk0
import Derived.Deep.DeepCutAuto
import Derived.Test.YtkjhfblipmagoaaLib
import Derived.Test.YtkjhfblipmagoaaOwn
import Derived.Test.YtkjhfblipmagoaaRow
import Derived.Test.YtkjhfblipmagoaaN0
import Derived.Test.YtkjhfblipmagoaaRaw
import Derived.Test.YtkjhfblipmagoaaHld
import Derived.Test.YtkjhfblipmagoaaHl2
import Derived.Test.YtkjhfblipmagoaaM0
import Derived.Test.YtkjhfblipmagoaaC1
import Derived.Test.YtkjhfblipmagoaaC2
import Derived.Test.YtkjhfblipmagoaaT1
import Derived.Test.YtkjhfblipmagoaaT2
import Derived.Test.YtkjhfblipmagoaaT3
import Derived.Test.YtkjhfblipmagoaaT4
import Derived.Test.YtkjhfblipmagoaaC3
import Derived.Test.YtkjhfblipmagoaaC4
import Derived.Test.YtkjhfblipmagoaaC5
import Derived.Test.YtkjhfblipmagoaaD1
import Derived.Test.YtkjhfblipmagoaaD3
import Derived.Test.YtkjhfblipmagoaaD5
import Derived.Test.YtkjhfblipmagoaaD7
import Derived.Test.YtkjhfblipmagoaaH1
import Derived.Test.YtkjhfblipmagoaaM2
import Derived.Test.YtkjhfblipmagoaaI1
import Derived.Test.YtkjhfblipmagoaaI3
import Derived.Test.YtkjhfblipmagoaaI4
import Derived.Test.YtkjhfblipmagoaaE4
import Derived.Test.YtkjhfblipmagoaaE5
import Derived.Test.YtkjhfblipmagoaaQ0
import Derived.Test.YtkjhfblipmagoaaQ2
import Derived.Test.YtkjhfblipmagoaaQ3
import Derived.Test.YtkjhfblipmagoaaQ5
import Derived.Test.YtkjhfblipmagoaaQ6
import Derived.Test.YtkjhfblipmagoaaQ7
import Derived.Test.YtkjhfblipmagoaaRows
namespace Go.Proofs.Ytkjhfblipmagoaa
open Go.RowKit
set_option linter.unusedVariables false
set_option maxRecDepth 100000
theorem sum_mem {l : List Nat} {x : Nat} (h : x ∈ l) : x ≤ l.sum := by
  induction l with
  | nil => cases h
  | cons y l ih =>
    rw [List.sum_cons]
    rcases List.mem_cons.1 h with rfl | h
    · omega
    · have := ih h; omega
theorem wide_of {M : Nat} {l : List Pst} (h1 : l.length ≤ M) (h3 : (l.map (·.cnt)).sum ≤ M) : Wide M l :=
  ⟨h1, fun p hp => Nat.le_trans (sum_mem (List.mem_map_of_mem (f := Pst.cnt) hp)) h3, h3⟩
theorem sum_upto (fs : List Fil) {k : Nat} (hk : k < fs.length) : ((fs.take k).map (·.attrs.length)).sum + fs[k].attrs.length ≤ (fs.map (·.attrs.length)).sum := by
  have e : fs.map (·.attrs.length) = (fs.take k).map (·.attrs.length) ++ (fs[k].attrs.length :: (fs.drop (k + 1)).map (·.attrs.length)) := by
    rw [← List.map_cons (f := fun f : Fil => f.attrs.length), ← List.map_append]
    congr 1
    simp
  rw [e, List.sum_append, List.sum_cons]
  omega
theorem wide_upto (fs : List Fil) (k : Nat) : Wide ((fs.take k).map (·.attrs.length)).sum ((fs.take k).foldl addX []) := by
  have := foldX_wide (fs.take k) 0 [] ⟨Nat.le_refl _, fun p hp => absurd hp (by simp), Nat.le_refl _⟩
  rw [Nat.zero_add] at this
  exact this
theorem bld_succ (fs : List Fil) {k : Nat} (hk : k < fs.length) : (fs.take (k + 1)).foldl addX [] = addX ((fs.take k).foldl addX []) fs[k] := by
  rw [List.take_succ_eq_append_getElem hk, List.foldl_append]; rfl
set_option maxHeartbeats 3200000 in
theorem impl_BuildIndex (s : Sto) (A : Option Addr) (n c : Nat) (B : Option Addr) (m d : Nat) (w : World) (hT : Sl 5 RFil w B m s.files) (hsum : (s.files.map (·.attrs.length)).sum ≤ 1073741822) (hm : m ≤ 1073741824) :
    Calls Try.prog 30 #[s.v A n c B m d] w (NewPsts 89 3 w (bldX s)) := by
  obtain rfl : s.files.length = m := hT.len
  have HADD := Lib.hid fun (k : Nat) (hk : k < s.files.length) (A1 : Option Addr) (c1 : Nat) (A2 : Option Addr) (c2 : Nat) (w' : World) (h1 : Sl 5 RPst w' A1 ((s.files.take k).foldl addX []).length ((s.files.take k).foldl addX [])) (h2 : Sl 4 RAtr w' A2 s.files[k].attrs.length s.files[k].attrs) =>
    impl_AddToIndex ((s.files.take k).map (·.attrs.length)).sum A1 _ c1 _ s.files[k] A2 _ c2 w' h1 h2 (wide_upto _ _) (Nat.le_trans (sum_upto s.files hk) hsum)
  clear hsum
  go_enter Try.func30, Try.ntmps30
  go_wp2_with fail
  go_loopw [3, 10] (fun v i wr => ∃ (k : Nat) (A1 : Option Addr) (c1 : Nat), k ≤ s.files.length ∧ i = .int .i64 k ∧ v = .slice A1 ((s.files.take k).foldl addX []).length c1 ∧ PRows 89 3 wr w.heap.size A1 ((s.files.take k).foldl addX []).length c1 ((s.files.take k).foldl addX []) ∧ Below w.heap.size w wr) (fun _ i _ => s.files.length - (intOf i).toNat)
  case atStart => exact ⟨0, _, 0, Nat.zero_le _, rfl, rfl, PRows.any0 _ _ _ _ _, by go_grown⟩
  case round =>
    obtain ⟨k, A1, c1, hk2, rfl, rfl, hrow, hb⟩ := hrel
    by_cases hlt : k < s.files.length
    · obtain ⟨b, off, rfl, bw, bc⟩ := hT.fil (by omega)
      obtain ⟨qA, qn, qc, q0, q1, q2, q3, q4, qS⟩ := bc k (by omega)
      rw [← hb.cell (p := ⟨b, _, none⟩) bw] at q0 q1 q2 q3 q4
      obtain rfl : s.files[k].attrs.length = qn := qS.len
      have QS := Lib.hid (qS.mono mAtr hb)
      have i0 : (0 : Int) ≤ (k : Int) := by omega
      have i1 : (k : Int) < (s.files.length : Int) := by omega
      have HR := Lib.hid hrow
      have HE := Lib.hid (bld_succ s.files hlt)
      clear bc hrow qS
      go_wp2_with fail
      refine (HADD.out k hlt A1 c1 qA qc _ ((HR.out.below (by go_grown)).sl) (QS.out.mono mAtr (by go_grown))).mono ?_; rintro e w2 ⟨A2, c2, rfl, hr2, hb2⟩
      have hbx := ex_trans (w := wr) (by go_grown) hb2
      have HX := Lib.hid (And.intro (hr2.lower (show w.heap.size ≤ _ by have := hb.size; simp; omega)) (ex_trans hb hbx))
      rw [← HE.out] at HX
      clear hr2 hb2 q0 q1 q2 q3 q4
      go_wp2_with fail
      go_roundw
      case rel => exact ⟨k + 1, A2, c2, by omega, by go_num, by rw [HE.out], HX.out⟩
      case measure => simp [intOf]; omega
    · obtain rfl : s.files.length = k := by omega
      rw [List.take_of_length_le (by omega)] at hrow
      have HR := Lib.hid hrow
      clear hrow
      go_wp2_with fail
      go_returns
      have h9 := HR.out
      exact ⟨A1, c1, by unfold bldX; rw [List.take_of_length_le (Nat.le_refl _)]; rfl, h9, hb⟩
set_option maxHeartbeats 3200000 in
theorem spec_BuildIndex (s : Sto) (A : Option Addr) (n c : Nat) (B : Option Addr) (m d : Nat) (w : World) (hT : Sl 5 RFil w B m s.files) (hsum : (s.files.map (·.attrs.length)).sum ≤ 1073741822) (hm : m ≤ 1073741824) :
    Calls Try.prog 29 #[s.v A n c B m d] w (NewPsts 89 3 w (bldX s)) := by
  obtain rfl : s.files.length = m := hT.len
  have HADD := Lib.hid fun (k : Nat) (hk : k < s.files.length) (A1 : Option Addr) (c1 : Nat) (A2 : Option Addr) (c2 : Nat) (w' : World) (h1 : Sl 5 RPst w' A1 ((s.files.take k).foldl addX []).length ((s.files.take k).foldl addX [])) (h2 : Sl 4 RAtr w' A2 s.files[k].attrs.length s.files[k].attrs) =>
    spec_AddToIndex ((s.files.take k).map (·.attrs.length)).sum A1 _ c1 _ s.files[k] A2 _ c2 w' h1 h2 (wide_upto _ _) (Nat.le_trans (sum_upto s.files hk) hsum)
  clear hsum
  go_enter Try.func29, Try.ntmps29
  go_wp2_with fail
  go_loopw [3, 4] (fun v i wr => ∃ (k : Nat) (A1 : Option Addr) (c1 : Nat), k ≤ s.files.length ∧ i = .int .i64 k ∧ v = .slice A1 ((s.files.take k).foldl addX []).length c1 ∧ HasB wr [(w.heap.size, #[.slice A n c, .slice B s.files.length d, .int .i64 s.next], 31)] ∧ PRows 89 3 wr (w.heap.size + 1) A1 ((s.files.take k).foldl addX []).length c1 ((s.files.take k).foldl addX []) ∧ Below w.heap.size w wr) (fun _ i _ => s.files.length - (intOf i).toNat)
  case atStart => exact ⟨0, _, 0, Nat.zero_le _, rfl, rfl, fun x hx => by simp only [List.mem_singleton] at hx; subst hx; exact (hp_old (by simp)).trans (hp_new rfl), PRows.any0 _ _ _ _ _, by go_grown⟩
  case round =>
    obtain ⟨k, A1, c1, hk2, rfl, rfl, hbs, hrow, hb⟩ := hrel
    have us := blk_cell? (hbs _ (List.Mem.head _))
    have ls := blk_lt (hbs _ (List.Mem.head _))
    simp only at ls
    have HBS := Lib.hid hbs
    clear hbs
    by_cases hlt : k < s.files.length
    · obtain ⟨b, off, rfl, bw, bc⟩ := hT.fil (by omega)
      obtain ⟨qA, qn, qc, q0, q1, q2, q3, q4, qS⟩ := bc k (by omega)
      rw [← hb.cell (p := ⟨b, _, none⟩) bw] at q0 q1 q2 q3 q4
      obtain rfl : s.files[k].attrs.length = qn := qS.len
      have QS := Lib.hid (qS.mono mAtr hb)
      have i0 : (0 : Int) ≤ (k : Int) := by omega
      have i1 : (k : Int) < (s.files.length : Int) := by omega
      have HR := Lib.hid hrow
      have HE := Lib.hid (bld_succ s.files hlt)
      clear bc hrow qS
      go_wp2_with fail
      refine (HADD.out k hlt A1 c1 qA qc _ ((HR.out.below (by go_grown)).sl) (QS.out.mono mAtr (by go_grown))).mono ?_; rintro e w2 ⟨A2, c2, rfl, hr2, hb2⟩
      have hbx := ex_trans (w := wr) (by go_grown) hb2
      have HX := Lib.hid (And.intro (HBS.out.below hbx) (And.intro (hr2.lower (show w.heap.size + 1 ≤ _ by first | omega | (simp; omega))) (ex_trans hb hbx)))
      rw [← HE.out] at HX
      clear hr2 hb2 q0 q1 q2 q3 q4 us
      go_wp2_with fail
      go_roundw
      case rel => exact ⟨k + 1, A2, c2, by omega, by go_num, by rw [HE.out], HX.out⟩
      case measure => simp [intOf]; omega
    · obtain rfl : s.files.length = k := by omega
      rw [List.take_of_length_le (by omega)] at hrow
      have HR := Lib.hid hrow
      clear hrow
      go_wp2_with fail
      go_returns
      obtain ⟨L9, h8, h9⟩ := HR.out
      exact ⟨A1, c1, rfl, ⟨L9, h8.re (fun b hb => by have := (h8.base b hb).1; omega), h9⟩, hb⟩
end Go.Proofs.Ytkjhfblipmagoaa
