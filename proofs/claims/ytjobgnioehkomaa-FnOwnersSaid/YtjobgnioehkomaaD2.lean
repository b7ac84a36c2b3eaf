/-
  CONTRACTS: functions that collect numbers of a store's files.
-/
import Derived.WalkKit
import Derived.WalkSpells
import Derived.WalkLawsBesides
import Derived.Lib.Hide
import Derived.Handy
import Derived.StillTailTactics
import Derived.Deep.Light
import Derived.Deep.QuietTactic
import Derived.BigQuiet
import Derived.Deep.RegionHeld3
import Derived.Test.YtjobgnioehkomaaLib
import Derived.Test.YtjobgnioehkomaaOwn
import Derived.Test.YtjobgnioehkomaaRow
import Derived.Test.YtjobgnioehkomaaHld
import Derived.Test.YtjobgnioehkomaaC1
import Derived.Test.YtjobgnioehkomaaC2
import Derived.Test.YtjobgnioehkomaaT1
import Derived.Test.YtjobgnioehkomaaT2
import Derived.Test.YtjobgnioehkomaaT3
import Derived.Test.YtjobgnioehkomaaT4
import Derived.Test.YtjobgnioehkomaaC3
import Derived.Test.YtjobgnioehkomaaC4
import Derived.Test.YtjobgnioehkomaaD1
import Derived.Test.YtjobgnioehkomaaRows
namespace Go.Proofs.Ytjobgnioehkomaa
open Go.RowKit
set_option linter.unusedVariables false
set_option maxRecDepth 100000
def ownedBy (l : List Fil) (u : Int) : List Int := (l.filter fun f => f.owner == u).map (·.id)
theorem ownedBy_succ (l : List Fil) (u : Int) {k : Nat} (h : k < l.length) : ownedBy (l.take (k + 1)) u = ownedBy (l.take k) u ++ (if l[k].owner == u then [l[k].id] else []) := by
  unfold ownedBy
  rw [take_filter_succ _ l h, List.map_append]
  cases l[k].owner == u <;> simp
theorem ownedBy_len (l : List Fil) (u : Int) : (ownedBy l u).length ≤ l.length := by
  unfold ownedBy; rw [List.length_map]; exact List.length_filter_le _ _
set_option maxHeartbeats 1600000 in
theorem impl_FilesOwnedBy (s : Sto) (A : Option Addr) (n c : Nat) (B : Option Addr) (m d : Nat) (u : Int) (w : World) (hS : Sl 2 RFld w A n s.schema) (hT : Sl 5 RFil w B m s.files) (hm : m ≤ 1073741824) :
    Calls Try.prog 19 #[s.v A n c B m d, .int .i64 u] w (NewRow id 3 1 eInt w (ownedBy s.files u)) := by
  obtain rfl : s.files.length = m := hT.len
  obtain ⟨ii, hi, hi0, hi1, hi2⟩ := info_parts info_int
  go_enter Try.func19, Try.ntmps19
  go_wp2_with fail
  go_loopw [5, 12] (fun v i wr => ∃ k q : Nat, k ≤ s.files.length ∧ q ≤ k ∧ i = .int .i64 k ∧ App 3 1 eInt w q (ownedBy (s.files.take k) u) v wr) (fun _ i _ => s.files.length - (intOf i).toNat)
  case atStart => exact ⟨0, 0, Nat.zero_le _, Nat.le_refl _, rfl, _, _, rfl, FRow.any0 _ _ _ _ _ _, by go_grown⟩
  case round =>
    obtain ⟨k, q, hk, hq, rfl, A1, c1, rfl, hrow, hb⟩ := hrel
    by_cases hlt : k < s.files.length
    · obtain ⟨b, off, rfl, bw, bc⟩ := hT.fil (by omega)
      obtain ⟨qA, qn, qc', q0, q1, q2, q3, q4, -⟩ := bc k (by omega)
      rw [← hb.cell (p := ⟨b, _, none⟩) bw] at q0 q1 q2 q3 q4
      have i0 : (0 : Int) ≤ (k : Int) := by omega
      have i1 : (k : Int) < (s.files.length : Int) := by omega
      have HR := Lib.hid hrow
      clear bc hrow
      cases hf : (s.files[k].owner == u) with
      | true =>
        have HT := Lib.hid (show ownedBy (s.files.take (k + 1)) u = ownedBy (s.files.take k) u ++ [s.files[k].id] by rw [ownedBy_succ _ _ hlt, hf]; rfl)
        go_wp2_with (at_builtin; refine wpList_append_row rfl _ _ _ rfl encInt Try.underlying24 hi hi0 hi1 hi2 rfl rfl rfl (HR.out.below (by go_grown)) (src1 encInt _ s.files[k].id _ (by simp) rfl) (by unfold maxLen; omega) (by omega) (by have := hb.size; simp; omega) ?_; intro A2 c2 w2 hr2 hc2 hx2)
        have HR2 := Lib.hid (show App 3 1 eInt w (q + 1) (ownedBy (s.files.take (k + 1)) u) (.slice A2 (q + 1) c2) w2 from ⟨A2, c2, rfl, by rw [HT.out]; exact hr2, Below.mark (ex_trans hb (by go_grown)) hc2 (by have := hb.size; simp; omega) (fun b hb' => (HR.out.base b hb').1)⟩)
        clear hr2
        go_wp2_with fail
        go_roundw
        case rel => exact ⟨k + 1, q + 1, by omega, by omega, by go_num, HR2.out⟩
        case measure => simp [intOf]; omega
      | false =>
        have HT := Lib.hid (show ownedBy (s.files.take (k + 1)) u = ownedBy (s.files.take k) u by rw [ownedBy_succ _ _ hlt, hf]; simp)
        go_wp2_with fail
        go_roundw
        case rel => exact ⟨k + 1, q, by omega, by omega, by go_num, A1, c1, rfl, by rw [HT.out]; exact HR.out.below (by go_grown), ex_trans hb (by go_grown)⟩
        case measure => simp [intOf]; omega
    · have hrow' := hrow
      rw [List.take_of_length_le (by omega)] at hrow'
      obtain rfl : (ownedBy s.files u).length = q := hrow'.len
      have HR := Lib.hid hrow'
      clear hrow hrow'
      go_wp2_with fail
      go_returns
      exact ⟨A1, c1, by simp, HR.out, hb⟩
end Go.Proofs.Ytjobgnioehkomaa
