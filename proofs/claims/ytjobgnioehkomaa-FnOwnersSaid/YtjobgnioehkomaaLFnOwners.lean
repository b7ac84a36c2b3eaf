/-
  FnOwners RETURNS true AND LEAVES ITS ARGUMENTS AS THEY WERE, FOR EVERY INPUT THAT THE STATEMENT SPEAKS OF. No condition.
-/
import Derived.WalkKit
import Derived.ProofKit
import Derived.OpenShut
import Derived.Handy
import Derived.Lib.Hide
import Derived.Deep.QuietTactic
import Derived.BigQuiet
import Derived.Deep.RegionHeld3
import Derived.Deep.DeepCutAuto
import Derived.Test.YtjobgnioehkomaaLib
import Derived.Test.YtjobgnioehkomaaOp
import Derived.Test.YtjobgnioehkomaaC1
import Derived.Test.YtjobgnioehkomaaC2
import Derived.Test.YtjobgnioehkomaaC4
import Derived.Test.YtjobgnioehkomaaOwn
import Derived.Test.YtjobgnioehkomaaRow
import Derived.Test.YtjobgnioehkomaaN0
import Derived.Test.YtjobgnioehkomaaHld
import Derived.Test.YtjobgnioehkomaaD1
import Derived.Test.YtjobgnioehkomaaD2
import Derived.Test.YtjobgnioehkomaaD3
import Derived.Test.YtjobgnioehkomaaD5
import Derived.Test.YtjobgnioehkomaaD7
import Derived.Test.YtjobgnioehkomaaE4
import Derived.Test.YtjobgnioehkomaaH1
import Derived.Test.YtjobgnioehkomaaI1
import Derived.Test.YtjobgnioehkomaaI2
import Derived.Test.YtjobgnioehkomaaD8
import Derived.Test.YtjobgnioehkomaaSz
import Derived.Test.YtjobgnioehkomaaT1
import Derived.Test.YtjobgnioehkomaaT2
import Derived.Test.YtjobgnioehkomaaT3
import Derived.Test.YtjobgnioehkomaaT4
import Derived.Test.YtjobgnioehkomaaC3
import Derived.Test.YtjobgnioehkomaaC5
import Derived.Test.YtjobgnioehkomaaC8
import Derived.Test.YtjobgnioehkomaaHl2
import Derived.Test.YtjobgnioehkomaaY1
import Derived.Test.YtjobgnioehkomaaY2
import Derived.Test.YtjobgnioehkomaaY3
import Derived.Test.YtjobgnioehkomaaZ1
import Derived.Test.YtjobgnioehkomaaZ3
import Derived.Test.YtjobgnioehkomaaZ4
import Derived.Test.YtjobgnioehkomaaE3
import Derived.Test.YtjobgnioehkomaaE5
import Derived.Test.YtjobgnioehkomaaE6
import Derived.Test.YtjobgnioehkomaaE7
import Derived.Test.YtjobgnioehkomaaE9
import Derived.Test.YtjobgnioehkomaaPZ
import Derived.Test.YtjobgnioehkomaaZb
import Derived.Test.YtjobgnioehkomaaRows
namespace Go.Proofs.Ytjobgnioehkomaa
open Go.RowKit Go.ChangeShapes Go.WideShapes Go.ChangeAt Go.ChangeMaps
set_option linter.unusedVariables false
set_option maxRecDepth 100000
theorem NewRow.ints {w w' : World} {l : List Int} {q : Nat} {en : Ending} (hq : l.length = q) (h : NewRow id 3 1 eInt w l en w') : ∃ A c, en = .returned (.slice A q c) ∧ Sl 1 RInt w' A q l ∧ Below w.heap.size w w' := by
  subst hq
  obtain ⟨A, c, h1, h2, h3⟩ := h
  exact ⟨A, c, h1, h2.sl encInt (fun _ => rfl), h3⟩
theorem laws_fileOf_mem (s : Sto) (A : Option Addr) (n c : Nat) (B : Option Addr) (m d : Nat) (f : Fil) (w : World) (hS : Sl 2 RFld w A n s.schema) (hT : Sl 5 RFil w B m s.files) (hok : s.ok 1073741824) (hv : validS s = true) (hf : f ∈ s.files) :
    Calls Try.prog 21 #[s.v A n c B m d, .int .i64 f.id] w fun e w' => ∃ A' c', e = .returned (.agg #[.int .i64 f.id, .int .i64 f.owner, .bool f.shared, .int .i64 f.link, .slice A' f.attrs.length c']) ∧ Sl 4 RAtr w' A' f.attrs.length f.attrs ∧ Below w.heap.size w w' := by
  have h := laws_fileOf s A n c B m d f.id w hS hT hok
  rw [findF_mem hv hf] at h
  exact h
/-- the files of the first users -/
def cntO (fs : List Fil) (u : Nat) : Nat := (fs.filter fun f => decide (f.owner < (u : Int))).length
theorem cntO_zero {sc : List Fld} {fs : List Fil} (h : ∀ f ∈ fs, 0 ≤ f.owner ∧ f.owner ≤ 2 ∧ 0 ≤ f.link ∧ f.link ≤ 60 ∧ okSchema sc = true) : cntO fs 0 = 0 := by
  unfold cntO
  rw [List.filter_eq_nil_iff.2]
  · rfl
  · intro f hf
    have := (h f hf).1
    simp; omega
theorem cntO_succ (fs : List Fil) (u : Nat) : cntO fs (u + 1) = cntO fs u + (ownedBy fs (u : Int)).length := by
  unfold cntO ownedBy
  rw [List.length_map]
  induction fs with
  | nil => rfl
  | cons f fs ih =>
    by_cases h1 : f.owner < (u : Int)
    · have h2 : f.owner < ((u + 1 : Nat) : Int) := by omega
      have h3 : (f.owner == (u : Int)) = false := by simp; omega
      simp only [List.filter_cons, h1, h2, h3, decide_true, if_true, List.length_cons, Bool.false_eq_true, if_false]
      omega
    · by_cases h3 : f.owner = (u : Int)
      · have h2 : f.owner < ((u + 1 : Nat) : Int) := by omega
        have h4 : (f.owner == (u : Int)) = true := by simpa using h3
        simp only [List.filter_cons, h1, h2, h4, decide_true, decide_false, if_true, List.length_cons, Bool.false_eq_true, if_false]
        omega
      · have h2 : ¬ (f.owner < ((u + 1 : Nat) : Int)) := by omega
        have h4 : (f.owner == (u : Int)) = false := by simpa using h3
        simp only [List.filter_cons, h1, h2, h4, decide_false, Bool.false_eq_true, if_false]
        omega
theorem cntO_le (fs : List Fil) (u : Nat) : cntO fs u ≤ fs.length := List.length_filter_le _ _
theorem cntO_all {sc : List Fld} {fs : List Fil} (h : ∀ f ∈ fs, 0 ≤ f.owner ∧ f.owner ≤ 2 ∧ 0 ≤ f.link ∧ f.link ≤ 60 ∧ okSchema sc = true) : cntO fs 3 = fs.length := by
  unfold cntO
  rw [List.filter_eq_self.2]
  intro f hf
  have := (h f hf).2.1
  simp; omega
theorem ownedBy_at {fs : List Fil} {u : Int} {k : Nat} (hk : k < (ownedBy fs u).length) : ∃ f ∈ fs, f.owner = u ∧ (ownedBy fs u)[k] = f.id := by
  have hm : (ownedBy fs u)[k] ∈ ownedBy fs u := List.getElem_mem hk
  obtain ⟨f, hf, he⟩ := List.mem_map.1 hm
  have h2 := List.mem_filter.1 hf
  exact ⟨f, h2.1, by simpa using h2.2, he.symm⟩
set_option maxHeartbeats 8000000 in
theorem walk_FnOwners (W : World) (A0 : Option Addr) (n0 c0 : Nat) (l0 : List Int) (hS0 : Sl 1 RByt W A0 n0 l0) (hn0 : n0 ≤ maxLen) (hl0 : ∀ y ∈ l0, 0 ≤ y ∧ y ≤ 255) : Calls Try.prog 4 #[.slice A0 n0 c0] W fun e w' => e = .returned (.bool true) ∧ Below W.heap.size W w' := by
  by_cases hc : n0 ≤ 1048576
  · have HD := Lib.hid (spec_DrawFileIDs A0 n0 c0 l0 W hS0 hc hl0)
    clear hS0 hl0
    go_enter Try.func4, Try.ntmps4
    go_wp2_with fail
    refine (laws_big_f A0 n0 c0 _ hc).mono ?_; rintro e w0 ⟨rfl, rfl⟩
    have HB := Lib.hid (Below.refl W.heap.size W)
    go_upto_region 3 with fail
    go_cut [3] from 10 to 11 (fun s3 w' => ∃ (sc : List Fld) (n : Nat) (fs : List Fil) (nx : Int) (A : Option Addr) (c : Nat) (B : Option Addr) (m d : Nat) (g3 : Nat), s3 = .pointer (some ⟨g3, 0, none⟩) ∧ w'.cell? ⟨g3, 0, none⟩ = some (.slice A n c) ∧ w'.cell? ⟨g3, 1, none⟩ = some (.slice B m d) ∧ w'.cell? ⟨g3, 2, none⟩ = some (.int .i64 nx) ∧ Sl 2 RFld w' A n sc ∧ Sl 5 RFil w' B m fs ∧ StoA sc n fs m ∧ Below W.heap.size W w')
    case first =>
      go_wp2_with fail
      refine HD.out.mono ?_; rintro e w1 ⟨sc, n, fs, nx, A, c, B, m, d, rfl, hS1, hS2, hG, hb1⟩
      have HX := Lib.hid (And.intro hS1 (And.intro hS2 hb1))
      clear hS1 hS2 hb1 HD
      go_wp2_with fail
      go_meet
      exact ⟨sc, n, fs, nx, A, c, B, m, d, w1.heap.size, rfl, by go_simp, by go_simp, by go_simp, HX.out.1.mono mFld (by go_grown), HX.out.2.1.mono mFil (by go_grown), hG, ex_trans HX.out.2.2 (by go_grown)⟩
    case rest =>
      generalize wc = W3 at *
      obtain ⟨sc, n, fs, nx, A, c, B, m, d, g3, rfl, p0, p1, p2, hS1, hS2, hG, hK⟩ := hcut
      replace HB := Lib.hid (ex_trans HB.out hK)
      have HS1 := Lib.hid hS1
      have HS2 := Lib.hid hS2
      have HG := Lib.hid hG
      have hm13 : m ≤ 13 := hG.2.2.2.2.1
      clear hS1 hS2 hG hK
      have HIV := Lib.hid (spec_IsValidStore ⟨sc, fs, nx⟩ A n c B m d W3 HS1.out HS2.out (HG.out.ok nx))
      have HFW := Lib.hid fun (u : Int) w (h1 : Sl 2 RFld w A n sc) (h : Sl 5 RFil w B m fs) => impl_FilesOwnedBy ⟨sc, fs, nx⟩ A n c B m d u w h1 h (by omega)
      cases hv : validS ⟨sc, fs, nx⟩ with
      | false =>
        rw [hv] at HIV
        clear hv
        go_wp2_with fail
        refine HIV.out.mono ?_; rintro e w4 ⟨rfl, hb4⟩
        have HB4 := Lib.hid (ex_trans HB.out hb4)
        clear hb4
        go_wp2_with fail
        refine (impl_CanWrite ⟨0, 1, false, 0, []⟩ none 0 0 1 _).mono ?_; rintro e w5 ⟨rfl, hb5⟩
        rw [show canWrite ⟨0, 1, false, 0, []⟩ 1 = true from by decide]
        have HB5 := Lib.hid (ex_trans HB4.out hb5)
        clear hb5
        go_wp2_with fail
        go_returns
        exact ⟨rfl, HB5.out⟩
      | true =>
        rw [hv] at HIV
        have HFO := Lib.hid fun (f : Fil) (hf : f ∈ fs) w (h1 : Sl 2 RFld w A n sc) (h : Sl 5 RFil w B m fs) => laws_fileOf_mem ⟨sc, fs, nx⟩ A n c B m d f w h1 h (HG.out.ok nx) hv hf
        have HOW := Lib.hid (fun f (hf : f ∈ fs) => (validF_parts ((validS_iff.1 hv).1.1 f hf).1).2.2.2)
        have HLE := Lib.hid (show fs.length = m from HG.out.2.2.2.1)
        clear hv
        go_wp2_with fail
        refine HIV.out.mono ?_; rintro e w4 ⟨rfl, hb4⟩
        replace p0 := keep_cell hb4 p0
        replace p1 := keep_cell hb4 p1
        replace p2 := keep_cell hb4 p2
        replace HS1 := Lib.hid (HS1.out.mono mFld hb4)
        replace HS2 := Lib.hid (HS2.out.mono mFil hb4)
        replace HB := Lib.hid (ex_trans HB.out hb4)
        clear hb4 HIV
        go_wp2_with fail
        go_loopw [4, 5] (fun s4 s5 wr => ∃ u : Nat, u ≤ 3 ∧ s5 = .int .i64 u ∧ ∃ cn : Nat, s4 = .int .i64 cn ∧ cn ≤ 13 ∧ Hid (cn = cntO fs u) ∧ Below w4.heap.size w4 wr) (fun _ u _ => 3 - (intOf u).toNat)
        case atStart => exact ⟨0, by omega, rfl, 0, rfl, by omega, Lib.hid (cntO_zero HOW.out).symm, Below.refl _ _⟩
        case round =>
          obtain ⟨u, hu3, rfl, cn, rfl, hcn, HCN, hb⟩ := hrel
          obtain ⟨W1, rfl⟩ : ∃ W1, W1 = wr := ⟨_, rfl⟩
          have HBW := Lib.hid hb
          replace p0 := keep_cell hb p0
          replace p1 := keep_cell hb p1
          replace p2 := keep_cell hb p2
          replace HS1 := Lib.hid (HS1.out.mono mFld hb)
          replace HS2 := Lib.hid (HS2.out.mono mFil hb)
          replace HB := Lib.hid (ex_trans HB.out hb)
          clear hb
          by_cases hlt : u < 3
          · have i0 : (u : Int) < 3 := by omega
            have HFU := Lib.hid (HFW.out (u : Int) W1 HS1.out HS2.out)
            have HCS := Lib.hid (cntO_succ fs u)
            have HCM := Lib.hid (cntO_le fs (u + 1))
            obtain ⟨O, hO⟩ : ∃ O, O = ownedBy fs (u : Int) := ⟨_, rfl⟩
            rw [← hO] at HCS
            have HFU2 : Hid (Calls Try.prog 19 #[.agg #[.slice A n c, .slice B m d, .int .i64 nx], .int .i64 (u : Int)] W1 (NewRow id 3 1 eInt W1 O)) := Lib.hid (by rw [hO]; exact HFU.out)
            have HOM := Lib.hid (show ∀ k (hk : k < O.length), ∃ f ∈ fs, f.owner = (u : Int) ∧ O[k] = f.id from fun k hk => by subst hO; exact ownedBy_at hk)
            obtain ⟨q, hq⟩ : ∃ q, q = O.length := ⟨_, rfl⟩
            have HQ := Lib.hid hq.symm
            have hq13 : cn + q ≤ 13 := by
              have h1 := HCS.out; have h2 := HCM.out; have h3 := HCN.out; have h4 := HLE.out
              omega
            have HCN2 := Lib.hid (show cn + q = cntO fs (u + 1) by have h1 := HCS.out; have h3 := HCN.out; omega)
            clear hO hq HFU HCS HCM
            go_wp2_with fail
            refine HFU2.out.mono (fun e w5 h => ?_)
            obtain ⟨A5, c5, rfl, hr5, hb5⟩ := NewRow.ints HQ.out h
            replace p0 := keep_cell hb5 p0
            replace p1 := keep_cell hb5 p1
            replace p2 := keep_cell hb5 p2
            replace HS1 := Lib.hid (HS1.out.mono mFld hb5)
            replace HS2 := Lib.hid (HS2.out.mono mFil hb5)
            replace HB := Lib.hid (ex_trans HB.out hb5)
            replace HBW := Lib.hid (ex_trans HBW.out hb5)
            have HR5 := Lib.hid hr5
            clear h hr5 hb5 HFU2
            go_wp2_with fail
            go_loopw [7] (fun i wr => ∃ k : Nat, k ≤ q ∧ i = .int .i64 k ∧ Below w5.heap.size w5 wr) (fun i _ => q - (intOf i).toNat)
            case atStart => exact ⟨0, Nat.zero_le _, rfl, Below.refl _ _⟩
            case round =>
              obtain ⟨k, hk, rfl, hb⟩ := hrel
              replace p0 := keep_cell hb p0
              replace p1 := keep_cell hb p1
              replace p2 := keep_cell hb p2
              replace HS1 := Lib.hid (HS1.out.mono mFld hb)
              replace HS2 := Lib.hid (HS2.out.mono mFil hb)
              by_cases hkq : k < q
              · obtain ⟨lb, lo, rfl, lbw, lc⟩ := HR5.out.int (by omega)
                have hkl : k < O.length := by have := HQ.out; omega
                have y0 := lc k hkl
                replace y0 := keep_cell hb y0
                obtain ⟨f, hf, hfo, hfi⟩ := HOM.out k hkl
                rw [hfi] at y0
                have HFX := Lib.hid fun w h1 h => HFO.out f hf w h1 h
                have hr1 : canRead f (u : Int) = true := by unfold canRead inB; simp [hfo]; omega
                have hr2 : canWrite f (u : Int) = true := by unfold canWrite inB; simp [hfo]; omega
                have HCR := Lib.hid fun (P : Option Addr) (r : Nat) w => impl_CanRead f P f.attrs.length r (u : Int) w
                have HCW := Lib.hid fun (P : Option Addr) (r : Nat) w => impl_CanWrite f P f.attrs.length r (u : Int) w
                rw [hr1] at HCR
                rw [hr2] at HCW
                have i1 : (k : Int) < (q : Int) := by omega
                have HBK := Lib.hid hb
                clear lc hkl hfi hfo hf hr1 hr2 hb
                go_upto_region 15 with fail
                go_cut [53] from 34 to 53 (fun s53 w' => s53 = .bool false ∧ Below wr.heap.size wr w')
                case first =>
                  refine wp_region_held_drew (S := (fun w' => w'.cell? ⟨g3, 0, none⟩ = some (.slice A n c) ∧ w'.cell? ⟨g3, 1, none⟩ = some (.slice B m d) ∧ w'.cell? ⟨g3, 2, none⟩ = some (.int .i64 nx) ∧ w'.cell? ⟨lb, lo + k, none⟩ = some (.int .i64 f.id) ∧ Below wr.heap.size wr w')) (by kernel_rfl) (by (try dsimp only); exact ⟨p0, p1, p2, y0, (Below.refl _ _).drew⟩) (fun hHeld => ?_)
                  first | (refine held_take 0 rfl (by kernel_rfl) (by kernel_rfl) (by kernel_rfl) (by rfl) (fun _ _ _ h => h) (by assumption) (by intro w hSw; (try dsimp only at hSw); go_simp; first | done | with_reducible rfl) ?_) | (refine held_skip 0 rfl (by kernel_rfl) (by kernel_rfl) (by kernel_rfl) (by rfl) (fun _ _ _ h => h) (by assumption) ?_)
                  simp only [Act.put, List.setIfInBounds_toArray, List.set_cons_zero, List.set_cons_succ]
                  first | (refine held_take 1 rfl (by kernel_rfl) (by kernel_rfl) (by kernel_rfl) (by rfl) (fun _ _ _ h => h) (by assumption) (by intro w hSw; (try dsimp only at hSw); go_simp; first | done | with_reducible rfl) ?_) | (refine held_skip 1 rfl (by kernel_rfl) (by kernel_rfl) (by kernel_rfl) (by rfl) (fun _ _ _ h => h) (by assumption) ?_)
                  simp only [Act.put, List.setIfInBounds_toArray, List.set_cons_zero, List.set_cons_succ]
                  first | (refine held_take 2 rfl (by kernel_rfl) (by kernel_rfl) (by kernel_rfl) (by rfl) (fun _ _ _ h => h) (by assumption) (by intro w hSw; (try dsimp only at hSw); go_simp; first | done | with_reducible rfl) ?_) | (refine held_skip 2 rfl (by kernel_rfl) (by kernel_rfl) (by kernel_rfl) (by rfl) (fun _ _ _ h => h) (by assumption) ?_)
                  simp only [Act.put, List.setIfInBounds_toArray, List.set_cons_zero, List.set_cons_succ]
                  first | (refine held_take 3 rfl (by kernel_rfl) (by kernel_rfl) (by kernel_rfl) (by rfl) (fun _ _ _ h => h) (by assumption) (by intro w hSw; (try dsimp only at hSw); go_simp; first | done | with_reducible rfl) ?_) | (refine held_skip 3 rfl (by kernel_rfl) (by kernel_rfl) (by kernel_rfl) (by rfl) (fun _ _ _ h => h) (by assumption) ?_)
                  simp only [Act.put, List.setIfInBounds_toArray, List.set_cons_zero, List.set_cons_succ]
                  first | (refine held_take 4 rfl (by kernel_rfl) (by kernel_rfl) (by kernel_rfl) (by rfl) (fun _ _ _ h => h) (by assumption) (by intro w hSw; (try dsimp only at hSw); go_simp; first | done | with_reducible rfl) ?_) | (refine held_skip 4 rfl (by kernel_rfl) (by kernel_rfl) (by kernel_rfl) (by rfl) (fun _ _ _ h => h) (by assumption) ?_)
                  simp only [Act.put, List.setIfInBounds_toArray, List.set_cons_zero, List.set_cons_succ]
                  first | (refine held_take 6 rfl (by kernel_rfl) (by kernel_rfl) (by kernel_rfl) (by rfl) (fun _ _ _ h => h) (by assumption) (by intro w hSw; (try dsimp only at hSw); go_simp; first | done | with_reducible rfl) ?_) | (refine held_skip 6 rfl (by kernel_rfl) (by kernel_rfl) (by kernel_rfl) (by rfl) (fun _ _ _ h => h) (by assumption) ?_)
                  simp only [Act.put, List.setIfInBounds_toArray, List.set_cons_zero, List.set_cons_succ]
                  refine held_one 5 (by kernel_rfl) rfl (fun K hK => ?_)
                  go_simp
                  go_at_call 21
                  refine (HFX.out _ (HS1.out.mono mFld hHeld.2.2.2.2) (HS2.out.mono mFil hHeld.2.2.2.2)).mono ?_; rintro e wq1 ⟨P1, r1, rfl, hr1, hbq1⟩
                  clear hr1
                  go_wp2_with fail
                  refine hK.out _ _ (by (try dsimp only); exact ⟨keep_cell hbq1 hHeld.1, keep_cell hbq1 hHeld.2.1, keep_cell hbq1 hHeld.2.2.1, keep_cell hbq1 hHeld.2.2.2.1, ex_trans hHeld.2.2.2.2 hbq1⟩) (fun hNew => ?_)
                  clear hK K hHeld
                  have hHeld := hNew
                  clear hNew
                  try simp only [Act.put, List.setIfInBounds_toArray, List.set_cons_zero, List.set_cons_succ]
                  refine held_one 7 (by kernel_rfl) rfl (fun K hK => ?_)
                  go_simp
                  go_at_call 20
                  refine (HCR.out P1 r1 _).mono ?_; rintro e wq2 ⟨rfl, hbq2⟩
                  go_wp2_with fail
                  refine hK.out _ _ (by (try dsimp only); exact ⟨keep_cell hbq2 hHeld.1, keep_cell hbq2 hHeld.2.1, keep_cell hbq2 hHeld.2.2.1, keep_cell hbq2 hHeld.2.2.2.1, ex_trans hHeld.2.2.2.2 hbq2⟩) (fun hNew => ?_)
                  clear hK K hHeld
                  have hHeld := hNew
                  clear hNew
                  try simp only [Act.put, List.setIfInBounds_toArray, List.set_cons_zero, List.set_cons_succ]
                  first | (refine held_take 8 rfl (by kernel_rfl) (by kernel_rfl) (by kernel_rfl) (by rfl) (fun _ _ _ h => h) (by assumption) (by intro w hSw; (try dsimp only at hSw); go_simp; first | done | with_reducible rfl) ?_) | (refine held_skip 8 rfl (by kernel_rfl) (by kernel_rfl) (by kernel_rfl) (by rfl) (fun _ _ _ h => h) (by assumption) ?_)
                  simp only [Act.put, List.setIfInBounds_toArray, List.set_cons_zero, List.set_cons_succ]
                  first | (refine held_take 9 rfl (by kernel_rfl) (by kernel_rfl) (by kernel_rfl) (by rfl) (fun _ _ _ h => h) (by assumption) (by intro w hSw; (try dsimp only at hSw); go_simp; first | done | with_reducible rfl) ?_) | (refine held_skip 9 rfl (by kernel_rfl) (by kernel_rfl) (by kernel_rfl) (by rfl) (fun _ _ _ h => h) (by assumption) ?_)
                  simp only [Act.put, List.setIfInBounds_toArray, List.set_cons_zero, List.set_cons_succ]
                  first | (refine held_take 10 rfl (by kernel_rfl) (by kernel_rfl) (by kernel_rfl) (by rfl) (fun _ _ _ h => h) (by assumption) (by intro w hSw; (try dsimp only at hSw); go_simp; first | done | with_reducible rfl) ?_) | (refine held_skip 10 rfl (by kernel_rfl) (by kernel_rfl) (by kernel_rfl) (by rfl) (fun _ _ _ h => h) (by assumption) ?_)
                  simp only [Act.put, List.setIfInBounds_toArray, List.set_cons_zero, List.set_cons_succ]
                  first | (refine held_take 11 rfl (by kernel_rfl) (by kernel_rfl) (by kernel_rfl) (by rfl) (fun _ _ _ h => h) (by assumption) (by intro w hSw; (try dsimp only at hSw); go_simp; first | done | with_reducible rfl) ?_) | (refine held_skip 11 rfl (by kernel_rfl) (by kernel_rfl) (by kernel_rfl) (by rfl) (fun _ _ _ h => h) (by assumption) ?_)
                  simp only [Act.put, List.setIfInBounds_toArray, List.set_cons_zero, List.set_cons_succ]
                  first | (refine held_take 12 rfl (by kernel_rfl) (by kernel_rfl) (by kernel_rfl) (by rfl) (fun _ _ _ h => h) (by assumption) (by intro w hSw; (try dsimp only at hSw); go_simp; first | done | with_reducible rfl) ?_) | (refine held_skip 12 rfl (by kernel_rfl) (by kernel_rfl) (by kernel_rfl) (by rfl) (fun _ _ _ h => h) (by assumption) ?_)
                  simp only [Act.put, List.setIfInBounds_toArray, List.set_cons_zero, List.set_cons_succ]
                  first | (refine held_take 13 rfl (by kernel_rfl) (by kernel_rfl) (by kernel_rfl) (by rfl) (fun _ _ _ h => h) (by assumption) (by intro w hSw; (try dsimp only at hSw); go_simp; first | done | with_reducible rfl) ?_) | (refine held_skip 13 rfl (by kernel_rfl) (by kernel_rfl) (by kernel_rfl) (by rfl) (fun _ _ _ h => h) (by assumption) ?_)
                  simp only [Act.put, List.setIfInBounds_toArray, List.set_cons_zero, List.set_cons_succ]
                  first | (refine held_take 14 rfl (by kernel_rfl) (by kernel_rfl) (by kernel_rfl) (by rfl) (fun _ _ _ h => h) (by assumption) (by intro w hSw; (try dsimp only at hSw); go_simp; first | done | with_reducible rfl) ?_) | (refine held_skip 14 rfl (by kernel_rfl) (by kernel_rfl) (by kernel_rfl) (by rfl) (fun _ _ _ h => h) (by assumption) ?_)
                  simp only [Act.put, List.setIfInBounds_toArray, List.set_cons_zero, List.set_cons_succ]
                  first | (refine held_take 16 rfl (by kernel_rfl) (by kernel_rfl) (by kernel_rfl) (by rfl) (fun _ _ _ h => h) (by assumption) (by intro w hSw; (try dsimp only at hSw); go_simp; first | done | with_reducible rfl) ?_) | (refine held_skip 16 rfl (by kernel_rfl) (by kernel_rfl) (by kernel_rfl) (by rfl) (fun _ _ _ h => h) (by assumption) ?_)
                  simp only [Act.put, List.setIfInBounds_toArray, List.set_cons_zero, List.set_cons_succ]
                  refine held_one 15 (by kernel_rfl) rfl (fun K hK => ?_)
                  go_simp
                  go_at_call 21
                  refine (HFX.out _ (HS1.out.mono mFld hHeld.2.2.2.2) (HS2.out.mono mFil hHeld.2.2.2.2)).mono ?_; rintro e wq3 ⟨P3, r3, rfl, hr3, hbq3⟩
                  clear hr3
                  go_wp2_with fail
                  refine hK.out _ _ (by (try dsimp only); exact ⟨keep_cell hbq3 hHeld.1, keep_cell hbq3 hHeld.2.1, keep_cell hbq3 hHeld.2.2.1, keep_cell hbq3 hHeld.2.2.2.1, ex_trans hHeld.2.2.2.2 hbq3⟩) (fun hNew => ?_)
                  clear hK K hHeld
                  have hHeld := hNew
                  clear hNew
                  try simp only [Act.put, List.setIfInBounds_toArray, List.set_cons_zero, List.set_cons_succ]
                  refine held_one 17 (by kernel_rfl) rfl (fun K hK => ?_)
                  go_simp
                  go_at_call 18
                  refine (HCW.out P3 r3 _).mono ?_; rintro e wq4 ⟨rfl, hbq4⟩
                  go_wp2_with fail
                  refine hK.out _ _ (by (try dsimp only); exact ⟨keep_cell hbq4 hHeld.1, keep_cell hbq4 hHeld.2.1, keep_cell hbq4 hHeld.2.2.1, keep_cell hbq4 hHeld.2.2.2.1, ex_trans hHeld.2.2.2.2 hbq4⟩) (fun hNew => ?_)
                  clear hK K hHeld
                  have hHeld := hNew
                  clear hNew
                  try simp only [Act.put, List.setIfInBounds_toArray, List.set_cons_zero, List.set_cons_succ]
                  first | (refine held_take 18 rfl (by kernel_rfl) (by kernel_rfl) (by kernel_rfl) (by rfl) (fun _ _ _ h => h) (by assumption) (by intro w hSw; (try dsimp only at hSw); go_simp; first | done | with_reducible rfl) ?_) | (refine held_skip 18 rfl (by kernel_rfl) (by kernel_rfl) (by kernel_rfl) (by rfl) (fun _ _ _ h => h) (by assumption) ?_)
                  simp only [Act.put, List.setIfInBounds_toArray, List.set_cons_zero, List.set_cons_succ]
                  first | (refine held_take 19 rfl (by kernel_rfl) (by kernel_rfl) (by kernel_rfl) (by rfl) (fun _ _ _ h => h) (by assumption) (by intro w hSw; (try dsimp only at hSw); go_simp; first | done | with_reducible rfl) ?_) | (refine held_skip 19 rfl (by kernel_rfl) (by kernel_rfl) (by kernel_rfl) (by rfl) (fun _ _ _ h => h) (by assumption) ?_)
                  simp only [Act.put, List.setIfInBounds_toArray, List.set_cons_zero, List.set_cons_succ]
                  refine wpAnyH_done (by kernel_rfl) ?_ _
                  have hB := hHeld.2.2.2.2
                  clear hHeld
                  go_wp2_with fail
                  go_meet
                  exact ⟨rfl, hB⟩
                case rest =>
                  generalize wc = W15 at *
                  obtain ⟨rfl, hK⟩ := hcut
                  have HZ := Lib.hid (ex_trans HBK.out hK)
                  clear HBK hK
                  go_wp2_with fail
                  go_roundw
                  case rel => exact ⟨k + 1, by omega, by go_num, HZ.out⟩
                  case measure => simp [intOf]; omega
              · obtain rfl : q = k := by omega
                have i1 : ¬ ((q : Int) < (q : Int)) := by omega
                have HZ := Lib.hid (ex_trans HBW.out hb)
                clear hb
                go_wp2_with fail
                go_roundw
                case rel => exact ⟨u + 1, by omega, by go_num, cn + q, by go_num, by omega, HCN2, HZ.out⟩
                case measure => simp [intOf]; omega
          · obtain rfl : u = 3 := by omega
            have hcm : cn = m := by rw [HCN.out, cntO_all HOW.out]; exact HLE.out
            subst hcm
            clear hlt HBW HCN
            go_wp2_with fail
            go_returns
            exact ⟨rfl, HB.out⟩
  · go_enter Try.func4, Try.ntmps4
    go_wp2_with fail
    refine (laws_big_t A0 n0 c0 _ (by omega)).mono ?_; rintro e w0 ⟨rfl, rfl⟩
    go_wp2_with fail
    go_returns
    exact ⟨rfl, Below.refl _ _⟩
theorem core_FnOwners {H : Type} (enc : TypeId × Value → H) (W : World) (base : Nat) (args : Array Value) (ds : List (DataW H)) (p : List MemPlace)
    (hA : DataW.TrodAll enc Try.prog W 0 (fun _ => true) true Try.f4.params.toList args.toList ds p)
    (hval : ∀ (j : Nat) t v, Try.f4.params[j]? = some t → args[j]? = some v → Value.okWide Try.prog W .any base t v) :
    Calls Try.prog 4 args W fun e W' => e = .returned (.bool true) ∧ Below W.heap.size W W' := by
  rw [Try.params4] at hA hval
  obtain ⟨u0, vs0, d0, ds0, p0, q0, hargs, rfl, rfl, h0, r0⟩ := trodAll_cons hA
  obtain ⟨rfl, rfl, rfl⟩ := trodAll_nil r0
  obtain rfl : args = #[u0] := by cases args; simp_all
  obtain ⟨ad0, ln0, cp0, rfl⟩ := okWide_slice Try.underlying22 (hval 0 22 u0 rfl rfl)
  obtain ⟨fu0, g0⟩ := h0
  obtain ⟨A0, n0, c0, l0, e0, hn0, _, hS0, hl0⟩ := opens_slice Try.underlying22 (by omega) Op_byt g0
  simp only [Value.cells, List.cons.injEq, Value.slice.injEq, and_true] at e0
  obtain ⟨rfl, rfl, rfl⟩ := e0
  exact walk_FnOwners W ad0 ln0 cp0 l0 hS0 hn0 hl0
set_option maxRecDepth 100000 in
theorem lifted_FnOwners (os : Os) (started : os.Started) (H : Type) (enc : TypeId × Value → H) :
    ReturnsInHanded {} Try.checked os 4 .any (Rows.fnOwnersSpec.pre6 enc Try.prog Try.f4 Rows.fnOwnersRow.domain false) (Rows.fnOwnersSpec.post enc Try.prog Try.f4 false true false false) :=
  law_lifted (C := Try.checked) (tb := 4) (n := 1) own started (by kernel_rfl) Try.func4 rfl (by kernel_rfl) Try.underlying4 (by kernel_rfl)
    (fun ds h => by match ds, h with | [_], _ => rfl) laidOut' (by kernel_rfl)
    (ChangeSpec.witness6 (enc := enc) (C := Try.checked) false ⟨#[], #[.slice none 0 0], []⟩ 8 (by kernel_rfl) (by kernel_rfl) (by kernel_rfl) (by kernel_rfl))
    (fun W base args ds p hA hval => core_FnOwners enc W base args ds p hA hval)
theorem holds_FnOwners : Rows.FnOwnersSaid :=
  OpenClaim.holds_of_wide 4 Try.f4 rfl rfl rfl rfl rfl rfl rfl ⟨rfl, rfl, rfl, rfl, rfl⟩ rfl rfl rfl rfl rfl (by kernel_rfl) Try.func4 (by kernel_rfl)
    (of_decide_eq_true (by kernel_rfl)) (by unfold Func.isWrapper; first | (rw [if_pos (by decide +kernel)]; kernel_rfl) | (rw [if_neg (by decide +kernel)]; exact ⟨rfl, rfl⟩))
    (fun os started H enc _ => lifted_FnOwners os started H enc)
end Go.Proofs.Ytjobgnioehkomaa
