/-
  FnIndexIncremental RETURNS true AND LEAVES ITS ARGUMENTS AS THEY WERE, FOR EVERY INPUT THAT THE STATEMENT SPEAKS OF. No condition.
-/
import Derived.WalkKit
import Derived.ProofKit
import Derived.OpenShut
import Derived.Handy
import Derived.Lib.Hide
import Derived.Deep.QuietTactic
import Derived.BigQuiet
import Derived.Deep.RegionHeld3
import Derived.Deep.DeepCutAuto
import Derived.Test.YtjobgnioehkomaaLib
import Derived.Test.YtjobgnioehkomaaOp
import Derived.Test.YtjobgnioehkomaaC1
import Derived.Test.YtjobgnioehkomaaC2
import Derived.Test.YtjobgnioehkomaaC4
import Derived.Test.YtjobgnioehkomaaOwn
import Derived.Test.YtjobgnioehkomaaRow
import Derived.Test.YtjobgnioehkomaaN0
import Derived.Test.YtjobgnioehkomaaRaw
import Derived.Test.YtjobgnioehkomaaHld
import Derived.Test.YtjobgnioehkomaaD1
import Derived.Test.YtjobgnioehkomaaD3
import Derived.Test.YtjobgnioehkomaaD4
import Derived.Test.YtjobgnioehkomaaD5
import Derived.Test.YtjobgnioehkomaaD7
import Derived.Test.YtjobgnioehkomaaE4
import Derived.Test.YtjobgnioehkomaaH1
import Derived.Test.YtjobgnioehkomaaI1
import Derived.Test.YtjobgnioehkomaaI2
import Derived.Test.YtjobgnioehkomaaD8
import Derived.Test.YtjobgnioehkomaaSz
import Derived.Test.YtjobgnioehkomaaT1
import Derived.Test.YtjobgnioehkomaaT2
import Derived.Test.YtjobgnioehkomaaT3
import Derived.Test.YtjobgnioehkomaaT4
import Derived.Test.YtjobgnioehkomaaC3
import Derived.Test.YtjobgnioehkomaaC5
import Derived.Test.YtjobgnioehkomaaC8
import Derived.Test.YtjobgnioehkomaaHl2
import Derived.Test.YtjobgnioehkomaaM2
import Derived.Test.YtjobgnioehkomaaY1
import Derived.Test.YtjobgnioehkomaaY2
import Derived.Test.YtjobgnioehkomaaZ1
import Derived.Test.YtjobgnioehkomaaZ3
import Derived.Test.YtjobgnioehkomaaZ4
import Derived.Test.YtjobgnioehkomaaE3
import Derived.Test.YtjobgnioehkomaaE5
import Derived.Test.YtjobgnioehkomaaE6
import Derived.Test.YtjobgnioehkomaaE7
import Derived.Test.YtjobgnioehkomaaE9
import Derived.Test.YtjobgnioehkomaaPZ
import Derived.Test.YtjobgnioehkomaaQ0
import Derived.Test.YtjobgnioehkomaaQ2
import Derived.Test.YtjobgnioehkomaaQ3
import Derived.Test.YtjobgnioehkomaaQ5
import Derived.Test.YtjobgnioehkomaaQ6
import Derived.Test.YtjobgnioehkomaaQ7
import Derived.Test.YtjobgnioehkomaaPI
import Derived.Test.YtjobgnioehkomaaRows
namespace Go.Proofs.Ytjobgnioehkomaa
open Go.RowKit Go.ChangeShapes Go.WideShapes Go.ChangeAt Go.ChangeMaps
set_option linter.unusedVariables false
set_option maxRecDepth 100000
section
variable {P : Program} {L : List Oper} {Q : Exit → Act → World → Prop} {md : Region.Mode} {S : World → Prop}
private theorem tkA (i : Nat) {oi : Oper} {tl : List Oper} {v : Value} {fuel : Nat} {listed : Array Bool} {a : Act} {w : World}
    (h : wpAnyH P md L.toArray Q S fuel (listed.setIfInBounds i true) (a.put oi.dst v) w) (hd : L.drop i = oi :: tl := by exact rfl)
    (hs : Region.noSelect L.toArray = true := by kernel_rfl) (hf : Region.free md L.toArray listed i = true := by kernel_rfl) (hr : (Region.ready md L.toArray listed).contains i = true := by kernel_rfl)
    (hw : Region.wanted oi (yielded L.toArray a.tmps) = true := by rfl) (hQ : ∀ c a w, Q (.panic c) (a.put oi.dst v) w → Q (.panic c) a w := by exact fun _ _ _ h => h) (hS : S w := by assumption)
    (hy : ∀ w, S w → (execOp a.eval oi).run P w = .ok (.value v) w := by intro w hSw; (try dsimp only at hSw); go_simp; first | done | with_reducible rfl) : wpAnyH P md L.toArray Q S (fuel + 1) listed a w :=
  held_take i hd hs hf hr hw hQ hS hy h
private theorem skA (i : Nat) {oi : Oper} {tl : List Oper} {fuel : Nat} {listed : Array Bool} {a : Act} {w : World}
    (h : wpAnyH P md L.toArray Q S fuel (listed.setIfInBounds i true) (a.put oi.dst undef) w) (hd : L.drop i = oi :: tl := by exact rfl)
    (hs : Region.noSelect L.toArray = true := by kernel_rfl) (hf : Region.free md L.toArray listed i = true := by kernel_rfl) (hr : (Region.ready md L.toArray listed).contains i = true := by kernel_rfl)
    (hw : Region.wanted oi (yielded L.toArray a.tmps) = false := by rfl) (hQ : ∀ c a w, Q (.panic c) (a.put oi.dst undef) w → Q (.panic c) a w := by exact fun _ _ _ h => h) (hS : S w := by assumption) : wpAnyH P md L.toArray Q S (fuel + 1) listed a w :=
  held_skip i hd hs hf hr hw hQ hS h
end
theorem NewPsts.read {w w' : World} {l : List Pst} {en : Ending} (h : NewPsts 107 3 w l en w') : ∃ A q c, en = .returned (.slice A q c) ∧ Sl 5 RPst w' A q l ∧ Below w.heap.size w w' := by
  obtain ⟨A, c, h1, h2, h3⟩ := h
  exact ⟨A, _, c, h1, h2.sl, h3⟩
theorem psts_big {M : Nat} {l : List Pst} (h : Wide M l) (hM : M ≤ 1073741824) (hn : Nms 16 l) : l.length ≤ 1073741824 ∧ ∀ p ∈ l, p.ok 1073741824 :=
  ⟨Nat.le_trans h.1 hM, fun p hp => ⟨Nat.le_trans (hn p hp).1 (by omega), Nat.le_trans (hn p hp).2 (by omega), Nat.le_trans (h.2.1 p hp) hM⟩⟩
theorem mem_cnt {l : List Pst} {p : Pst} (h : p ∈ l) : p.ids.length ≤ (l.map (·.cnt)).sum := by
  induction l with
  | nil => cases h
  | cons x l ih =>
    rw [List.map_cons, List.sum_cons]
    rcases List.mem_cons.1 h with rfl | h
    · have : p.cnt = p.ids.length := rfl
      omega
    · have := ih h; omega
theorem remX_wide {M : Nat} {l : List Pst} {f : Fil} (h : Wide M l) : Wide M (remX l f) :=
  ⟨Nat.le_trans (remX_len l f) h.1, fun p hp => Nat.le_trans (mem_cnt hp) (Nat.le_trans (remX_cnt l f) h.2.2), Nat.le_trans (remX_cnt l f) h.2.2⟩
theorem posts_self (A : Option Addr) (n c : Nat) (B : Option Addr) (m d : Nat) (l : List Pst) (w : World) (hl : l.length ≤ 1073741824 ∧ ∀ p ∈ l, p.ok 1073741824) (hS : Sl 5 RPst w A n l) (hT : Sl 5 RPst w B m l) :
    Calls Try.prog 37 #[.slice A n c, .slice B m d] w fun e w' => e = .returned (.bool true) ∧ Below w.heap.size w w' := by
  have h := laws_samePostings A n c l B m d l w hS hT (by have := hS.len; have := hl.1; omega) (by have := hT.len; have := hl.1; omega) hl.2 hl.2
  have e : eqL Pst.eqb l l = true := (eqL_iff (f := Pst.eqb) (fun a b => Pst.eqb_iff)).2 rfl
  rw [e] at h
  exact h
def OkF6 (f : Fil) : Prop := f.attrs.length ≤ 6 ∧ smallA f.attrs
theorem sum_le6 : ∀ l : List Fil, (∀ f ∈ l, OkF6 f) → (l.map (·.attrs.length)).sum ≤ 6 * l.length
  | [], _ => by simp
  | f :: l, h => by
    have h1 := sum_le6 l fun g hg => h g (List.mem_cons_of_mem _ hg)
    have h2 := (h f (List.mem_cons_self ..)).1
    simp only [List.map_cons, List.sum_cons, List.length_cons]
    omega
theorem bld_big {fs : List Fil} {nx : Int} (h : ∀ f ∈ fs, OkF6 f) (hl : fs.length ≤ 12) : (bldX ⟨usualL, fs, nx⟩).length ≤ 1073741824 ∧ ∀ p ∈ bldX ⟨usualL, fs, nx⟩, p.ok 1073741824 := by
  have h1 : Wide 72 (bldX ⟨usualL, fs, nx⟩) := (bldX_wide ⟨usualL, fs, nx⟩).le (Nat.le_trans (sum_le6 fs h) (by omega))
  exact psts_big h1 (by omega) (foldX_nms fs [] (fun p hp => by cases hp) fun f hf => ⟨by have := (h f hf).1; omega, fun a ha => (h f hf).2 a ha⟩)
theorem set_valid {o : Fil} {nm : ByteArray} {v : Vl} (h : validF usualL o = true) (hm : matchF usualL nm v = true) : validF usualL (setA o nm v) = true := by
  unfold validF at h ⊢
  rw [Bool.and_eq_true] at h ⊢
  exact ⟨validA_set h.1 hm, h.2⟩
theorem rep_turn {fs : List Fil} {m : Nat} {nx : Int} (hG : StoG fs m nx) {k : Nat} (hk : k < fs.length) {o x : Fil} (ho : o = fs[k]) (hid : x.id = o.id) (hv : validF usualL x = true) : repOk ⟨usualL, fs, nx⟩ x = true ∧ repS ⟨usualL, fs, nx⟩ x = ⟨usualL, fs.set k x, nx⟩ := by
  have hp : fs.Pairwise (fun f g : Fil => f.id < g.id) := (validS_iff.1 hG.2.1).1.2
  have hat : atId x.id fs[k] = true := by unfold atId; rw [hid, ho]; simp
  have h1 : repOk ⟨usualL, fs, nx⟩ x = true := by
    unfold repOk hasFil
    rw [hG.2.1, hv]
    simp only [Bool.true_and, Bool.and_true, List.any_eq_true]
    exact ⟨fs[k], List.getElem_mem hk, hat⟩
  refine ⟨h1, ?_⟩
  have h2 : fs.findIdx (atId x.id) = k := by
    rw [List.findIdx_eq hk]
    refine ⟨hat, fun j hj => ?_⟩
    have := List.pairwise_iff_getElem.1 hp j k (by omega) hk hj
    unfold atId
    rw [hid, ho]
    simp; omega
  unfold repS
  rw [if_pos h1]
  simp only [h2]
abbrev put5L (w : World) (r : Nat) (f : Fil) (A : Option Addr) (n c : Nat) : World := World.setCell (World.setCell (World.setCell (World.setCell (World.setCell w ⟨r, 0, none⟩ (.int .i64 f.id)) ⟨r, 1, none⟩ (.int .i64 f.owner)) ⟨r, 2, none⟩ (.bool f.shared)) ⟨r, 3, none⟩ (.int .i64 f.link)) ⟨r, 4, none⟩ (.slice A n c)
theorem put5_chgL (w : World) (r : Nat) (f : Fil) (A : Option Addr) (n c : Nat) : Chg [r] w (put5L w r f A n c) :=
  ((((((Chg.refl [r] w).set (by simp) _).set (by simp) _).set (by simp) _).set (by simp) _).set (by simp) _)
theorem put5_blkL {w : World} {r : Nat} (h : w.heap[r]? = some (.cells #[.int .i64 0, .int .i64 0, .bool false, .int .i64 0, .slice none 0 0] 28 (0, 0))) (f : Fil) (A : Option Addr) (n c : Nat) : (put5L w r f A n c).heap[r]? = some (.cells #[.int .i64 f.id, .int .i64 f.owner, .bool f.shared, .int .i64 f.link, .slice A n c] 28 (0, 0)) := by
  have h1 := blk_set (blk_set (blk_set (blk_set (blk_set h 0 (.int .i64 f.id)) 1 (.int .i64 f.owner)) 2 (.bool f.shared)) 3 (.int .i64 f.link)) 4 (.slice A n c)
  simpa using h1
set_option maxHeartbeats 8000000 in
theorem walk_FnIndexIncremental (W : World) (A0 : Option Addr) (n0 c0 : Nat) (l0 : List Int) (hS0 : Sl 1 RByt W A0 n0 l0) (hn0 : n0 ≤ maxLen) (hl0 : ∀ y ∈ l0, 0 ≤ y ∧ y ≤ 255) : Calls Try.prog 7 #[.slice A0 n0 c0] W fun e w' => e = .returned (.bool true) ∧ Below W.heap.size W w' := by
  by_cases hc : n0 ≤ 1048576
  · have HD1 := Lib.hid (spec_DrawAddToIndex A0 n0 c0 l0 W hS0 hc hl0)
    have HD2 := Lib.hid fun w' (hb : Below W.heap.size W w') => spec_DrawRemoveFromIndex A0 n0 c0 l0 w' (hS0.mono mByt hb) hc hl0
    have HD3 := Lib.hid fun w' (hb : Below W.heap.size W w') => spec_DrawEqualIndexes A0 n0 c0 l0 w' (hS0.mono mByt hb) hc hl0
    have HD4 := Lib.hid fun w' (hb : Below W.heap.size W w') => spec_DrawBuildIndex A0 n0 c0 l0 w' (hS0.mono mByt hb) hc hl0
    have HD5 := Lib.hid fun w' (hb : Below W.heap.size W w') => spec_DrawPlaces A0 n0 c0 l0 w' (hS0.mono mByt hb) hc hl0
    clear hS0 hl0
    go_enter Try.func7, Try.ntmps7
    go_wp2_with fail
    refine (laws_big_f A0 n0 c0 _ hc).mono ?_; rintro e w0 ⟨rfl, rfl⟩
    have HB := Lib.hid (Below.refl W.heap.size W)
    go_upto_region 3 with fail
    go_cut [3, 4] from 18 to 22 (fun sa sb w' => ∃ (X1 : List Pst) (P1 : Option Addr) (n1 c1 : Nat) (f : Fil) (A1 : Option Addr) (q1 r1 : Nat) (g1 : Nat), sa = .slice P1 n1 c1 ∧ sb = .pointer (some ⟨g1, 0, none⟩) ∧ w'.cell? ⟨g1, 0, none⟩ = some (.int .i64 f.id) ∧ w'.cell? ⟨g1, 1, none⟩ = some (.int .i64 f.owner) ∧ w'.cell? ⟨g1, 2, none⟩ = some (.bool f.shared) ∧ w'.cell? ⟨g1, 3, none⟩ = some (.int .i64 f.link) ∧ w'.cell? ⟨g1, 4, none⟩ = some (.slice A1 q1 r1) ∧ Sl 5 RPst w' P1 n1 X1 ∧ Wide 60 X1 ∧ Nms 16 X1 ∧ Sl 4 RAtr w' A1 q1 f.attrs ∧ OkF f ∧ Below W.heap.size W w')
    case first =>
      go_wp2_with fail
      refine (HD1.out).mono ?_; rintro e w1 ⟨fs, m, nx, P, pn, pc, f, A, q, r, hG, rfl, hp, hr, hof, hb1⟩
      have HX := Lib.hid (And.intro hp.sl (And.intro (hr.sl (R := RAtr) encAtr (fun _ => rfl)) hb1))
      have HW := Lib.hid (And.intro hG.wide hG.nms)
      generalize bldX ⟨usualL, fs, nx⟩ = X at *
      clear hp hr hb1 hG HD1 HD2 HD3 HD4 HD5
      go_wp2_with fail
      go_meet
      exact ⟨X, P, pn, pc, f, A, q, r, w1.heap.size, rfl, rfl, by go_simp, by go_simp, by go_simp, by go_simp, by go_simp, HX.out.1.mono mPst (by go_grown), HW.out.1, HW.out.2, HX.out.2.1.mono mAtr (by go_grown), hof, ex_trans HX.out.2.2 (by go_grown)⟩
    case rest =>
      generalize wc = W3 at *
      obtain ⟨X1, P1, n1, c1, f, A1, q1, r1, g1, rfl, rfl, p0, p1, p2, p3, p4, hX, hw, hn, hA, hof, hK⟩ := hcut
      replace HB := Lib.hid (ex_trans HB.out hK)
      clear hK
      have HX1 := Lib.hid hX
      have HA1 := Lib.hid hA
      have HW1 := Lib.hid (And.intro hw hn)
      have HO1 := Lib.hid hof
      have hn1 : n1 ≤ 60 := by have h1 := hX.len; have h2 := hw.1; omega
      have hq1 : q1 ≤ 5 := by have h1 := hA.len; have h2 := hof.1; omega
      clear hX hw hn hA hof
      go_upto_region 4 with fail
      go_cut [5, 6] from 23 to 27 (fun sa sb w' => ∃ (X2 : List Pst) (P2 : Option Addr) (n2 c2 : Nat) (z : Fil) (A2 : Option Addr) (q2 r2 : Nat) (g2 : Nat), sa = .slice P2 n2 c2 ∧ sb = .pointer (some ⟨g2, 0, none⟩) ∧ w'.cell? ⟨g2, 0, none⟩ = some (.int .i64 z.id) ∧ w'.cell? ⟨g2, 1, none⟩ = some (.int .i64 z.owner) ∧ w'.cell? ⟨g2, 2, none⟩ = some (.bool z.shared) ∧ w'.cell? ⟨g2, 3, none⟩ = some (.int .i64 z.link) ∧ w'.cell? ⟨g2, 4, none⟩ = some (.slice A2 q2 r2) ∧ Sl 5 RPst w' P2 n2 X2 ∧ Wide 60 X2 ∧ Nms 16 X2 ∧ Sl 4 RAtr w' A2 q2 z.attrs ∧ OkF z ∧ Below W3.heap.size W3 w')
      case first =>
        go_wp2_with fail
        refine (HD2.out _ HB.out).mono ?_; rintro e w1 ⟨fs, m, nx, P, pn, pc, f, A, q, r, hG, rfl, hp, hr, hof, hb1⟩
        have HX := Lib.hid (And.intro hp.sl (And.intro (hr.sl (R := RAtr) encAtr (fun _ => rfl)) hb1))
        have HW := Lib.hid (And.intro hG.wide hG.nms)
        generalize bldX ⟨usualL, fs, nx⟩ = X at *
        clear hp hr hb1 hG HD1 HD2 HD3 HD4 HD5 p0 p1 p2 p3 p4
        go_wp2_with fail
        go_meet
        exact ⟨X, P, pn, pc, f, A, q, r, w1.heap.size, rfl, rfl, by go_simp, by go_simp, by go_simp, by go_simp, by go_simp, HX.out.1.mono mPst (by go_grown), HW.out.1, HW.out.2, HX.out.2.1.mono mAtr (by go_grown), hof, ex_trans HX.out.2.2 (by go_grown)⟩
      case rest =>
        generalize wc = W4 at *
        obtain ⟨X2, P2, n2, c2, z, A2, q2, r2, g2, rfl, rfl, t0, t1, t2, t3, t4, hX, hw, hn, hA, hof, hK⟩ := hcut
        replace HB := Lib.hid (ex_trans HB.out hK)
        replace p0 := keep_cell hK p0
        replace p1 := keep_cell hK p1
        replace p2 := keep_cell hK p2
        replace p3 := keep_cell hK p3
        replace p4 := keep_cell hK p4
        replace HX1 := Lib.hid (HX1.out.mono mPst hK)
        replace HA1 := Lib.hid (HA1.out.mono mAtr hK)
        clear hK
        have HX2 := Lib.hid hX
        have HA2 := Lib.hid hA
        have HW2 := Lib.hid (And.intro hw hn)
        have HO2 := Lib.hid hof
        have hn2 : n2 ≤ 60 := by have h1 := hX.len; have h2 := hw.1; omega
        have hq2 : q2 ≤ 5 := by have h1 := hA.len; have h2 := hof.1; omega
        clear hX hw hn hA hof
        have HAI := Lib.hid fun w (h1 : Sl 5 RPst w P1 n1 X1) (h2 : Sl 4 RAtr w A1 q1 f.attrs) => (impl_AddToIndex 60 P1 n1 c1 X1 f A1 q1 r1 w h1 h2 HW1.out.1 (by omega)).mono (fun e w2 h => NewPsts.read h)
        have HAS := Lib.hid fun w (h1 : Sl 5 RPst w P1 n1 X1) (h2 : Sl 4 RAtr w A1 q1 f.attrs) => (spec_AddToIndex 60 P1 n1 c1 X1 f A1 q1 r1 w h1 h2 HW1.out.1 (by omega)).mono (fun e w2 h => NewPsts.read h)
        have HY1 := Lib.hid (psts_big (addX_wide (f := f) HW1.out.1) (by have h1 := HO1.out.1; omega) (addX_nms HW1.out.2 HO1.out.ok16))
        have HRI := Lib.hid fun w (h1 : Sl 5 RPst w P2 n2 X2) (h2 : Sl 4 RAtr w A2 q2 z.attrs) => (impl_RemoveFromIndex P2 n2 c2 X2 z A2 q2 r2 w h1 h2 (by omega) (by omega) (fun p hp => Nat.le_trans (HW2.out.1.2.1 p hp) (by omega))).mono (fun e w2 h => NewPsts.read h)
        have HRS := Lib.hid fun w (h1 : Sl 5 RPst w P2 n2 X2) (h2 : Sl 4 RAtr w A2 q2 z.attrs) => (spec_RemoveFromIndex P2 n2 c2 X2 z A2 q2 r2 w h1 h2 (by omega) (by omega) (fun p hp => Nat.le_trans (HW2.out.1.2.1 p hp) (by omega))).mono (fun e w2 h => NewPsts.read h)
        have HY2 := Lib.hid (show (remX X2 z).length ≤ 1073741824 ∧ ∀ p ∈ remX X2 z, p.ok 1073741824 from ⟨Nat.le_trans (remX_len X2 z) (Nat.le_trans HW2.out.1.1 (by omega)), remX_ok (psts_big HW2.out.1 (by omega) HW2.out.2).2⟩)
        generalize addX X1 f = Y1 at *
        generalize remX X2 z = Y2 at *
        clear HW1 HW2 HO1 HO2
        go_upto_region 5 with fail
        go_cut [7, 8] from 28 to 32 (fun sa sb w' => ∃ (X3 : List Pst) (P3 : Option Addr) (n3 c3 : Nat) (X4 : List Pst) (P4 : Option Addr) (n4 c4 : Nat), sa = .slice P3 n3 c3 ∧ sb = .slice P4 n4 c4 ∧ Sl 5 RPst w' P3 n3 X3 ∧ Sl 5 RPst w' P4 n4 X4 ∧ Wide 60 X3 ∧ Nms 16 X3 ∧ Wide 60 X4 ∧ Nms 16 X4 ∧ Below W4.heap.size W4 w')
        case first =>
          go_wp2_with fail
          refine (HD3.out _ HB.out).mono ?_; rintro e w1 ⟨fs, m, nx, P, pn, pc, fs2, m2, nx2, P', pn', pc', hG, hG2, rfl, hp, hp2, hb1⟩
          have HX := Lib.hid (And.intro hp (And.intro hp2 hb1))
          have HW := Lib.hid (And.intro hG.wide hG.nms)
          have HW' := Lib.hid (And.intro hG2.wide hG2.nms)
          generalize bldX ⟨usualL, fs, nx⟩ = X at *
          generalize bldX ⟨usualL, fs2, nx2⟩ = X' at *
          clear hp hp2 hb1 hG hG2
          go_wp2_with fail
          go_meet
          exact ⟨X, P, pn, pc, X', P', pn', pc', rfl, rfl, HX.out.1, HX.out.2.1, HW.out.1, HW.out.2, HW'.out.1, HW'.out.2, HX.out.2.2⟩
        case rest =>
          generalize wc = W5 at *
          obtain ⟨X3, P3, n3, c3, X4, P4, n4, c4, rfl, rfl, hX3, hX4, hw3, hm3, hw4, hm4, hK⟩ := hcut
          replace HB := Lib.hid (ex_trans HB.out hK)
          replace p0 := keep_cell hK p0
          replace p1 := keep_cell hK p1
          replace p2 := keep_cell hK p2
          replace p3 := keep_cell hK p3
          replace p4 := keep_cell hK p4
          replace t0 := keep_cell hK t0
          replace t1 := keep_cell hK t1
          replace t2 := keep_cell hK t2
          replace t3 := keep_cell hK t3
          replace t4 := keep_cell hK t4
          replace HX1 := Lib.hid (HX1.out.mono mPst hK)
          replace HA1 := Lib.hid (HA1.out.mono mAtr hK)
          replace HX2 := Lib.hid (HX2.out.mono mPst hK)
          replace HA2 := Lib.hid (HA2.out.mono mAtr hK)
          clear hK
          have HX3 := Lib.hid hX3
          have HX4 := Lib.hid hX4
          have hn3 : n3 ≤ 60 := by have h1 := hX3.len; have h2 := hw3.1; omega
          have hn4 : n4 ≤ 60 := by have h1 := hX4.len; have h2 := hw4.1; omega
          have HK3 := Lib.hid (psts_big hw3 (by omega) hm3).2
          have HK4 := Lib.hid (psts_big hw4 (by omega) hm4).2
          have HEI := Lib.hid fun w (h1 : Sl 5 RPst w P3 n3 X3) (h2 : Sl 5 RPst w P4 n4 X4) => impl_EqualIndexes P3 n3 c3 X3 P4 n4 c4 X4 w h1 h2 (by omega) (by omega) HK3.out HK4.out
          have HSE := Lib.hid fun w (h1 : Sl 5 RPst w P3 n3 X3) (h2 : Sl 5 RPst w P4 n4 X4) => laws_samePostings P3 n3 c3 X3 P4 n4 c4 X4 w h1 h2 (by omega) (by omega) HK3.out HK4.out
          generalize eqL Pst.eqb X3 X4 = ee at *
          have hee : (ee != ee) = false := by cases ee <;> rfl
          clear hX3 hX4 hw3 hm3 hw4 hm4
          go_upto_region 6 with fail
          go_cut [59] from 33 to 59 (fun s59 w' => s59 = .bool false ∧ Below W5.heap.size W5 w')
          case first =>
            refine wp_region_held_drew (S := (fun w' => w'.cell? ⟨g1, 0, none⟩ = some (.int .i64 f.id) ∧ w'.cell? ⟨g1, 1, none⟩ = some (.int .i64 f.owner) ∧ w'.cell? ⟨g1, 2, none⟩ = some (.bool f.shared) ∧ w'.cell? ⟨g1, 3, none⟩ = some (.int .i64 f.link) ∧ w'.cell? ⟨g1, 4, none⟩ = some (.slice A1 q1 r1) ∧ w'.cell? ⟨g2, 0, none⟩ = some (.int .i64 z.id) ∧ w'.cell? ⟨g2, 1, none⟩ = some (.int .i64 z.owner) ∧ w'.cell? ⟨g2, 2, none⟩ = some (.bool z.shared) ∧ w'.cell? ⟨g2, 3, none⟩ = some (.int .i64 z.link) ∧ w'.cell? ⟨g2, 4, none⟩ = some (.slice A2 q2 r2) ∧ Below W5.heap.size W5 w')) (by kernel_rfl) (by (try dsimp only); exact ⟨p0, p1, p2, p3, p4, t0, t1, t2, t3, t4, (Below.refl _ _).drew⟩) (fun hHeld => ?_)
            first | refine tkA 0 ?_ | refine skA 0 ?_
            simp only [Act.put, List.setIfInBounds_toArray, List.set_cons_zero, List.set_cons_succ]
            first | refine tkA 1 ?_ | refine skA 1 ?_
            simp only [Act.put, List.setIfInBounds_toArray, List.set_cons_zero, List.set_cons_succ]
            first | refine tkA 3 ?_ | refine skA 3 ?_
            simp only [Act.put, List.setIfInBounds_toArray, List.set_cons_zero, List.set_cons_succ]
            first | refine tkA 4 ?_ | refine skA 4 ?_
            simp only [Act.put, List.setIfInBounds_toArray, List.set_cons_zero, List.set_cons_succ]
            refine held_one 2 (by kernel_rfl) rfl (fun K hK => ?_)
            go_simp
            go_at_call 38
            refine (HAI.out _ (HX1.out.mono mPst hHeld.2.2.2.2.2.2.2.2.2.2) (HA1.out.mono mAtr hHeld.2.2.2.2.2.2.2.2.2.2)).mono ?_; rintro e wq1 ⟨R1, o1, d1, rfl, hr1, hbq1⟩
            have HR1 := Lib.hid hr1
            clear hr1
            go_wp2_with fail
            refine hK.out _ _ (by (try dsimp only); exact ⟨keep_cell hbq1 hHeld.1, keep_cell hbq1 hHeld.2.1, keep_cell hbq1 hHeld.2.2.1, keep_cell hbq1 hHeld.2.2.2.1, keep_cell hbq1 hHeld.2.2.2.2.1, keep_cell hbq1 hHeld.2.2.2.2.2.1, keep_cell hbq1 hHeld.2.2.2.2.2.2.1, keep_cell hbq1 hHeld.2.2.2.2.2.2.2.1, keep_cell hbq1 hHeld.2.2.2.2.2.2.2.2.1, keep_cell hbq1 hHeld.2.2.2.2.2.2.2.2.2.1, ex_trans hHeld.2.2.2.2.2.2.2.2.2.2 hbq1⟩) (fun hNew => ?_)
            clear hK K hHeld
            have hHeld := hNew
            clear hNew
            try simp only [Act.put, List.setIfInBounds_toArray, List.set_cons_zero, List.set_cons_succ]
            refine held_one 5 (by kernel_rfl) rfl (fun K hK => ?_)
            go_simp
            go_at_call 39
            refine (HAS.out _ (HX1.out.mono mPst hHeld.2.2.2.2.2.2.2.2.2.2) (HA1.out.mono mAtr hHeld.2.2.2.2.2.2.2.2.2.2)).mono ?_; rintro e wq2 ⟨R2, o2, d2, rfl, hr2, hbq2⟩
            have HR2 := Lib.hid hr2
            clear hr2
            go_wp2_with fail
            refine hK.out _ _ (by (try dsimp only); exact ⟨keep_cell hbq2 hHeld.1, keep_cell hbq2 hHeld.2.1, keep_cell hbq2 hHeld.2.2.1, keep_cell hbq2 hHeld.2.2.2.1, keep_cell hbq2 hHeld.2.2.2.2.1, keep_cell hbq2 hHeld.2.2.2.2.2.1, keep_cell hbq2 hHeld.2.2.2.2.2.2.1, keep_cell hbq2 hHeld.2.2.2.2.2.2.2.1, keep_cell hbq2 hHeld.2.2.2.2.2.2.2.2.1, keep_cell hbq2 hHeld.2.2.2.2.2.2.2.2.2.1, ex_trans hHeld.2.2.2.2.2.2.2.2.2.2 hbq2⟩) (fun hNew => ?_)
            clear hK K hHeld
            have hHeld := hNew
            clear hNew
            try simp only [Act.put, List.setIfInBounds_toArray, List.set_cons_zero, List.set_cons_succ]
            refine held_one 6 (by kernel_rfl) rfl (fun K hK => ?_)
            go_simp
            go_at_call 37
            refine (posts_self R1 o1 d1 R2 o2 d2 Y1 _ HY1.out (HR1.out.mono mPst hbq2) HR2.out).mono ?_; rintro e wq3 ⟨rfl, hbq3⟩
            go_wp2_with fail
            refine hK.out _ _ (by (try dsimp only); exact ⟨keep_cell hbq3 hHeld.1, keep_cell hbq3 hHeld.2.1, keep_cell hbq3 hHeld.2.2.1, keep_cell hbq3 hHeld.2.2.2.1, keep_cell hbq3 hHeld.2.2.2.2.1, keep_cell hbq3 hHeld.2.2.2.2.2.1, keep_cell hbq3 hHeld.2.2.2.2.2.2.1, keep_cell hbq3 hHeld.2.2.2.2.2.2.2.1, keep_cell hbq3 hHeld.2.2.2.2.2.2.2.2.1, keep_cell hbq3 hHeld.2.2.2.2.2.2.2.2.2.1, ex_trans hHeld.2.2.2.2.2.2.2.2.2.2 hbq3⟩) (fun hNew => ?_)
            clear hK K hHeld
            have hHeld := hNew
            clear hNew
            try simp only [Act.put, List.setIfInBounds_toArray, List.set_cons_zero, List.set_cons_succ]
            first | refine tkA 7 ?_ | refine skA 7 ?_
            simp only [Act.put, List.setIfInBounds_toArray, List.set_cons_zero, List.set_cons_succ]
            first | refine tkA 8 ?_ | refine skA 8 ?_
            simp only [Act.put, List.setIfInBounds_toArray, List.set_cons_zero, List.set_cons_succ]
            first | refine tkA 9 ?_ | refine skA 9 ?_
            simp only [Act.put, List.setIfInBounds_toArray, List.set_cons_zero, List.set_cons_succ]
            first | refine tkA 10 ?_ | refine skA 10 ?_
            simp only [Act.put, List.setIfInBounds_toArray, List.set_cons_zero, List.set_cons_succ]
            first | refine tkA 12 ?_ | refine skA 12 ?_
            simp only [Act.put, List.setIfInBounds_toArray, List.set_cons_zero, List.set_cons_succ]
            first | refine tkA 13 ?_ | refine skA 13 ?_
            simp only [Act.put, List.setIfInBounds_toArray, List.set_cons_zero, List.set_cons_succ]
            refine held_one 11 (by kernel_rfl) rfl (fun K hK => ?_)
            go_simp
            go_at_call 40
            refine (HRI.out _ (HX2.out.mono mPst hHeld.2.2.2.2.2.2.2.2.2.2) (HA2.out.mono mAtr hHeld.2.2.2.2.2.2.2.2.2.2)).mono ?_; rintro e wq4 ⟨R4, o4, d4, rfl, hr4, hbq4⟩
            have HR4 := Lib.hid hr4
            clear hr4
            go_wp2_with fail
            refine hK.out _ _ (by (try dsimp only); exact ⟨keep_cell hbq4 hHeld.1, keep_cell hbq4 hHeld.2.1, keep_cell hbq4 hHeld.2.2.1, keep_cell hbq4 hHeld.2.2.2.1, keep_cell hbq4 hHeld.2.2.2.2.1, keep_cell hbq4 hHeld.2.2.2.2.2.1, keep_cell hbq4 hHeld.2.2.2.2.2.2.1, keep_cell hbq4 hHeld.2.2.2.2.2.2.2.1, keep_cell hbq4 hHeld.2.2.2.2.2.2.2.2.1, keep_cell hbq4 hHeld.2.2.2.2.2.2.2.2.2.1, ex_trans hHeld.2.2.2.2.2.2.2.2.2.2 hbq4⟩) (fun hNew => ?_)
            clear hK K hHeld
            have hHeld := hNew
            clear hNew
            try simp only [Act.put, List.setIfInBounds_toArray, List.set_cons_zero, List.set_cons_succ]
            refine held_one 14 (by kernel_rfl) rfl (fun K hK => ?_)
            go_simp
            go_at_call 41
            refine (HRS.out _ (HX2.out.mono mPst hHeld.2.2.2.2.2.2.2.2.2.2) (HA2.out.mono mAtr hHeld.2.2.2.2.2.2.2.2.2.2)).mono ?_; rintro e wq5 ⟨R5, o5, d5, rfl, hr5, hbq5⟩
            have HR5 := Lib.hid hr5
            clear hr5
            go_wp2_with fail
            refine hK.out _ _ (by (try dsimp only); exact ⟨keep_cell hbq5 hHeld.1, keep_cell hbq5 hHeld.2.1, keep_cell hbq5 hHeld.2.2.1, keep_cell hbq5 hHeld.2.2.2.1, keep_cell hbq5 hHeld.2.2.2.2.1, keep_cell hbq5 hHeld.2.2.2.2.2.1, keep_cell hbq5 hHeld.2.2.2.2.2.2.1, keep_cell hbq5 hHeld.2.2.2.2.2.2.2.1, keep_cell hbq5 hHeld.2.2.2.2.2.2.2.2.1, keep_cell hbq5 hHeld.2.2.2.2.2.2.2.2.2.1, ex_trans hHeld.2.2.2.2.2.2.2.2.2.2 hbq5⟩) (fun hNew => ?_)
            clear hK K hHeld
            have hHeld := hNew
            clear hNew
            try simp only [Act.put, List.setIfInBounds_toArray, List.set_cons_zero, List.set_cons_succ]
            refine held_one 15 (by kernel_rfl) rfl (fun K hK => ?_)
            go_simp
            go_at_call 37
            refine (posts_self R4 o4 d4 R5 o5 d5 Y2 _ HY2.out (HR4.out.mono mPst hbq5) HR5.out).mono ?_; rintro e wq6 ⟨rfl, hbq6⟩
            go_wp2_with fail
            refine hK.out _ _ (by (try dsimp only); exact ⟨keep_cell hbq6 hHeld.1, keep_cell hbq6 hHeld.2.1, keep_cell hbq6 hHeld.2.2.1, keep_cell hbq6 hHeld.2.2.2.1, keep_cell hbq6 hHeld.2.2.2.2.1, keep_cell hbq6 hHeld.2.2.2.2.2.1, keep_cell hbq6 hHeld.2.2.2.2.2.2.1, keep_cell hbq6 hHeld.2.2.2.2.2.2.2.1, keep_cell hbq6 hHeld.2.2.2.2.2.2.2.2.1, keep_cell hbq6 hHeld.2.2.2.2.2.2.2.2.2.1, ex_trans hHeld.2.2.2.2.2.2.2.2.2.2 hbq6⟩) (fun hNew => ?_)
            clear hK K hHeld
            have hHeld := hNew
            clear hNew
            try simp only [Act.put, List.setIfInBounds_toArray, List.set_cons_zero, List.set_cons_succ]
            first | refine tkA 16 ?_ | refine skA 16 ?_
            simp only [Act.put, List.setIfInBounds_toArray, List.set_cons_zero, List.set_cons_succ]
            first | refine tkA 17 ?_ | refine skA 17 ?_
            simp only [Act.put, List.setIfInBounds_toArray, List.set_cons_zero, List.set_cons_succ]
            first | refine tkA 18 ?_ | refine skA 18 ?_
            simp only [Act.put, List.setIfInBounds_toArray, List.set_cons_zero, List.set_cons_succ]
            first | refine tkA 19 ?_ | refine skA 19 ?_
            simp only [Act.put, List.setIfInBounds_toArray, List.set_cons_zero, List.set_cons_succ]
            first | refine tkA 20 ?_ | refine skA 20 ?_
            simp only [Act.put, List.setIfInBounds_toArray, List.set_cons_zero, List.set_cons_succ]
            first | refine tkA 22 ?_ | refine skA 22 ?_
            simp only [Act.put, List.setIfInBounds_toArray, List.set_cons_zero, List.set_cons_succ]
            first | refine tkA 23 ?_ | refine skA 23 ?_
            simp only [Act.put, List.setIfInBounds_toArray, List.set_cons_zero, List.set_cons_succ]
            refine held_one 21 (by kernel_rfl) rfl (fun K hK => ?_)
            go_simp
            go_at_call 42
            refine (HEI.out _ (HX3.out.mono mPst hHeld.2.2.2.2.2.2.2.2.2.2) (HX4.out.mono mPst hHeld.2.2.2.2.2.2.2.2.2.2)).mono ?_; rintro e wq7 ⟨rfl, hbq7⟩
            go_wp2_with fail
            refine hK.out _ _ (by (try dsimp only); exact ⟨keep_cell hbq7 hHeld.1, keep_cell hbq7 hHeld.2.1, keep_cell hbq7 hHeld.2.2.1, keep_cell hbq7 hHeld.2.2.2.1, keep_cell hbq7 hHeld.2.2.2.2.1, keep_cell hbq7 hHeld.2.2.2.2.2.1, keep_cell hbq7 hHeld.2.2.2.2.2.2.1, keep_cell hbq7 hHeld.2.2.2.2.2.2.2.1, keep_cell hbq7 hHeld.2.2.2.2.2.2.2.2.1, keep_cell hbq7 hHeld.2.2.2.2.2.2.2.2.2.1, ex_trans hHeld.2.2.2.2.2.2.2.2.2.2 hbq7⟩) (fun hNew => ?_)
            clear hK K hHeld
            have hHeld := hNew
            clear hNew
            try simp only [Act.put, List.setIfInBounds_toArray, List.set_cons_zero, List.set_cons_succ]
            refine held_one 24 (by kernel_rfl) rfl (fun K hK => ?_)
            go_simp
            go_at_call 37
            refine (HSE.out _ (HX3.out.mono mPst hHeld.2.2.2.2.2.2.2.2.2.2) (HX4.out.mono mPst hHeld.2.2.2.2.2.2.2.2.2.2)).mono ?_; rintro e wq8 ⟨rfl, hbq8⟩
            go_wp2_with fail
            refine hK.out _ _ (by (try dsimp only); exact ⟨keep_cell hbq8 hHeld.1, keep_cell hbq8 hHeld.2.1, keep_cell hbq8 hHeld.2.2.1, keep_cell hbq8 hHeld.2.2.2.1, keep_cell hbq8 hHeld.2.2.2.2.1, keep_cell hbq8 hHeld.2.2.2.2.2.1, keep_cell hbq8 hHeld.2.2.2.2.2.2.1, keep_cell hbq8 hHeld.2.2.2.2.2.2.2.1, keep_cell hbq8 hHeld.2.2.2.2.2.2.2.2.1, keep_cell hbq8 hHeld.2.2.2.2.2.2.2.2.2.1, ex_trans hHeld.2.2.2.2.2.2.2.2.2.2 hbq8⟩) (fun hNew => ?_)
            clear hK K hHeld
            have hHeld := hNew
            clear hNew
            try simp only [Act.put, List.setIfInBounds_toArray, List.set_cons_zero, List.set_cons_succ]
            first | refine tkA 25 ?_ | refine skA 25 ?_
            simp only [Act.put, List.setIfInBounds_toArray, List.set_cons_zero, List.set_cons_succ]
            first | refine tkA 26 ?_ | refine skA 26 ?_
            simp only [Act.put, List.setIfInBounds_toArray, List.set_cons_zero, List.set_cons_succ]
            refine wpAnyH_done (by kernel_rfl) ?_ _
            have hB := hHeld.2.2.2.2.2.2.2.2.2.2
            clear hHeld
            go_wp2_with fail
            go_meet
            exact ⟨rfl, hB⟩
          case rest =>
            generalize wc = W6 at *
            obtain ⟨rfl, hK⟩ := hcut
            replace HB := Lib.hid (ex_trans HB.out hK)
            replace p0 := keep_cell hK p0
            replace p1 := keep_cell hK p1
            replace p2 := keep_cell hK p2
            replace p3 := keep_cell hK p3
            replace p4 := keep_cell hK p4
            replace t0 := keep_cell hK t0
            replace t1 := keep_cell hK t1
            replace t2 := keep_cell hK t2
            replace t3 := keep_cell hK t3
            replace t4 := keep_cell hK t4
            replace HX1 := Lib.hid (HX1.out.mono mPst hK)
            replace HA1 := Lib.hid (HA1.out.mono mAtr hK)
            replace HX2 := Lib.hid (HX2.out.mono mPst hK)
            replace HA2 := Lib.hid (HA2.out.mono mAtr hK)
            replace HX3 := Lib.hid (HX3.out.mono mPst hK)
            replace HX4 := Lib.hid (HX4.out.mono mPst hK)
            clear hK
            clear p0 p1 p2 p3 p4 t0 t1 t2 t3 t4 HX1 HA1 HX2 HA2 HX3 HX4 HAI HAS HRI HRS HEI HSE HY1 HY2 HK3 HK4 hee hn1 hn2 hn3 hn4 hq1 hq2 HD1 HD2 HD3
            go_upto_region 8 with fail
            go_cut [9] from 60 to 61 (fun s9 w' => ∃ (fs : List Fil) (nx : Int) (A : Option Addr) (c : Nat) (B : Option Addr) (m d : Nat) (g9 : Nat), s9 = .pointer (some ⟨g9, 0, none⟩) ∧ w'.cell? ⟨g9, 0, none⟩ = some (.slice A 4 c) ∧ w'.cell? ⟨g9, 1, none⟩ = some (.slice B m d) ∧ w'.cell? ⟨g9, 2, none⟩ = some (.int .i64 nx) ∧ Sl 2 RFld w' A 4 usualL ∧ Sl 5 RFil w' B m fs ∧ StoG fs m nx ∧ 1 ≤ m ∧ m ≤ 7 ∧ Below W6.heap.size W6 w')
            case first =>
              go_wp2_with fail
              refine (HD4.out _ HB.out).mono ?_; rintro e w1 ⟨fs, nx, A, c, B, m, d, rfl, hS1, hS2, hG, hm1, hm7, hx8, hb1⟩
              have HX := Lib.hid (And.intro hS1 (And.intro hS2 hb1))
              clear hS1 hS2 hb1 HD4 HD5
              go_wp2_with fail
              go_meet
              exact ⟨fs, nx, A, c, B, m, d, w1.heap.size, rfl, by go_simp, by go_simp, by go_simp, HX.out.1.mono mFld (by go_grown), HX.out.2.1.mono mFil (by go_grown), hG, hm1, hm7, ex_trans HX.out.2.2 (by go_grown)⟩
            case rest =>
              generalize wc = W8 at *
              obtain ⟨fs, nx, A, c, B, m, d, g9, rfl, s0, s1, s2, hS1, hS2, hG, hm1, hm7, hK⟩ := hcut
              replace HB := Lib.hid (ex_trans HB.out hK)
              clear hK
              have HS1 := Lib.hid hS1
              have HS2 := Lib.hid hS2
              have HG := Lib.hid hG
              clear hS1 hS2 hG
              go_upto_region 9 with fail
              go_cut [10] from 62 to 63 (fun s10 w' => ∃ (A10 : Option Addr) (c10 : Nat) (ps : List Int), s10 = .slice A10 12 c10 ∧ Sl 1 RInt w' A10 12 ps ∧ (∀ p ∈ ps, 0 ≤ p ∧ p < 10000) ∧ Below W8.heap.size W8 w')
              case first =>
                go_wp2_with fail
                refine (HD5.out _ HB.out).mono ?_; rintro e w1 ⟨A10, c10, ps, rfl, hr, hps, hb1⟩
                have HX := Lib.hid (And.intro (hr.sl (R := RInt) encInt (fun _ => rfl)) hb1)
                clear hr hb1
                go_wp2_with fail
                go_meet
                exact ⟨A10, c10, ps, rfl, HX.out.1, hps, HX.out.2⟩
              case rest =>
                generalize wc = W9 at *
                obtain ⟨A10, c10, ps, rfl, hP, hps, hK⟩ := hcut
                replace HB := Lib.hid (ex_trans HB.out hK)
                replace s0 := keep_cell hK s0
                replace s1 := keep_cell hK s1
                replace s2 := keep_cell hK s2
                replace HS1 := Lib.hid (HS1.out.mono mFld hK)
                replace HS2 := Lib.hid (HS2.out.mono mFil hK)
                clear hK
                have hpl : ps.length = 12 := hP.len
                obtain ⟨pb, po, rfl, pw, pcell⟩ := hP.int (by omega)
                have y0 := pcell 0 (by omega)
                have y1 := pcell 1 (by omega)
                simp only [Nat.add_zero] at y0
                obtain ⟨ha0, ha1⟩ := hps (ps[0]'(by omega)) (List.getElem_mem _)
                obtain ⟨hd0, hd1⟩ := hps (ps[1]'(by omega)) (List.getElem_mem _)
                obtain ⟨pa, hpa⟩ : ∃ v, v = ps[0]'(by omega) := ⟨_, rfl⟩
                obtain ⟨pd, hpd⟩ : ∃ v, v = ps[1]'(by omega) := ⟨_, rfl⟩
                rw [← hpa] at y0 ha0 ha1
                rw [← hpd] at y1 hd0 hd1
                clear hP hps pcell hpa hpd hpl
                obtain ⟨k, hkv⟩ : ∃ k : Nat, pa.tmod (m : Int) = (k : Int) := ⟨(pa.tmod (m : Int)).toNat, by have := Int.tmod_nonneg (m : Int) ha0; omega⟩
                have hkm : k < m := by have := Int.tmod_lt_of_pos pa (show (0 : Int) < (m : Int) by omega); omega
                obtain ⟨y, hyv⟩ : ∃ y : Int, pd.tmod 5 = y := ⟨_, rfl⟩
                have hy0 : 0 ≤ y := by have := Int.tmod_nonneg 5 hd0; omega
                have hy1 : y < 5 := by have := Int.tmod_lt_of_pos pd (show (0 : Int) < 5 by omega); omega
                have hfl := HG.out.1
                have hkf : k < fs.length := by omega
                obtain ⟨fb, fo, hB, fbw, fc⟩ := HS2.out.fil (by omega)
                obtain ⟨Ao, no, co, o0, o1, o2, o3, o4, hAo⟩ := fc k hkf
                have HAo := Lib.hid hAo
                obtain ⟨o, ho⟩ : ∃ o, o = fs[k] := ⟨_, rfl⟩
                have HOM := Lib.hid (show o ∈ fs by rw [ho]; exact List.getElem_mem hkf)
                have HOE := Lib.hid ho
                rw [← ho] at o0 o1 o2 o3 HAo
                have hno : no ≤ 5 := by have h1 := HAo.out.len; have h2 := (HG.out.2.2.1 o HOM.out).1; omega
                have hmn : ¬ (m = 0) := by omega
                have hki : (k : Int) < (m : Int) := by omega
                have hk0 : (0 : Int) ≤ (k : Int) := by omega
                subst hB
                clear fc hAo ho hfl
                go_upto_region 10 with fail
                go_cut [11] from 64 to 74 (fun s11 w' => ∃ (g11 : Nat), s11 = .pointer (some ⟨g11, 0, none⟩) ∧ w'.cell? ⟨g11, 0, none⟩ = some (.int .i64 o.id) ∧ w'.cell? ⟨g11, 1, none⟩ = some (.int .i64 o.owner) ∧ w'.cell? ⟨g11, 2, none⟩ = some (.bool o.shared) ∧ w'.cell? ⟨g11, 3, none⟩ = some (.int .i64 o.link) ∧ w'.cell? ⟨g11, 4, none⟩ = some (.slice Ao no co) ∧ Below W9.heap.size W9 w')
                case first =>
                  refine wp_region_held_drew (S := (fun w' => w'.cell? ⟨g9, 0, none⟩ = some (.slice A 4 c) ∧ w'.cell? ⟨g9, 1, none⟩ = some (.slice (some ⟨fb, fo, none⟩) m d) ∧ w'.cell? ⟨g9, 2, none⟩ = some (.int .i64 nx) ∧ w'.cell? ⟨pb, po, none⟩ = some (.int .i64 pa) ∧ w'.cell? ⟨pb, po + 1, none⟩ = some (.int .i64 pd) ∧ w'.cell? ⟨fb, fo + k * 5, none⟩ = some (.int .i64 o.id) ∧ w'.cell? ⟨fb, fo + k * 5 + 1, none⟩ = some (.int .i64 o.owner) ∧ w'.cell? ⟨fb, fo + k * 5 + 2, none⟩ = some (.bool o.shared) ∧ w'.cell? ⟨fb, fo + k * 5 + 3, none⟩ = some (.int .i64 o.link) ∧ w'.cell? ⟨fb, fo + k * 5 + 4, none⟩ = some (.slice Ao no co) ∧ Below W9.heap.size W9 w')) (by kernel_rfl) (by (try dsimp only); exact ⟨s0, s1, s2, y0, y1, o0, o1, o2, o3, o4, (Below.refl _ _).drew⟩) (fun hHeld => ?_)
                  first | refine tkA 0 ?_ | refine skA 0 ?_
                  simp only [Act.put, List.setIfInBounds_toArray, List.set_cons_zero, List.set_cons_succ]
                  first | refine tkA 1 ?_ | refine skA 1 ?_
                  simp only [Act.put, List.setIfInBounds_toArray, List.set_cons_zero, List.set_cons_succ]
                  first | refine tkA 2 ?_ | refine skA 2 ?_
                  simp only [Act.put, List.setIfInBounds_toArray, List.set_cons_zero, List.set_cons_succ]
                  first | refine tkA 3 ?_ | refine skA 3 ?_
                  simp only [Act.put, List.setIfInBounds_toArray, List.set_cons_zero, List.set_cons_succ]
                  first | refine tkA 4 ?_ | refine skA 4 ?_
                  simp only [Act.put, List.setIfInBounds_toArray, List.set_cons_zero, List.set_cons_succ]
                  first | refine tkA 5 ?_ | refine skA 5 ?_
                  simp only [Act.put, List.setIfInBounds_toArray, List.set_cons_zero, List.set_cons_succ]
                  first | refine tkA 6 ?_ | refine skA 6 ?_
                  simp only [Act.put, List.setIfInBounds_toArray, List.set_cons_zero, List.set_cons_succ]
                  first | refine tkA 7 ?_ | refine skA 7 ?_
                  simp only [Act.put, List.setIfInBounds_toArray, List.set_cons_zero, List.set_cons_succ]
                  first | refine tkA 8 ?_ | refine skA 8 ?_
                  simp only [Act.put, List.setIfInBounds_toArray, List.set_cons_zero, List.set_cons_succ]
                  first | refine tkA 9 ?_ | refine skA 9 ?_
                  simp only [Act.put, List.setIfInBounds_toArray, List.set_cons_zero, List.set_cons_succ]
                  first | refine tkA 10 ?_ | refine skA 10 ?_
                  simp only [Act.put, List.setIfInBounds_toArray, List.set_cons_zero, List.set_cons_succ]
                  generalize hwd : World.drew W9 = Wd at *
                  clear hwd
                  have hlts : g9 < Wd.heap.size ∧ pb < Wd.heap.size ∧ fb < Wd.heap.size := ⟨World.block_lt_of_cell? Wd _ hHeld.1, World.block_lt_of_cell? Wd _ hHeld.2.2.2.1, World.block_lt_of_cell? Wd _ hHeld.2.2.2.2.2.1⟩
                  refine held_one 11 (by kernel_rfl) rfl (fun K hK => ?_)
                  go_simp
                  generalize hwa : World.alloc Wd _ = wa
                  have hba : Below Wd.heap.size Wd wa := by rw [← hwa]; exact (Below.refl _ _).alloc (Nat.le_refl _) _
                  have hbk : wa.heap[Wd.heap.size]? = some (.cells #[.int .i64 0, .int .i64 0, .bool false, .int .i64 0, .slice none 0 0] 28 (0, 0)) := by rw [← hwa]; exact hp_new rfl
                  have hszd : W9.heap.size ≤ Wd.heap.size := hHeld.2.2.2.2.2.2.2.2.2.2.size
                  refine hK.out _ _ (by (try dsimp only); exact ⟨keep_cell hba hHeld.1, keep_cell hba hHeld.2.1, keep_cell hba hHeld.2.2.1, keep_cell hba hHeld.2.2.2.1, keep_cell hba hHeld.2.2.2.2.1, keep_cell hba hHeld.2.2.2.2.2.1, keep_cell hba hHeld.2.2.2.2.2.2.1, keep_cell hba hHeld.2.2.2.2.2.2.2.1, keep_cell hba hHeld.2.2.2.2.2.2.2.2.1, keep_cell hba hHeld.2.2.2.2.2.2.2.2.2.1, ex_trans hHeld.2.2.2.2.2.2.2.2.2.2 hba⟩) (fun hNew => ?_)
                  clear hK K hHeld
                  have hHeld := hNew
                  clear hNew
                  try simp only [Act.put, List.setIfInBounds_toArray, List.set_cons_zero, List.set_cons_succ]
                  clear hwa hba
                  have u0 := blk_cell? hbk 0
                  have u1 := blk_cell? hbk 1
                  have u2 := blk_cell? hbk 2
                  have u3 := blk_cell? hbk 3
                  have u4 := blk_cell? hbk 4
                  have uf := blk_free hbk
                  simp only [List.getElem?_toArray, List.getElem?_cons_zero, List.getElem?_cons_succ] at u0 u1 u2 u3 u4
                  have hc := put5_chgL wa Wd.heap.size o Ao no co
                  have hv := put5_blkL hbk o Ao no co
                  unfold put5L at hc hv
                  refine held_one 12 (by kernel_rfl) rfl (fun K hK => ?_)
                  go_simp
                  generalize World.setCell (World.setCell (World.setCell (World.setCell (World.setCell wa _ _) _ _) _ _) _ _) _ _ = w9 at *
                  refine hK.out _ _ (by (try dsimp only); exact ⟨hc.cell hHeld.1 (fun h => by have h1 := List.mem_singleton.1 h; simp only at h1; omega), hc.cell hHeld.2.1 (fun h => by have h1 := List.mem_singleton.1 h; simp only at h1; omega), hc.cell hHeld.2.2.1 (fun h => by have h1 := List.mem_singleton.1 h; simp only at h1; omega), hc.cell hHeld.2.2.2.1 (fun h => by have h1 := List.mem_singleton.1 h; simp only at h1; omega), hc.cell hHeld.2.2.2.2.1 (fun h => by have h1 := List.mem_singleton.1 h; simp only at h1; omega), hc.cell hHeld.2.2.2.2.2.1 (fun h => by have h1 := List.mem_singleton.1 h; simp only at h1; omega), hc.cell hHeld.2.2.2.2.2.2.1 (fun h => by have h1 := List.mem_singleton.1 h; simp only at h1; omega), hc.cell hHeld.2.2.2.2.2.2.2.1 (fun h => by have h1 := List.mem_singleton.1 h; simp only at h1; omega), hc.cell hHeld.2.2.2.2.2.2.2.2.1 (fun h => by have h1 := List.mem_singleton.1 h; simp only at h1; omega), hc.cell hHeld.2.2.2.2.2.2.2.2.2.1 (fun h => by have h1 := List.mem_singleton.1 h; simp only at h1; omega), Below.mark hHeld.2.2.2.2.2.2.2.2.2.2 hc hHeld.2.2.2.2.2.2.2.2.2.2.size (fun b hb => by obtain rfl := List.mem_singleton.1 hb; omega)⟩) (fun hNew => ?_)
                  clear hK K hHeld
                  have hHeld := hNew
                  clear hNew
                  try simp only [Act.put, List.setIfInBounds_toArray, List.set_cons_zero, List.set_cons_succ]
                  refine wpAnyH_done (by kernel_rfl) ?_ _
                  have hBB := hHeld.2.2.2.2.2.2.2.2.2.2
                  clear u0 u1 u2 u3 u4 uf
                  have q0 := blk_cell? hv 0
                  have q1 := blk_cell? hv 1
                  have q2 := blk_cell? hv 2
                  have q3 := blk_cell? hv 3
                  have q4 := blk_cell? hv 4
                  simp only [List.getElem?_toArray, List.getElem?_cons_zero, List.getElem?_cons_succ] at q0 q1 q2 q3 q4
                  clear hHeld hv hc hbk
                  go_wp2_with fail
                  go_meet
                  exact ⟨_, rfl, q0, q1, q2, q3, q4, hBB⟩
                case rest =>
                  generalize wc = W10 at *
                  obtain ⟨g11, rfl, b0, b1, b2, b3, b4, hK⟩ := hcut
                  replace HB := Lib.hid (ex_trans HB.out hK)
                  replace s0 := keep_cell hK s0
                  replace s1 := keep_cell hK s1
                  replace s2 := keep_cell hK s2
                  replace y0 := keep_cell hK y0
                  replace y1 := keep_cell hK y1
                  replace o0 := keep_cell hK o0
                  replace o1 := keep_cell hK o1
                  replace o2 := keep_cell hK o2
                  replace o3 := keep_cell hK o3
                  replace o4 := keep_cell hK o4
                  replace HS1 := Lib.hid (HS1.out.mono mFld hK)
                  replace HS2 := Lib.hid (HS2.out.mono mFil hK)
                  replace HAo := Lib.hid (HAo.out.mono mAtr hK)
                  clear hK
                  clear o0 o1 o2 o3 o4 y0
                  have gl9 : g9 < W10.heap.size := World.block_lt_of_cell? W10 _ s0
                  have glp : pb < W10.heap.size := World.block_lt_of_cell? W10 _ y1
                  have gl11 : g11 < W10.heap.size := World.block_lt_of_cell? W10 _ b0
                  obtain ⟨x, hx⟩ : ∃ x, x = setA o ⟨#[97]⟩ (intV y) := ⟨_, rfl⟩
                  obtain ⟨nl, hnl⟩ : ∃ nl, nl = x.attrs.length := ⟨_, rfl⟩
                  have hnl6 : nl ≤ 6 := by rw [hnl, hx]; exact Nat.le_trans (setL_len o.attrs ⟨#[97]⟩ (intV y)) (by have := HAo.out.len; omega)
                  have HVX := Lib.hid (show validF usualL x = true by
                    have h1 := ((validS_iff.1 HG.out.2.1).1.1 o HOM.out).1
                    rw [hx]
                    exact set_valid h1 (match_int kind_a hy0 (by omega)))
                  have HXI := Lib.hid (show x.id = o.id by rw [hx]; rfl)
                  have HXO := Lib.hid (show smallA x.attrs by rw [hx]; exact (HG.out.2.2.1 o HOM.out).2.set (nm := ⟨#[97]⟩) (v := intV y) (by decide) (show ByteArray.empty.size ≤ 16 by decide))
                  have HXL := Lib.hid hnl
                  have HST : Hid (∀ w, Sl 4 RAtr w Ao no o.attrs → Calls Try.prog 23 #[.agg #[.int .i64 o.id, .int .i64 o.owner, .bool o.shared, .int .i64 o.link, .slice Ao no co], .string ⟨#[97]⟩, .agg #[.int .i64 (intV y).kind, .int .i64 (intV y).int, .string (intV y).str]] w fun e w' => ∃ A c, e = .returned (.agg #[.int .i64 x.id, .int .i64 x.owner, .bool x.shared, .int .i64 x.link, .slice A nl c]) ∧ FRow 84 4 eAtr w' w.heap.size A nl c x.attrs ∧ Below w.heap.size w w') := Lib.hid (fun w h => by
                    have h1 := spec_SetAttr o Ao no co ⟨#[97]⟩ (intV y) w h (by omega)
                    rw [← hx] at h1
                    rw [hnl]
                    exact h1)
                  clear hx hnl hy0 hy1
                  go_upto_region 11 with fail
                  go_cut [12] from 75 to 81 (fun s12 w' => ∃ (g12 : Nat) (A12 : Option Addr) (c12 : Nat), s12 = .pointer (some ⟨g12, 0, none⟩) ∧ w'.cell? ⟨g12, 0, none⟩ = some (.int .i64 x.id) ∧ w'.cell? ⟨g12, 1, none⟩ = some (.int .i64 x.owner) ∧ w'.cell? ⟨g12, 2, none⟩ = some (.bool x.shared) ∧ w'.cell? ⟨g12, 3, none⟩ = some (.int .i64 x.link) ∧ w'.cell? ⟨g12, 4, none⟩ = some (.slice A12 nl c12) ∧ Sl 4 RAtr w' A12 nl x.attrs ∧ Below W10.heap.size W10 w')
                  case first =>
                    refine wp_region_held_drew (S := (fun w' => w'.cell? ⟨g9, 0, none⟩ = some (.slice A 4 c) ∧ w'.cell? ⟨g9, 1, none⟩ = some (.slice (some ⟨fb, fo, none⟩) m d) ∧ w'.cell? ⟨g9, 2, none⟩ = some (.int .i64 nx) ∧ w'.cell? ⟨pb, po + 1, none⟩ = some (.int .i64 pd) ∧ w'.cell? ⟨g11, 0, none⟩ = some (.int .i64 o.id) ∧ w'.cell? ⟨g11, 1, none⟩ = some (.int .i64 o.owner) ∧ w'.cell? ⟨g11, 2, none⟩ = some (.bool o.shared) ∧ w'.cell? ⟨g11, 3, none⟩ = some (.int .i64 o.link) ∧ w'.cell? ⟨g11, 4, none⟩ = some (.slice Ao no co) ∧ Below W10.heap.size W10 w')) (by kernel_rfl) (by (try dsimp only); exact ⟨s0, s1, s2, y1, b0, b1, b2, b3, b4, (Below.refl _ _).drew⟩) (fun hHeld => ?_)
                    first | refine tkA 0 ?_ | refine skA 0 ?_
                    simp only [Act.put, List.setIfInBounds_toArray, List.set_cons_zero, List.set_cons_succ]
                    first | refine tkA 1 ?_ | refine skA 1 ?_
                    simp only [Act.put, List.setIfInBounds_toArray, List.set_cons_zero, List.set_cons_succ]
                    first | refine tkA 2 ?_ | refine skA 2 ?_
                    simp only [Act.put, List.setIfInBounds_toArray, List.set_cons_zero, List.set_cons_succ]
                    first | refine tkA 3 ?_ | refine skA 3 ?_
                    simp only [Act.put, List.setIfInBounds_toArray, List.set_cons_zero, List.set_cons_succ]
                    first | refine tkA 4 ?_ | refine skA 4 ?_
                    simp only [Act.put, List.setIfInBounds_toArray, List.set_cons_zero, List.set_cons_succ]
                    generalize hwd : World.drew W10 = Wd11 at *
                    have hszd : W10.heap.size ≤ Wd11.heap.size := hHeld.2.2.2.2.2.2.2.2.2.size
                    clear hwd
                    refine held_two 5 7 (by kernel_rfl) rfl rfl (fun K hK => ?_) (fun K hK => ?_)
                    · go_simp
                      go_at_call 11
                      refine (spec_IntValue _ _).mono ?_; rintro e w21 ⟨rfl, hb1⟩
                      have hsz_1 : Wd11.heap.size ≤ w21.heap.size := hb1.size
                      go_wp2_with fail
                      refine hK.out _ _ (by (try dsimp only); exact ⟨keep_cell hb1 hHeld.1, keep_cell hb1 hHeld.2.1, keep_cell hb1 hHeld.2.2.1, keep_cell hb1 hHeld.2.2.2.1, keep_cell hb1 hHeld.2.2.2.2.1, keep_cell hb1 hHeld.2.2.2.2.2.1, keep_cell hb1 hHeld.2.2.2.2.2.2.1, keep_cell hb1 hHeld.2.2.2.2.2.2.2.1, keep_cell hb1 hHeld.2.2.2.2.2.2.2.2.1, ex_trans hHeld.2.2.2.2.2.2.2.2.2 hb1⟩) (fun hNew => ?_)
                      clear hK K hHeld
                      have hHeld := hNew
                      clear hNew
                      try simp only [Act.put, List.setIfInBounds_toArray, List.set_cons_zero, List.set_cons_succ]
                      clear hb1
                      refine held_two 6 7 (by kernel_rfl) rfl rfl (fun K hK => ?_) (fun K hK => ?_)
                      · go_simp
                        go_at_call 23
                        refine (HST.out _ (HAo.out.mono mAtr hHeld.2.2.2.2.2.2.2.2.2)).mono ?_; rintro e w22 ⟨A6, c6, rfl, hF, hb2⟩
                        have hsz_2 : w21.heap.size ≤ w22.heap.size := hb2.size
                        have HS6 := Lib.hid hF
                        have HB6 := Lib.hid (Below.refl w22.heap.size w22)
                        go_wp2_with fail
                        refine hK.out _ _ (by (try dsimp only); exact ⟨keep_cell hb2 hHeld.1, keep_cell hb2 hHeld.2.1, keep_cell hb2 hHeld.2.2.1, keep_cell hb2 hHeld.2.2.2.1, keep_cell hb2 hHeld.2.2.2.2.1, keep_cell hb2 hHeld.2.2.2.2.2.1, keep_cell hb2 hHeld.2.2.2.2.2.2.1, keep_cell hb2 hHeld.2.2.2.2.2.2.2.1, keep_cell hb2 hHeld.2.2.2.2.2.2.2.2.1, ex_trans hHeld.2.2.2.2.2.2.2.2.2 hb2⟩) (fun hNew => ?_)
                        clear hK K hHeld
                        have hHeld := hNew
                        clear hNew
                        try simp only [Act.put, List.setIfInBounds_toArray, List.set_cons_zero, List.set_cons_succ]
                        clear hb2 hF
                        refine held_one 7 (by kernel_rfl) rfl (fun K hK => ?_)
                        go_simp
                        generalize hwa : World.alloc w22 _ = wa_3
                        have hba : Below w22.heap.size w22 wa_3 := by rw [← hwa]; exact (Below.refl _ _).alloc (Nat.le_refl _) _
                        have hsz_3 : wa_3.heap.size ≤ w22.heap.size + 1 := by rw [← hwa]; simp
                        have hsz2_3 : w22.heap.size + 1 ≤ wa_3.heap.size := by rw [← hwa]; simp
                        have HB6 := Lib.hid (HB6.out.trans (hba.mono HB6.out.size))
                        have HDb := Lib.hid (show wa_3.heap[w22.heap.size]? = some (.cells #[.int .i64 0, .int .i64 0, .bool false, .int .i64 0, .slice none 0 0] 28 (0, 0)) by rw [← hwa]; exact hp_new rfl)
                        refine hK.out _ _ (by (try dsimp only); exact ⟨keep_cell hba hHeld.1, keep_cell hba hHeld.2.1, keep_cell hba hHeld.2.2.1, keep_cell hba hHeld.2.2.2.1, keep_cell hba hHeld.2.2.2.2.1, keep_cell hba hHeld.2.2.2.2.2.1, keep_cell hba hHeld.2.2.2.2.2.2.1, keep_cell hba hHeld.2.2.2.2.2.2.2.1, keep_cell hba hHeld.2.2.2.2.2.2.2.2.1, ex_trans hHeld.2.2.2.2.2.2.2.2.2 hba⟩) (fun hNew => ?_)
                        clear hK K hHeld
                        have hHeld := hNew
                        clear hNew
                        try simp only [Act.put, List.setIfInBounds_toArray, List.set_cons_zero, List.set_cons_succ]
                        clear hwa hba
                        have u0 := blk_cell? HDb.out 0
                        have u1 := blk_cell? HDb.out 1
                        have u2 := blk_cell? HDb.out 2
                        have u3 := blk_cell? HDb.out 3
                        have u4 := blk_cell? HDb.out 4
                        have uf := blk_free HDb.out
                        have ul := blk_lt HDb.out
                        simp only [List.getElem?_toArray, List.getElem?_cons_zero, List.getElem?_cons_succ] at u0 u1 u2 u3 u4
                        refine held_one 8 (by kernel_rfl) rfl (fun K hK => ?_)
                        go_simp
                        generalize hst : World.setCell (World.setCell (World.setCell (World.setCell (World.setCell wa_3 _ _) _ _) _ _) _ _) _ _ = wst_8
                        have hc8 : Chg [w22.heap.size] wa_3 wst_8 := by rw [← hst]; exact ((((((Chg.of_below _ (Below.refl _ _)).set (by simp) _).set (by simp) _).set (by simp) _).set (by simp) _).set (by simp) _)
                        have v8_0 : wst_8.cell? ⟨w22.heap.size, 0, none⟩ = some (.int .i64 x.id) := by subst hst; go_simp
                        have v8_1 : wst_8.cell? ⟨w22.heap.size, 1, none⟩ = some (.int .i64 x.owner) := by subst hst; go_simp
                        have v8_2 : wst_8.cell? ⟨w22.heap.size, 2, none⟩ = some (.bool x.shared) := by subst hst; go_simp
                        have v8_3 : wst_8.cell? ⟨w22.heap.size, 3, none⟩ = some (.int .i64 x.link) := by subst hst; go_simp
                        have v8_4 : wst_8.cell? ⟨w22.heap.size, 4, none⟩ = some (.slice A6 nl c6) := by subst hst; go_simp
                        refine hK.out _ _ (by (try dsimp only); exact ⟨hc8.cell hHeld.1 (fun h => by have h1 := List.mem_singleton.1 h; simp only at h1; omega), hc8.cell hHeld.2.1 (fun h => by have h1 := List.mem_singleton.1 h; simp only at h1; omega), hc8.cell hHeld.2.2.1 (fun h => by have h1 := List.mem_singleton.1 h; simp only at h1; omega), hc8.cell hHeld.2.2.2.1 (fun h => by have h1 := List.mem_singleton.1 h; simp only at h1; omega), hc8.cell hHeld.2.2.2.2.1 (fun h => by have h1 := List.mem_singleton.1 h; simp only at h1; omega), hc8.cell hHeld.2.2.2.2.2.1 (fun h => by have h1 := List.mem_singleton.1 h; simp only at h1; omega), hc8.cell hHeld.2.2.2.2.2.2.1 (fun h => by have h1 := List.mem_singleton.1 h; simp only at h1; omega), hc8.cell hHeld.2.2.2.2.2.2.2.1 (fun h => by have h1 := List.mem_singleton.1 h; simp only at h1; omega), hc8.cell hHeld.2.2.2.2.2.2.2.2.1 (fun h => by have h1 := List.mem_singleton.1 h; simp only at h1; omega), Below.mark hHeld.2.2.2.2.2.2.2.2.2 hc8 hHeld.2.2.2.2.2.2.2.2.2.size (fun b hb => by obtain rfl := List.mem_singleton.1 hb; omega)⟩) (fun hNew => ?_)
                        clear hK K hHeld
                        have hHeld := hNew
                        clear hNew
                        try simp only [Act.put, List.setIfInBounds_toArray, List.set_cons_zero, List.set_cons_succ]
                        clear hst uf ul u0 u1 u2 u3 u4
                        refine wpAnyH_done (by kernel_rfl) ?_ _
                        have hr6 := row_reads (w' := wst_8) HS6.out (fun b h1 h2 => by
                          have h3 := HB6.out.size
                          exact (hc8.block b (by omega) (fun h => by have h1 := List.mem_singleton.1 h; omega)).trans (HB6.out.block b h2))
                        go_wp2_with fail
                        go_meet
                        exact ⟨_, A6, c6, rfl, v8_0, v8_1, v8_2, v8_3, v8_4, hr6, hHeld.2.2.2.2.2.2.2.2.2⟩
                      · go_simp
                        generalize hwa : World.alloc w21 _ = wa_4
                        have hba : Below w21.heap.size w21 wa_4 := by rw [← hwa]; exact (Below.refl _ _).alloc (Nat.le_refl _) _
                        have hsz_4 : wa_4.heap.size ≤ w21.heap.size + 1 := by rw [← hwa]; simp
                        have hsz2_4 : w21.heap.size + 1 ≤ wa_4.heap.size := by rw [← hwa]; simp
                        have HDb := Lib.hid (show wa_4.heap[w21.heap.size]? = some (.cells #[.int .i64 0, .int .i64 0, .bool false, .int .i64 0, .slice none 0 0] 28 (0, 0)) by rw [← hwa]; exact hp_new rfl)
                        refine hK.out _ _ (by (try dsimp only); exact ⟨keep_cell hba hHeld.1, keep_cell hba hHeld.2.1, keep_cell hba hHeld.2.2.1, keep_cell hba hHeld.2.2.2.1, keep_cell hba hHeld.2.2.2.2.1, keep_cell hba hHeld.2.2.2.2.2.1, keep_cell hba hHeld.2.2.2.2.2.2.1, keep_cell hba hHeld.2.2.2.2.2.2.2.1, keep_cell hba hHeld.2.2.2.2.2.2.2.2.1, ex_trans hHeld.2.2.2.2.2.2.2.2.2 hba⟩) (fun hNew => ?_)
                        clear hK K hHeld
                        have hHeld := hNew
                        clear hNew
                        try simp only [Act.put, List.setIfInBounds_toArray, List.set_cons_zero, List.set_cons_succ]
                        clear hwa hba
                        refine held_one 6 (by kernel_rfl) rfl (fun K hK => ?_)
                        go_simp
                        go_at_call 23
                        refine (HST.out _ (HAo.out.mono mAtr hHeld.2.2.2.2.2.2.2.2.2)).mono ?_; rintro e w25 ⟨A6, c6, rfl, hF, hb5⟩
                        have hsz_5 : wa_4.heap.size ≤ w25.heap.size := hb5.size
                        have HDb := Lib.hid (below_keep hb5 HDb.out)
                        have HS6 := Lib.hid hF
                        have HB6 := Lib.hid (Below.refl w25.heap.size w25)
                        go_wp2_with fail
                        refine hK.out _ _ (by (try dsimp only); exact ⟨keep_cell hb5 hHeld.1, keep_cell hb5 hHeld.2.1, keep_cell hb5 hHeld.2.2.1, keep_cell hb5 hHeld.2.2.2.1, keep_cell hb5 hHeld.2.2.2.2.1, keep_cell hb5 hHeld.2.2.2.2.2.1, keep_cell hb5 hHeld.2.2.2.2.2.2.1, keep_cell hb5 hHeld.2.2.2.2.2.2.2.1, keep_cell hb5 hHeld.2.2.2.2.2.2.2.2.1, ex_trans hHeld.2.2.2.2.2.2.2.2.2 hb5⟩) (fun hNew => ?_)
                        clear hK K hHeld
                        have hHeld := hNew
                        clear hNew
                        try simp only [Act.put, List.setIfInBounds_toArray, List.set_cons_zero, List.set_cons_succ]
                        clear hb5 hF
                        have u0 := blk_cell? HDb.out 0
                        have u1 := blk_cell? HDb.out 1
                        have u2 := blk_cell? HDb.out 2
                        have u3 := blk_cell? HDb.out 3
                        have u4 := blk_cell? HDb.out 4
                        have uf := blk_free HDb.out
                        have ul := blk_lt HDb.out
                        simp only [List.getElem?_toArray, List.getElem?_cons_zero, List.getElem?_cons_succ] at u0 u1 u2 u3 u4
                        refine held_one 8 (by kernel_rfl) rfl (fun K hK => ?_)
                        go_simp
                        generalize hst : World.setCell (World.setCell (World.setCell (World.setCell (World.setCell w25 _ _) _ _) _ _) _ _) _ _ = wst_8
                        have hc8 : Chg [w21.heap.size] w25 wst_8 := by rw [← hst]; exact ((((((Chg.of_below _ (Below.refl _ _)).set (by simp) _).set (by simp) _).set (by simp) _).set (by simp) _).set (by simp) _)
                        have v8_0 : wst_8.cell? ⟨w21.heap.size, 0, none⟩ = some (.int .i64 x.id) := by subst hst; go_simp
                        have v8_1 : wst_8.cell? ⟨w21.heap.size, 1, none⟩ = some (.int .i64 x.owner) := by subst hst; go_simp
                        have v8_2 : wst_8.cell? ⟨w21.heap.size, 2, none⟩ = some (.bool x.shared) := by subst hst; go_simp
                        have v8_3 : wst_8.cell? ⟨w21.heap.size, 3, none⟩ = some (.int .i64 x.link) := by subst hst; go_simp
                        have v8_4 : wst_8.cell? ⟨w21.heap.size, 4, none⟩ = some (.slice A6 nl c6) := by subst hst; go_simp
                        refine hK.out _ _ (by (try dsimp only); exact ⟨hc8.cell hHeld.1 (fun h => by have h1 := List.mem_singleton.1 h; simp only at h1; omega), hc8.cell hHeld.2.1 (fun h => by have h1 := List.mem_singleton.1 h; simp only at h1; omega), hc8.cell hHeld.2.2.1 (fun h => by have h1 := List.mem_singleton.1 h; simp only at h1; omega), hc8.cell hHeld.2.2.2.1 (fun h => by have h1 := List.mem_singleton.1 h; simp only at h1; omega), hc8.cell hHeld.2.2.2.2.1 (fun h => by have h1 := List.mem_singleton.1 h; simp only at h1; omega), hc8.cell hHeld.2.2.2.2.2.1 (fun h => by have h1 := List.mem_singleton.1 h; simp only at h1; omega), hc8.cell hHeld.2.2.2.2.2.2.1 (fun h => by have h1 := List.mem_singleton.1 h; simp only at h1; omega), hc8.cell hHeld.2.2.2.2.2.2.2.1 (fun h => by have h1 := List.mem_singleton.1 h; simp only at h1; omega), hc8.cell hHeld.2.2.2.2.2.2.2.2.1 (fun h => by have h1 := List.mem_singleton.1 h; simp only at h1; omega), Below.mark hHeld.2.2.2.2.2.2.2.2.2 hc8 hHeld.2.2.2.2.2.2.2.2.2.size (fun b hb => by obtain rfl := List.mem_singleton.1 hb; omega)⟩) (fun hNew => ?_)
                        clear hK K hHeld
                        have hHeld := hNew
                        clear hNew
                        try simp only [Act.put, List.setIfInBounds_toArray, List.set_cons_zero, List.set_cons_succ]
                        clear hst uf ul u0 u1 u2 u3 u4
                        refine wpAnyH_done (by kernel_rfl) ?_ _
                        have hr6 := row_reads (w' := wst_8) HS6.out (fun b h1 h2 => by
                          have h3 := HB6.out.size
                          exact (hc8.block b (by omega) (fun h => by have h1 := List.mem_singleton.1 h; omega)).trans (HB6.out.block b h2))
                        go_wp2_with fail
                        go_meet
                        exact ⟨_, A6, c6, rfl, v8_0, v8_1, v8_2, v8_3, v8_4, hr6, hHeld.2.2.2.2.2.2.2.2.2⟩
                    · go_simp
                      generalize hwa : World.alloc Wd11 _ = wa_6
                      have hba : Below Wd11.heap.size Wd11 wa_6 := by rw [← hwa]; exact (Below.refl _ _).alloc (Nat.le_refl _) _
                      have hsz_6 : wa_6.heap.size ≤ Wd11.heap.size + 1 := by rw [← hwa]; simp
                      have hsz2_6 : Wd11.heap.size + 1 ≤ wa_6.heap.size := by rw [← hwa]; simp
                      have HDb := Lib.hid (show wa_6.heap[Wd11.heap.size]? = some (.cells #[.int .i64 0, .int .i64 0, .bool false, .int .i64 0, .slice none 0 0] 28 (0, 0)) by rw [← hwa]; exact hp_new rfl)
                      refine hK.out _ _ (by (try dsimp only); exact ⟨keep_cell hba hHeld.1, keep_cell hba hHeld.2.1, keep_cell hba hHeld.2.2.1, keep_cell hba hHeld.2.2.2.1, keep_cell hba hHeld.2.2.2.2.1, keep_cell hba hHeld.2.2.2.2.2.1, keep_cell hba hHeld.2.2.2.2.2.2.1, keep_cell hba hHeld.2.2.2.2.2.2.2.1, keep_cell hba hHeld.2.2.2.2.2.2.2.2.1, ex_trans hHeld.2.2.2.2.2.2.2.2.2 hba⟩) (fun hNew => ?_)
                      clear hK K hHeld
                      have hHeld := hNew
                      clear hNew
                      try simp only [Act.put, List.setIfInBounds_toArray, List.set_cons_zero, List.set_cons_succ]
                      clear hwa hba
                      refine held_one 5 (by kernel_rfl) rfl (fun K hK => ?_)
                      go_simp
                      go_at_call 11
                      refine (spec_IntValue _ _).mono ?_; rintro e w27 ⟨rfl, hb7⟩
                      have hsz_7 : wa_6.heap.size ≤ w27.heap.size := hb7.size
                      have HDb := Lib.hid (below_keep hb7 HDb.out)
                      go_wp2_with fail
                      refine hK.out _ _ (by (try dsimp only); exact ⟨keep_cell hb7 hHeld.1, keep_cell hb7 hHeld.2.1, keep_cell hb7 hHeld.2.2.1, keep_cell hb7 hHeld.2.2.2.1, keep_cell hb7 hHeld.2.2.2.2.1, keep_cell hb7 hHeld.2.2.2.2.2.1, keep_cell hb7 hHeld.2.2.2.2.2.2.1, keep_cell hb7 hHeld.2.2.2.2.2.2.2.1, keep_cell hb7 hHeld.2.2.2.2.2.2.2.2.1, ex_trans hHeld.2.2.2.2.2.2.2.2.2 hb7⟩) (fun hNew => ?_)
                      clear hK K hHeld
                      have hHeld := hNew
                      clear hNew
                      try simp only [Act.put, List.setIfInBounds_toArray, List.set_cons_zero, List.set_cons_succ]
                      clear hb7
                      refine held_one 6 (by kernel_rfl) rfl (fun K hK => ?_)
                      go_simp
                      go_at_call 23
                      refine (HST.out _ (HAo.out.mono mAtr hHeld.2.2.2.2.2.2.2.2.2)).mono ?_; rintro e w28 ⟨A6, c6, rfl, hF, hb8⟩
                      have hsz_8 : w27.heap.size ≤ w28.heap.size := hb8.size
                      have HDb := Lib.hid (below_keep hb8 HDb.out)
                      have HS6 := Lib.hid hF
                      have HB6 := Lib.hid (Below.refl w28.heap.size w28)
                      go_wp2_with fail
                      refine hK.out _ _ (by (try dsimp only); exact ⟨keep_cell hb8 hHeld.1, keep_cell hb8 hHeld.2.1, keep_cell hb8 hHeld.2.2.1, keep_cell hb8 hHeld.2.2.2.1, keep_cell hb8 hHeld.2.2.2.2.1, keep_cell hb8 hHeld.2.2.2.2.2.1, keep_cell hb8 hHeld.2.2.2.2.2.2.1, keep_cell hb8 hHeld.2.2.2.2.2.2.2.1, keep_cell hb8 hHeld.2.2.2.2.2.2.2.2.1, ex_trans hHeld.2.2.2.2.2.2.2.2.2 hb8⟩) (fun hNew => ?_)
                      clear hK K hHeld
                      have hHeld := hNew
                      clear hNew
                      try simp only [Act.put, List.setIfInBounds_toArray, List.set_cons_zero, List.set_cons_succ]
                      clear hb8 hF
                      have u0 := blk_cell? HDb.out 0
                      have u1 := blk_cell? HDb.out 1
                      have u2 := blk_cell? HDb.out 2
                      have u3 := blk_cell? HDb.out 3
                      have u4 := blk_cell? HDb.out 4
                      have uf := blk_free HDb.out
                      have ul := blk_lt HDb.out
                      simp only [List.getElem?_toArray, List.getElem?_cons_zero, List.getElem?_cons_succ] at u0 u1 u2 u3 u4
                      refine held_one 8 (by kernel_rfl) rfl (fun K hK => ?_)
                      go_simp
                      generalize hst : World.setCell (World.setCell (World.setCell (World.setCell (World.setCell w28 _ _) _ _) _ _) _ _) _ _ = wst_8
                      have hc8 : Chg [Wd11.heap.size] w28 wst_8 := by rw [← hst]; exact ((((((Chg.of_below _ (Below.refl _ _)).set (by simp) _).set (by simp) _).set (by simp) _).set (by simp) _).set (by simp) _)
                      have v8_0 : wst_8.cell? ⟨Wd11.heap.size, 0, none⟩ = some (.int .i64 x.id) := by subst hst; go_simp
                      have v8_1 : wst_8.cell? ⟨Wd11.heap.size, 1, none⟩ = some (.int .i64 x.owner) := by subst hst; go_simp
                      have v8_2 : wst_8.cell? ⟨Wd11.heap.size, 2, none⟩ = some (.bool x.shared) := by subst hst; go_simp
                      have v8_3 : wst_8.cell? ⟨Wd11.heap.size, 3, none⟩ = some (.int .i64 x.link) := by subst hst; go_simp
                      have v8_4 : wst_8.cell? ⟨Wd11.heap.size, 4, none⟩ = some (.slice A6 nl c6) := by subst hst; go_simp
                      refine hK.out _ _ (by (try dsimp only); exact ⟨hc8.cell hHeld.1 (fun h => by have h1 := List.mem_singleton.1 h; simp only at h1; omega), hc8.cell hHeld.2.1 (fun h => by have h1 := List.mem_singleton.1 h; simp only at h1; omega), hc8.cell hHeld.2.2.1 (fun h => by have h1 := List.mem_singleton.1 h; simp only at h1; omega), hc8.cell hHeld.2.2.2.1 (fun h => by have h1 := List.mem_singleton.1 h; simp only at h1; omega), hc8.cell hHeld.2.2.2.2.1 (fun h => by have h1 := List.mem_singleton.1 h; simp only at h1; omega), hc8.cell hHeld.2.2.2.2.2.1 (fun h => by have h1 := List.mem_singleton.1 h; simp only at h1; omega), hc8.cell hHeld.2.2.2.2.2.2.1 (fun h => by have h1 := List.mem_singleton.1 h; simp only at h1; omega), hc8.cell hHeld.2.2.2.2.2.2.2.1 (fun h => by have h1 := List.mem_singleton.1 h; simp only at h1; omega), hc8.cell hHeld.2.2.2.2.2.2.2.2.1 (fun h => by have h1 := List.mem_singleton.1 h; simp only at h1; omega), Below.mark hHeld.2.2.2.2.2.2.2.2.2 hc8 hHeld.2.2.2.2.2.2.2.2.2.size (fun b hb => by obtain rfl := List.mem_singleton.1 hb; omega)⟩) (fun hNew => ?_)
                      clear hK K hHeld
                      have hHeld := hNew
                      clear hNew
                      try simp only [Act.put, List.setIfInBounds_toArray, List.set_cons_zero, List.set_cons_succ]
                      clear hst uf ul u0 u1 u2 u3 u4
                      refine wpAnyH_done (by kernel_rfl) ?_ _
                      have hr6 := row_reads (w' := wst_8) HS6.out (fun b h1 h2 => by
                        have h3 := HB6.out.size
                        exact (hc8.block b (by omega) (fun h => by have h1 := List.mem_singleton.1 h; omega)).trans (HB6.out.block b h2))
                      go_wp2_with fail
                      go_meet
                      exact ⟨_, A6, c6, rfl, v8_0, v8_1, v8_2, v8_3, v8_4, hr6, hHeld.2.2.2.2.2.2.2.2.2⟩
                  case rest =>
                    generalize wc = W11 at *
                    obtain ⟨g12, A12, c12, rfl, e0, e1, e2, e3, e4, hA12, hK⟩ := hcut
                    replace HB := Lib.hid (ex_trans HB.out hK)
                    replace s0 := keep_cell hK s0
                    replace s1 := keep_cell hK s1
                    replace s2 := keep_cell hK s2
                    replace y1 := keep_cell hK y1
                    replace b0 := keep_cell hK b0
                    replace b1 := keep_cell hK b1
                    replace b2 := keep_cell hK b2
                    replace b3 := keep_cell hK b3
                    replace b4 := keep_cell hK b4
                    replace HS1 := Lib.hid (HS1.out.mono mFld hK)
                    replace HS2 := Lib.hid (HS2.out.mono mFil hK)
                    replace HAo := Lib.hid (HAo.out.mono mAtr hK)
                    clear hK
                    have HA12 := Lib.hid hA12
                    clear hA12 HST y1
                    have HXK := Lib.hid (show x.ok 1073741824 from ⟨by have h1 := HXL.out; omega, fun v hv => ⟨Nat.le_trans (HXO.out v hv).1 (by omega), Nat.le_trans (HXO.out v hv).2 (by omega)⟩⟩)
                    have HRP := Lib.hid fun w (h1 : Sl 2 RFld w A 4 usualL) (h2 : Sl 5 RFil w (some ⟨fb, fo, none⟩) m fs) (h3 : Sl 4 RAtr w A12 nl x.attrs) => spec_ReplaceFile ⟨usualL, fs, nx⟩ A 4 c (some ⟨fb, fo, none⟩) m d x A12 nl c12 w h1 h2 h3 HG.out.ok HXK.out
                    have HREP := Lib.hid (rep_turn (nx := nx) HG.out hkf HOE.out HXI.out HVX.out)
                    simp only [HREP.out.1, HREP.out.2] at HRP
                    obtain ⟨fs', hfs'⟩ : ∃ l, l = fs.set k x := ⟨_, rfl⟩
                    simp only [← hfs'] at HRP
                    have HFL' := Lib.hid (show fs'.length = m by rw [hfs', List.length_set]; exact HG.out.1)
                    have HTU := Lib.hid (show addX (remX (bldX ⟨usualL, fs, nx⟩) o) x = bldX ⟨usualL, fs', nx⟩ by
                      have h1 := idx_turn (validS_iff.1 HG.out.2.1).1.2 hkf (x := x) (by rw [HXI.out, HOE.out]) usualL nx
                      rw [← HOE.out] at h1
                      rw [hfs']; exact h1)
                    have HOK' := Lib.hid (show ∀ f ∈ fs', OkF6 f from fun f hf => by
                      rw [hfs'] at hf
                      rcases List.mem_or_eq_of_mem_set hf with hf | rfl
                      · exact ⟨by have := (HG.out.2.2.1 f hf).1; omega, (HG.out.2.2.1 f hf).2⟩
                      · exact ⟨by have h1 := HXL.out; omega, HXO.out⟩)
                    clear hfs' HREP
                    go_upto_region 12 with fail
                    go_cut [13, 14] from 82 to 87 (fun s13 s14 w' => ∃ (g13 : Nat) (A13 : Option Addr) (c13 : Nat) (B13 : Option Addr) (d13 : Nat), s13 = .pointer (some ⟨g13, 0, none⟩) ∧ s14 = .bool true ∧ w'.cell? ⟨g13, 0, none⟩ = some (.slice A13 4 c13) ∧ w'.cell? ⟨g13, 1, none⟩ = some (.slice B13 m d13) ∧ w'.cell? ⟨g13, 2, none⟩ = some (.int .i64 nx) ∧ Sl 5 RFil w' B13 m fs' ∧ Below W11.heap.size W11 w')
                    case first =>
                      go_wp2_with fail
                      refine (HRP.out _ HS1.out HS2.out HA12.out).mono ?_; rintro e w1 ⟨A13, c13, B13, d13, X13, rfl, -, -, -, -, hf, hb1⟩
                      have hl4 : usualL.length = 4 := rfl
                      simp only [HFL'.out, hl4] at hf ⊢
                      have HX := Lib.hid (And.intro hf.sl hb1)
                      clear hf hb1 hl4 s0 s1 s2 b0 b1 b2 b3 b4 e0 e1 e2 e3 e4
                      go_wp2_with fail
                      go_meet
                      exact ⟨w1.heap.size, A13, c13, B13, d13, rfl, rfl, by go_simp, by go_simp, by go_simp, HX.out.1.mono mFil (by go_grown), ex_trans HX.out.2 (by go_grown)⟩
                    case rest =>
                      generalize wc = W12 at *
                      obtain ⟨g13, A13, c13, B13, d13, rfl, rfl, h0, h1, h2, hT13, hK⟩ := hcut
                      replace HB := Lib.hid (ex_trans HB.out hK)
                      replace s0 := keep_cell hK s0
                      replace s1 := keep_cell hK s1
                      replace s2 := keep_cell hK s2
                      replace b0 := keep_cell hK b0
                      replace b1 := keep_cell hK b1
                      replace b2 := keep_cell hK b2
                      replace b3 := keep_cell hK b3
                      replace b4 := keep_cell hK b4
                      replace e0 := keep_cell hK e0
                      replace e1 := keep_cell hK e1
                      replace e2 := keep_cell hK e2
                      replace e3 := keep_cell hK e3
                      replace e4 := keep_cell hK e4
                      replace HS1 := Lib.hid (HS1.out.mono mFld hK)
                      replace HS2 := Lib.hid (HS2.out.mono mFil hK)
                      replace HAo := Lib.hid (HAo.out.mono mAtr hK)
                      replace HA12 := Lib.hid (HA12.out.mono mAtr hK)
                      clear hK
                      have HT13 := Lib.hid hT13
                      clear hT13 HRP
                      have HBI := Lib.hid fun w (h : Sl 5 RFil w (some ⟨fb, fo, none⟩) m fs) => (impl_BuildIndex ⟨usualL, fs, nx⟩ A 4 c (some ⟨fb, fo, none⟩) m d w h (Nat.le_trans HG.out.sum (by omega)) (by omega)).mono (fun e w2 h => NewPsts.read h)
                      have HW0 := Lib.hid HG.out.wide
                      have HN0 := Lib.hid HG.out.nms
                      generalize bldX ⟨usualL, fs, nx⟩ = Z0 at *
                      have HRM := Lib.hid fun w (P : Option Addr) (q r : Nat) (hq : q ≤ 60) (h1 : Sl 5 RPst w P q Z0) (h2 : Sl 4 RAtr w Ao no o.attrs) => (impl_RemoveFromIndex P q r Z0 o Ao no co w h1 h2 (by omega) (by omega) (fun p hp => Nat.le_trans (HW0.out.2.1 p hp) (by omega))).mono (fun e w2 h => NewPsts.read h)
                      have HW2 := Lib.hid (remX_wide (f := o) HW0.out)
                      have HZL := Lib.hid HW0.out.1
                      generalize remX Z0 o = Z1 at *
                      have HAD := Lib.hid fun w (P : Option Addr) (q r : Nat) (h1 : Sl 5 RPst w P q Z1) (h2 : Sl 4 RAtr w A12 nl x.attrs) => (impl_AddToIndex 60 P q r Z1 x A12 nl c12 w h1 h2 HW2.out (by omega)).mono (fun e w2 h => NewPsts.read h)
                      rw [HTU.out] at HAD
                      have HBS := Lib.hid fun w (h : Sl 5 RFil w B13 m fs') => (spec_BuildIndex ⟨usualL, fs', nx⟩ A13 4 c13 B13 m d13 w h (Nat.le_trans (sum_le6 fs' HOK'.out) (by have h1 := HFL'.out; omega)) (by omega)).mono (fun e w2 h => NewPsts.read h)
                      have HOK2 := Lib.hid (bld_big (nx := nx) HOK'.out (by have h1 := HFL'.out; omega))
                      generalize bldX ⟨usualL, fs', nx⟩ = Y at *
                      go_upto_region 13 with fail
                      go_cut [15] from 88 to 93 (fun s15 w' => ∃ (P15 : Option Addr) (n15 c15 : Nat), s15 = .slice P15 n15 c15 ∧ Sl 5 RPst w' P15 n15 Y ∧ Below W12.heap.size W12 w')
                      case first =>
                        refine wp_region_held_drew (S := (fun w' => w'.cell? ⟨g9, 0, none⟩ = some (.slice A 4 c) ∧ w'.cell? ⟨g9, 1, none⟩ = some (.slice (some ⟨fb, fo, none⟩) m d) ∧ w'.cell? ⟨g9, 2, none⟩ = some (.int .i64 nx) ∧ w'.cell? ⟨g11, 0, none⟩ = some (.int .i64 o.id) ∧ w'.cell? ⟨g11, 1, none⟩ = some (.int .i64 o.owner) ∧ w'.cell? ⟨g11, 2, none⟩ = some (.bool o.shared) ∧ w'.cell? ⟨g11, 3, none⟩ = some (.int .i64 o.link) ∧ w'.cell? ⟨g11, 4, none⟩ = some (.slice Ao no co) ∧ w'.cell? ⟨g12, 0, none⟩ = some (.int .i64 x.id) ∧ w'.cell? ⟨g12, 1, none⟩ = some (.int .i64 x.owner) ∧ w'.cell? ⟨g12, 2, none⟩ = some (.bool x.shared) ∧ w'.cell? ⟨g12, 3, none⟩ = some (.int .i64 x.link) ∧ w'.cell? ⟨g12, 4, none⟩ = some (.slice A12 nl c12) ∧ w'.cell? ⟨g13, 0, none⟩ = some (.slice A13 4 c13) ∧ w'.cell? ⟨g13, 1, none⟩ = some (.slice B13 m d13) ∧ w'.cell? ⟨g13, 2, none⟩ = some (.int .i64 nx) ∧ Below W12.heap.size W12 w')) (by kernel_rfl) (by (try dsimp only); exact ⟨s0, s1, s2, b0, b1, b2, b3, b4, e0, e1, e2, e3, e4, h0, h1, h2, (Below.refl _ _).drew⟩) (fun hHeld => ?_)
                        first | refine tkA 0 ?_ | refine skA 0 ?_
                        simp only [Act.put, List.setIfInBounds_toArray, List.set_cons_zero, List.set_cons_succ]
                        first | refine tkA 2 ?_ | refine skA 2 ?_
                        simp only [Act.put, List.setIfInBounds_toArray, List.set_cons_zero, List.set_cons_succ]
                        first | refine tkA 4 ?_ | refine skA 4 ?_
                        simp only [Act.put, List.setIfInBounds_toArray, List.set_cons_zero, List.set_cons_succ]
                        refine held_one 1 (by kernel_rfl) rfl (fun K hK => ?_)
                        go_simp
                        go_at_call 45
                        refine (HBI.out _ (HS2.out.mono mFil hHeld.2.2.2.2.2.2.2.2.2.2.2.2.2.2.2.2)).mono ?_; rintro e wq1 ⟨R1, o1, d1, rfl, hr1, hbq1⟩
                        have HR1 := Lib.hid hr1
                        clear hr1
                        go_wp2_with fail
                        refine hK.out _ _ (by (try dsimp only); exact ⟨keep_cell hbq1 hHeld.1, keep_cell hbq1 hHeld.2.1, keep_cell hbq1 hHeld.2.2.1, keep_cell hbq1 hHeld.2.2.2.1, keep_cell hbq1 hHeld.2.2.2.2.1, keep_cell hbq1 hHeld.2.2.2.2.2.1, keep_cell hbq1 hHeld.2.2.2.2.2.2.1, keep_cell hbq1 hHeld.2.2.2.2.2.2.2.1, keep_cell hbq1 hHeld.2.2.2.2.2.2.2.2.1, keep_cell hbq1 hHeld.2.2.2.2.2.2.2.2.2.1, keep_cell hbq1 hHeld.2.2.2.2.2.2.2.2.2.2.1, keep_cell hbq1 hHeld.2.2.2.2.2.2.2.2.2.2.2.1, keep_cell hbq1 hHeld.2.2.2.2.2.2.2.2.2.2.2.2.1, keep_cell hbq1 hHeld.2.2.2.2.2.2.2.2.2.2.2.2.2.1, keep_cell hbq1 hHeld.2.2.2.2.2.2.2.2.2.2.2.2.2.2.1, keep_cell hbq1 hHeld.2.2.2.2.2.2.2.2.2.2.2.2.2.2.2.1, ex_trans hHeld.2.2.2.2.2.2.2.2.2.2.2.2.2.2.2.2 hbq1⟩) (fun hNew => ?_)
                        clear hK K hHeld
                        have hHeld := hNew
                        clear hNew
                        try simp only [Act.put, List.setIfInBounds_toArray, List.set_cons_zero, List.set_cons_succ]
                        have ho1 : o1 ≤ 60 := by have h1 := HR1.out.len; have h2 := HZL.out; omega
                        refine held_one 3 (by kernel_rfl) rfl (fun K hK => ?_)
                        go_simp
                        go_at_call 40
                        refine (HRM.out _ R1 o1 d1 ho1 HR1.out (HAo.out.mono mAtr hHeld.2.2.2.2.2.2.2.2.2.2.2.2.2.2.2.2)).mono ?_; rintro e wq2 ⟨R2, o2, d2, rfl, hr2, hbq2⟩
                        have HR2 := Lib.hid hr2
                        clear hr2
                        go_wp2_with fail
                        refine hK.out _ _ (by (try dsimp only); exact ⟨keep_cell hbq2 hHeld.1, keep_cell hbq2 hHeld.2.1, keep_cell hbq2 hHeld.2.2.1, keep_cell hbq2 hHeld.2.2.2.1, keep_cell hbq2 hHeld.2.2.2.2.1, keep_cell hbq2 hHeld.2.2.2.2.2.1, keep_cell hbq2 hHeld.2.2.2.2.2.2.1, keep_cell hbq2 hHeld.2.2.2.2.2.2.2.1, keep_cell hbq2 hHeld.2.2.2.2.2.2.2.2.1, keep_cell hbq2 hHeld.2.2.2.2.2.2.2.2.2.1, keep_cell hbq2 hHeld.2.2.2.2.2.2.2.2.2.2.1, keep_cell hbq2 hHeld.2.2.2.2.2.2.2.2.2.2.2.1, keep_cell hbq2 hHeld.2.2.2.2.2.2.2.2.2.2.2.2.1, keep_cell hbq2 hHeld.2.2.2.2.2.2.2.2.2.2.2.2.2.1, keep_cell hbq2 hHeld.2.2.2.2.2.2.2.2.2.2.2.2.2.2.1, keep_cell hbq2 hHeld.2.2.2.2.2.2.2.2.2.2.2.2.2.2.2.1, ex_trans hHeld.2.2.2.2.2.2.2.2.2.2.2.2.2.2.2.2 hbq2⟩) (fun hNew => ?_)
                        clear hK K hHeld
                        have hHeld := hNew
                        clear hNew
                        try simp only [Act.put, List.setIfInBounds_toArray, List.set_cons_zero, List.set_cons_succ]
                        refine held_one 5 (by kernel_rfl) rfl (fun K hK => ?_)
                        go_simp
                        go_at_call 38
                        refine (HAD.out _ R2 o2 d2 HR2.out (HA12.out.mono mAtr hHeld.2.2.2.2.2.2.2.2.2.2.2.2.2.2.2.2)).mono ?_; rintro e wq3 ⟨R3, o3, d3, rfl, hr3, hbq3⟩
                        have HR3 := Lib.hid hr3
                        clear hr3
                        go_wp2_with fail
                        refine hK.out _ _ (by (try dsimp only); exact ⟨keep_cell hbq3 hHeld.1, keep_cell hbq3 hHeld.2.1, keep_cell hbq3 hHeld.2.2.1, keep_cell hbq3 hHeld.2.2.2.1, keep_cell hbq3 hHeld.2.2.2.2.1, keep_cell hbq3 hHeld.2.2.2.2.2.1, keep_cell hbq3 hHeld.2.2.2.2.2.2.1, keep_cell hbq3 hHeld.2.2.2.2.2.2.2.1, keep_cell hbq3 hHeld.2.2.2.2.2.2.2.2.1, keep_cell hbq3 hHeld.2.2.2.2.2.2.2.2.2.1, keep_cell hbq3 hHeld.2.2.2.2.2.2.2.2.2.2.1, keep_cell hbq3 hHeld.2.2.2.2.2.2.2.2.2.2.2.1, keep_cell hbq3 hHeld.2.2.2.2.2.2.2.2.2.2.2.2.1, keep_cell hbq3 hHeld.2.2.2.2.2.2.2.2.2.2.2.2.2.1, keep_cell hbq3 hHeld.2.2.2.2.2.2.2.2.2.2.2.2.2.2.1, keep_cell hbq3 hHeld.2.2.2.2.2.2.2.2.2.2.2.2.2.2.2.1, ex_trans hHeld.2.2.2.2.2.2.2.2.2.2.2.2.2.2.2.2 hbq3⟩) (fun hNew => ?_)
                        clear hK K hHeld
                        have hHeld := hNew
                        clear hNew
                        try simp only [Act.put, List.setIfInBounds_toArray, List.set_cons_zero, List.set_cons_succ]
                        first | refine tkA 6 ?_ | refine skA 6 ?_
                        simp only [Act.put, List.setIfInBounds_toArray, List.set_cons_zero, List.set_cons_succ]
                        refine wpAnyH_done (by kernel_rfl) ?_ _
                        have hB := hHeld.2.2.2.2.2.2.2.2.2.2.2.2.2.2.2.2
                        clear hHeld
                        go_wp2_with fail
                        go_meet
                        exact ⟨R3, o3, d3, rfl, HR3.out, hB⟩
                      case rest =>
                        generalize wc = W13 at *
                        obtain ⟨P15, n15, c15, rfl, hP15, hK⟩ := hcut
                        replace HB := Lib.hid (ex_trans HB.out hK)
                        replace s0 := keep_cell hK s0
                        replace s1 := keep_cell hK s1
                        replace s2 := keep_cell hK s2
                        replace b0 := keep_cell hK b0
                        replace b1 := keep_cell hK b1
                        replace b2 := keep_cell hK b2
                        replace b3 := keep_cell hK b3
                        replace b4 := keep_cell hK b4
                        replace e0 := keep_cell hK e0
                        replace e1 := keep_cell hK e1
                        replace e2 := keep_cell hK e2
                        replace e3 := keep_cell hK e3
                        replace e4 := keep_cell hK e4
                        replace h0 := keep_cell hK h0
                        replace h1 := keep_cell hK h1
                        replace h2 := keep_cell hK h2
                        replace HS1 := Lib.hid (HS1.out.mono mFld hK)
                        replace HS2 := Lib.hid (HS2.out.mono mFil hK)
                        replace HAo := Lib.hid (HAo.out.mono mAtr hK)
                        replace HA12 := Lib.hid (HA12.out.mono mAtr hK)
                        replace HT13 := Lib.hid (HT13.out.mono mFil hK)
                        clear hK
                        have HP15 := Lib.hid hP15
                        clear hP15 HBI HRM HAD
                        go_wp2_with fail
                        refine (HBS.out _ HT13.out).mono ?_; rintro e w4 ⟨R4, o4, d4, rfl, hr4, hb4⟩
                        have HR4 := Lib.hid hr4
                        have HB4 := Lib.hid (ex_trans HB.out hb4)
                        have HP4 := Lib.hid (HP15.out.mono mPst hb4)
                        clear hr4 hb4 s0 s1 s2 b0 b1 b2 b3 b4 e0 e1 e2 e3 e4 h0 h1 h2
                        go_wp2_with fail
                        refine (posts_self P15 n15 c15 R4 o4 d4 Y _ HOK2.out HP4.out HR4.out).mono ?_; rintro e w5 ⟨rfl, hb5⟩
                        have HB5 := Lib.hid (ex_trans HB4.out hb5)
                        clear hb5
                        go_wp2_with fail
                        go_returns
                        exact ⟨rfl, HB5.out⟩
  · go_enter Try.func7, Try.ntmps7
    go_wp2_with fail
    refine (laws_big_t A0 n0 c0 _ (by omega)).mono ?_; rintro e w0 ⟨rfl, rfl⟩
    go_wp2_with fail
    go_returns
    exact ⟨rfl, Below.refl _ _⟩
theorem core_FnIndexIncremental {H : Type} (enc : TypeId × Value → H) (W : World) (base : Nat) (args : Array Value) (ds : List (DataW H)) (p : List MemPlace)
    (hA : DataW.TrodAll enc Try.prog W 0 (fun _ => true) true Try.f7.params.toList args.toList ds p)
    (hval : ∀ (j : Nat) t v, Try.f7.params[j]? = some t → args[j]? = some v → Value.okWide Try.prog W .any base t v) :
    Calls Try.prog 7 args W fun e W' => e = .returned (.bool true) ∧ Below W.heap.size W W' := by
  rw [Try.params7] at hA hval
  obtain ⟨u0, vs0, d0, ds0, p0, q0, hargs, rfl, rfl, h0, r0⟩ := trodAll_cons hA
  obtain ⟨rfl, rfl, rfl⟩ := trodAll_nil r0
  obtain rfl : args = #[u0] := by cases args; simp_all
  obtain ⟨ad0, ln0, cp0, rfl⟩ := okWide_slice Try.underlying22 (hval 0 22 u0 rfl rfl)
  obtain ⟨fu0, g0⟩ := h0
  obtain ⟨A0, n0, c0, l0, e0, hn0, _, hS0, hl0⟩ := opens_slice Try.underlying22 (by omega) Op_byt g0
  simp only [Value.cells, List.cons.injEq, Value.slice.injEq, and_true] at e0
  obtain ⟨rfl, rfl, rfl⟩ := e0
  exact walk_FnIndexIncremental W ad0 ln0 cp0 l0 hS0 hn0 hl0
set_option maxRecDepth 100000 in
theorem lifted_FnIndexIncremental (os : Os) (started : os.Started) (H : Type) (enc : TypeId × Value → H) :
    ReturnsInHanded {} Try.checked os 7 .any (Rows.fnIndexIncrementalSpec.pre6 enc Try.prog Try.f7 Rows.fnIndexIncrementalRow.domain false) (Rows.fnIndexIncrementalSpec.post enc Try.prog Try.f7 false true false false) :=
  law_lifted (C := Try.checked) (tb := 4) (n := 1) own started (by kernel_rfl) Try.func7 rfl (by kernel_rfl) Try.underlying4 (by kernel_rfl)
    (fun ds h => by match ds, h with | [_], _ => rfl) laidOut' (by kernel_rfl)
    (ChangeSpec.witness6 (enc := enc) (C := Try.checked) false ⟨#[], #[.slice none 0 0], []⟩ 8 (by kernel_rfl) (by kernel_rfl) (by kernel_rfl) (by kernel_rfl))
    (fun W base args ds p hA hval => core_FnIndexIncremental enc W base args ds p hA hval)
theorem holds_FnIndexIncremental : Rows.FnIndexIncrementalSaid :=
  OpenClaim.holds_of_wide 7 Try.f7 rfl rfl rfl rfl rfl rfl rfl ⟨rfl, rfl, rfl, rfl, rfl⟩ rfl rfl rfl rfl rfl (by kernel_rfl) Try.func7 (by kernel_rfl)
    (of_decide_eq_true (by kernel_rfl)) (by unfold Func.isWrapper; first | (rw [if_pos (by decide +kernel)]; kernel_rfl) | (rw [if_neg (by decide +kernel)]; exact ⟨rfl, rfl⟩))
    (fun os started H enc _ => lifted_FnIndexIncremental os started H enc)
end Go.Proofs.Ytjobgnioehkomaa
