/-
  HEADERS: a posting's, a file's own cells, the slice that it leads to unread.
-/
import Derived.WalkKit
import Derived.WalkSpells
import Derived.WalkLawsBesides
import Derived.Lib.Hide
import Derived.Handy
import Derived.StillTailTactics
import Derived.Deep.Light
import Derived.Deep.QuietTactic
import Derived.BigQuiet
import Derived.Deep.RegionHeld3
import Derived.Test.YtaljpnfohpcgpaaLib
import Derived.Test.YtaljpnfohpcgpaaOwn
import Derived.Test.YtaljpnfohpcgpaaRow
import Derived.Test.YtaljpnfohpcgpaaHld
import Derived.Test.YtaljpnfohpcgpaaM0
import Derived.Test.YtaljpnfohpcgpaaC1
import Derived.Test.YtaljpnfohpcgpaaC2
import Derived.Test.YtaljpnfohpcgpaaT1
import Derived.Test.YtaljpnfohpcgpaaT2
import Derived.Test.YtaljpnfohpcgpaaT3
import Derived.Test.YtaljpnfohpcgpaaT4
import Derived.Test.YtaljpnfohpcgpaaC3
import Derived.Test.YtaljpnfohpcgpaaC4
import Derived.Test.YtaljpnfohpcgpaaD1
import Derived.Test.YtaljpnfohpcgpaaRows
namespace Go.Proofs.Ytaljpnfohpcgpaa
open Go.RowKit
set_option linter.unusedVariables false
set_option maxRecDepth 100000
structure Ph where
  name : ByteArray
  val : Vl
  A : Option Addr
  n : Nat
  c : Nat
structure Fh where
  id : Int
  owner : Int
  shared : Bool
  link : Int
  A : Option Addr
  n : Nat
  c : Nat
def ePh (p : Ph) : List Value := [.string p.name, .int .i64 p.val.kind, .int .i64 p.val.int, .string p.val.str, .slice p.A p.n p.c]
def eFh (f : Fh) : List Value := [.int .i64 f.id, .int .i64 f.owner, .bool f.shared, .int .i64 f.link, .slice f.A f.n f.c]
theorem encPh : Enc 5 ePh := ⟨by omega, fun _ => rfl, fun x u hu => by simp [ePh] at hu; rcases hu with rfl | rfl | rfl | rfl | rfl <;> rfl⟩
theorem encFh : Enc 5 eFh := ⟨by omega, fun _ => rfl, fun x u hu => by simp [eFh] at hu; rcases hu with rfl | rfl | rfl | rfl | rfl <;> rfl⟩
def RPh (_ : World) (cs : List Value) (p : Ph) : Prop := cs = ePh p
def RFh (_ : World) (cs : List Value) (f : Fh) : Prop := cs = eFh f
theorem mPh : RMono RPh := ⟨fun _ h => h⟩
theorem mFh : RMono RFh := ⟨fun _ h => h⟩
def Ph.is (w : World) (h : Ph) (p : Pst) : Prop := h.name = p.name ∧ h.val = p.val ∧ Sl 1 RInt w h.A h.n p.ids
def Fh.is (w : World) (h : Fh) (f : Fil) : Prop := h.id = f.id ∧ h.owner = f.owner ∧ h.shared = f.shared ∧ h.link = f.link ∧ Sl 4 RAtr w h.A h.n f.attrs
theorem Ph.is.mono {w w' : World} {h : Ph} {p : Pst} (k : h.is w p) (hb : Below w.heap.size w w') : h.is w' p := ⟨k.1, k.2.1, k.2.2.mono mInt hb⟩
theorem Fh.is.mono {w w' : World} {h : Fh} {p : Fil} (k : h.is w p) (hb : Below w.heap.size w w') : h.is w' p := ⟨k.1, k.2.1, k.2.2.1, k.2.2.2.1, k.2.2.2.2.mono mAtr hb⟩
section
variable {w : World} {A : Option Addr} {n : Nat}
theorem Sl.ph {l : List Ph} (h : Sl 5 RPh w A n l) (hn : 0 < n) : ∃ b off, A = some ⟨b, off, none⟩ ∧ b < w.heap.size ∧
    ∀ i (_ : i < l.length), w.cell? ⟨b, off + i * 5, none⟩ = some (.string l[i].name) ∧ w.cell? ⟨b, off + i * 5 + 1, none⟩ = some (.int .i64 l[i].val.kind) ∧
      w.cell? ⟨b, off + i * 5 + 2, none⟩ = some (.int .i64 l[i].val.int) ∧ w.cell? ⟨b, off + i * 5 + 3, none⟩ = some (.string l[i].val.str) ∧ w.cell? ⟨b, off + i * 5 + 4, none⟩ = some (.slice l[i].A l[i].n l[i].c) := by
  obtain ⟨b, off, hA, hb, hc⟩ := h.at_ hn
  refine ⟨b, off, hA, hb, fun i hi => ?_⟩
  obtain ⟨cs, _, hcs, rfl⟩ := hc i hi
  exact ⟨hcs 0 _ rfl, hcs 1 _ rfl, hcs 2 _ rfl, hcs 3 _ rfl, hcs 4 _ rfl⟩
theorem Sl.fh {l : List Fh} (h : Sl 5 RFh w A n l) (hn : 0 < n) : ∃ b off, A = some ⟨b, off, none⟩ ∧ b < w.heap.size ∧
    ∀ i (_ : i < l.length), w.cell? ⟨b, off + i * 5, none⟩ = some (.int .i64 l[i].id) ∧ w.cell? ⟨b, off + i * 5 + 1, none⟩ = some (.int .i64 l[i].owner) ∧
      w.cell? ⟨b, off + i * 5 + 2, none⟩ = some (.bool l[i].shared) ∧ w.cell? ⟨b, off + i * 5 + 3, none⟩ = some (.int .i64 l[i].link) ∧ w.cell? ⟨b, off + i * 5 + 4, none⟩ = some (.slice l[i].A l[i].n l[i].c) := by
  obtain ⟨b, off, hA, hb, hc⟩ := h.at_ hn
  refine ⟨b, off, hA, hb, fun i hi => ?_⟩
  obtain ⟨cs, _, hcs, rfl⟩ := hc i hi
  exact ⟨hcs 0 _ rfl, hcs 1 _ rfl, hcs 2 _ rfl, hcs 3 _ rfl, hcs 4 _ rfl⟩
theorem nat_choose {β : Type} {P : Nat → β → Prop} : ∀ (n : Nat), (∀ i, i < n → ∃ y, P i y) → ∃ hs : List β, hs.length = n ∧ ∀ i (hj : i < hs.length), P i hs[i]
  | 0, _ => ⟨[], rfl, fun i hi => absurd hi (by simp)⟩
  | n + 1, h => by
    obtain ⟨hs, hl, hk⟩ := nat_choose n fun i hi => h i (by omega)
    obtain ⟨y, hy⟩ := h n (by omega)
    refine ⟨hs ++ [y], by simp [hl], fun i hj => ?_⟩
    by_cases hi : i < hs.length
    · rw [List.getElem_append_left hi]; exact hk i hi
    · obtain rfl : i = n := by simp at hj; omega
      rw [List.getElem_append_right (by omega)]
      simpa [hl] using hy
theorem Sl.pheads {l : List Pst} (h : Sl 5 RPst w A n l) : ∃ hs : List Ph, hs.length = l.length ∧ Sl 5 RPh w A n hs ∧ ∀ i (hi : i < l.length) (hj : i < hs.length), hs[i].is w l[i] := by
  obtain ⟨hl, xs, hx, hd, hR⟩ := h
  obtain ⟨hs, h1, h2⟩ := nat_choose (P := fun (i : Nat) (y : Ph) => ∀ hi : i < l.length, (xs.drop (i * 5)).take 5 = ePh y ∧ y.is w l[i]) l.length fun i hi => by
    obtain ⟨A', n', c', e, hs⟩ := hR i hi
    exact ⟨⟨l[i].name, l[i].val, A', n', c'⟩, fun _ => ⟨e, rfl, rfl, hs⟩⟩
  exact ⟨hs, h1, ⟨h1.trans hl, xs, hx, by rw [h1]; exact hd, fun i hi => (h2 i hi (by omega)).1⟩, fun i hi hj => (h2 i hj hi).2⟩
theorem Sl.fheads {l : List Fil} (h : Sl 5 RFil w A n l) : ∃ hs : List Fh, hs.length = l.length ∧ Sl 5 RFh w A n hs ∧ ∀ i (hi : i < l.length) (hj : i < hs.length), hs[i].is w l[i] := by
  obtain ⟨hl, xs, hx, hd, hR⟩ := h
  obtain ⟨hs, h1, h2⟩ := nat_choose (P := fun (i : Nat) (y : Fh) => ∀ hi : i < l.length, (xs.drop (i * 5)).take 5 = eFh y ∧ y.is w l[i]) l.length fun i hi => by
    obtain ⟨A', n', c', e, hs⟩ := hR i hi
    exact ⟨⟨l[i].id, l[i].owner, l[i].shared, l[i].link, A', n', c'⟩, fun _ => ⟨e, rfl, rfl, rfl, rfl, hs⟩⟩
  exact ⟨hs, h1, ⟨h1.trans hl, xs, hx, by rw [h1]; exact hd, fun i hi => (h2 i hi (by omega)).1⟩, fun i hi hj => (h2 i hj hi).2⟩
end
theorem idxI_congr {α β : Type} {p : α → Bool} {q : β → Bool} {l : List α} {m : List β} (hl : m.length = l.length) (h : ∀ i (hi : i < l.length) (hj : i < m.length), q m[i] = p l[i]) : idxI q m = idxI p l := by
  have : l.map p = m.map q := List.ext_getElem (by simp [hl]) fun i h1 h2 => by simp at h1 h2 ⊢; exact (h i h1 h2).symm
  have e1 : ∀ {γ : Type} (f : γ → Bool) (x : List γ), x.findIdx? f = (x.map f).findIdx? id := fun f x => by rw [List.findIdx?_map]; rfl
  unfold idxI
  rw [e1 q m, e1 p l, this]
set_option maxHeartbeats 800000 in
theorem slices_IndexFunc_Posting (A : Option Addr) (n c : Nat) (l : List Ph) (kf : Nat) (caps : Array Value) (p : Ph → Bool) (B : Nat) (w : World) (hS : Sl 5 RPh w A n l) (hn : n ≤ 1073741824) (hB : B ≤ w.heap.size)
    (hcf : ∀ args w, (callFunc kf args).run Try.prog w = .ok (.enter kf args) w) (hp : Pred Try.prog kf caps (fun p : Ph => .agg #[.string p.name, .int .i64 p.val.kind, .int .i64 p.val.int, .string p.val.str, .slice p.A p.n p.c]) p l B w) :
    Calls Try.prog 136 #[.slice A n c, .func (.func kf) #[] caps] w fun e w' => e = .returned (.int .i64 (idxI p l)) ∧ Below w.heap.size w w' := by
  obtain rfl : l.length = n := hS.len
  have HP := Lib.hid hp
  clear hp
  go_enter Try.func136, Try.ntmps136
  go_wp2_with fail
  go_loopw [8] (fun i wr => ∃ k : Nat, k ≤ l.length ∧ i = .int .i64 k ∧ noneTo p l k ∧ Below w.heap.size w wr) (fun i _ => l.length - (intOf i).toNat)
  case atStart => exact ⟨0, Nat.zero_le _, rfl, noneTo_zero _ _, Below.refl _ _⟩
  case round =>
    obtain ⟨k, hk, rfl, hN, hb⟩ := hrel
    by_cases hlt : k < l.length
    · have i0 : (0 : Int) ≤ (k : Int) := by omega
      have i1 : (k : Int) < (l.length : Int) := by omega
      obtain ⟨b, off, rfl, bw, bc⟩ := hS.ph (by omega)
      have qq := bc k (by omega)
      obtain ⟨q0, q1, q2, q3, q4⟩ := qq
      rw [← hb.cell (p := ⟨b, _, none⟩) bw] at q0 q1 q2 q3 q4
      clear bc
      cases hf : p l[k] with
      | true =>
        have HZ := Lib.hid (idxI_at hlt hN hf)
        have HC := Lib.hid (HP.out wr (hb.mono hB) l[k] (List.getElem_mem _))
        have HF := Lib.hid hf
        clear hN hf
        go_wp2_with fail
        refine HC.out.mono ?_; rintro e w1 ⟨rfl, hb1⟩
        rw [HF.out]
        go_wp2_with fail
        go_returns
        exact ⟨ret_int HZ.out.symm, ex_trans hb hb1⟩
      | false =>
        have HN := Lib.hid (noneTo_succ hN (fun _ => hf))
        have HC := Lib.hid (HP.out wr (hb.mono hB) l[k] (List.getElem_mem _))
        have HF := Lib.hid hf
        clear hN hf
        go_wp2_with fail
        refine HC.out.mono ?_; rintro e w1 ⟨rfl, hb1⟩
        rw [HF.out]
        go_wp2_with fail
        go_roundw
        case rel => exact ⟨k + 1, by omega, by go_num, HN.out, ex_trans hb hb1⟩
        case measure => simp [intOf]; omega
    · have HZ := Lib.hid (idxI_none (by omega) hN)
      clear hN
      go_wp2_with fail
      go_returns
      exact ⟨ret_int HZ.out.symm, hb⟩
def isPst (nm : ByteArray) (v : Vl) (p : Pst) : Bool := eqS p.name nm && p.val.eqb v
def lookI (l : List Pst) (nm : ByteArray) (v : Vl) : List Int := ((l.find? (isPst nm v)).map (·.ids)).getD []
theorem lookI_len {l : List Pst} (h : ∀ p ∈ l, p.ok 1073741824) (nm : ByteArray) (v : Vl) : (lookI l nm v).length ≤ 1073741824 := by
  unfold lookI
  cases hf : l.find? (isPst nm v) with
  | none => exact Nat.zero_le _
  | some p => exact (h p (List.mem_of_find?_eq_some hf)).2.2
theorem lookI_at {l : List Pst} {nm : ByteArray} {v : Vl} {k : Nat} (hk : k < l.length) (hn : noneTo (isPst nm v) l k) (h : isPst nm v l[k] = true) : lookI l nm v = l[k].ids := by
  unfold lookI; rw [find_at hk hn h]; rfl
theorem lookI_none {l : List Pst} {nm : ByteArray} {v : Vl} {k : Nat} (hk : l.length ≤ k) (hn : noneTo (isPst nm v) l k) : lookI l nm v = [] := by
  unfold lookI; rw [find_none hk hn]; rfl
theorem impl_postingAt_1 (x : Ph) (nm : ByteArray) (v : Vl) (b1 o1 b2 o2 : Nat) (w : World) (hc : w.cell? ⟨b1, o1, none⟩ = some (.string nm)) (h0 : w.cell? ⟨b2, o2, none⟩ = some (.int .i64 v.kind)) (h1 : w.cell? ⟨b2, o2 + 1, none⟩ = some (.int .i64 v.int)) (h2 : w.cell? ⟨b2, o2 + 2, none⟩ = some (.string v.str)) :
    Calls Try.prog 137 #[.agg #[.string x.name, .int .i64 x.val.kind, .int .i64 x.val.int, .string x.val.str, .slice x.A x.n x.c], .pointer (some ⟨b1, o1, none⟩), .pointer (some ⟨b2, o2, none⟩)] w fun e w2 => e = .returned (.bool (eqS x.name nm && x.val.eqb v)) ∧ Below w.heap.size w w2 := by
  have l1 := World.block_lt_of_cell? w _ hc
  have l2 := World.block_lt_of_cell? w _ h0
  simp only at l1 l2
  cases hn : (x.name.toList == nm.toList) with
  | false =>
    have HZ := Lib.hid (show false = (eqS x.name nm && x.val.eqb v) by simp [eqS, hn])
    go_enter Try.func137, Try.ntmps137
    go_wp2_with fail
    go_returns
    exact ⟨ret_bool HZ.out, by go_grown⟩
  | true =>
    have HZ := Lib.hid (show (x.val.kind == v.kind && (x.val.int == v.int && x.val.str.toList == v.str.toList)) = (eqS x.name nm && x.val.eqb v) by simp [eqS, hn, Vl.eqb, Bool.and_assoc])
    go_enter Try.func137, Try.ntmps137
    go_wp2_with fail
    all_goals go_returns
    all_goals refine ⟨ret_bool ?_, by go_grown⟩
    all_goals rw [← HZ.out]
    all_goals go_light
    all_goals simp_all
set_option maxHeartbeats 1600000 in
theorem impl_postingAt (A : Option Addr) (n c : Nat) (l : List Pst) (nm : ByteArray) (v : Vl) (w : World) (hS : Sl 5 RPst w A n l) (hn : n ≤ 1073741824) :
    Calls Try.prog 99 #[.slice A n c, .string nm, v.v] w fun e w' => e = .returned (.int .i64 (idxI (isPst nm v) l)) ∧ Below w.heap.size w w' := by
  obtain ⟨hs, hl, hH, hI⟩ := hS.pheads
  have he : idxI (fun x : Ph => eqS x.name nm && x.val.eqb v) hs = idxI (isPst nm v) l := idxI_congr hl fun i hi hj => by
    obtain ⟨e1, e2, _⟩ := hI i hi hj
    unfold isPst; rw [e1, e2]
  have HC := Lib.hid (slices_IndexFunc_Posting A n c hs 137 #[.pointer (some ⟨w.heap.size, 0, none⟩), .pointer (some ⟨w.heap.size + 1, 0, none⟩)] (fun x : Ph => eqS x.name nm && x.val.eqb v) (w.heap.size + 2) ((w.alloc (.cells #[.string nm] 9)).alloc (.cells #[.int .i64 v.kind, .int .i64 v.int, .string v.str] 26)) (hH.mono mPh (by go_grown)) hn (by simp)
    (fun _ _ => by kernel_rfl) (fun w' hb x _ => by
      have hcell : ∀ (b o : Nat) (u : Value), b < w.heap.size + 2 → ((w.alloc (.cells #[.string nm] 9)).alloc (.cells #[.int .i64 v.kind, .int .i64 v.int, .string v.str] 26)).cell? ⟨b, o, none⟩ = some u → w'.cell? ⟨b, o, none⟩ = some u := fun b o u h1 h2 => (hb.cell (p := ⟨b, o, none⟩) h1).trans h2
      exact impl_postingAt_1 x nm v _ _ _ _ w' (hcell _ _ _ (by omega) (by go_simp)) (hcell _ _ _ (by omega) (by go_simp)) (hcell _ _ _ (by omega) (by go_simp)) (hcell _ _ _ (by omega) (by go_simp))))
  rw [he] at HC
  clear hS hI hH he
  go_enter Try.func99, Try.ntmps99
  go_wp2_with fail
  refine HC.out.mono ?_; rintro e w1 ⟨rfl, hb1⟩
  go_wp2_with fail
  go_returns
  exact ⟨rfl, ex_trans (by go_grown) hb1⟩
set_option maxHeartbeats 1600000 in
theorem impl_LookupIndex (A : Option Addr) (n c : Nat) (l : List Pst) (nm : ByteArray) (v : Vl) (w : World) (hS : Sl 5 RPst w A n l) (hn : n ≤ 1073741824) (hok : ∀ p ∈ l, p.ok 1073741824) :
    Calls Try.prog 46 #[.slice A n c, .string nm, v.v] w (NewRow id 3 1 eInt w (lookI l nm v)) := by
  have HC := Lib.hid fun w' (hb : Below w.heap.size w w') => impl_postingAt A n c l nm v w' (hS.mono mPst hb) hn
  obtain rfl : l.length = n := hS.len
  cases hx : l.findIdx? (isPst nm v) with
  | none =>
    have h0 := List.findIdx?_eq_none_iff.1 hx
    have ei : idxI (isPst nm v) l = -1 := by unfold idxI; rw [hx]
    have hz : lookI l nm v = [] := lookI_none (k := l.length) (Nat.le_refl _) fun i hi _ => h0 _ (List.getElem_mem hi)
    rw [hz]
    rw [ei] at HC
    have HC' := Lib.hid HC.out
    clear HC hx h0 ei hz hok hS
    go_enter Try.func46, Try.ntmps46
    go_wp2_with fail
    refine (HC'.out _ (by go_grown)).mono ?_; rintro e w1 ⟨rfl, hb1⟩
    go_wp2_with fail
    go_returns
    exact ⟨none, 0, rfl, FRow.any0 _ _ _ _ _ _, ex_trans (by go_grown) hb1⟩
  | some i =>
    obtain ⟨hi, hp, hni⟩ := List.findIdx?_eq_some_iff_getElem.1 hx
    have ei : idxI (isPst nm v) l = i := by unfold idxI; rw [hx]
    have hz : lookI l nm v = l[i].ids := lookI_at hi (fun j hj hji => by have := hni j hji; simpa using this) hp
    rw [hz]
    rw [ei] at HC
    have HC' := Lib.hid HC.out
    obtain ⟨b, off, rfl, bw, bc⟩ := hS.pst (by omega)
    obtain ⟨qA, qn, qc', q0, q1, q2, q3, q4, qS⟩ := bc i hi
    have hqn : qn ≤ 1073741824 := by rw [← qS.len]; exact (hok _ (List.getElem_mem hi)).2.2
    have i0 : (0 : Int) ≤ (i : Int) := by omega
    have i1 : (i : Int) < (l.length : Int) := by omega
    have HD := Lib.hid fun w' (hb : Below w.heap.size w w') => slices_Clone_int qA qn qc' l[i].ids w' (qS.mono mInt hb) hqn
    clear HC hx ei hz hok hS hni hp bc qS
    go_enter Try.func46, Try.ntmps46
    go_wp2_with fail
    refine (HC'.out _ (by go_grown)).mono ?_; rintro e w1 ⟨rfl, hb1⟩
    have hB1 := ex_trans (w := w) (by go_grown) hb1
    rw [← hB1.cell (p := ⟨b, _, none⟩) bw] at q4
    go_wp2_with fail
    refine (HD.out _ hB1).mono ?_; rintro e w2 ⟨A2, c2, rfl, hr2, hb2⟩
    go_wp2_with fail
    go_returns
    exact ⟨A2, c2, rfl, hr2.re (fun b hb => by have := (hr2.base b hb).1; have := hB1.size; omega), ex_trans hB1 hb2⟩
set_option maxHeartbeats 6400000 in
theorem spec_LookupIndex (A : Option Addr) (n c : Nat) (l : List Pst) (nm : ByteArray) (v : Vl) (w : World) (hS : Sl 5 RPst w A n l) (hn : n ≤ 1073741824) (hok : ∀ p ∈ l, p.ok 1073741824) :
    Calls Try.prog 43 #[.slice A n c, .string nm, v.v] w (NewRow id 3 1 eInt w (lookI l nm v)) := by
  obtain rfl : l.length = n := hS.len
  obtain ⟨ii, hi, hi0, hi1, hi2⟩ := info_parts info_int
  go_enter Try.func43, Try.ntmps43
  go_wp2_with fail
  go_loopw [7] (fun i wr => ∃ k : Nat, k ≤ l.length ∧ i = .int .i64 k ∧ noneTo (isPst nm v) l k ∧ wr.cell? ⟨w.heap.size, 0, none⟩ = some (.int .i64 v.kind) ∧ wr.cell? ⟨w.heap.size, 1, none⟩ = some (.int .i64 v.int) ∧ wr.cell? ⟨w.heap.size, 2, none⟩ = some (.string v.str) ∧ w.heap.size < wr.heap.size ∧ Below w.heap.size w wr) (fun i _ => l.length - (intOf i).toNat)
  case atStart => exact ⟨0, Nat.zero_le _, rfl, noneTo_zero _ _, by go_simp, by go_simp, by go_simp, by simp <;> omega, by go_grown⟩
  case round =>
    obtain ⟨k, hk, rfl, hN, v0, v1, v2, hz, hb⟩ := hrel
    by_cases hlt : k < l.length
    · have i0 : (0 : Int) ≤ (k : Int) := by omega
      have i1 : (k : Int) < (l.length : Int) := by omega
      obtain ⟨b, off, rfl, bw, bc⟩ := hS.pst (by omega)
      obtain ⟨qA, qn, qc', q0, q1, q2, q3, q4, qS⟩ := bc k (by omega)
      have qT := qS.mono mInt hb
      have bw' := keep_lt hb bw
      have hqn : qn ≤ 1073741824 := by rw [← qT.len]; exact (hok _ (List.getElem_mem hlt)).2.2
      rw [← hb.cell (p := ⟨b, _, none⟩) bw] at q0 q1 q2 q3 q4
      clear bc qS hok
      cases h0 : (l[k].name.toList == nm.toList) with
      | false =>
        have hf : isPst nm v l[k] = false := by simp [isPst, eqS, h0]
        have HN := Lib.hid (noneTo_succ hN (fun _ => hf))
        clear hf hN
        go_wp2_with fail
        refine wp_region_held_drew (S := (fun w' => w'.cell? ⟨b, off + k * 5, none⟩ = some (.string l[k].name) ∧ w'.cell? ⟨b, off + k * 5 + 1, none⟩ = some (.int .i64 l[k].val.kind) ∧ w'.cell? ⟨b, off + k * 5 + 2, none⟩ = some (.int .i64 l[k].val.int) ∧ w'.cell? ⟨b, off + k * 5 + 3, none⟩ = some (.string l[k].val.str) ∧ w'.cell? ⟨b, off + k * 5 + 4, none⟩ = some (.slice qA qn qc') ∧ w'.cell? ⟨w.heap.size, 0, none⟩ = some (.int .i64 v.kind) ∧ w'.cell? ⟨w.heap.size, 1, none⟩ = some (.int .i64 v.int) ∧ w'.cell? ⟨w.heap.size, 2, none⟩ = some (.string v.str) ∧ Below w.heap.size w w')) (by kernel_rfl) (by (try dsimp only); exact ⟨q0, q1, q2, q3, q4, v0, v1, v2, hb.drew⟩) (fun hHeld => ?_)
        first | (refine held_take 0 rfl (by kernel_rfl) (by kernel_rfl) (by kernel_rfl) (by rfl) (fun _ _ _ h => h) (by assumption) (by intro w hSw; (try dsimp only at hSw); go_simp; first | done | with_reducible rfl) ?_) | (refine held_skip 0 rfl (by kernel_rfl) (by kernel_rfl) (by kernel_rfl) (by rfl) (fun _ _ _ h => h) (by assumption) ?_)
        simp only [Act.put, List.setIfInBounds_toArray, List.set_cons_zero, List.set_cons_succ]
        first | (refine held_take 1 rfl (by kernel_rfl) (by kernel_rfl) (by kernel_rfl) (by rfl) (fun _ _ _ h => h) (by assumption) (by intro w hSw; (try dsimp only at hSw); go_simp; first | done | with_reducible rfl) ?_) | (refine held_skip 1 rfl (by kernel_rfl) (by kernel_rfl) (by kernel_rfl) (by rfl) (fun _ _ _ h => h) (by assumption) ?_)
        simp only [Act.put, List.setIfInBounds_toArray, List.set_cons_zero, List.set_cons_succ]
        first | (refine held_take 2 rfl (by kernel_rfl) (by kernel_rfl) (by kernel_rfl) (by rfl) (fun _ _ _ h => h) (by assumption) (by intro w hSw; (try dsimp only at hSw); go_simp; first | done | with_reducible rfl) ?_) | (refine held_skip 2 rfl (by kernel_rfl) (by kernel_rfl) (by kernel_rfl) (by rfl) (fun _ _ _ h => h) (by assumption) ?_)
        simp only [Act.put, List.setIfInBounds_toArray, List.set_cons_zero, List.set_cons_succ]
        first | (refine held_take 3 rfl (by kernel_rfl) (by kernel_rfl) (by kernel_rfl) (by rfl) (fun _ _ _ h => h) (by assumption) (by intro w hSw; (try dsimp only at hSw); go_simp; first | done | with_reducible rfl) ?_) | (refine held_skip 3 rfl (by kernel_rfl) (by kernel_rfl) (by kernel_rfl) (by rfl) (fun _ _ _ h => h) (by assumption) ?_)
        simp only [Act.put, List.setIfInBounds_toArray, List.set_cons_zero, List.set_cons_succ]
        first | (refine held_take 4 rfl (by kernel_rfl) (by kernel_rfl) (by kernel_rfl) (by rfl) (fun _ _ _ h => h) (by assumption) (by intro w hSw; (try dsimp only at hSw); go_simp; first | done | with_reducible rfl) ?_) | (refine held_skip 4 rfl (by kernel_rfl) (by kernel_rfl) (by kernel_rfl) (by rfl) (fun _ _ _ h => h) (by assumption) ?_)
        simp only [Act.put, List.setIfInBounds_toArray, List.set_cons_zero, List.set_cons_succ]
        first | (refine held_take 5 rfl (by kernel_rfl) (by kernel_rfl) (by kernel_rfl) (by rfl) (fun _ _ _ h => h) (by assumption) (by intro w hSw; (try dsimp only at hSw); go_simp; first | done | with_reducible rfl) ?_) | (refine held_skip 5 rfl (by kernel_rfl) (by kernel_rfl) (by kernel_rfl) (by rfl) (fun _ _ _ h => h) (by assumption) ?_)
        simp only [Act.put, List.setIfInBounds_toArray, List.set_cons_zero, List.set_cons_succ]
        first | (refine held_take 6 rfl (by kernel_rfl) (by kernel_rfl) (by kernel_rfl) (by rfl) (fun _ _ _ h => h) (by assumption) (by intro w hSw; (try dsimp only at hSw); go_simp; first | done | with_reducible rfl) ?_) | (refine held_skip 6 rfl (by kernel_rfl) (by kernel_rfl) (by kernel_rfl) (by rfl) (fun _ _ _ h => h) (by assumption) ?_)
        simp only [Act.put, List.setIfInBounds_toArray, List.set_cons_zero, List.set_cons_succ]
        first | (refine held_take 7 rfl (by kernel_rfl) (by kernel_rfl) (by kernel_rfl) (by rfl) (fun _ _ _ h => h) (by assumption) (by intro w hSw; (try dsimp only at hSw); go_simp; first | done | with_reducible rfl) ?_) | (refine held_skip 7 rfl (by kernel_rfl) (by kernel_rfl) (by kernel_rfl) (by rfl) (fun _ _ _ h => h) (by assumption) ?_)
        simp only [Act.put, List.setIfInBounds_toArray, List.set_cons_zero, List.set_cons_succ]
        first | (refine held_take 8 rfl (by kernel_rfl) (by kernel_rfl) (by kernel_rfl) (by rfl) (fun _ _ _ h => h) (by assumption) (by intro w hSw; (try dsimp only at hSw); go_simp; first | done | with_reducible rfl) ?_) | (refine held_skip 8 rfl (by kernel_rfl) (by kernel_rfl) (by kernel_rfl) (by rfl) (fun _ _ _ h => h) (by assumption) ?_)
        simp only [Act.put, List.setIfInBounds_toArray, List.set_cons_zero, List.set_cons_succ]
        first | (refine held_take 9 rfl (by kernel_rfl) (by kernel_rfl) (by kernel_rfl) (by rfl) (fun _ _ _ h => h) (by assumption) (by intro w hSw; (try dsimp only at hSw); go_simp; first | done | with_reducible rfl) ?_) | (refine held_skip 9 rfl (by kernel_rfl) (by kernel_rfl) (by kernel_rfl) (by rfl) (fun _ _ _ h => h) (by assumption) ?_)
        simp only [Act.put, List.setIfInBounds_toArray, List.set_cons_zero, List.set_cons_succ]
        first | (refine held_take 10 rfl (by kernel_rfl) (by kernel_rfl) (by kernel_rfl) (by rfl) (fun _ _ _ h => h) (by assumption) (by intro w hSw; (try dsimp only at hSw); go_simp; first | done | with_reducible rfl) ?_) | (refine held_skip 10 rfl (by kernel_rfl) (by kernel_rfl) (by kernel_rfl) (by rfl) (fun _ _ _ h => h) (by assumption) ?_)
        simp only [Act.put, List.setIfInBounds_toArray, List.set_cons_zero, List.set_cons_succ]
        first | (refine held_take 11 rfl (by kernel_rfl) (by kernel_rfl) (by kernel_rfl) (by rfl) (fun _ _ _ h => h) (by assumption) (by intro w hSw; (try dsimp only at hSw); go_simp; first | done | with_reducible rfl) ?_) | (refine held_skip 11 rfl (by kernel_rfl) (by kernel_rfl) (by kernel_rfl) (by rfl) (fun _ _ _ h => h) (by assumption) ?_)
        simp only [Act.put, List.setIfInBounds_toArray, List.set_cons_zero, List.set_cons_succ]
        first | (refine held_take 12 rfl (by kernel_rfl) (by kernel_rfl) (by kernel_rfl) (by rfl) (fun _ _ _ h => h) (by assumption) (by intro w hSw; (try dsimp only at hSw); go_simp; first | done | with_reducible rfl) ?_) | (refine held_skip 12 rfl (by kernel_rfl) (by kernel_rfl) (by kernel_rfl) (by rfl) (fun _ _ _ h => h) (by assumption) ?_)
        simp only [Act.put, List.setIfInBounds_toArray, List.set_cons_zero, List.set_cons_succ]
        first | (refine held_take 13 rfl (by kernel_rfl) (by kernel_rfl) (by kernel_rfl) (by rfl) (fun _ _ _ h => h) (by assumption) (by intro w hSw; (try dsimp only at hSw); go_simp; first | done | with_reducible rfl) ?_) | (refine held_skip 13 rfl (by kernel_rfl) (by kernel_rfl) (by kernel_rfl) (by rfl) (fun _ _ _ h => h) (by assumption) ?_)
        simp only [Act.put, List.setIfInBounds_toArray, List.set_cons_zero, List.set_cons_succ]
        first | (refine held_take 14 rfl (by kernel_rfl) (by kernel_rfl) (by kernel_rfl) (by rfl) (fun _ _ _ h => h) (by assumption) (by intro w hSw; (try dsimp only at hSw); go_simp; first | done | with_reducible rfl) ?_) | (refine held_skip 14 rfl (by kernel_rfl) (by kernel_rfl) (by kernel_rfl) (by rfl) (fun _ _ _ h => h) (by assumption) ?_)
        simp only [Act.put, List.setIfInBounds_toArray, List.set_cons_zero, List.set_cons_succ]
        first | (refine held_take 15 rfl (by kernel_rfl) (by kernel_rfl) (by kernel_rfl) (by rfl) (fun _ _ _ h => h) (by assumption) (by intro w hSw; (try dsimp only at hSw); go_simp; first | done | with_reducible rfl) ?_) | (refine held_skip 15 rfl (by kernel_rfl) (by kernel_rfl) (by kernel_rfl) (by rfl) (fun _ _ _ h => h) (by assumption) ?_)
        simp only [Act.put, List.setIfInBounds_toArray, List.set_cons_zero, List.set_cons_succ]
        refine wpAnyH_done (by kernel_rfl) ?_ _
        obtain ⟨y0, y1, y2, y3, y4, u0, u1, u2, hB⟩ := hHeld
        go_wp2_with fail
        go_roundw
        case rel => exact ⟨k + 1, by omega, by go_num, HN.out, u0, u1, u2, hz, hB⟩
        case measure => simp [intOf]; omega
      | true =>
        cases h1 : (l[k].val.kind == v.kind) with
        | false =>
          have hf : isPst nm v l[k] = false := by simp [isPst, eqS, Vl.eqb, h1]
          have HN := Lib.hid (noneTo_succ hN (fun _ => hf))
          clear hf hN
          go_wp2_with fail
          refine wp_region_held_drew (S := (fun w' => w'.cell? ⟨b, off + k * 5, none⟩ = some (.string l[k].name) ∧ w'.cell? ⟨b, off + k * 5 + 1, none⟩ = some (.int .i64 l[k].val.kind) ∧ w'.cell? ⟨b, off + k * 5 + 2, none⟩ = some (.int .i64 l[k].val.int) ∧ w'.cell? ⟨b, off + k * 5 + 3, none⟩ = some (.string l[k].val.str) ∧ w'.cell? ⟨b, off + k * 5 + 4, none⟩ = some (.slice qA qn qc') ∧ w'.cell? ⟨w.heap.size, 0, none⟩ = some (.int .i64 v.kind) ∧ w'.cell? ⟨w.heap.size, 1, none⟩ = some (.int .i64 v.int) ∧ w'.cell? ⟨w.heap.size, 2, none⟩ = some (.string v.str) ∧ Below w.heap.size w w')) (by kernel_rfl) (by (try dsimp only); exact ⟨q0, q1, q2, q3, q4, v0, v1, v2, hb.drew⟩) (fun hHeld => ?_)
          first | (refine held_take 0 rfl (by kernel_rfl) (by kernel_rfl) (by kernel_rfl) (by rfl) (fun _ _ _ h => h) (by assumption) (by intro w hSw; (try dsimp only at hSw); go_simp; first | done | with_reducible rfl) ?_) | (refine held_skip 0 rfl (by kernel_rfl) (by kernel_rfl) (by kernel_rfl) (by rfl) (fun _ _ _ h => h) (by assumption) ?_)
          simp only [Act.put, List.setIfInBounds_toArray, List.set_cons_zero, List.set_cons_succ]
          first | (refine held_take 1 rfl (by kernel_rfl) (by kernel_rfl) (by kernel_rfl) (by rfl) (fun _ _ _ h => h) (by assumption) (by intro w hSw; (try dsimp only at hSw); go_simp; first | done | with_reducible rfl) ?_) | (refine held_skip 1 rfl (by kernel_rfl) (by kernel_rfl) (by kernel_rfl) (by rfl) (fun _ _ _ h => h) (by assumption) ?_)
          simp only [Act.put, List.setIfInBounds_toArray, List.set_cons_zero, List.set_cons_succ]
          first | (refine held_take 2 rfl (by kernel_rfl) (by kernel_rfl) (by kernel_rfl) (by rfl) (fun _ _ _ h => h) (by assumption) (by intro w hSw; (try dsimp only at hSw); go_simp; first | done | with_reducible rfl) ?_) | (refine held_skip 2 rfl (by kernel_rfl) (by kernel_rfl) (by kernel_rfl) (by rfl) (fun _ _ _ h => h) (by assumption) ?_)
          simp only [Act.put, List.setIfInBounds_toArray, List.set_cons_zero, List.set_cons_succ]
          first | (refine held_take 3 rfl (by kernel_rfl) (by kernel_rfl) (by kernel_rfl) (by rfl) (fun _ _ _ h => h) (by assumption) (by intro w hSw; (try dsimp only at hSw); go_simp; first | done | with_reducible rfl) ?_) | (refine held_skip 3 rfl (by kernel_rfl) (by kernel_rfl) (by kernel_rfl) (by rfl) (fun _ _ _ h => h) (by assumption) ?_)
          simp only [Act.put, List.setIfInBounds_toArray, List.set_cons_zero, List.set_cons_succ]
          first | (refine held_take 4 rfl (by kernel_rfl) (by kernel_rfl) (by kernel_rfl) (by rfl) (fun _ _ _ h => h) (by assumption) (by intro w hSw; (try dsimp only at hSw); go_simp; first | done | with_reducible rfl) ?_) | (refine held_skip 4 rfl (by kernel_rfl) (by kernel_rfl) (by kernel_rfl) (by rfl) (fun _ _ _ h => h) (by assumption) ?_)
          simp only [Act.put, List.setIfInBounds_toArray, List.set_cons_zero, List.set_cons_succ]
          first | (refine held_take 5 rfl (by kernel_rfl) (by kernel_rfl) (by kernel_rfl) (by rfl) (fun _ _ _ h => h) (by assumption) (by intro w hSw; (try dsimp only at hSw); go_simp; first | done | with_reducible rfl) ?_) | (refine held_skip 5 rfl (by kernel_rfl) (by kernel_rfl) (by kernel_rfl) (by rfl) (fun _ _ _ h => h) (by assumption) ?_)
          simp only [Act.put, List.setIfInBounds_toArray, List.set_cons_zero, List.set_cons_succ]
          first | (refine held_take 6 rfl (by kernel_rfl) (by kernel_rfl) (by kernel_rfl) (by rfl) (fun _ _ _ h => h) (by assumption) (by intro w hSw; (try dsimp only at hSw); go_simp; first | done | with_reducible rfl) ?_) | (refine held_skip 6 rfl (by kernel_rfl) (by kernel_rfl) (by kernel_rfl) (by rfl) (fun _ _ _ h => h) (by assumption) ?_)
          simp only [Act.put, List.setIfInBounds_toArray, List.set_cons_zero, List.set_cons_succ]
          first | (refine held_take 7 rfl (by kernel_rfl) (by kernel_rfl) (by kernel_rfl) (by rfl) (fun _ _ _ h => h) (by assumption) (by intro w hSw; (try dsimp only at hSw); go_simp; first | done | with_reducible rfl) ?_) | (refine held_skip 7 rfl (by kernel_rfl) (by kernel_rfl) (by kernel_rfl) (by rfl) (fun _ _ _ h => h) (by assumption) ?_)
          simp only [Act.put, List.setIfInBounds_toArray, List.set_cons_zero, List.set_cons_succ]
          first | (refine held_take 8 rfl (by kernel_rfl) (by kernel_rfl) (by kernel_rfl) (by rfl) (fun _ _ _ h => h) (by assumption) (by intro w hSw; (try dsimp only at hSw); go_simp; first | done | with_reducible rfl) ?_) | (refine held_skip 8 rfl (by kernel_rfl) (by kernel_rfl) (by kernel_rfl) (by rfl) (fun _ _ _ h => h) (by assumption) ?_)
          simp only [Act.put, List.setIfInBounds_toArray, List.set_cons_zero, List.set_cons_succ]
          first | (refine held_take 9 rfl (by kernel_rfl) (by kernel_rfl) (by kernel_rfl) (by rfl) (fun _ _ _ h => h) (by assumption) (by intro w hSw; (try dsimp only at hSw); go_simp; first | done | with_reducible rfl) ?_) | (refine held_skip 9 rfl (by kernel_rfl) (by kernel_rfl) (by kernel_rfl) (by rfl) (fun _ _ _ h => h) (by assumption) ?_)
          simp only [Act.put, List.setIfInBounds_toArray, List.set_cons_zero, List.set_cons_succ]
          first | (refine held_take 10 rfl (by kernel_rfl) (by kernel_rfl) (by kernel_rfl) (by rfl) (fun _ _ _ h => h) (by assumption) (by intro w hSw; (try dsimp only at hSw); go_simp; first | done | with_reducible rfl) ?_) | (refine held_skip 10 rfl (by kernel_rfl) (by kernel_rfl) (by kernel_rfl) (by rfl) (fun _ _ _ h => h) (by assumption) ?_)
          simp only [Act.put, List.setIfInBounds_toArray, List.set_cons_zero, List.set_cons_succ]
          first | (refine held_take 11 rfl (by kernel_rfl) (by kernel_rfl) (by kernel_rfl) (by rfl) (fun _ _ _ h => h) (by assumption) (by intro w hSw; (try dsimp only at hSw); go_simp; first | done | with_reducible rfl) ?_) | (refine held_skip 11 rfl (by kernel_rfl) (by kernel_rfl) (by kernel_rfl) (by rfl) (fun _ _ _ h => h) (by assumption) ?_)
          simp only [Act.put, List.setIfInBounds_toArray, List.set_cons_zero, List.set_cons_succ]
          first | (refine held_take 12 rfl (by kernel_rfl) (by kernel_rfl) (by kernel_rfl) (by rfl) (fun _ _ _ h => h) (by assumption) (by intro w hSw; (try dsimp only at hSw); go_simp; first | done | with_reducible rfl) ?_) | (refine held_skip 12 rfl (by kernel_rfl) (by kernel_rfl) (by kernel_rfl) (by rfl) (fun _ _ _ h => h) (by assumption) ?_)
          simp only [Act.put, List.setIfInBounds_toArray, List.set_cons_zero, List.set_cons_succ]
          first | (refine held_take 13 rfl (by kernel_rfl) (by kernel_rfl) (by kernel_rfl) (by rfl) (fun _ _ _ h => h) (by assumption) (by intro w hSw; (try dsimp only at hSw); go_simp; first | done | with_reducible rfl) ?_) | (refine held_skip 13 rfl (by kernel_rfl) (by kernel_rfl) (by kernel_rfl) (by rfl) (fun _ _ _ h => h) (by assumption) ?_)
          simp only [Act.put, List.setIfInBounds_toArray, List.set_cons_zero, List.set_cons_succ]
          first | (refine held_take 14 rfl (by kernel_rfl) (by kernel_rfl) (by kernel_rfl) (by rfl) (fun _ _ _ h => h) (by assumption) (by intro w hSw; (try dsimp only at hSw); go_simp; first | done | with_reducible rfl) ?_) | (refine held_skip 14 rfl (by kernel_rfl) (by kernel_rfl) (by kernel_rfl) (by rfl) (fun _ _ _ h => h) (by assumption) ?_)
          simp only [Act.put, List.setIfInBounds_toArray, List.set_cons_zero, List.set_cons_succ]
          first | (refine held_take 15 rfl (by kernel_rfl) (by kernel_rfl) (by kernel_rfl) (by rfl) (fun _ _ _ h => h) (by assumption) (by intro w hSw; (try dsimp only at hSw); go_simp; first | done | with_reducible rfl) ?_) | (refine held_skip 15 rfl (by kernel_rfl) (by kernel_rfl) (by kernel_rfl) (by rfl) (fun _ _ _ h => h) (by assumption) ?_)
          simp only [Act.put, List.setIfInBounds_toArray, List.set_cons_zero, List.set_cons_succ]
          refine wpAnyH_done (by kernel_rfl) ?_ _
          obtain ⟨y0, y1, y2, y3, y4, u0, u1, u2, hB⟩ := hHeld
          go_wp2_with fail
          go_roundw
          case rel => exact ⟨k + 1, by omega, by go_num, HN.out, u0, u1, u2, hz, hB⟩
          case measure => simp [intOf]; omega
        | true =>
          cases h2 : (l[k].val.int == v.int) with
          | false =>
            have hf : isPst nm v l[k] = false := by simp [isPst, eqS, Vl.eqb, h2]
            have HN := Lib.hid (noneTo_succ hN (fun _ => hf))
            clear hf hN
            go_wp2_with fail
            refine wp_region_held_drew (S := (fun w' => w'.cell? ⟨b, off + k * 5, none⟩ = some (.string l[k].name) ∧ w'.cell? ⟨b, off + k * 5 + 1, none⟩ = some (.int .i64 l[k].val.kind) ∧ w'.cell? ⟨b, off + k * 5 + 2, none⟩ = some (.int .i64 l[k].val.int) ∧ w'.cell? ⟨b, off + k * 5 + 3, none⟩ = some (.string l[k].val.str) ∧ w'.cell? ⟨b, off + k * 5 + 4, none⟩ = some (.slice qA qn qc') ∧ w'.cell? ⟨w.heap.size, 0, none⟩ = some (.int .i64 v.kind) ∧ w'.cell? ⟨w.heap.size, 1, none⟩ = some (.int .i64 v.int) ∧ w'.cell? ⟨w.heap.size, 2, none⟩ = some (.string v.str) ∧ Below w.heap.size w w')) (by kernel_rfl) (by (try dsimp only); exact ⟨q0, q1, q2, q3, q4, v0, v1, v2, hb.drew⟩) (fun hHeld => ?_)
            first | (refine held_take 0 rfl (by kernel_rfl) (by kernel_rfl) (by kernel_rfl) (by rfl) (fun _ _ _ h => h) (by assumption) (by intro w hSw; (try dsimp only at hSw); go_simp; first | done | with_reducible rfl) ?_) | (refine held_skip 0 rfl (by kernel_rfl) (by kernel_rfl) (by kernel_rfl) (by rfl) (fun _ _ _ h => h) (by assumption) ?_)
            simp only [Act.put, List.setIfInBounds_toArray, List.set_cons_zero, List.set_cons_succ]
            first | (refine held_take 1 rfl (by kernel_rfl) (by kernel_rfl) (by kernel_rfl) (by rfl) (fun _ _ _ h => h) (by assumption) (by intro w hSw; (try dsimp only at hSw); go_simp; first | done | with_reducible rfl) ?_) | (refine held_skip 1 rfl (by kernel_rfl) (by kernel_rfl) (by kernel_rfl) (by rfl) (fun _ _ _ h => h) (by assumption) ?_)
            simp only [Act.put, List.setIfInBounds_toArray, List.set_cons_zero, List.set_cons_succ]
            first | (refine held_take 2 rfl (by kernel_rfl) (by kernel_rfl) (by kernel_rfl) (by rfl) (fun _ _ _ h => h) (by assumption) (by intro w hSw; (try dsimp only at hSw); go_simp; first | done | with_reducible rfl) ?_) | (refine held_skip 2 rfl (by kernel_rfl) (by kernel_rfl) (by kernel_rfl) (by rfl) (fun _ _ _ h => h) (by assumption) ?_)
            simp only [Act.put, List.setIfInBounds_toArray, List.set_cons_zero, List.set_cons_succ]
            first | (refine held_take 3 rfl (by kernel_rfl) (by kernel_rfl) (by kernel_rfl) (by rfl) (fun _ _ _ h => h) (by assumption) (by intro w hSw; (try dsimp only at hSw); go_simp; first | done | with_reducible rfl) ?_) | (refine held_skip 3 rfl (by kernel_rfl) (by kernel_rfl) (by kernel_rfl) (by rfl) (fun _ _ _ h => h) (by assumption) ?_)
            simp only [Act.put, List.setIfInBounds_toArray, List.set_cons_zero, List.set_cons_succ]
            first | (refine held_take 4 rfl (by kernel_rfl) (by kernel_rfl) (by kernel_rfl) (by rfl) (fun _ _ _ h => h) (by assumption) (by intro w hSw; (try dsimp only at hSw); go_simp; first | done | with_reducible rfl) ?_) | (refine held_skip 4 rfl (by kernel_rfl) (by kernel_rfl) (by kernel_rfl) (by rfl) (fun _ _ _ h => h) (by assumption) ?_)
            simp only [Act.put, List.setIfInBounds_toArray, List.set_cons_zero, List.set_cons_succ]
            first | (refine held_take 5 rfl (by kernel_rfl) (by kernel_rfl) (by kernel_rfl) (by rfl) (fun _ _ _ h => h) (by assumption) (by intro w hSw; (try dsimp only at hSw); go_simp; first | done | with_reducible rfl) ?_) | (refine held_skip 5 rfl (by kernel_rfl) (by kernel_rfl) (by kernel_rfl) (by rfl) (fun _ _ _ h => h) (by assumption) ?_)
            simp only [Act.put, List.setIfInBounds_toArray, List.set_cons_zero, List.set_cons_succ]
            first | (refine held_take 6 rfl (by kernel_rfl) (by kernel_rfl) (by kernel_rfl) (by rfl) (fun _ _ _ h => h) (by assumption) (by intro w hSw; (try dsimp only at hSw); go_simp; first | done | with_reducible rfl) ?_) | (refine held_skip 6 rfl (by kernel_rfl) (by kernel_rfl) (by kernel_rfl) (by rfl) (fun _ _ _ h => h) (by assumption) ?_)
            simp only [Act.put, List.setIfInBounds_toArray, List.set_cons_zero, List.set_cons_succ]
            first | (refine held_take 7 rfl (by kernel_rfl) (by kernel_rfl) (by kernel_rfl) (by rfl) (fun _ _ _ h => h) (by assumption) (by intro w hSw; (try dsimp only at hSw); go_simp; first | done | with_reducible rfl) ?_) | (refine held_skip 7 rfl (by kernel_rfl) (by kernel_rfl) (by kernel_rfl) (by rfl) (fun _ _ _ h => h) (by assumption) ?_)
            simp only [Act.put, List.setIfInBounds_toArray, List.set_cons_zero, List.set_cons_succ]
            first | (refine held_take 8 rfl (by kernel_rfl) (by kernel_rfl) (by kernel_rfl) (by rfl) (fun _ _ _ h => h) (by assumption) (by intro w hSw; (try dsimp only at hSw); go_simp; first | done | with_reducible rfl) ?_) | (refine held_skip 8 rfl (by kernel_rfl) (by kernel_rfl) (by kernel_rfl) (by rfl) (fun _ _ _ h => h) (by assumption) ?_)
            simp only [Act.put, List.setIfInBounds_toArray, List.set_cons_zero, List.set_cons_succ]
            first | (refine held_take 9 rfl (by kernel_rfl) (by kernel_rfl) (by kernel_rfl) (by rfl) (fun _ _ _ h => h) (by assumption) (by intro w hSw; (try dsimp only at hSw); go_simp; first | done | with_reducible rfl) ?_) | (refine held_skip 9 rfl (by kernel_rfl) (by kernel_rfl) (by kernel_rfl) (by rfl) (fun _ _ _ h => h) (by assumption) ?_)
            simp only [Act.put, List.setIfInBounds_toArray, List.set_cons_zero, List.set_cons_succ]
            first | (refine held_take 10 rfl (by kernel_rfl) (by kernel_rfl) (by kernel_rfl) (by rfl) (fun _ _ _ h => h) (by assumption) (by intro w hSw; (try dsimp only at hSw); go_simp; first | done | with_reducible rfl) ?_) | (refine held_skip 10 rfl (by kernel_rfl) (by kernel_rfl) (by kernel_rfl) (by rfl) (fun _ _ _ h => h) (by assumption) ?_)
            simp only [Act.put, List.setIfInBounds_toArray, List.set_cons_zero, List.set_cons_succ]
            first | (refine held_take 11 rfl (by kernel_rfl) (by kernel_rfl) (by kernel_rfl) (by rfl) (fun _ _ _ h => h) (by assumption) (by intro w hSw; (try dsimp only at hSw); go_simp; first | done | with_reducible rfl) ?_) | (refine held_skip 11 rfl (by kernel_rfl) (by kernel_rfl) (by kernel_rfl) (by rfl) (fun _ _ _ h => h) (by assumption) ?_)
            simp only [Act.put, List.setIfInBounds_toArray, List.set_cons_zero, List.set_cons_succ]
            first | (refine held_take 12 rfl (by kernel_rfl) (by kernel_rfl) (by kernel_rfl) (by rfl) (fun _ _ _ h => h) (by assumption) (by intro w hSw; (try dsimp only at hSw); go_simp; first | done | with_reducible rfl) ?_) | (refine held_skip 12 rfl (by kernel_rfl) (by kernel_rfl) (by kernel_rfl) (by rfl) (fun _ _ _ h => h) (by assumption) ?_)
            simp only [Act.put, List.setIfInBounds_toArray, List.set_cons_zero, List.set_cons_succ]
            first | (refine held_take 13 rfl (by kernel_rfl) (by kernel_rfl) (by kernel_rfl) (by rfl) (fun _ _ _ h => h) (by assumption) (by intro w hSw; (try dsimp only at hSw); go_simp; first | done | with_reducible rfl) ?_) | (refine held_skip 13 rfl (by kernel_rfl) (by kernel_rfl) (by kernel_rfl) (by rfl) (fun _ _ _ h => h) (by assumption) ?_)
            simp only [Act.put, List.setIfInBounds_toArray, List.set_cons_zero, List.set_cons_succ]
            first | (refine held_take 14 rfl (by kernel_rfl) (by kernel_rfl) (by kernel_rfl) (by rfl) (fun _ _ _ h => h) (by assumption) (by intro w hSw; (try dsimp only at hSw); go_simp; first | done | with_reducible rfl) ?_) | (refine held_skip 14 rfl (by kernel_rfl) (by kernel_rfl) (by kernel_rfl) (by rfl) (fun _ _ _ h => h) (by assumption) ?_)
            simp only [Act.put, List.setIfInBounds_toArray, List.set_cons_zero, List.set_cons_succ]
            first | (refine held_take 15 rfl (by kernel_rfl) (by kernel_rfl) (by kernel_rfl) (by rfl) (fun _ _ _ h => h) (by assumption) (by intro w hSw; (try dsimp only at hSw); go_simp; first | done | with_reducible rfl) ?_) | (refine held_skip 15 rfl (by kernel_rfl) (by kernel_rfl) (by kernel_rfl) (by rfl) (fun _ _ _ h => h) (by assumption) ?_)
            simp only [Act.put, List.setIfInBounds_toArray, List.set_cons_zero, List.set_cons_succ]
            refine wpAnyH_done (by kernel_rfl) ?_ _
            obtain ⟨y0, y1, y2, y3, y4, u0, u1, u2, hB⟩ := hHeld
            go_wp2_with fail
            go_roundw
            case rel => exact ⟨k + 1, by omega, by go_num, HN.out, u0, u1, u2, hz, hB⟩
            case measure => simp [intOf]; omega
          | true =>
            cases h3 : (l[k].val.str.toList == v.str.toList) with
            | false =>
              have hf : isPst nm v l[k] = false := by simp [isPst, eqS, Vl.eqb, h3]
              have HN := Lib.hid (noneTo_succ hN (fun _ => hf))
              clear hf hN
              go_wp2_with fail
              refine wp_region_held_drew (S := (fun w' => w'.cell? ⟨b, off + k * 5, none⟩ = some (.string l[k].name) ∧ w'.cell? ⟨b, off + k * 5 + 1, none⟩ = some (.int .i64 l[k].val.kind) ∧ w'.cell? ⟨b, off + k * 5 + 2, none⟩ = some (.int .i64 l[k].val.int) ∧ w'.cell? ⟨b, off + k * 5 + 3, none⟩ = some (.string l[k].val.str) ∧ w'.cell? ⟨b, off + k * 5 + 4, none⟩ = some (.slice qA qn qc') ∧ w'.cell? ⟨w.heap.size, 0, none⟩ = some (.int .i64 v.kind) ∧ w'.cell? ⟨w.heap.size, 1, none⟩ = some (.int .i64 v.int) ∧ w'.cell? ⟨w.heap.size, 2, none⟩ = some (.string v.str) ∧ Below w.heap.size w w')) (by kernel_rfl) (by (try dsimp only); exact ⟨q0, q1, q2, q3, q4, v0, v1, v2, hb.drew⟩) (fun hHeld => ?_)
              first | (refine held_take 0 rfl (by kernel_rfl) (by kernel_rfl) (by kernel_rfl) (by rfl) (fun _ _ _ h => h) (by assumption) (by intro w hSw; (try dsimp only at hSw); go_simp; first | done | with_reducible rfl) ?_) | (refine held_skip 0 rfl (by kernel_rfl) (by kernel_rfl) (by kernel_rfl) (by rfl) (fun _ _ _ h => h) (by assumption) ?_)
              simp only [Act.put, List.setIfInBounds_toArray, List.set_cons_zero, List.set_cons_succ]
              first | (refine held_take 1 rfl (by kernel_rfl) (by kernel_rfl) (by kernel_rfl) (by rfl) (fun _ _ _ h => h) (by assumption) (by intro w hSw; (try dsimp only at hSw); go_simp; first | done | with_reducible rfl) ?_) | (refine held_skip 1 rfl (by kernel_rfl) (by kernel_rfl) (by kernel_rfl) (by rfl) (fun _ _ _ h => h) (by assumption) ?_)
              simp only [Act.put, List.setIfInBounds_toArray, List.set_cons_zero, List.set_cons_succ]
              first | (refine held_take 2 rfl (by kernel_rfl) (by kernel_rfl) (by kernel_rfl) (by rfl) (fun _ _ _ h => h) (by assumption) (by intro w hSw; (try dsimp only at hSw); go_simp; first | done | with_reducible rfl) ?_) | (refine held_skip 2 rfl (by kernel_rfl) (by kernel_rfl) (by kernel_rfl) (by rfl) (fun _ _ _ h => h) (by assumption) ?_)
              simp only [Act.put, List.setIfInBounds_toArray, List.set_cons_zero, List.set_cons_succ]
              first | (refine held_take 3 rfl (by kernel_rfl) (by kernel_rfl) (by kernel_rfl) (by rfl) (fun _ _ _ h => h) (by assumption) (by intro w hSw; (try dsimp only at hSw); go_simp; first | done | with_reducible rfl) ?_) | (refine held_skip 3 rfl (by kernel_rfl) (by kernel_rfl) (by kernel_rfl) (by rfl) (fun _ _ _ h => h) (by assumption) ?_)
              simp only [Act.put, List.setIfInBounds_toArray, List.set_cons_zero, List.set_cons_succ]
              first | (refine held_take 4 rfl (by kernel_rfl) (by kernel_rfl) (by kernel_rfl) (by rfl) (fun _ _ _ h => h) (by assumption) (by intro w hSw; (try dsimp only at hSw); go_simp; first | done | with_reducible rfl) ?_) | (refine held_skip 4 rfl (by kernel_rfl) (by kernel_rfl) (by kernel_rfl) (by rfl) (fun _ _ _ h => h) (by assumption) ?_)
              simp only [Act.put, List.setIfInBounds_toArray, List.set_cons_zero, List.set_cons_succ]
              first | (refine held_take 5 rfl (by kernel_rfl) (by kernel_rfl) (by kernel_rfl) (by rfl) (fun _ _ _ h => h) (by assumption) (by intro w hSw; (try dsimp only at hSw); go_simp; first | done | with_reducible rfl) ?_) | (refine held_skip 5 rfl (by kernel_rfl) (by kernel_rfl) (by kernel_rfl) (by rfl) (fun _ _ _ h => h) (by assumption) ?_)
              simp only [Act.put, List.setIfInBounds_toArray, List.set_cons_zero, List.set_cons_succ]
              first | (refine held_take 6 rfl (by kernel_rfl) (by kernel_rfl) (by kernel_rfl) (by rfl) (fun _ _ _ h => h) (by assumption) (by intro w hSw; (try dsimp only at hSw); go_simp; first | done | with_reducible rfl) ?_) | (refine held_skip 6 rfl (by kernel_rfl) (by kernel_rfl) (by kernel_rfl) (by rfl) (fun _ _ _ h => h) (by assumption) ?_)
              simp only [Act.put, List.setIfInBounds_toArray, List.set_cons_zero, List.set_cons_succ]
              first | (refine held_take 7 rfl (by kernel_rfl) (by kernel_rfl) (by kernel_rfl) (by rfl) (fun _ _ _ h => h) (by assumption) (by intro w hSw; (try dsimp only at hSw); go_simp; first | done | with_reducible rfl) ?_) | (refine held_skip 7 rfl (by kernel_rfl) (by kernel_rfl) (by kernel_rfl) (by rfl) (fun _ _ _ h => h) (by assumption) ?_)
              simp only [Act.put, List.setIfInBounds_toArray, List.set_cons_zero, List.set_cons_succ]
              first | (refine held_take 8 rfl (by kernel_rfl) (by kernel_rfl) (by kernel_rfl) (by rfl) (fun _ _ _ h => h) (by assumption) (by intro w hSw; (try dsimp only at hSw); go_simp; first | done | with_reducible rfl) ?_) | (refine held_skip 8 rfl (by kernel_rfl) (by kernel_rfl) (by kernel_rfl) (by rfl) (fun _ _ _ h => h) (by assumption) ?_)
              simp only [Act.put, List.setIfInBounds_toArray, List.set_cons_zero, List.set_cons_succ]
              first | (refine held_take 9 rfl (by kernel_rfl) (by kernel_rfl) (by kernel_rfl) (by rfl) (fun _ _ _ h => h) (by assumption) (by intro w hSw; (try dsimp only at hSw); go_simp; first | done | with_reducible rfl) ?_) | (refine held_skip 9 rfl (by kernel_rfl) (by kernel_rfl) (by kernel_rfl) (by rfl) (fun _ _ _ h => h) (by assumption) ?_)
              simp only [Act.put, List.setIfInBounds_toArray, List.set_cons_zero, List.set_cons_succ]
              first | (refine held_take 10 rfl (by kernel_rfl) (by kernel_rfl) (by kernel_rfl) (by rfl) (fun _ _ _ h => h) (by assumption) (by intro w hSw; (try dsimp only at hSw); go_simp; first | done | with_reducible rfl) ?_) | (refine held_skip 10 rfl (by kernel_rfl) (by kernel_rfl) (by kernel_rfl) (by rfl) (fun _ _ _ h => h) (by assumption) ?_)
              simp only [Act.put, List.setIfInBounds_toArray, List.set_cons_zero, List.set_cons_succ]
              first | (refine held_take 11 rfl (by kernel_rfl) (by kernel_rfl) (by kernel_rfl) (by rfl) (fun _ _ _ h => h) (by assumption) (by intro w hSw; (try dsimp only at hSw); go_simp; first | done | with_reducible rfl) ?_) | (refine held_skip 11 rfl (by kernel_rfl) (by kernel_rfl) (by kernel_rfl) (by rfl) (fun _ _ _ h => h) (by assumption) ?_)
              simp only [Act.put, List.setIfInBounds_toArray, List.set_cons_zero, List.set_cons_succ]
              first | (refine held_take 12 rfl (by kernel_rfl) (by kernel_rfl) (by kernel_rfl) (by rfl) (fun _ _ _ h => h) (by assumption) (by intro w hSw; (try dsimp only at hSw); go_simp; first | done | with_reducible rfl) ?_) | (refine held_skip 12 rfl (by kernel_rfl) (by kernel_rfl) (by kernel_rfl) (by rfl) (fun _ _ _ h => h) (by assumption) ?_)
              simp only [Act.put, List.setIfInBounds_toArray, List.set_cons_zero, List.set_cons_succ]
              first | (refine held_take 13 rfl (by kernel_rfl) (by kernel_rfl) (by kernel_rfl) (by rfl) (fun _ _ _ h => h) (by assumption) (by intro w hSw; (try dsimp only at hSw); go_simp; first | done | with_reducible rfl) ?_) | (refine held_skip 13 rfl (by kernel_rfl) (by kernel_rfl) (by kernel_rfl) (by rfl) (fun _ _ _ h => h) (by assumption) ?_)
              simp only [Act.put, List.setIfInBounds_toArray, List.set_cons_zero, List.set_cons_succ]
              first | (refine held_take 14 rfl (by kernel_rfl) (by kernel_rfl) (by kernel_rfl) (by rfl) (fun _ _ _ h => h) (by assumption) (by intro w hSw; (try dsimp only at hSw); go_simp; first | done | with_reducible rfl) ?_) | (refine held_skip 14 rfl (by kernel_rfl) (by kernel_rfl) (by kernel_rfl) (by rfl) (fun _ _ _ h => h) (by assumption) ?_)
              simp only [Act.put, List.setIfInBounds_toArray, List.set_cons_zero, List.set_cons_succ]
              first | (refine held_take 15 rfl (by kernel_rfl) (by kernel_rfl) (by kernel_rfl) (by rfl) (fun _ _ _ h => h) (by assumption) (by intro w hSw; (try dsimp only at hSw); go_simp; first | done | with_reducible rfl) ?_) | (refine held_skip 15 rfl (by kernel_rfl) (by kernel_rfl) (by kernel_rfl) (by rfl) (fun _ _ _ h => h) (by assumption) ?_)
              simp only [Act.put, List.setIfInBounds_toArray, List.set_cons_zero, List.set_cons_succ]
              refine wpAnyH_done (by kernel_rfl) ?_ _
              obtain ⟨y0, y1, y2, y3, y4, u0, u1, u2, hB⟩ := hHeld
              go_wp2_with fail
              go_roundw
              case rel => exact ⟨k + 1, by omega, by go_num, HN.out, u0, u1, u2, hz, hB⟩
              case measure => simp [intOf]; omega
            | true =>
              have hf : isPst nm v l[k] = true := by simp [isPst, eqS, Vl.eqb, h0, h1, h2, h3]
              have HZ := Lib.hid (lookI_at hlt hN hf)
              clear hf hN
              go_wp2_with fail
              refine wp_region_held_drew (S := (fun w' => w'.cell? ⟨b, off + k * 5, none⟩ = some (.string l[k].name) ∧ w'.cell? ⟨b, off + k * 5 + 1, none⟩ = some (.int .i64 l[k].val.kind) ∧ w'.cell? ⟨b, off + k * 5 + 2, none⟩ = some (.int .i64 l[k].val.int) ∧ w'.cell? ⟨b, off + k * 5 + 3, none⟩ = some (.string l[k].val.str) ∧ w'.cell? ⟨b, off + k * 5 + 4, none⟩ = some (.slice qA qn qc') ∧ w'.cell? ⟨w.heap.size, 0, none⟩ = some (.int .i64 v.kind) ∧ w'.cell? ⟨w.heap.size, 1, none⟩ = some (.int .i64 v.int) ∧ w'.cell? ⟨w.heap.size, 2, none⟩ = some (.string v.str) ∧ Below w.heap.size w w')) (by kernel_rfl) (by (try dsimp only); exact ⟨q0, q1, q2, q3, q4, v0, v1, v2, hb.drew⟩) (fun hHeld => ?_)
              first | (refine held_take 0 rfl (by kernel_rfl) (by kernel_rfl) (by kernel_rfl) (by rfl) (fun _ _ _ h => h) (by assumption) (by intro w hSw; (try dsimp only at hSw); go_simp; first | done | with_reducible rfl) ?_) | (refine held_skip 0 rfl (by kernel_rfl) (by kernel_rfl) (by kernel_rfl) (by rfl) (fun _ _ _ h => h) (by assumption) ?_)
              simp only [Act.put, List.setIfInBounds_toArray, List.set_cons_zero, List.set_cons_succ]
              first | (refine held_take 1 rfl (by kernel_rfl) (by kernel_rfl) (by kernel_rfl) (by rfl) (fun _ _ _ h => h) (by assumption) (by intro w hSw; (try dsimp only at hSw); go_simp; first | done | with_reducible rfl) ?_) | (refine held_skip 1 rfl (by kernel_rfl) (by kernel_rfl) (by kernel_rfl) (by rfl) (fun _ _ _ h => h) (by assumption) ?_)
              simp only [Act.put, List.setIfInBounds_toArray, List.set_cons_zero, List.set_cons_succ]
              first | (refine held_take 2 rfl (by kernel_rfl) (by kernel_rfl) (by kernel_rfl) (by rfl) (fun _ _ _ h => h) (by assumption) (by intro w hSw; (try dsimp only at hSw); go_simp; first | done | with_reducible rfl) ?_) | (refine held_skip 2 rfl (by kernel_rfl) (by kernel_rfl) (by kernel_rfl) (by rfl) (fun _ _ _ h => h) (by assumption) ?_)
              simp only [Act.put, List.setIfInBounds_toArray, List.set_cons_zero, List.set_cons_succ]
              first | (refine held_take 3 rfl (by kernel_rfl) (by kernel_rfl) (by kernel_rfl) (by rfl) (fun _ _ _ h => h) (by assumption) (by intro w hSw; (try dsimp only at hSw); go_simp; first | done | with_reducible rfl) ?_) | (refine held_skip 3 rfl (by kernel_rfl) (by kernel_rfl) (by kernel_rfl) (by rfl) (fun _ _ _ h => h) (by assumption) ?_)
              simp only [Act.put, List.setIfInBounds_toArray, List.set_cons_zero, List.set_cons_succ]
              first | (refine held_take 4 rfl (by kernel_rfl) (by kernel_rfl) (by kernel_rfl) (by rfl) (fun _ _ _ h => h) (by assumption) (by intro w hSw; (try dsimp only at hSw); go_simp; first | done | with_reducible rfl) ?_) | (refine held_skip 4 rfl (by kernel_rfl) (by kernel_rfl) (by kernel_rfl) (by rfl) (fun _ _ _ h => h) (by assumption) ?_)
              simp only [Act.put, List.setIfInBounds_toArray, List.set_cons_zero, List.set_cons_succ]
              first | (refine held_take 5 rfl (by kernel_rfl) (by kernel_rfl) (by kernel_rfl) (by rfl) (fun _ _ _ h => h) (by assumption) (by intro w hSw; (try dsimp only at hSw); go_simp; first | done | with_reducible rfl) ?_) | (refine held_skip 5 rfl (by kernel_rfl) (by kernel_rfl) (by kernel_rfl) (by rfl) (fun _ _ _ h => h) (by assumption) ?_)
              simp only [Act.put, List.setIfInBounds_toArray, List.set_cons_zero, List.set_cons_succ]
              first | (refine held_take 6 rfl (by kernel_rfl) (by kernel_rfl) (by kernel_rfl) (by rfl) (fun _ _ _ h => h) (by assumption) (by intro w hSw; (try dsimp only at hSw); go_simp; first | done | with_reducible rfl) ?_) | (refine held_skip 6 rfl (by kernel_rfl) (by kernel_rfl) (by kernel_rfl) (by rfl) (fun _ _ _ h => h) (by assumption) ?_)
              simp only [Act.put, List.setIfInBounds_toArray, List.set_cons_zero, List.set_cons_succ]
              first | (refine held_take 7 rfl (by kernel_rfl) (by kernel_rfl) (by kernel_rfl) (by rfl) (fun _ _ _ h => h) (by assumption) (by intro w hSw; (try dsimp only at hSw); go_simp; first | done | with_reducible rfl) ?_) | (refine held_skip 7 rfl (by kernel_rfl) (by kernel_rfl) (by kernel_rfl) (by rfl) (fun _ _ _ h => h) (by assumption) ?_)
              simp only [Act.put, List.setIfInBounds_toArray, List.set_cons_zero, List.set_cons_succ]
              first | (refine held_take 8 rfl (by kernel_rfl) (by kernel_rfl) (by kernel_rfl) (by rfl) (fun _ _ _ h => h) (by assumption) (by intro w hSw; (try dsimp only at hSw); go_simp; first | done | with_reducible rfl) ?_) | (refine held_skip 8 rfl (by kernel_rfl) (by kernel_rfl) (by kernel_rfl) (by rfl) (fun _ _ _ h => h) (by assumption) ?_)
              simp only [Act.put, List.setIfInBounds_toArray, List.set_cons_zero, List.set_cons_succ]
              first | (refine held_take 9 rfl (by kernel_rfl) (by kernel_rfl) (by kernel_rfl) (by rfl) (fun _ _ _ h => h) (by assumption) (by intro w hSw; (try dsimp only at hSw); go_simp; first | done | with_reducible rfl) ?_) | (refine held_skip 9 rfl (by kernel_rfl) (by kernel_rfl) (by kernel_rfl) (by rfl) (fun _ _ _ h => h) (by assumption) ?_)
              simp only [Act.put, List.setIfInBounds_toArray, List.set_cons_zero, List.set_cons_succ]
              first | (refine held_take 10 rfl (by kernel_rfl) (by kernel_rfl) (by kernel_rfl) (by rfl) (fun _ _ _ h => h) (by assumption) (by intro w hSw; (try dsimp only at hSw); go_simp; first | done | with_reducible rfl) ?_) | (refine held_skip 10 rfl (by kernel_rfl) (by kernel_rfl) (by kernel_rfl) (by rfl) (fun _ _ _ h => h) (by assumption) ?_)
              simp only [Act.put, List.setIfInBounds_toArray, List.set_cons_zero, List.set_cons_succ]
              first | (refine held_take 11 rfl (by kernel_rfl) (by kernel_rfl) (by kernel_rfl) (by rfl) (fun _ _ _ h => h) (by assumption) (by intro w hSw; (try dsimp only at hSw); go_simp; first | done | with_reducible rfl) ?_) | (refine held_skip 11 rfl (by kernel_rfl) (by kernel_rfl) (by kernel_rfl) (by rfl) (fun _ _ _ h => h) (by assumption) ?_)
              simp only [Act.put, List.setIfInBounds_toArray, List.set_cons_zero, List.set_cons_succ]
              first | (refine held_take 12 rfl (by kernel_rfl) (by kernel_rfl) (by kernel_rfl) (by rfl) (fun _ _ _ h => h) (by assumption) (by intro w hSw; (try dsimp only at hSw); go_simp; first | done | with_reducible rfl) ?_) | (refine held_skip 12 rfl (by kernel_rfl) (by kernel_rfl) (by kernel_rfl) (by rfl) (fun _ _ _ h => h) (by assumption) ?_)
              simp only [Act.put, List.setIfInBounds_toArray, List.set_cons_zero, List.set_cons_succ]
              first | (refine held_take 13 rfl (by kernel_rfl) (by kernel_rfl) (by kernel_rfl) (by rfl) (fun _ _ _ h => h) (by assumption) (by intro w hSw; (try dsimp only at hSw); go_simp; first | done | with_reducible rfl) ?_) | (refine held_skip 13 rfl (by kernel_rfl) (by kernel_rfl) (by kernel_rfl) (by rfl) (fun _ _ _ h => h) (by assumption) ?_)
              simp only [Act.put, List.setIfInBounds_toArray, List.set_cons_zero, List.set_cons_succ]
              first | (refine held_take 14 rfl (by kernel_rfl) (by kernel_rfl) (by kernel_rfl) (by rfl) (fun _ _ _ h => h) (by assumption) (by intro w hSw; (try dsimp only at hSw); go_simp; first | done | with_reducible rfl) ?_) | (refine held_skip 14 rfl (by kernel_rfl) (by kernel_rfl) (by kernel_rfl) (by rfl) (fun _ _ _ h => h) (by assumption) ?_)
              simp only [Act.put, List.setIfInBounds_toArray, List.set_cons_zero, List.set_cons_succ]
              first | (refine held_take 15 rfl (by kernel_rfl) (by kernel_rfl) (by kernel_rfl) (by rfl) (fun _ _ _ h => h) (by assumption) (by intro w hSw; (try dsimp only at hSw); go_simp; first | done | with_reducible rfl) ?_) | (refine held_skip 15 rfl (by kernel_rfl) (by kernel_rfl) (by kernel_rfl) (by rfl) (fun _ _ _ h => h) (by assumption) ?_)
              simp only [Act.put, List.setIfInBounds_toArray, List.set_cons_zero, List.set_cons_succ]
              refine wpAnyH_done (by kernel_rfl) ?_ _
              obtain ⟨y0, y1, y2, y3, y4, u0, u1, u2, hB⟩ := hHeld
              have hQ := Lib.hid qT
              clear qT
              go_wp2_with (at_builtin; refine wpList_append_row rfl _ _ _ rfl encInt Try.underlying65 hi hi0 hi1 hi2 rfl rfl rfl (FRow.any0 _ _ _ _ _ _) (Src.of_sl (R := RInt) encInt (fun h => h) (hQ.out.mono mInt (by go_grown))) (by unfold maxLen; omega) (by omega) (show w.heap.size ≤ _ by (have := hb.size; simp; omega)) ?_; intro A2 c2 w2 hr2 hc2 hx2)
              go_returns
              obtain hql := hQ.out.len
              refine ⟨A2, c2, ?_, ?_, Below.mark (B := w.heap.size) (w := w) (ex_alloc hB _) hc2 (by have := hb.size; simp; omega) (by simp [rowBs_zero])⟩
              · rw [HZ.out, hql]; simp
              · rw [HZ.out, hql]; simpa using hr2
    · have HZ := Lib.hid (lookI_none (by omega) hN)
      clear hN
      go_wp2_with fail
      go_returns
      exact ⟨_, 0, by rw [HZ.out]; rfl, by rw [HZ.out]; exact FRow.any0 _ _ _ _ _ _, by go_grown⟩

end Go.Proofs.Ytaljpnfohpcgpaa
