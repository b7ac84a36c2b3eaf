/-
  HEADERS: a posting's, a file's own cells, the slice that it leads to unread.
-/
import Derived.WalkKit
import Derived.WalkSpells
import Derived.WalkLawsBesides
import Derived.Lib.Hide
import Derived.Handy
import Derived.StillTailTactics
import Derived.Deep.Light
import Derived.Deep.QuietTactic
import Derived.BigQuiet
import Derived.Deep.RegionHeld3
import Derived.Test.YtjobgnioehkomaaLib
import Derived.Test.YtjobgnioehkomaaOwn
import Derived.Test.YtjobgnioehkomaaRow
import Derived.Test.YtjobgnioehkomaaHld
import Derived.Test.YtjobgnioehkomaaM0
import Derived.Test.YtjobgnioehkomaaC1
import Derived.Test.YtjobgnioehkomaaC2
import Derived.Test.YtjobgnioehkomaaT1
import Derived.Test.YtjobgnioehkomaaT2
import Derived.Test.YtjobgnioehkomaaT3
import Derived.Test.YtjobgnioehkomaaT4
import Derived.Test.YtjobgnioehkomaaC3
import Derived.Test.YtjobgnioehkomaaC4
import Derived.Test.YtjobgnioehkomaaD1
import Derived.Test.YtjobgnioehkomaaRows
namespace Go.Proofs.Ytjobgnioehkomaa
open Go.RowKit
set_option linter.unusedVariables false
set_option maxRecDepth 100000
structure Ph where
  name : ByteArray
  val : Vl
  A : Option Addr
  n : Nat
  c : Nat
structure Fh where
  id : Int
  owner : Int
  shared : Bool
  link : Int
  A : Option Addr
  n : Nat
  c : Nat
def ePh (p : Ph) : List Value := [.string p.name, .int .i64 p.val.kind, .int .i64 p.val.int, .string p.val.str, .slice p.A p.n p.c]
def eFh (f : Fh) : List Value := [.int .i64 f.id, .int .i64 f.owner, .bool f.shared, .int .i64 f.link, .slice f.A f.n f.c]
theorem encPh : Enc 5 ePh := ⟨by omega, fun _ => rfl, fun x u hu => by simp [ePh] at hu; rcases hu with rfl | rfl | rfl | rfl | rfl <;> rfl⟩
theorem encFh : Enc 5 eFh := ⟨by omega, fun _ => rfl, fun x u hu => by simp [eFh] at hu; rcases hu with rfl | rfl | rfl | rfl | rfl <;> rfl⟩
def RPh (_ : World) (cs : List Value) (p : Ph) : Prop := cs = ePh p
def RFh (_ : World) (cs : List Value) (f : Fh) : Prop := cs = eFh f
theorem mPh : RMono RPh := ⟨fun _ h => h⟩
theorem mFh : RMono RFh := ⟨fun _ h => h⟩
def Ph.is (w : World) (h : Ph) (p : Pst) : Prop := h.name = p.name ∧ h.val = p.val ∧ Sl 1 RInt w h.A h.n p.ids
def Fh.is (w : World) (h : Fh) (f : Fil) : Prop := h.id = f.id ∧ h.owner = f.owner ∧ h.shared = f.shared ∧ h.link = f.link ∧ Sl 4 RAtr w h.A h.n f.attrs
theorem Ph.is.mono {w w' : World} {h : Ph} {p : Pst} (k : h.is w p) (hb : Below w.heap.size w w') : h.is w' p := ⟨k.1, k.2.1, k.2.2.mono mInt hb⟩
theorem Fh.is.mono {w w' : World} {h : Fh} {p : Fil} (k : h.is w p) (hb : Below w.heap.size w w') : h.is w' p := ⟨k.1, k.2.1, k.2.2.1, k.2.2.2.1, k.2.2.2.2.mono mAtr hb⟩
section
variable {w : World} {A : Option Addr} {n : Nat}
theorem Sl.ph {l : List Ph} (h : Sl 5 RPh w A n l) (hn : 0 < n) : ∃ b off, A = some ⟨b, off, none⟩ ∧ b < w.heap.size ∧
    ∀ i (_ : i < l.length), w.cell? ⟨b, off + i * 5, none⟩ = some (.string l[i].name) ∧ w.cell? ⟨b, off + i * 5 + 1, none⟩ = some (.int .i64 l[i].val.kind) ∧
      w.cell? ⟨b, off + i * 5 + 2, none⟩ = some (.int .i64 l[i].val.int) ∧ w.cell? ⟨b, off + i * 5 + 3, none⟩ = some (.string l[i].val.str) ∧ w.cell? ⟨b, off + i * 5 + 4, none⟩ = some (.slice l[i].A l[i].n l[i].c) := by
  obtain ⟨b, off, hA, hb, hc⟩ := h.at_ hn
  refine ⟨b, off, hA, hb, fun i hi => ?_⟩
  obtain ⟨cs, _, hcs, rfl⟩ := hc i hi
  exact ⟨hcs 0 _ rfl, hcs 1 _ rfl, hcs 2 _ rfl, hcs 3 _ rfl, hcs 4 _ rfl⟩
theorem Sl.fh {l : List Fh} (h : Sl 5 RFh w A n l) (hn : 0 < n) : ∃ b off, A = some ⟨b, off, none⟩ ∧ b < w.heap.size ∧
    ∀ i (_ : i < l.length), w.cell? ⟨b, off + i * 5, none⟩ = some (.int .i64 l[i].id) ∧ w.cell? ⟨b, off + i * 5 + 1, none⟩ = some (.int .i64 l[i].owner) ∧
      w.cell? ⟨b, off + i * 5 + 2, none⟩ = some (.bool l[i].shared) ∧ w.cell? ⟨b, off + i * 5 + 3, none⟩ = some (.int .i64 l[i].link) ∧ w.cell? ⟨b, off + i * 5 + 4, none⟩ = some (.slice l[i].A l[i].n l[i].c) := by
  obtain ⟨b, off, hA, hb, hc⟩ := h.at_ hn
  refine ⟨b, off, hA, hb, fun i hi => ?_⟩
  obtain ⟨cs, _, hcs, rfl⟩ := hc i hi
  exact ⟨hcs 0 _ rfl, hcs 1 _ rfl, hcs 2 _ rfl, hcs 3 _ rfl, hcs 4 _ rfl⟩
theorem nat_choose {β : Type} {P : Nat → β → Prop} : ∀ (n : Nat), (∀ i, i < n → ∃ y, P i y) → ∃ hs : List β, hs.length = n ∧ ∀ i (hj : i < hs.length), P i hs[i]
  | 0, _ => ⟨[], rfl, fun i hi => absurd hi (by simp)⟩
  | n + 1, h => by
    obtain ⟨hs, hl, hk⟩ := nat_choose n fun i hi => h i (by omega)
    obtain ⟨y, hy⟩ := h n (by omega)
    refine ⟨hs ++ [y], by simp [hl], fun i hj => ?_⟩
    by_cases hi : i < hs.length
    · rw [List.getElem_append_left hi]; exact hk i hi
    · obtain rfl : i = n := by simp at hj; omega
      rw [List.getElem_append_right (by omega)]
      simpa [hl] using hy
theorem Sl.pheads {l : List Pst} (h : Sl 5 RPst w A n l) : ∃ hs : List Ph, hs.length = l.length ∧ Sl 5 RPh w A n hs ∧ ∀ i (hi : i < l.length) (hj : i < hs.length), hs[i].is w l[i] := by
  obtain ⟨hl, xs, hx, hd, hR⟩ := h
  obtain ⟨hs, h1, h2⟩ := nat_choose (P := fun (i : Nat) (y : Ph) => ∀ hi : i < l.length, (xs.drop (i * 5)).take 5 = ePh y ∧ y.is w l[i]) l.length fun i hi => by
    obtain ⟨A', n', c', e, hs⟩ := hR i hi
    exact ⟨⟨l[i].name, l[i].val, A', n', c'⟩, fun _ => ⟨e, rfl, rfl, hs⟩⟩
  exact ⟨hs, h1, ⟨h1.trans hl, xs, hx, by rw [h1]; exact hd, fun i hi => (h2 i hi (by omega)).1⟩, fun i hi hj => (h2 i hj hi).2⟩
theorem Sl.fheads {l : List Fil} (h : Sl 5 RFil w A n l) : ∃ hs : List Fh, hs.length = l.length ∧ Sl 5 RFh w A n hs ∧ ∀ i (hi : i < l.length) (hj : i < hs.length), hs[i].is w l[i] := by
  obtain ⟨hl, xs, hx, hd, hR⟩ := h
  obtain ⟨hs, h1, h2⟩ := nat_choose (P := fun (i : Nat) (y : Fh) => ∀ hi : i < l.length, (xs.drop (i * 5)).take 5 = eFh y ∧ y.is w l[i]) l.length fun i hi => by
    obtain ⟨A', n', c', e, hs⟩ := hR i hi
    exact ⟨⟨l[i].id, l[i].owner, l[i].shared, l[i].link, A', n', c'⟩, fun _ => ⟨e, rfl, rfl, rfl, rfl, hs⟩⟩
  exact ⟨hs, h1, ⟨h1.trans hl, xs, hx, by rw [h1]; exact hd, fun i hi => (h2 i hi (by omega)).1⟩, fun i hi hj => (h2 i hj hi).2⟩
end
theorem idxI_congr {α β : Type} {p : α → Bool} {q : β → Bool} {l : List α} {m : List β} (hl : m.length = l.length) (h : ∀ i (hi : i < l.length) (hj : i < m.length), q m[i] = p l[i]) : idxI q m = idxI p l := by
  have : l.map p = m.map q := List.ext_getElem (by simp [hl]) fun i h1 h2 => by simp at h1 h2 ⊢; exact (h i h1 h2).symm
  have e1 : ∀ {γ : Type} (f : γ → Bool) (x : List γ), x.findIdx? f = (x.map f).findIdx? id := fun f x => by rw [List.findIdx?_map]; rfl
  unfold idxI
  rw [e1 q m, e1 p l, this]
set_option maxHeartbeats 800000 in
theorem slices_IndexFunc_Posting (A : Option Addr) (n c : Nat) (l : List Ph) (kf : Nat) (caps : Array Value) (p : Ph → Bool) (B : Nat) (w : World) (hS : Sl 5 RPh w A n l) (hn : n ≤ 1073741824) (hB : B ≤ w.heap.size)
    (hcf : ∀ args w, (callFunc kf args).run Try.prog w = .ok (.enter kf args) w) (hp : Pred Try.prog kf caps (fun p : Ph => .agg #[.string p.name, .int .i64 p.val.kind, .int .i64 p.val.int, .string p.val.str, .slice p.A p.n p.c]) p l B w) :
    Calls Try.prog 95 #[.slice A n c, .func (.func kf) #[] caps] w fun e w' => e = .returned (.int .i64 (idxI p l)) ∧ Below w.heap.size w w' := by
  obtain rfl : l.length = n := hS.len
  have HP := Lib.hid hp
  clear hp
  go_enter Try.func95, Try.ntmps95
  go_wp2_with fail
  go_loopw [8] (fun i wr => ∃ k : Nat, k ≤ l.length ∧ i = .int .i64 k ∧ noneTo p l k ∧ Below w.heap.size w wr) (fun i _ => l.length - (intOf i).toNat)
  case atStart => exact ⟨0, Nat.zero_le _, rfl, noneTo_zero _ _, Below.refl _ _⟩
  case round =>
    obtain ⟨k, hk, rfl, hN, hb⟩ := hrel
    by_cases hlt : k < l.length
    · have i0 : (0 : Int) ≤ (k : Int) := by omega
      have i1 : (k : Int) < (l.length : Int) := by omega
      obtain ⟨b, off, rfl, bw, bc⟩ := hS.ph (by omega)
      have qq := bc k (by omega)
      obtain ⟨q0, q1, q2, q3, q4⟩ := qq
      rw [← hb.cell (p := ⟨b, _, none⟩) bw] at q0 q1 q2 q3 q4
      clear bc
      cases hf : p l[k] with
      | true =>
        have HZ := Lib.hid (idxI_at hlt hN hf)
        have HC := Lib.hid (HP.out wr (hb.mono hB) l[k] (List.getElem_mem _))
        have HF := Lib.hid hf
        clear hN hf
        go_wp2_with fail
        refine HC.out.mono ?_; rintro e w1 ⟨rfl, hb1⟩
        rw [HF.out]
        go_wp2_with fail
        go_returns
        exact ⟨ret_int HZ.out.symm, ex_trans hb hb1⟩
      | false =>
        have HN := Lib.hid (noneTo_succ hN (fun _ => hf))
        have HC := Lib.hid (HP.out wr (hb.mono hB) l[k] (List.getElem_mem _))
        have HF := Lib.hid hf
        clear hN hf
        go_wp2_with fail
        refine HC.out.mono ?_; rintro e w1 ⟨rfl, hb1⟩
        rw [HF.out]
        go_wp2_with fail
        go_roundw
        case rel => exact ⟨k + 1, by omega, by go_num, HN.out, ex_trans hb hb1⟩
        case measure => simp [intOf]; omega
    · have HZ := Lib.hid (idxI_none (by omega) hN)
      clear hN
      go_wp2_with fail
      go_returns
      exact ⟨ret_int HZ.out.symm, hb⟩
def isPst (nm : ByteArray) (v : Vl) (p : Pst) : Bool := eqS p.name nm && p.val.eqb v
def lookI (l : List Pst) (nm : ByteArray) (v : Vl) : List Int := ((l.find? (isPst nm v)).map (·.ids)).getD []
theorem lookI_len {l : List Pst} (h : ∀ p ∈ l, p.ok 1073741824) (nm : ByteArray) (v : Vl) : (lookI l nm v).length ≤ 1073741824 := by
  unfold lookI
  cases hf : l.find? (isPst nm v) with
  | none => exact Nat.zero_le _
  | some p => exact (h p (List.mem_of_find?_eq_some hf)).2.2
theorem lookI_at {l : List Pst} {nm : ByteArray} {v : Vl} {k : Nat} (hk : k < l.length) (hn : noneTo (isPst nm v) l k) (h : isPst nm v l[k] = true) : lookI l nm v = l[k].ids := by
  unfold lookI; rw [find_at hk hn h]; rfl
theorem lookI_none {l : List Pst} {nm : ByteArray} {v : Vl} {k : Nat} (hk : l.length ≤ k) (hn : noneTo (isPst nm v) l k) : lookI l nm v = [] := by
  unfold lookI; rw [find_none hk hn]; rfl
theorem impl_postingAt_1 (x : Ph) (nm : ByteArray) (v : Vl) (b1 o1 b2 o2 : Nat) (w : World) (hc : w.cell? ⟨b1, o1, none⟩ = some (.string nm)) (h0 : w.cell? ⟨b2, o2, none⟩ = some (.int .i64 v.kind)) (h1 : w.cell? ⟨b2, o2 + 1, none⟩ = some (.int .i64 v.int)) (h2 : w.cell? ⟨b2, o2 + 2, none⟩ = some (.string v.str)) :
    Calls Try.prog 143 #[.agg #[.string x.name, .int .i64 x.val.kind, .int .i64 x.val.int, .string x.val.str, .slice x.A x.n x.c], .pointer (some ⟨b1, o1, none⟩), .pointer (some ⟨b2, o2, none⟩)] w fun e w2 => e = .returned (.bool (eqS x.name nm && x.val.eqb v)) ∧ Below w.heap.size w w2 := by
  have l1 := World.block_lt_of_cell? w _ hc
  have l2 := World.block_lt_of_cell? w _ h0
  simp only at l1 l2
  cases hn : (x.name.toList == nm.toList) with
  | false =>
    have HZ := Lib.hid (show false = (eqS x.name nm && x.val.eqb v) by simp [eqS, hn])
    go_enter Try.func143, Try.ntmps143
    go_wp2_with fail
    go_returns
    exact ⟨ret_bool HZ.out, by go_grown⟩
  | true =>
    have HZ := Lib.hid (show (x.val.kind == v.kind && (x.val.int == v.int && x.val.str.toList == v.str.toList)) = (eqS x.name nm && x.val.eqb v) by simp [eqS, hn, Vl.eqb, Bool.and_assoc])
    go_enter Try.func143, Try.ntmps143
    go_wp2_with fail
    all_goals go_returns
    all_goals refine ⟨ret_bool ?_, by go_grown⟩
    all_goals rw [← HZ.out]
    all_goals go_light
    all_goals simp_all
set_option maxHeartbeats 1600000 in
theorem impl_postingAt (A : Option Addr) (n c : Nat) (l : List Pst) (nm : ByteArray) (v : Vl) (w : World) (hS : Sl 5 RPst w A n l) (hn : n ≤ 1073741824) :
    Calls Try.prog 94 #[.slice A n c, .string nm, v.v] w fun e w' => e = .returned (.int .i64 (idxI (isPst nm v) l)) ∧ Below w.heap.size w w' := by
  obtain ⟨hs, hl, hH, hI⟩ := hS.pheads
  have he : idxI (fun x : Ph => eqS x.name nm && x.val.eqb v) hs = idxI (isPst nm v) l := idxI_congr hl fun i hi hj => by
    obtain ⟨e1, e2, _⟩ := hI i hi hj
    unfold isPst; rw [e1, e2]
  have HC := Lib.hid (slices_IndexFunc_Posting A n c hs 143 #[.pointer (some ⟨w.heap.size, 0, none⟩), .pointer (some ⟨w.heap.size + 1, 0, none⟩)] (fun x : Ph => eqS x.name nm && x.val.eqb v) (w.heap.size + 2) ((w.alloc (.cells #[.string nm] 9)).alloc (.cells #[.int .i64 v.kind, .int .i64 v.int, .string v.str] 30)) (hH.mono mPh (by go_grown)) hn (by simp)
    (fun _ _ => by kernel_rfl) (fun w' hb x _ => by
      have hcell : ∀ (b o : Nat) (u : Value), b < w.heap.size + 2 → ((w.alloc (.cells #[.string nm] 9)).alloc (.cells #[.int .i64 v.kind, .int .i64 v.int, .string v.str] 30)).cell? ⟨b, o, none⟩ = some u → w'.cell? ⟨b, o, none⟩ = some u := fun b o u h1 h2 => (hb.cell (p := ⟨b, o, none⟩) h1).trans h2
      exact impl_postingAt_1 x nm v _ _ _ _ w' (hcell _ _ _ (by omega) (by go_simp)) (hcell _ _ _ (by omega) (by go_simp)) (hcell _ _ _ (by omega) (by go_simp)) (hcell _ _ _ (by omega) (by go_simp))))
  rw [he] at HC
  clear hS hI hH he
  go_enter Try.func94, Try.ntmps94
  go_wp2_with fail
  refine HC.out.mono ?_; rintro e w1 ⟨rfl, hb1⟩
  go_wp2_with fail
  go_returns
  exact ⟨rfl, ex_trans (by go_grown) hb1⟩
end Go.Proofs.Ytjobgnioehkomaa
