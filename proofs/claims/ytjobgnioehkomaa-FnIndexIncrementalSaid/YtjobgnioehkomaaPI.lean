/-
  SEVERAL TEXTS IN ONE: P4 S0 Y3 Y9 Yb C6 C7 Q4 Q8 Q9 Zc Zd.
-/
import Derived.WalkKit
import Derived.Lib.Hide
import Derived.WalkSpells
import Derived.WalkLawsBesides
import Derived.Handy
import Derived.Deep.RegionHeld3
import Derived.StillTailTactics
import Derived.Deep.Light
import Derived.Deep.QuietTactic
import Derived.BigQuiet
import Derived.Deep.DeepCutAuto
import Derived.Deep.RegionLaw
import Derived.Sort.Walk0
import Derived.Test.YtjobgnioehkomaaLib
import Derived.Test.YtjobgnioehkomaaC2
import Derived.Test.YtjobgnioehkomaaOwn
import Derived.Test.YtjobgnioehkomaaRow
import Derived.Test.YtjobgnioehkomaaN0
import Derived.Test.YtjobgnioehkomaaHld
import Derived.Test.YtjobgnioehkomaaSz
import Derived.Test.YtjobgnioehkomaaC1
import Derived.Test.YtjobgnioehkomaaC4
import Derived.Test.YtjobgnioehkomaaD1
import Derived.Test.YtjobgnioehkomaaY1
import Derived.Test.YtjobgnioehkomaaY2
import Derived.Test.YtjobgnioehkomaaT1
import Derived.Test.YtjobgnioehkomaaT2
import Derived.Test.YtjobgnioehkomaaT3
import Derived.Test.YtjobgnioehkomaaT4
import Derived.Test.YtjobgnioehkomaaT5
import Derived.Test.YtjobgnioehkomaaC3
import Derived.Test.YtjobgnioehkomaaC5
import Derived.Test.YtjobgnioehkomaaRaw
import Derived.Test.YtjobgnioehkomaaM0
import Derived.Test.YtjobgnioehkomaaD3
import Derived.Test.YtjobgnioehkomaaD5
import Derived.Test.YtjobgnioehkomaaH1
import Derived.Test.YtjobgnioehkomaaE4
import Derived.Test.YtjobgnioehkomaaE5
import Derived.Test.YtjobgnioehkomaaQ0
import Derived.Test.YtjobgnioehkomaaQ1
import Derived.Test.YtjobgnioehkomaaQ2
import Derived.Test.YtjobgnioehkomaaQ3
import Derived.Test.YtjobgnioehkomaaHl2
import Derived.Test.YtjobgnioehkomaaD7
import Derived.Test.YtjobgnioehkomaaM2
import Derived.Test.YtjobgnioehkomaaI1
import Derived.Test.YtjobgnioehkomaaI3
import Derived.Test.YtjobgnioehkomaaI4
import Derived.Test.YtjobgnioehkomaaQ5
import Derived.Test.YtjobgnioehkomaaQ6
import Derived.Test.YtjobgnioehkomaaQ7
import Derived.Test.YtjobgnioehkomaaC8
import Derived.Test.YtjobgnioehkomaaD8
import Derived.Test.YtjobgnioehkomaaE3
import Derived.Test.YtjobgnioehkomaaE6
import Derived.Test.YtjobgnioehkomaaE7
import Derived.Test.YtjobgnioehkomaaE9
import Derived.Test.YtjobgnioehkomaaPZ
import Derived.Test.YtjobgnioehkomaaHl3
import Derived.Test.YtjobgnioehkomaaD4
import Derived.Test.YtjobgnioehkomaaI2
import Derived.Test.YtjobgnioehkomaaZ1
import Derived.Test.YtjobgnioehkomaaZ3
import Derived.Test.YtjobgnioehkomaaZ4
import Derived.Test.YtjobgnioehkomaaRows
namespace Go.Proofs.Ytjobgnioehkomaa
open Go.RowKit
section
variable {P : Program} {L : List Oper} {Q : Exit → Act → World → Prop} {md : Region.Mode} {S : World → Prop}
private theorem tkA (i : Nat) {oi : Oper} {tl : List Oper} {v : Value} {fuel : Nat} {listed : Array Bool} {a : Act} {w : World}
    (h : wpAnyH P md L.toArray Q S fuel (listed.setIfInBounds i true) (a.put oi.dst v) w) (hd : L.drop i = oi :: tl := by exact rfl)
    (hs : Region.noSelect L.toArray = true := by kernel_rfl) (hf : Region.free md L.toArray listed i = true := by kernel_rfl) (hr : (Region.ready md L.toArray listed).contains i = true := by kernel_rfl)
    (hw : Region.wanted oi (yielded L.toArray a.tmps) = true := by rfl) (hQ : ∀ c a w, Q (.panic c) (a.put oi.dst v) w → Q (.panic c) a w := by exact fun _ _ _ h => h) (hS : S w := by assumption)
    (hy : ∀ w, S w → (execOp a.eval oi).run P w = .ok (.value v) w := by intro w hSw; (try dsimp only at hSw); go_simp; first | done | with_reducible rfl) : wpAnyH P md L.toArray Q S (fuel + 1) listed a w :=
  held_take i hd hs hf hr hw hQ hS hy h
private theorem skA (i : Nat) {oi : Oper} {tl : List Oper} {fuel : Nat} {listed : Array Bool} {a : Act} {w : World}
    (h : wpAnyH P md L.toArray Q S fuel (listed.setIfInBounds i true) (a.put oi.dst undef) w) (hd : L.drop i = oi :: tl := by exact rfl)
    (hs : Region.noSelect L.toArray = true := by kernel_rfl) (hf : Region.free md L.toArray listed i = true := by kernel_rfl) (hr : (Region.ready md L.toArray listed).contains i = true := by kernel_rfl)
    (hw : Region.wanted oi (yielded L.toArray a.tmps) = false := by rfl) (hQ : ∀ c a w, Q (.panic c) (a.put oi.dst undef) w → Q (.panic c) a w := by exact fun _ _ _ h => h) (hS : S w := by assumption) : wpAnyH P md L.toArray Q S (fuel + 1) listed a w :=
  held_skip i hd hs hf hr hw hQ hS h
end
set_option linter.unusedVariables false
theorem bless_transP : ∀ x y z : List UInt8, Op.bytesLess x y = true → Op.bytesLess y z = true → Op.bytesLess x z = true
  | [], [], _, h, _ => by simp [Op.bytesLess] at h
  | [], _ :: _, [], _, h => by simp [Op.bytesLess] at h
  | [], _ :: _, _ :: _, _, _ => by simp [Op.bytesLess]
  | _ :: _, [], _, h, _ => by simp [Op.bytesLess] at h
  | _ :: _, _ :: _, [], _, h => by simp [Op.bytesLess] at h
  | a :: x, b :: y, c :: z, h1, h2 => by
    have ih := bless_transP x y z
    simp only [Op.bytesLess, Bool.or_eq_true, Bool.and_eq_true, decide_eq_true_eq, beq_iff_eq] at h1 h2 ⊢
    rcases h1 with h1 | ⟨rfl, h1⟩
    · rcases h2 with h2 | ⟨rfl, h2⟩
      · exact .inl (UInt8.lt_trans h1 h2)
      · exact .inl h1
    · rcases h2 with h2 | ⟨rfl, h2⟩
      · exact .inl h2
      · exact .inr ⟨rfl, ih h1 h2⟩
/-- a comparison in three ways that orders -/
structure Cmp {α : Type} (f : α → α → Int) : Prop where
  anti : ∀ a b, f b a = -f a b
  zero : ∀ a b, f a b = 0 ↔ a = b
  trans : ∀ a b c, f a b ≤ 0 → f b c ≤ 0 → f a c ≤ 0
theorem cmpI_ok : Cmp cmpI := by
  refine ⟨fun a b => ?_, fun a b => ?_, fun a b c => ?_⟩ <;> unfold cmpI <;> (repeat' split) <;> omega
theorem cmpS_le (a b : ByteArray) : cmpS a b ≤ 0 ↔ Op.bytesLess b.toList a.toList = false := by
  unfold cmpS
  constructor
  · intro h
    split at h
    · rename_i hl
      rw [bless_gt, hl]; rfl
    · split at h
      · omega
      · rename_i h2; simpa using h2
  · intro h
    rw [h]
    split <;> simp
theorem cmpS_ok : Cmp cmpS := by
  refine ⟨fun a b => ?_, fun a b => ?_, fun a b c h1 h2 => ?_⟩
  · unfold cmpS
    cases h1 : Op.bytesLess a.toList b.toList <;> cases h2 : Op.bytesLess b.toList a.toList <;> simp
    have := bless_gt a.toList b.toList
    rw [h1, h2] at this
    simp at this
  · unfold cmpS
    constructor
    · intro h
      cases h1 : Op.bytesLess a.toList b.toList with
      | true => rw [h1] at h; simp at h
      | false =>
        cases h2 : Op.bytesLess b.toList a.toList with
        | true => rw [h1, h2] at h; simp at h
        | false =>
          have := bless_gt a.toList b.toList
          rw [h1, h2] at this
          simp at this
          exact toList_inj this
    · rintro rfl
      rw [bless_irrefl]; rfl
  · rw [cmpS_le] at h1 h2 ⊢
    cases h3 : Op.bytesLess c.toList a.toList with
    | false => rfl
    | true =>
      exfalso
      by_cases hab : a.toList = b.toList
      · rw [hab] at h3; rw [h3] at h2; cases h2
      · have hlt : Op.bytesLess a.toList b.toList = true := by
          have := bless_gt a.toList b.toList
          rw [h1] at this
          have hn : (a.toList == b.toList) = false := by simpa using hab
          rw [hn] at this
          simpa using this
        have := bless_transP _ _ _ h3 hlt
        rw [this] at h2; cases h2
theorem Cmp.lt_le {α : Type} {f : α → α → Int} (h : Cmp f) {a b c : α} (h1 : f a b < 0) (h2 : f b c ≤ 0) : f a c < 0 := by
  have h3 := h.trans a b c (by omega) h2
  by_cases e : f a c = 0
  · obtain rfl := (h.zero a c).1 e
    have := h.anti a b
    omega
  · omega
theorem Cmp.le_lt {α : Type} {f : α → α → Int} (h : Cmp f) {a b c : α} (h1 : f a b ≤ 0) (h2 : f b c < 0) : f a c < 0 := by
  have h3 := h.trans a b c h1 (by omega)
  by_cases e : f a c = 0
  · obtain rfl := (h.zero a c).1 e
    have := h.anti a b
    omega
  · omega
theorem Cmp.lex {α β γ : Type} {f : α → α → Int} {g : β → β → Int} (hf : Cmp f) (hg : Cmp g) (p : γ → α) (q : γ → β) (hi : ∀ a b, p a = p b → q a = q b → a = b) : Cmp (fun a b : γ => orI (f (p a) (p b)) (g (q a) (q b))) := by
  refine ⟨fun a b => ?_, fun a b => ?_, fun a b c => ?_⟩
  · have h1 := hf.anti (p a) (p b)
    have h2 := hg.anti (q a) (q b)
    simp only [orI]
    split <;> split <;> omega
  · simp only [orI]
    constructor
    · intro h
      split at h
      · rename_i h0
        exact hi a b ((hf.zero _ _).1 h0) ((hg.zero _ _).1 h)
      · rename_i h0; exact absurd h h0
    · rintro rfl
      rw [if_pos ((hf.zero _ _).2 rfl)]
      exact (hg.zero _ _).2 rfl
  · simp only [orI]
    intro h1 h2
    by_cases e1 : f (p a) (p b) = 0
    · rw [if_pos e1] at h1
      have e := (hf.zero _ _).1 e1
      rw [e]
      by_cases e2 : f (p b) (p c) = 0
      · rw [if_pos e2] at h2 ⊢
        exact hg.trans _ _ _ h1 h2
      · rw [if_neg e2] at h2 ⊢
        exact h2
    · rw [if_neg e1] at h1
      by_cases e2 : f (p b) (p c) = 0
      · have e := (hf.zero _ _).1 e2
        rw [← e, if_neg e1]
        exact h1
      · rw [if_neg e2] at h2
        have := hf.lt_le (a := p a) (b := p b) (c := p c) (by omega) h2
        rw [if_neg (by omega)]
        omega
theorem cmpV_ok : Cmp cmpV :=
  Cmp.lex (γ := Vl) cmpI_ok (Cmp.lex (γ := Int × ByteArray) cmpI_ok cmpS_ok (·.1) (·.2) (fun a b h1 h2 => Prod.ext h1 h2)) (·.kind) (fun v => (v.int, v.str)) (fun a b h1 h2 => by
    cases a; cases b
    simp only [Prod.mk.injEq] at h1 h2
    obtain ⟨h2, h3⟩ := h2
    subst h1; subst h2; subst h3; rfl)
theorem cmpV_first : cmpV ⟨0, 0, ByteArray.empty⟩ ⟨1, 0, ByteArray.empty⟩ = -1 := by
  unfold cmpV orI cmpI
  simp
end Go.Proofs.Ytjobgnioehkomaa
namespace Go.Proofs.Ytjobgnioehkomaa
open Go.RowKit
theorem row_reads {e W n c : Nat} {A : Option Addr} {l : List Atr} {w1 w' : World} (hF : FRow e 4 eAtr w1 W A n c l) (h : ∀ b, W ≤ b → b < w1.heap.size → w'.heap[b]? = w1.heap[b]?) : Sl 4 RAtr w' A n l :=
  (hF.loc fun b hb => h b (hF.base b hb).1 (hF.base b hb).2).sl (R := RAtr) encAtr (fun _ => rfl)
theorem held_three {P : Program} {L : List Oper} {Q : Exit → Act → World → Prop} {md : Region.Mode} {S : World → Prop} (i j k : Nat) {o o2 o3 : Oper} {tl tl2 tl3 : List Oper} {fuel : Nat} {listed : Array Bool} {a : Act} {w : World} (hr : Region.ready md L.toArray listed = [i, j, k]) (hd : L.drop i = o :: tl) (hd2 : L.drop j = o2 :: tl2) (hd3 : L.drop k = o3 :: tl3)
    (h : ∀ K' : Act → World → Prop, Shut (∀ a w, S w → (S w → wpAnyH P md L.toArray Q S fuel (listed.setIfInBounds i true) a w) → K' a w) → if Region.wanted o (yielded L.toArray a.tmps) = true then Oper.wp P o a w K' Q else K' (a.put o.dst undef) w)
    (h2 : ∀ K' : Act → World → Prop, Shut (∀ a w, S w → (S w → wpAnyH P md L.toArray Q S fuel (listed.setIfInBounds j true) a w) → K' a w) → if Region.wanted o2 (yielded L.toArray a.tmps) = true then Oper.wp P o2 a w K' Q else K' (a.put o2.dst undef) w)
    (h3 : ∀ K' : Act → World → Prop, Shut (∀ a w, S w → (S w → wpAnyH P md L.toArray Q S fuel (listed.setIfInBounds k true) a w) → K' a w) → if Region.wanted o3 (yielded L.toArray a.tmps) = true then Oper.wp P o3 a w K' Q else K' (a.put o3.dst undef) w) :
    wpAnyH P md L.toArray Q S (fuel + 1) listed a w :=
  wpAnyH_ready hr (by simp) (AllReadyH.cons (held_at hd) h (AllReadyH.cons (held_at hd2) h2 (AllReadyH.cons (held_at hd3) h3 AllReadyH.nil)))
end Go.Proofs.Ytjobgnioehkomaa
namespace Go.Proofs.Ytjobgnioehkomaa
open Go.RowKit
set_option linter.unusedVariables false
set_option maxRecDepth 100000
theorem laws_big_f (A : Option Addr) (n c : Nat) (w : World) (h : n ≤ 1048576) : Calls Try.prog 9 #[.slice A n c] w fun e w' => e = .returned (.bool false) ∧ w = w' := by
  have i1 : ¬ ((1048576 : Int) < (n : Int)) := by omega
  have i2 : decide ((1048576 : Int) < (n : Int)) = false := by simp; omega
  go_enter Try.func9, Try.ntmps9
  go_wp2_with fail
  go_ret
  exact ⟨rfl, rfl⟩
theorem laws_big_t (A : Option Addr) (n c : Nat) (w : World) (h : 1048576 < n) : Calls Try.prog 9 #[.slice A n c] w fun e w' => e = .returned (.bool true) ∧ w = w' := by
  have i1 : (1048576 : Int) < (n : Int) := by omega
  have i2 : decide ((1048576 : Int) < (n : Int)) = true := by simp; omega
  go_enter Try.func9, Try.ntmps9
  go_wp2_with fail
  go_ret
  exact ⟨rfl, rfl⟩
end Go.Proofs.Ytjobgnioehkomaa
namespace Go.Proofs.Ytjobgnioehkomaa
open Go.RowKit
set_option linter.unusedVariables false
set_option maxRecDepth 100000
set_option maxHeartbeats 2000000 in
theorem laws_sameAttrs (A : Option Addr) (n c : Nat) (l : List Atr) (B : Option Addr) (m d : Nat) (l' : List Atr) (w : World) (hS : Sl 4 RAtr w A n l) (hT : Sl 4 RAtr w B m l') (hn : n ≤ 1073741824) (hm : m ≤ 1073741824) :
    Calls Try.prog 69 #[.slice A n c, .slice B m d] w fun e w' => e = .returned (.bool (eqL Atr.eqb l l')) ∧ Below w.heap.size w w' := by
  obtain rfl : l.length = n := hS.len
  obtain rfl : l'.length = m := hT.len
  by_cases hlen : l.length = l'.length
  · have g0 : ((l.length : Int) != (l'.length : Int)) = false := by simp; omega
    have HL := Lib.hid hlen
    clear hlen
    go_enter Try.func69, Try.ntmps69
    go_wp2_with fail
    go_loopw [5] (fun i wr => ∃ (k : Nat), k ≤ l.length ∧ i = .int .i64 k ∧ eqTo Atr.eqb l l' k ∧ Below w.heap.size w wr) (fun i _ => l.length - (intOf i).toNat)
    case atStart => exact ⟨0, Nat.zero_le _, rfl, eqTo_zero _ _ _, Below.refl _ _⟩
    case round =>
      obtain ⟨k, hk, rfl, hE, hb⟩ := hrel
      by_cases hlt : k < l.length
      · have hlt' : k < l'.length := by have := HL.out; omega
        have i1 : (k : Int) < (l'.length : Int) := by omega
        have i2 : (k : Int) < (l.length : Int) := by omega
        obtain ⟨b, off, rfl, bw, bc⟩ := hS.atr (by omega)
        obtain ⟨b1, off1, rfl, b1w, b1c⟩ := hT.atr (by omega)
        obtain ⟨q0, q1, q2, q3⟩ := bc k (by omega)
        obtain ⟨r0, r1, r2, r3⟩ := b1c k (by omega)
        rw [← hb.cell (p := ⟨b, _, none⟩) bw] at q0 q1 q2 q3
        rw [← hb.cell (p := ⟨b1, _, none⟩) b1w] at r0 r1 r2 r3
        clear bc b1c
        cases h0 : (l[k].name.toList == l'[k].name.toList) with
        | false =>
          have hf : Atr.eqb l[k] l'[k] = false := by simp [Atr.eqb, Vl.eqb, eqS, h0]
          have HZ := Lib.hid (eqL_false (f := Atr.eqb) hlt hlt' hf)
          clear hf hE
          go_wp2_with fail
          go_quiet (fail)
          go_wp2_with fail
          go_returns
          exact ⟨ret_bool HZ.out.symm, ex_drewN hb _⟩
        | true =>
          cases h1 : (l[k].val.kind == l'[k].val.kind) with
          | false =>
            have hf : Atr.eqb l[k] l'[k] = false := by simp [Atr.eqb, Vl.eqb, eqS, h1]
            have HZ := Lib.hid (eqL_false (f := Atr.eqb) hlt hlt' hf)
            clear hf hE
            go_wp2_with fail
            go_quiet (fail)
            go_wp2_with fail
            go_returns
            exact ⟨ret_bool HZ.out.symm, ex_drewN hb _⟩
          | true =>
            cases h2 : (l[k].val.int == l'[k].val.int) with
            | false =>
              have hf : Atr.eqb l[k] l'[k] = false := by simp [Atr.eqb, Vl.eqb, eqS, h2]
              have HZ := Lib.hid (eqL_false (f := Atr.eqb) hlt hlt' hf)
              clear hf hE
              go_wp2_with fail
              go_quiet (fail)
              go_wp2_with fail
              go_returns
              exact ⟨ret_bool HZ.out.symm, ex_drewN hb _⟩
            | true =>
              cases h3 : (l[k].val.str.toList == l'[k].val.str.toList) with
              | false =>
                have hf : Atr.eqb l[k] l'[k] = false := by simp [Atr.eqb, Vl.eqb, eqS, h3]
                have HZ := Lib.hid (eqL_false (f := Atr.eqb) hlt hlt' hf)
                clear hf hE
                go_wp2_with fail
                go_quiet (fail)
                go_wp2_with fail
                go_returns
                exact ⟨ret_bool HZ.out.symm, ex_drewN hb _⟩
              | true =>
                have hf : Atr.eqb l[k] l'[k] = true := by simp [Atr.eqb, Vl.eqb, eqS, h0, h1, h2, h3]
                have HE := Lib.hid (eqTo_succ hE (fun _ _ => hf))
                clear hf hE
                go_wp2_with fail
                go_quiet (fail)
                go_wp2_with fail
                go_roundw
                case rel => exact ⟨k + 1, by omega, by go_num, HE.out, ex_drewN hb _⟩
                case measure => simp [intOf]; omega
      · have HZ := Lib.hid (eqL_true HL.out (fun i h1 h2 => hE i h1 h2 (by omega)))
        clear hE
        go_wp2_with fail
        go_returns
        exact ⟨ret_bool HZ.out.symm, hb⟩
  · have g0 : ((l.length : Int) != (l'.length : Int)) = true := by simp; omega
    have HZ := Lib.hid (eqL_len (f := Atr.eqb) hlen)
    clear hlen
    go_enter Try.func69, Try.ntmps69
    go_wp2_with fail
    go_returns
    exact ⟨ret_bool HZ.out.symm, by go_grown⟩
set_option maxHeartbeats 2000000 in
theorem laws_sameTexts (A : Option Addr) (n c : Nat) (l : List ByteArray) (B : Option Addr) (m d : Nat) (l' : List ByteArray) (w : World) (hS : Sl 1 RStr w A n l) (hT : Sl 1 RStr w B m l') (hn : n ≤ 1073741824) (hm : m ≤ 1073741824) :
    Calls Try.prog 31 #[.slice A n c, .slice B m d] w fun e w' => e = .returned (.bool (eqL eqS l l')) ∧ Below w.heap.size w w' := by
  obtain rfl : l.length = n := hS.len
  obtain rfl : l'.length = m := hT.len
  by_cases hlen : l.length = l'.length
  · have g0 : ((l.length : Int) != (l'.length : Int)) = false := by simp; omega
    have HL := Lib.hid hlen
    clear hlen
    go_enter Try.func31, Try.ntmps31
    go_wp2_with fail
    go_loopw [5] (fun i wr => ∃ (k : Nat), k ≤ l.length ∧ i = .int .i64 k ∧ eqTo eqS l l' k ∧ Below w.heap.size w wr) (fun i _ => l.length - (intOf i).toNat)
    case atStart => exact ⟨0, Nat.zero_le _, rfl, eqTo_zero _ _ _, Below.refl _ _⟩
    case round =>
      obtain ⟨k, hk, rfl, hE, hb⟩ := hrel
      by_cases hlt : k < l.length
      · have hlt' : k < l'.length := by have := HL.out; omega
        have i1 : (k : Int) < (l'.length : Int) := by omega
        have i2 : (k : Int) < (l.length : Int) := by omega
        obtain ⟨b, off, rfl, bw, bc⟩ := hS.str (by omega)
        obtain ⟨b1, off1, rfl, b1w, b1c⟩ := hT.str (by omega)
        have q0 := bc k (by omega)
        have r0 := b1c k (by omega)
        rw [← hb.cell (p := ⟨b, _, none⟩) bw] at q0
        rw [← hb.cell (p := ⟨b1, _, none⟩) b1w] at r0
        clear bc b1c
        cases h0 : (l[k].toList == l'[k].toList) with
        | false =>
          have hf : eqS l[k] l'[k] = false := by simp [eqS, h0]
          have HZ := Lib.hid (eqL_false (f := eqS) hlt hlt' hf)
          clear hf hE
          go_wp2_with fail
          go_quiet (fail)
          go_wp2_with fail
          go_returns
          exact ⟨ret_bool HZ.out.symm, ex_drewN hb _⟩
        | true =>
          have hf : eqS l[k] l'[k] = true := by simp [eqS, h0]
          have HE := Lib.hid (eqTo_succ hE (fun _ _ => hf))
          clear hf hE
          go_wp2_with fail
          go_quiet (fail)
          go_wp2_with fail
          go_roundw
          case rel => exact ⟨k + 1, by omega, by go_num, HE.out, ex_drewN hb _⟩
          case measure => simp [intOf]; omega
      · have HZ := Lib.hid (eqL_true HL.out (fun i h1 h2 => hE i h1 h2 (by omega)))
        clear hE
        go_wp2_with fail
        go_returns
        exact ⟨ret_bool HZ.out.symm, hb⟩
  · have g0 : ((l.length : Int) != (l'.length : Int)) = true := by simp; omega
    have HZ := Lib.hid (eqL_len (f := eqS) hlen)
    clear hlen
    go_enter Try.func31, Try.ntmps31
    go_wp2_with fail
    go_returns
    exact ⟨ret_bool HZ.out.symm, by go_grown⟩
set_option maxHeartbeats 2000000 in
theorem laws_sameInts (A : Option Addr) (n c : Nat) (l : List Int) (B : Option Addr) (m d : Nat) (l' : List Int) (w : World) (hS : Sl 1 RInt w A n l) (hT : Sl 1 RInt w B m l') (hn : n ≤ 1073741824) (hm : m ≤ 1073741824) :
    Calls Try.prog 55 #[.slice A n c, .slice B m d] w fun e w' => e = .returned (.bool (eqL eqI l l')) ∧ Below w.heap.size w w' := by
  obtain rfl : l.length = n := hS.len
  obtain rfl : l'.length = m := hT.len
  by_cases hlen : l.length = l'.length
  · have g0 : ((l.length : Int) != (l'.length : Int)) = false := by simp; omega
    have HL := Lib.hid hlen
    clear hlen
    go_enter Try.func55, Try.ntmps55
    go_wp2_with fail
    go_loopw [5] (fun i wr => ∃ (k : Nat), k ≤ l.length ∧ i = .int .i64 k ∧ eqTo eqI l l' k ∧ Below w.heap.size w wr) (fun i _ => l.length - (intOf i).toNat)
    case atStart => exact ⟨0, Nat.zero_le _, rfl, eqTo_zero _ _ _, Below.refl _ _⟩
    case round =>
      obtain ⟨k, hk, rfl, hE, hb⟩ := hrel
      by_cases hlt : k < l.length
      · have hlt' : k < l'.length := by have := HL.out; omega
        have i1 : (k : Int) < (l'.length : Int) := by omega
        have i2 : (k : Int) < (l.length : Int) := by omega
        obtain ⟨b, off, rfl, bw, bc⟩ := hS.int (by omega)
        obtain ⟨b1, off1, rfl, b1w, b1c⟩ := hT.int (by omega)
        have q0 := bc k (by omega)
        have r0 := b1c k (by omega)
        rw [← hb.cell (p := ⟨b, _, none⟩) bw] at q0
        rw [← hb.cell (p := ⟨b1, _, none⟩) b1w] at r0
        clear bc b1c
        cases h0 : (l[k] == l'[k]) with
        | false =>
          have hf : eqI l[k] l'[k] = false := by simpa [eqI] using h0
          have HZ := Lib.hid (eqL_false (f := eqI) hlt hlt' hf)
          clear hf hE
          go_wp2_with fail
          go_quiet (fail)
          go_wp2_with fail
          go_returns
          exact ⟨ret_bool HZ.out.symm, ex_drewN hb _⟩
        | true =>
          have hf : eqI l[k] l'[k] = true := by simpa [eqI] using h0
          have HE := Lib.hid (eqTo_succ hE (fun _ _ => hf))
          clear hf hE
          go_wp2_with fail
          go_quiet (fail)
          go_wp2_with fail
          go_roundw
          case rel => exact ⟨k + 1, by omega, by go_num, HE.out, ex_drewN hb _⟩
          case measure => simp [intOf]; omega
      · have HZ := Lib.hid (eqL_true HL.out (fun i h1 h2 => hE i h1 h2 (by omega)))
        clear hE
        go_wp2_with fail
        go_returns
        exact ⟨ret_bool HZ.out.symm, hb⟩
  · have g0 : ((l.length : Int) != (l'.length : Int)) = true := by simp; omega
    have HZ := Lib.hid (eqL_len (f := eqI) hlen)
    clear hlen
    go_enter Try.func55, Try.ntmps55
    go_wp2_with fail
    go_returns
    exact ⟨ret_bool HZ.out.symm, by go_grown⟩
set_option maxHeartbeats 1600000 in
theorem laws_sameFile (a b : Fil) (A : Option Addr) (n c : Nat) (B : Option Addr) (m d : Nat) (w : World) (hS : Sl 4 RAtr w A n a.attrs) (hT : Sl 4 RAtr w B m b.attrs) (hn : n ≤ 1073741824) (hm : m ≤ 1073741824) :
    Calls Try.prog 15 #[a.v A n c, b.v B m d] w fun e w' => e = .returned (.bool (a.eqb b)) ∧ Below w.heap.size w w' := by
  have HC := Lib.hid fun w' (hb : Below w.heap.size w w') => laws_sameAttrs A n c a.attrs B m d b.attrs w' (hS.mono mAtr hb) (hT.mono mAtr hb) hn hm
  clear hS hT
  go_enter Try.func15, Try.ntmps15
  go_wp2_with (go_at_call 69; refine (HC.out _ (by go_grown)).mono ?_; rintro e w1 ⟨rfl, hb1⟩; have hB1 := ex_trans (w := w) (by go_grown) hb1)
  all_goals go_returns
  all_goals refine ⟨ret_bool ?_, by go_grown⟩
  all_goals go_light
  all_goals clear HC
  all_goals simp_all [Fil.eqb]
end Go.Proofs.Ytjobgnioehkomaa
namespace Go.Proofs.Ytjobgnioehkomaa
open Go.RowKit
set_option linter.unusedVariables false
set_option maxRecDepth 100000
theorem laws_samePosting (a b : Pst) (A : Option Addr) (n c : Nat) (B : Option Addr) (m d : Nat) (w : World) (hS : Sl 1 RInt w A n a.ids) (hT : Sl 1 RInt w B m b.ids) (ha : a.ok 1073741824) (hb : b.ok 1073741824) :
    Calls Try.prog 92 #[a.v A n c, b.v B m d] w fun e w' => e = .returned (.bool (a.eqb b)) ∧ Below w.heap.size w w' := by
  have hn : n ≤ 1073741824 := by rw [← hS.len]; exact ha.2.2
  have hm : m ≤ 1073741824 := by rw [← hT.len]; exact hb.2.2
  have HC := Lib.hid fun w' (hb : Below w.heap.size w w') => laws_sameInts A n c a.ids B m d b.ids w' (hS.mono mInt hb) (hT.mono mInt hb) hn hm
  clear ha hb
  cases h0 : (a.name.toList == b.name.toList) with
  | false =>
    have HZ := Lib.hid (show false = a.eqb b by simp [Pst.eqb, eqS, h0])
    go_enter Try.func92, Try.ntmps92
    go_wp2_with fail
    go_returns
    exact ⟨ret_bool HZ.out, by go_grown⟩
  | true =>
    cases h1 : (a.val.kind == b.val.kind) with
    | false =>
      have HZ := Lib.hid (show false = a.eqb b by simp [Pst.eqb, Vl.eqb, h1])
      go_enter Try.func92, Try.ntmps92
      go_wp2_with fail
      go_returns
      exact ⟨ret_bool HZ.out, by go_grown⟩
    | true =>
      cases h2 : (a.val.int == b.val.int) with
      | false =>
        have HZ := Lib.hid (show false = a.eqb b by simp [Pst.eqb, Vl.eqb, h2])
        go_enter Try.func92, Try.ntmps92
        go_wp2_with fail
        go_returns
        exact ⟨ret_bool HZ.out, by go_grown⟩
      | true =>
        cases h3 : (a.val.str.toList == b.val.str.toList) with
        | false =>
          have HZ := Lib.hid (show false = a.eqb b by simp [Pst.eqb, Vl.eqb, eqS, h3])
          go_enter Try.func92, Try.ntmps92
          go_wp2_with fail
          go_returns
          exact ⟨ret_bool HZ.out, by go_grown⟩
        | true =>
          have HZ := Lib.hid (show eqL eqI a.ids b.ids = a.eqb b by rw [show (eqI : Int → Int → Bool) = (fun a b => a == b) from rfl]; simp [Pst.eqb, Vl.eqb, eqS, h0, h1, h2, h3])
          go_enter Try.func92, Try.ntmps92
          go_wp2_with fail
          refine (HC.out _ (by go_grown)).mono ?_; rintro e w1 ⟨rfl, hb1⟩
          have hB1 := ex_trans (w := w) (by go_grown) hb1
          go_wp2_with fail
          go_returns
          exact ⟨ret_bool HZ.out, by go_grown⟩

set_option maxHeartbeats 2000000 in
theorem laws_samePostings (A : Option Addr) (n c : Nat) (l : List Pst) (B : Option Addr) (m d : Nat) (l' : List Pst) (w : World) (hS : Sl 5 RPst w A n l) (hT : Sl 5 RPst w B m l') (hn : n ≤ 1073741824) (hm : m ≤ 1073741824) (hok : ∀ y ∈ l, y.ok 1073741824) (hok' : ∀ y ∈ l', y.ok 1073741824) :
    Calls Try.prog 37 #[.slice A n c, .slice B m d] w fun e w' => e = .returned (.bool (eqL Pst.eqb l l')) ∧ Below w.heap.size w w' := by
  obtain rfl : l.length = n := hS.len
  obtain rfl : l'.length = m := hT.len
  by_cases hlen : l.length = l'.length
  · have g0 : ((l.length : Int) != (l'.length : Int)) = false := by simp; omega
    have HL := Lib.hid hlen
    clear hlen
    go_enter Try.func37, Try.ntmps37
    go_wp2_with fail
    go_loopw [5] (fun i wr => ∃ (k : Nat), k ≤ l.length ∧ i = .int .i64 k ∧ eqTo Pst.eqb l l' k ∧ Below w.heap.size w wr) (fun i _ => l.length - (intOf i).toNat)
    case atStart => exact ⟨0, Nat.zero_le _, rfl, eqTo_zero _ _ _, Below.refl _ _⟩
    case round =>
      obtain ⟨k, hk, rfl, hE, hb⟩ := hrel
      by_cases hlt : k < l.length
      · have hlt' : k < l'.length := by have := HL.out; omega
        have i1 : (k : Int) < (l'.length : Int) := by omega
        have i2 : (k : Int) < (l.length : Int) := by omega
        obtain ⟨b, off, rfl, bw, bc⟩ := hS.pst (by omega)
        obtain ⟨qA, qn, qc', q0, q1, q2, q3, q4, qS⟩ := bc k (by omega)
        have qT := qS.mono mInt hb
        rw [← hb.cell (p := ⟨b, _, none⟩) bw] at q0 q1 q2 q3 q4
        clear bc qS
        obtain ⟨b1, off1, rfl, b1w, b1c⟩ := hT.pst (by omega)
        obtain ⟨rA, rn, rc', r0, r1, r2, r3, r4, rS⟩ := b1c k (by omega)
        have rT := rS.mono mInt hb
        rw [← hb.cell (p := ⟨b1, _, none⟩) b1w] at r0 r1 r2 r3 r4
        have bw' := keep_lt hb bw
        have b1w' := keep_lt hb b1w
        clear b1c rS
        have hok1 := hok l[k] (List.getElem_mem _)
        have hok2 := hok' l'[k] (List.getElem_mem _)
        clear hok hok'
        have C := fun w => laws_samePosting l[k] l'[k] qA qn qc' rA rn rc' w
        cases hf : Pst.eqb l[k] l'[k] with
        | true =>
          rw [hf] at C
          have HC := Lib.hid C
          have HE := Lib.hid (eqTo_succ hE (fun _ _ => hf))
          clear hf C hE
          go_upto_region 6 with fail
          refine wp_region_held_drew (S := (fun w' => w'.cell? ⟨b, off + k * 5, none⟩ = some (.string l[k].name) ∧ w'.cell? ⟨b, off + k * 5 + 1, none⟩ = some (.int .i64 l[k].val.kind) ∧ w'.cell? ⟨b, off + k * 5 + 2, none⟩ = some (.int .i64 l[k].val.int) ∧ w'.cell? ⟨b, off + k * 5 + 3, none⟩ = some (.string l[k].val.str) ∧ w'.cell? ⟨b, off + k * 5 + 4, none⟩ = some (.slice qA qn qc') ∧ w'.cell? ⟨b1, off1 + k * 5, none⟩ = some (.string l'[k].name) ∧ w'.cell? ⟨b1, off1 + k * 5 + 1, none⟩ = some (.int .i64 l'[k].val.kind) ∧ w'.cell? ⟨b1, off1 + k * 5 + 2, none⟩ = some (.int .i64 l'[k].val.int) ∧ w'.cell? ⟨b1, off1 + k * 5 + 3, none⟩ = some (.string l'[k].val.str) ∧ w'.cell? ⟨b1, off1 + k * 5 + 4, none⟩ = some (.slice rA rn rc') ∧ Below wr.heap.size wr w')) (by kernel_rfl) (by (try dsimp only); exact ⟨q0, q1, q2, q3, q4, r0, r1, r2, r3, r4, (Below.refl _ _).drew⟩) (fun hHeld => ?_)
          first | refine tkA 0 ?_ | refine skA 0 ?_
          simp only [Act.put, List.setIfInBounds_toArray, List.set_cons_zero, List.set_cons_succ]
          first | refine tkA 1 ?_ | refine skA 1 ?_
          simp only [Act.put, List.setIfInBounds_toArray, List.set_cons_zero, List.set_cons_succ]
          first | refine tkA 2 ?_ | refine skA 2 ?_
          simp only [Act.put, List.setIfInBounds_toArray, List.set_cons_zero, List.set_cons_succ]
          first | refine tkA 3 ?_ | refine skA 3 ?_
          simp only [Act.put, List.setIfInBounds_toArray, List.set_cons_zero, List.set_cons_succ]
          first | refine tkA 4 ?_ | refine skA 4 ?_
          simp only [Act.put, List.setIfInBounds_toArray, List.set_cons_zero, List.set_cons_succ]
          first | refine tkA 5 ?_ | refine skA 5 ?_
          simp only [Act.put, List.setIfInBounds_toArray, List.set_cons_zero, List.set_cons_succ]
          first | refine tkA 6 ?_ | refine skA 6 ?_
          simp only [Act.put, List.setIfInBounds_toArray, List.set_cons_zero, List.set_cons_succ]
          first | refine tkA 7 ?_ | refine skA 7 ?_
          simp only [Act.put, List.setIfInBounds_toArray, List.set_cons_zero, List.set_cons_succ]
          refine held_one 8 (by kernel_rfl) rfl (fun K hK => ?_)
          go_simp
          go_at_call 92
          refine (HC.out _ (qT.mono mInt hHeld.2.2.2.2.2.2.2.2.2.2) (rT.mono mInt hHeld.2.2.2.2.2.2.2.2.2.2) hok1 hok2).mono ?_; rintro e w1 ⟨rfl, hb1⟩
          go_wp2_with fail
          refine hK.out _ _ (by (try dsimp only); exact ⟨keep_cell hb1 hHeld.1, keep_cell hb1 hHeld.2.1, keep_cell hb1 hHeld.2.2.1, keep_cell hb1 hHeld.2.2.2.1, keep_cell hb1 hHeld.2.2.2.2.1, keep_cell hb1 hHeld.2.2.2.2.2.1, keep_cell hb1 hHeld.2.2.2.2.2.2.1, keep_cell hb1 hHeld.2.2.2.2.2.2.2.1, keep_cell hb1 hHeld.2.2.2.2.2.2.2.2.1, keep_cell hb1 hHeld.2.2.2.2.2.2.2.2.2.1, ex_trans hHeld.2.2.2.2.2.2.2.2.2.2 hb1⟩) (fun hNew => ?_)
          clear hK K hHeld
          have hHeld := hNew
          clear hNew
          try simp only [Act.put, List.setIfInBounds_toArray, List.set_cons_zero, List.set_cons_succ]
          first | refine tkA 9 ?_ | refine skA 9 ?_
          simp only [Act.put, List.setIfInBounds_toArray, List.set_cons_zero, List.set_cons_succ]
          refine wpAnyH_done (by kernel_rfl) ?_ _
          have hB1 := hHeld.2.2.2.2.2.2.2.2.2.2
          clear hHeld
          go_wp2_with fail
          go_roundw
          case rel => exact ⟨k + 1, by omega, by go_num, HE.out, ex_trans hb hB1⟩
          case measure => simp [intOf]; omega
        | false =>
          rw [hf] at C
          have HC := Lib.hid C
          have HZ := Lib.hid (eqL_false (f := Pst.eqb) hlt hlt' hf)
          clear hf C hE
          go_upto_region 6 with fail
          refine wp_region_held_drew (S := (fun w' => w'.cell? ⟨b, off + k * 5, none⟩ = some (.string l[k].name) ∧ w'.cell? ⟨b, off + k * 5 + 1, none⟩ = some (.int .i64 l[k].val.kind) ∧ w'.cell? ⟨b, off + k * 5 + 2, none⟩ = some (.int .i64 l[k].val.int) ∧ w'.cell? ⟨b, off + k * 5 + 3, none⟩ = some (.string l[k].val.str) ∧ w'.cell? ⟨b, off + k * 5 + 4, none⟩ = some (.slice qA qn qc') ∧ w'.cell? ⟨b1, off1 + k * 5, none⟩ = some (.string l'[k].name) ∧ w'.cell? ⟨b1, off1 + k * 5 + 1, none⟩ = some (.int .i64 l'[k].val.kind) ∧ w'.cell? ⟨b1, off1 + k * 5 + 2, none⟩ = some (.int .i64 l'[k].val.int) ∧ w'.cell? ⟨b1, off1 + k * 5 + 3, none⟩ = some (.string l'[k].val.str) ∧ w'.cell? ⟨b1, off1 + k * 5 + 4, none⟩ = some (.slice rA rn rc') ∧ Below wr.heap.size wr w')) (by kernel_rfl) (by (try dsimp only); exact ⟨q0, q1, q2, q3, q4, r0, r1, r2, r3, r4, (Below.refl _ _).drew⟩) (fun hHeld => ?_)
          first | refine tkA 0 ?_ | refine skA 0 ?_
          simp only [Act.put, List.setIfInBounds_toArray, List.set_cons_zero, List.set_cons_succ]
          first | refine tkA 1 ?_ | refine skA 1 ?_
          simp only [Act.put, List.setIfInBounds_toArray, List.set_cons_zero, List.set_cons_succ]
          first | refine tkA 2 ?_ | refine skA 2 ?_
          simp only [Act.put, List.setIfInBounds_toArray, List.set_cons_zero, List.set_cons_succ]
          first | refine tkA 3 ?_ | refine skA 3 ?_
          simp only [Act.put, List.setIfInBounds_toArray, List.set_cons_zero, List.set_cons_succ]
          first | refine tkA 4 ?_ | refine skA 4 ?_
          simp only [Act.put, List.setIfInBounds_toArray, List.set_cons_zero, List.set_cons_succ]
          first | refine tkA 5 ?_ | refine skA 5 ?_
          simp only [Act.put, List.setIfInBounds_toArray, List.set_cons_zero, List.set_cons_succ]
          first | refine tkA 6 ?_ | refine skA 6 ?_
          simp only [Act.put, List.setIfInBounds_toArray, List.set_cons_zero, List.set_cons_succ]
          first | refine tkA 7 ?_ | refine skA 7 ?_
          simp only [Act.put, List.setIfInBounds_toArray, List.set_cons_zero, List.set_cons_succ]
          refine held_one 8 (by kernel_rfl) rfl (fun K hK => ?_)
          go_simp
          go_at_call 92
          refine (HC.out _ (qT.mono mInt hHeld.2.2.2.2.2.2.2.2.2.2) (rT.mono mInt hHeld.2.2.2.2.2.2.2.2.2.2) hok1 hok2).mono ?_; rintro e w1 ⟨rfl, hb1⟩
          go_wp2_with fail
          refine hK.out _ _ (by (try dsimp only); exact ⟨keep_cell hb1 hHeld.1, keep_cell hb1 hHeld.2.1, keep_cell hb1 hHeld.2.2.1, keep_cell hb1 hHeld.2.2.2.1, keep_cell hb1 hHeld.2.2.2.2.1, keep_cell hb1 hHeld.2.2.2.2.2.1, keep_cell hb1 hHeld.2.2.2.2.2.2.1, keep_cell hb1 hHeld.2.2.2.2.2.2.2.1, keep_cell hb1 hHeld.2.2.2.2.2.2.2.2.1, keep_cell hb1 hHeld.2.2.2.2.2.2.2.2.2.1, ex_trans hHeld.2.2.2.2.2.2.2.2.2.2 hb1⟩) (fun hNew => ?_)
          clear hK K hHeld
          have hHeld := hNew
          clear hNew
          try simp only [Act.put, List.setIfInBounds_toArray, List.set_cons_zero, List.set_cons_succ]
          first | refine tkA 9 ?_ | refine skA 9 ?_
          simp only [Act.put, List.setIfInBounds_toArray, List.set_cons_zero, List.set_cons_succ]
          refine wpAnyH_done (by kernel_rfl) ?_ _
          have hB1 := hHeld.2.2.2.2.2.2.2.2.2.2
          clear hHeld
          go_wp2_with fail
          go_returns
          exact ⟨ret_bool HZ.out.symm, ex_trans hb hB1⟩
      · have HZ := Lib.hid (eqL_true HL.out (fun i h1 h2 => hE i h1 h2 (by omega)))
        clear hE
        go_wp2_with fail
        go_returns
        exact ⟨ret_bool HZ.out.symm, hb⟩
  · have g0 : ((l.length : Int) != (l'.length : Int)) = true := by simp; omega
    have HZ := Lib.hid (eqL_len (f := Pst.eqb) hlen)
    clear hlen
    go_enter Try.func37, Try.ntmps37
    go_wp2_with fail
    go_returns
    exact ⟨ret_bool HZ.out.symm, by go_grown⟩
end Go.Proofs.Ytjobgnioehkomaa
namespace Go.Proofs.Ytjobgnioehkomaa
open Go.RowKit
set_option linter.unusedVariables false
set_option maxRecDepth 100000
theorem impl_EqualFiles (a b : Fil) (A : Option Addr) (n c : Nat) (B : Option Addr) (m d : Nat) (w : World) (hS : Sl 4 RAtr w A n a.attrs) (hT : Sl 4 RAtr w B m b.attrs) (ha : a.ok 1073741824) (hb : b.ok 1073741824) :
    Calls Try.prog 33 #[a.v A n c, b.v B m d] w fun e w' => e = .returned (.bool (a.eqb b)) ∧ Below w.heap.size w w' := by
  have hn : n ≤ 1073741824 := by rw [← hS.len]; exact ha.1
  have hm : m ≤ 1073741824 := by rw [← hT.len]; exact hb.1
  have HC := Lib.hid fun w' (hb : Below w.heap.size w w') => slices_Equal_Attr A n c a.attrs B m d b.attrs w' (hS.mono mAtr hb) (hT.mono mAtr hb) hn hm
  clear ha hb
  go_enter Try.func33, Try.ntmps33
  go_wp2_with (go_at_call 89; refine (HC.out _ (by go_grown)).mono ?_; rintro e w1 ⟨rfl, hb1⟩; have hB1 := ex_trans (w := w) (by go_grown) hb1)
  all_goals go_returns
  all_goals refine ⟨ret_bool ?_, by go_grown⟩
  all_goals go_light
  all_goals clear HC
  all_goals simp_all [Fil.eqb]
set_option maxHeartbeats 800000 in
theorem slices_Equal_int (A : Option Addr) (n c : Nat) (l : List Int) (B : Option Addr) (m d : Nat) (l' : List Int) (w : World) (hS : Sl 1 RInt w A n l) (hT : Sl 1 RInt w B m l') (hn : n ≤ 1073741824) (hm : m ≤ 1073741824) :
    Calls Try.prog 114 #[.slice A n c, .slice B m d] w fun e w' => e = .returned (.bool (eqL (fun a b => a == b) l l')) ∧ Below w.heap.size w w' := by
  obtain rfl : l.length = n := hS.len
  obtain rfl : l'.length = m := hT.len
  by_cases hlen : l.length = l'.length
  · have g0 : ((l.length : Int) != (l'.length : Int)) = false := by simp; omega
    have HL := Lib.hid hlen
    clear hlen
    go_enter Try.func114, Try.ntmps114
    go_wp2_with fail
    go_loopw [13] (fun i wr => ∃ (k : Nat), k ≤ l.length ∧ i = .int .i64 k ∧ eqTo (fun a b => a == b) l l' k ∧ Below w.heap.size w wr) (fun i _ => l.length - (intOf i).toNat)
    case atStart => exact ⟨0, Nat.zero_le _, rfl, eqTo_zero _ _ _, Below.refl _ _⟩
    case round =>
      obtain ⟨k, hk, rfl, hE, hb⟩ := hrel
      by_cases hlt : k < l.length
      · have hlt' : k < l'.length := by have := HL.out; omega
        have i1 : (k : Int) < (l'.length : Int) := by omega
        have i2 : (k : Int) < (l.length : Int) := by omega
        obtain ⟨b, off, rfl, bw, bc⟩ := hS.int (by omega)
        obtain ⟨b1, off1, rfl, b1w, b1c⟩ := hT.int (by omega)
        have q0 := bc k (by omega)
        have r0 := b1c k (by omega)
        rw [← hb.cell (p := ⟨b, _, none⟩) bw] at q0
        rw [← hb.cell (p := ⟨b1, _, none⟩) b1w] at r0
        clear bc b1c
        cases h0 : (l[k] == l'[k]) with
        | false =>
          have h0' : (l[k] != l'[k]) = true := by simp [bne, h0]
          have HZ := Lib.hid (eqL_false (f := fun (a b : Int) => a == b) hlt hlt' h0)
          clear hE h0
          go_wp2_with fail
          go_quiet (fail)
          go_wp2_with fail
          go_returns
          exact ⟨ret_bool HZ.out.symm, ex_drewN hb _⟩
        | true =>
          have h0' : (l[k] != l'[k]) = false := by simp [bne, h0]
          have HE := Lib.hid (eqTo_succ hE (fun _ _ => h0))
          clear hE h0
          go_wp2_with fail
          go_quiet (fail)
          go_wp2_with fail
          go_roundw
          case rel => exact ⟨k + 1, by omega, by go_num, HE.out, ex_drewN hb _⟩
          case measure => simp [intOf]; omega
      · have HZ := Lib.hid (eqL_true HL.out (fun i h1 h2 => hE i h1 h2 (by omega)))
        clear hE
        go_wp2_with fail
        go_returns
        exact ⟨ret_bool HZ.out.symm, hb⟩
  · have g0 : ((l.length : Int) != (l'.length : Int)) = true := by simp; omega
    have HZ := Lib.hid (eqL_len (f := fun (a b : Int) => a == b) hlen)
    clear hlen
    go_enter Try.func114, Try.ntmps114
    go_wp2_with fail
    go_returns
    exact ⟨ret_bool HZ.out.symm, by go_grown⟩
end Go.Proofs.Ytjobgnioehkomaa
namespace Go.Proofs.Ytjobgnioehkomaa
open Go.RowKit
set_option linter.unusedVariables false
set_option maxRecDepth 100000
theorem impl_EqualIndexes_1 (a b : Pst) (A : Option Addr) (n c : Nat) (B : Option Addr) (m d : Nat) (w : World) (hS : Sl 1 RInt w A n a.ids) (hT : Sl 1 RInt w B m b.ids) (ha : a.ok 1073741824) (hb : b.ok 1073741824) :
    Calls Try.prog 113 #[a.v A n c, b.v B m d] w fun e w' => e = .returned (.bool (a.eqb b)) ∧ Below w.heap.size w w' := by
  have hn : n ≤ 1073741824 := by rw [← hS.len]; exact ha.2.2
  have hm : m ≤ 1073741824 := by rw [← hT.len]; exact hb.2.2
  have HC := Lib.hid fun w' (hb : Below w.heap.size w w') => slices_Equal_int A n c a.ids B m d b.ids w' (hS.mono mInt hb) (hT.mono mInt hb) hn hm
  clear ha hb
  cases h0 : (a.name.toList == b.name.toList) with
  | false =>
    have HZ := Lib.hid (show false = a.eqb b by simp [Pst.eqb, eqS, h0])
    go_enter Try.func113, Try.ntmps113
    go_wp2_with fail
    go_returns
    exact ⟨ret_bool HZ.out, by go_grown⟩
  | true =>
    cases h1 : (a.val.kind == b.val.kind) with
    | false =>
      have HZ := Lib.hid (show false = a.eqb b by simp [Pst.eqb, Vl.eqb, h1])
      go_enter Try.func113, Try.ntmps113
      go_wp2_with fail
      go_returns
      exact ⟨ret_bool HZ.out, by go_grown⟩
    | true =>
      cases h2 : (a.val.int == b.val.int) with
      | false =>
        have HZ := Lib.hid (show false = a.eqb b by simp [Pst.eqb, Vl.eqb, h2])
        go_enter Try.func113, Try.ntmps113
        go_wp2_with fail
        go_returns
        exact ⟨ret_bool HZ.out, by go_grown⟩
      | true =>
        cases h3 : (a.val.str.toList == b.val.str.toList) with
        | false =>
          have HZ := Lib.hid (show false = a.eqb b by simp [Pst.eqb, Vl.eqb, eqS, h3])
          go_enter Try.func113, Try.ntmps113
          go_wp2_with fail
          go_returns
          exact ⟨ret_bool HZ.out, by go_grown⟩
        | true =>
          have HZ := Lib.hid (show eqL (fun a b => a == b) a.ids b.ids = a.eqb b by simp [Pst.eqb, Vl.eqb, eqS, h0, h1, h2, h3])
          go_enter Try.func113, Try.ntmps113
          go_wp2_with fail
          refine (HC.out _ (by go_grown)).mono ?_; rintro e w1 ⟨rfl, hb1⟩
          have hB1 := ex_trans (w := w) (by go_grown) hb1
          go_wp2_with fail
          go_returns
          exact ⟨ret_bool HZ.out, by go_grown⟩

set_option maxHeartbeats 2000000 in
theorem slices_EqualFunc_Posting (A : Option Addr) (n c : Nat) (l : List Pst) (B : Option Addr) (m d : Nat) (l' : List Pst) (w : World) (hS : Sl 5 RPst w A n l) (hT : Sl 5 RPst w B m l') (hn : n ≤ 1073741824) (hm : m ≤ 1073741824) (hok : ∀ y ∈ l, y.ok 1073741824) (hok' : ∀ y ∈ l', y.ok 1073741824) :
    Calls Try.prog 112 #[.slice A n c, .slice B m d, .func (.func 113) #[] #[]] w fun e w' => e = .returned (.bool (eqL Pst.eqb l l')) ∧ Below w.heap.size w w' := by
  obtain rfl : l.length = n := hS.len
  obtain rfl : l'.length = m := hT.len
  by_cases hlen : l.length = l'.length
  · have g0 : ((l.length : Int) != (l'.length : Int)) = false := by simp; omega
    have HL := Lib.hid hlen
    clear hlen
    go_enter Try.func112, Try.ntmps112
    go_wp2_with fail
    go_loopw [17] (fun i wr => ∃ (k : Nat), k ≤ l.length ∧ i = .int .i64 k ∧ eqTo Pst.eqb l l' k ∧ Below w.heap.size w wr) (fun i _ => l.length - (intOf i).toNat)
    case atStart => exact ⟨0, Nat.zero_le _, rfl, eqTo_zero _ _ _, Below.refl _ _⟩
    case round =>
      obtain ⟨k, hk, rfl, hE, hb⟩ := hrel
      by_cases hlt : k < l.length
      · have hlt' : k < l'.length := by have := HL.out; omega
        have i1 : (k : Int) < (l'.length : Int) := by omega
        have i2 : (k : Int) < (l.length : Int) := by omega
        obtain ⟨b, off, rfl, bw, bc⟩ := hS.pst (by omega)
        obtain ⟨qA, qn, qc', q0, q1, q2, q3, q4, qS⟩ := bc k (by omega)
        have qT := qS.mono mInt hb
        rw [← hb.cell (p := ⟨b, _, none⟩) bw] at q0 q1 q2 q3 q4
        clear bc qS
        obtain ⟨b1, off1, rfl, b1w, b1c⟩ := hT.pst (by omega)
        obtain ⟨rA, rn, rc', r0, r1, r2, r3, r4, rS⟩ := b1c k (by omega)
        have rT := rS.mono mInt hb
        rw [← hb.cell (p := ⟨b1, _, none⟩) b1w] at r0 r1 r2 r3 r4
        have bw' := keep_lt hb bw
        have b1w' := keep_lt hb b1w
        clear b1c rS
        have hok1 := hok l[k] (List.getElem_mem _)
        have hok2 := hok' l'[k] (List.getElem_mem _)
        clear hok hok'
        have C := fun w => impl_EqualIndexes_1 l[k] l'[k] qA qn qc' rA rn rc' w
        cases hf : Pst.eqb l[k] l'[k] with
        | true =>
          rw [hf] at C
          have HC := Lib.hid C
          have HE := Lib.hid (eqTo_succ hE (fun _ _ => hf))
          clear hf C hE
          go_wp2_with fail
          refine (HC.out _ (qT.mono mInt (by go_grown)) (rT.mono mInt (by go_grown)) hok1 hok2).mono ?_; rintro e w1 ⟨rfl, hb1⟩
          have hB1 := ex_trans (w := wr) (by go_grown) hb1
          go_wp2_with fail
          go_roundw
          case rel => exact ⟨k + 1, by omega, by go_num, HE.out, ex_trans hb hB1⟩
          case measure => simp [intOf]; omega
        | false =>
          rw [hf] at C
          have HC := Lib.hid C
          have HZ := Lib.hid (eqL_false (f := Pst.eqb) hlt hlt' hf)
          clear hf C hE
          go_wp2_with fail
          refine (HC.out _ (qT.mono mInt (by go_grown)) (rT.mono mInt (by go_grown)) hok1 hok2).mono ?_; rintro e w1 ⟨rfl, hb1⟩
          have hB1 := ex_trans (w := wr) (by go_grown) hb1
          go_wp2_with fail
          go_returns
          exact ⟨ret_bool HZ.out.symm, ex_trans hb hB1⟩
      · have HZ := Lib.hid (eqL_true HL.out (fun i h1 h2 => hE i h1 h2 (by omega)))
        clear hE
        go_wp2_with fail
        go_returns
        exact ⟨ret_bool HZ.out.symm, hb⟩
  · have g0 : ((l.length : Int) != (l'.length : Int)) = true := by simp; omega
    have HZ := Lib.hid (eqL_len (f := Pst.eqb) hlen)
    clear hlen
    go_enter Try.func112, Try.ntmps112
    go_wp2_with fail
    go_returns
    exact ⟨ret_bool HZ.out.symm, by go_grown⟩
theorem impl_EqualIndexes (A : Option Addr) (n c : Nat) (l : List Pst) (B : Option Addr) (m d : Nat) (l' : List Pst) (w : World) (hS : Sl 5 RPst w A n l) (hT : Sl 5 RPst w B m l') (hn : n ≤ 1073741824) (hm : m ≤ 1073741824) (hok : ∀ y ∈ l, y.ok 1073741824) (hok' : ∀ y ∈ l', y.ok 1073741824) :
    Calls Try.prog 42 #[.slice A n c, .slice B m d] w fun e w' => e = .returned (.bool (eqL Pst.eqb l l')) ∧ Below w.heap.size w w' := by
  have HC := Lib.hid (slices_EqualFunc_Posting A n c l B m d l' w hS hT hn hm hok hok')
  clear hok hok'
  go_enter Try.func42, Try.ntmps42
  go_wp2_with fail
  refine HC.out.mono ?_; rintro e w1 ⟨rfl, hb1⟩
  go_wp2_with fail
  go_returns
  exact ⟨rfl, hb1⟩
end Go.Proofs.Ytjobgnioehkomaa
namespace Go.Proofs.Ytjobgnioehkomaa
open Go.RowKit
set_option linter.unusedVariables false
set_option maxRecDepth 100000
theorem NRow.add2 {H β : Type} {K : NK H β} {W0 W1 W2 : World} {B n c c' : Nat} {A A' : Option Addr} {L : List (H × List β)} {x : H × List β} (h : NRow K W0 B A n c L) (hb : Below W0.heap.size W0 W1) (hx : K.inner W1 B x) (hap : ∀ b ∈ K.bs x.1, b ∉ rowBs A c ++ K.all L)
    (hr : FRow K.e K.size K.enc W2 B A' (n + 1) c' (L.map (·.1) ++ [x.1])) (hc : Chg (rowBs A c) W1 W2) (hx5 : ∀ b ∈ rowBs A' c', b ∈ rowBs A c ∨ W1.heap.size ≤ b) : NRow K W2 B A' (n + 1) c' (L ++ [x]) := by
  obtain ⟨p1, p2⟩ := (h.below hb).push hx hap
  exact NRow.turn (by simpa using hr) hc hx5 p1 p2
theorem NRow.take_apart {H β : Type} {K : NK H β} {w : World} {B n c : Nat} {A : Option Addr} {L : List (H × List β)} (h : NRow K w B A n c L) {j : Nat} (hj : j < L.length) {b : Nat} (h1 : b ∈ K.all (L.take j)) (h2 : b ∈ K.bs L[j].1) : False := by
  have hn := (List.nodup_append.1 h.2.2).2.1
  have hs : L.take j ++ L[j] :: L.drop (j + 1) = L := by simp
  have e : K.all (L.take j) ++ (K.bs L[j].1 ++ K.all (L.drop (j + 1))) = K.all L := by
    have e := congrArg K.all hs
    simp only [NK.all, List.flatMap_append, List.flatMap_cons] at e ⊢
    exact e
  rw [← e, List.nodup_append] at hn
  exact hn.2.2 b h1 b (List.mem_append_left _ h2) rfl
theorem NK.all_take {H β : Type} {K : NK H β} {L : List (H × List β)} {j : Nat} {b : Nat} (h : b ∈ K.all (L.take j)) : b ∈ K.all (L.take (j + 1)) := by
  obtain ⟨x, hx, hb⟩ := NK.all_mem.1 h
  refine NK.all_mem.2 ⟨x, ?_, hb⟩
  exact (List.take_subset_take_left L (by omega)) hx
theorem stepR_ids {id : Int} {M : Nat} (ys : List Atr) (l : List Pst) (h : ∀ p ∈ l, p.ids.length ≤ M) : ∀ p ∈ ys.foldl (stepR id) l, p.ids.length ≤ M :=
  foldR_ind (C := fun m => ∀ p ∈ m, p.ids.length ≤ M) (fun m a hm p hp => by
    obtain ⟨q, hq, rfl⟩ := List.mem_map.1 (List.mem_filter.1 hp).1
    exact Nat.le_trans (dropP_cnt a.name a.val id q) (hm q hq)) ys l h
theorem foldR_len {id : Int} (ys : List Atr) (l : List Pst) : (ys.foldl (stepR id) l).length ≤ l.length :=
  foldR_ind (C := fun m => m.length ≤ l.length) (fun m a hm => Nat.le_trans (stepR_len _ a m) hm) ys l (Nat.le_refl _)
theorem step_take {d : Pst → Pst} {L : List (Ph × List Int)} {j : Nat} (hj : j < L.length) : (((L.take (j + 1)).map mkP).map d).filter someIds = (((L.take j).map mkP).map d).filter someIds ++ (if someIds (d (mkP L[j])) then [d (mkP L[j])] else []) := by
  rw [List.take_succ_eq_append_getElem hj]
  simp only [List.map_append, List.map_cons, List.map_nil, List.filter_append, List.filter_cons, List.filter_nil]

set_option maxHeartbeats 12800000 in
theorem spec_RemoveFromIndex (A : Option Addr) (n c : Nat) (l : List Pst) (f : Fil) (A2 : Option Addr) (n2 c2 : Nat) (w : World) (hT : Sl 5 RPst w A n l) (hS : Sl 4 RAtr w A2 n2 f.attrs) (hn : n ≤ 1073741824) (hn2 : n2 ≤ 1073741824) (hok : ∀ p ∈ l, p.ids.length ≤ 1073741824) :
    Calls Try.prog 41 #[.slice A n c, f.v A2 n2 c2] w (NewPsts 107 3 w (remX l f)) := by
  obtain rfl : l.length = n := hT.len
  obtain rfl : f.attrs.length = n2 := hS.len
  obtain ⟨ii, hi, hi0, hi1, hi2⟩ := info_parts info_Posting
  have HC := Lib.hid fun w' (hb : Below w.heap.size w w') => spec_l07Copy A l.length c l w' (hT.mono mPst hb) hn hok
  have HIDS := Lib.hid fun (k : Nat) => stepR_ids (id := f.id) (f.attrs.take k) l hok
  have HLEN := Lib.hid fun (k : Nat) => Nat.le_trans (foldR_len (id := f.id) (f.attrs.take k) l) hn
  clear hT hok
  go_enter Try.func41, Try.ntmps41
  go_wp2_with fail
  refine (HC.out _ (by go_grown)).mono ?_; rintro e w1 ⟨A1, c1, rfl, hr1, hb1⟩
  have hB1 := ex_trans (w := w) (by go_grown) hb1
  have kf := below_keep hb1 (hp_new rfl)
  have hzf : w.heap.size < w1.heap.size := blk_lt kf
  have HR1 := Lib.hid (hr1.lower (show w.heap.size + 1 ≤ _ by simp))
  have HKF := Lib.hid kf
  have HB1 := Lib.hid hB1
  clear hr1 hb1 kf hB1
  go_wp2_with fail
  go_loopw [0, 5] (fun v i wr => ∃ (k n1 : Nat) (A1 : Option Addr) (c1 : Nat), k ≤ f.attrs.length ∧ i = .int .i64 k ∧ v = .slice A1 n1 c1 ∧ HasB wr [(w.heap.size, #[.int .i64 f.id, .int .i64 f.owner, .bool f.shared, .int .i64 f.link, .slice A2 f.attrs.length c2], 28)] ∧ PRows 107 3 wr (w.heap.size + 1) A1 n1 c1 ((f.attrs.take k).foldl (stepR f.id) l) ∧ Below w.heap.size w wr) (fun _ i _ => f.attrs.length - (intOf i).toNat)
  case atStart => exact ⟨0, _, A1, c1, Nat.zero_le _, rfl, rfl, fun x hx => by simp only [List.mem_singleton] at hx; subst hx; exact HKF.out, HR1.out, HB1.out⟩
  case round =>
    obtain ⟨k, n1, A1, c1, hk2, rfl, rfl, hbf, hrow, hb⟩ := hrel
    have HBF := Lib.hid hbf
    have HLK := HLEN.out k
    rw [hrow.len] at HLK
    have uf := blk_cell? (hbf _ (List.Mem.head _))
    have lf := blk_lt (hbf _ (List.Mem.head _))
    simp only at lf
    have hids : ∀ p ∈ (f.attrs.take k).foldl (stepR f.id) l, p.ids.length ≤ 1073741824 := HIDS.out k
    clear hbf
    by_cases hlt : k < f.attrs.length
    · obtain ⟨b, off, rfl, bw, bc⟩ := hS.atr (by omega)
      have i0 : (0 : Int) ≤ (k : Int) := by omega
      have i1 : (k : Int) < (f.attrs.length : Int) := by omega
      obtain ⟨L, hL1, hL2⟩ := hrow
      obtain rfl : L.length = n1 := hL1.len
      have HMS := Lib.hid (show ((L.map mkP).map (dropP f.attrs[k].name f.attrs[k].val f.id)).filter someIds = (f.attrs.take (k + 1)).foldl (stepR f.id) l by rw [hL2, List.take_succ_eq_append_getElem hlt, List.foldl_append]; rfl)
      have HIL := Lib.hid (show ∀ (i : Nat) (h : i < L.length), L[i].2.length ≤ 1073741824 from fun i h => by
        have h9 := hids (mkP L[i]) (by rw [← hL2]; exact List.mem_map_of_mem (List.getElem_mem h))
        exact h9)
      have HL1 := Lib.hid hL1
      clear hL1 hL2 hids
      obtain ⟨W1, rfl⟩ : ∃ W1, W1 = wr := ⟨_, rfl⟩
      go_wp2_with fail
      go_loopw [6, 7] (fun v i wr => ∃ (j q : Nat) (O : List (Ph × List Int)) (A4 : Option Addr) (c4 : Nat), j ≤ L.length ∧ i = .int .i64 j ∧ v = .slice A4 q c4 ∧ NRow (KPst 107 3) wr (w.heap.size + 1) A4 q c4 O ∧ (∀ b ∈ rowBs A4 c4, W1.heap.size ≤ b) ∧ (∀ b ∈ (KPst 107 3).all O, b ∈ (KPst 107 3).all (L.take j) ∨ W1.heap.size ≤ b) ∧ O.map mkP = (((L.take j).map mkP).map (dropP f.attrs[k].name f.attrs[k].val f.id)).filter someIds ∧ Below W1.heap.size W1 wr) (fun _ i _ => L.length - (intOf i).toNat)
      case atStart => exact ⟨0, 0, [], _, 0, Nat.zero_le _, rfl, rfl, NRow.any0 _ _ _ _, fun b hb => by simp [rowBs_zero] at hb, fun b hb => by simp [NK.all] at hb, rfl, by go_grown⟩
      case round =>
        obtain ⟨j, q, O, A4, c4, hj2, rfl, rfl, hO, hO1, hO2, hO3, hbW⟩ := hrel
        have HO := Lib.hid (And.intro hO (And.intro hO1 (And.intro hO2 hO3)))
        have hqj : q ≤ j := by
          have h9 := congrArg List.length hO3
          rw [List.length_map, hO.len] at h9
          rw [h9]
          exact Nat.le_trans (List.length_filter_le _ _) (by simp; omega)
        have hBW := ex_trans hb hbW
        clear hO hO1 hO2 hO3
        by_cases hjl : j < L.length
        · skip
          have hL1w := HL1.out.below hbW
          obtain ⟨g, hgA, hBg, hgw, hrb, hfr, hcell⟩ := hL1w.hcell encPh (by omega)
          subst hgA
          have y0 := hcell j hjl 0 _ rfl
          have y1 := hcell j hjl 1 _ rfl
          have y2 := hcell j hjl 2 _ rfl
          have y3 := hcell j hjl 3 _ rfl
          have y4 := hcell j hjl 4 _ rfl
          have hin := hL1w.fil j hjl
          have hidl := HIL.out j hjl
          have hlt9 : ∀ b ∈ (KPst 107 3).bs L[j].1, b < W1.heap.size := fun b hb => (HL1.out.base b (List.mem_append_right _ (NK.all_mem.2 ⟨L[j], List.getElem_mem hjl, hb⟩))).2
          have hap : ∀ b ∈ (KPst 107 3).bs L[j].1, b ∉ rowBs A4 c4 ++ (KPst 107 3).all O := fun b hb hm => by
            rcases List.mem_append.1 hm with hm | hm
            · have := HO.out.2.1 b hm
              have := hlt9 b hb
              omega
            · rcases HO.out.2.2.1 b hm with h9 | h9
              · exact HL1.out.take_apart hjl h9 hb
              · have := hlt9 b hb
                omega
          have hall : ∀ b ∈ (KPst 107 3).bs L[j].1, b ∈ (KPst 107 3).all (L.take (j + 1)) := fun b hb => NK.all_mem.2 ⟨L[j], List.mem_take_iff_getElem.2 ⟨j, by omega, rfl⟩, hb⟩
          have HST := Lib.hid (step_take (d := (dropP f.attrs[k].name f.attrs[k].val f.id)) hjl)
          obtain ⟨x, hx⟩ : ∃ x, x = L[j] := ⟨_, rfl⟩
          rw [← hx] at y0 y1 y2 y3 y4 hin hidl hap hall
          obtain ⟨h, ids⟩ := x
          simp only [Nat.add_zero] at y0
          simp only [NK.inner, NK.bs] at y0 y1 y2 y3 y4 hin hidl hap hall
          have i2 : (0 : Int) ≤ (j : Int) := by omega
          have i3 : (j : Int) < (L.length : Int) := by omega
          have hHn : h.n ≤ 1073741824 := by rw [← hin.len]; exact hidl
          obtain ⟨q0, q1, q2, q3⟩ := bc k (by omega)
          rw [← hBW.cell (p := ⟨b, _, none⟩) bw] at q0 q1 q2 q3
          have bw' := keep_lt hBW bw
          have kf := below_keep hbW (HBF.out _ (List.Mem.head _))
          have HIN := Lib.hid hin
          have HAP := Lib.hid hap
          have HALL := Lib.hid hall
          have HX := Lib.hid hx
          clear hL1w hin hap hall hx hcell hlt9 uf lf
          have uf := blk_cell? kf
          have lf := blk_lt kf
          simp only at lf
          go_upto_region 10 with fail
          generalize hWp : World.alloc wr _ = W2
          have hp : W2.heap[wr.heap.size]? = some (.cells #[.string h.name, .int .i64 h.val.kind, .int .i64 h.val.int, .string h.val.str, .slice h.A h.n h.c] 107 (0, 0)) := by rw [← hWp]; exact hp_new rfl
          have hb2 : Below wr.heap.size wr W2 := by rw [← hWp]; go_grown
          have hz2 : wr.heap.size < W2.heap.size := blk_lt hp
          clear hWp
          have p0 := blk_cell? hp 0
          have p1 := blk_cell? hp 1
          have p2 := blk_cell? hp 2
          have p3 := blk_cell? hp 3
          simp only [List.getElem?_toArray, List.getElem?_cons_zero, List.getElem?_cons_succ] at p0 p1 p2 p3
          have e4 : W2.cell? ⟨w.heap.size, 4, none⟩ = some (.slice (some ⟨b, off, none⟩) f.attrs.length c2) := keep_cell hb2 (uf 4)
          have r0 := keep_cell hb2 q0
          have r1 := keep_cell hb2 q1
          have r2 := keep_cell hb2 q2
          have r3 := keep_cell hb2 q3
          have z9 := keep_lt hb2 lf
          have bw2 := keep_lt hb2 bw'
          have HP := Lib.hid hp
          have HB2 := Lib.hid hb2
          clear y0 y1 y2 y3 y4 uf q0 q1 q2 q3 kf hp hb2 hfr
          cases h0 : (h.name.toList == f.attrs[k].name.toList) with
          | false =>
            refine wp_region_held_drew (S := (fun w' => w'.cell? ⟨wr.heap.size, 0, none⟩ = some (.string h.name) ∧ w'.cell? ⟨wr.heap.size, 1, none⟩ = some (.int .i64 h.val.kind) ∧ w'.cell? ⟨wr.heap.size, 2, none⟩ = some (.int .i64 h.val.int) ∧ w'.cell? ⟨wr.heap.size, 3, none⟩ = some (.string h.val.str) ∧ w'.cell? ⟨w.heap.size, 4, none⟩ = some (.slice (some ⟨b, off, none⟩) f.attrs.length c2) ∧ w'.cell? ⟨b, off + k * 4, none⟩ = some (.string f.attrs[k].name) ∧ w'.cell? ⟨b, off + k * 4 + 1, none⟩ = some (.int .i64 f.attrs[k].val.kind) ∧ w'.cell? ⟨b, off + k * 4 + 2, none⟩ = some (.int .i64 f.attrs[k].val.int) ∧ w'.cell? ⟨b, off + k * 4 + 3, none⟩ = some (.string f.attrs[k].val.str))) (by kernel_rfl) (by (try dsimp only); exact ⟨p0, p1, p2, p3, e4, r0, r1, r2, r3⟩) (fun hHeld => ?_)
            first | refine tkA 0 ?_ | refine skA 0 ?_
            simp only [Act.put, List.setIfInBounds_toArray, List.set_cons_zero, List.set_cons_succ]
            first | refine tkA 1 ?_ | refine skA 1 ?_
            simp only [Act.put, List.setIfInBounds_toArray, List.set_cons_zero, List.set_cons_succ]
            first | refine tkA 2 ?_ | refine skA 2 ?_
            simp only [Act.put, List.setIfInBounds_toArray, List.set_cons_zero, List.set_cons_succ]
            first | refine tkA 3 ?_ | refine skA 3 ?_
            simp only [Act.put, List.setIfInBounds_toArray, List.set_cons_zero, List.set_cons_succ]
            first | refine tkA 4 ?_ | refine skA 4 ?_
            simp only [Act.put, List.setIfInBounds_toArray, List.set_cons_zero, List.set_cons_succ]
            first | refine tkA 5 ?_ | refine skA 5 ?_
            simp only [Act.put, List.setIfInBounds_toArray, List.set_cons_zero, List.set_cons_succ]
            first | refine tkA 6 ?_ | refine skA 6 ?_
            simp only [Act.put, List.setIfInBounds_toArray, List.set_cons_zero, List.set_cons_succ]
            first | refine tkA 7 ?_ | refine skA 7 ?_
            simp only [Act.put, List.setIfInBounds_toArray, List.set_cons_zero, List.set_cons_succ]
            first | refine tkA 8 ?_ | refine skA 8 ?_
            simp only [Act.put, List.setIfInBounds_toArray, List.set_cons_zero, List.set_cons_succ]
            first | refine tkA 9 ?_ | refine skA 9 ?_
            simp only [Act.put, List.setIfInBounds_toArray, List.set_cons_zero, List.set_cons_succ]
            first | refine tkA 10 ?_ | refine skA 10 ?_
            simp only [Act.put, List.setIfInBounds_toArray, List.set_cons_zero, List.set_cons_succ]
            first | refine tkA 11 ?_ | refine skA 11 ?_
            simp only [Act.put, List.setIfInBounds_toArray, List.set_cons_zero, List.set_cons_succ]
            first | refine tkA 12 ?_ | refine skA 12 ?_
            simp only [Act.put, List.setIfInBounds_toArray, List.set_cons_zero, List.set_cons_succ]
            first | refine tkA 13 ?_ | refine skA 13 ?_
            simp only [Act.put, List.setIfInBounds_toArray, List.set_cons_zero, List.set_cons_succ]
            first | refine tkA 14 ?_ | refine skA 14 ?_
            simp only [Act.put, List.setIfInBounds_toArray, List.set_cons_zero, List.set_cons_succ]
            first | refine tkA 15 ?_ | refine skA 15 ?_
            simp only [Act.put, List.setIfInBounds_toArray, List.set_cons_zero, List.set_cons_succ]
            first | refine tkA 16 ?_ | refine skA 16 ?_
            simp only [Act.put, List.setIfInBounds_toArray, List.set_cons_zero, List.set_cons_succ]
            first | refine tkA 17 ?_ | refine skA 17 ?_
            simp only [Act.put, List.setIfInBounds_toArray, List.set_cons_zero, List.set_cons_succ]
            first | refine tkA 18 ?_ | refine skA 18 ?_
            simp only [Act.put, List.setIfInBounds_toArray, List.set_cons_zero, List.set_cons_succ]
            first | refine tkA 19 ?_ | refine skA 19 ?_
            simp only [Act.put, List.setIfInBounds_toArray, List.set_cons_zero, List.set_cons_succ]
            refine wpAnyH_done (by kernel_rfl) ?_ _
            clear hHeld
            generalize hW3 : World.drew W2 = W3
            have hb3 : Below W2.heap.size W2 W3 := by rw [← hW3]; exact (Below.refl _ _).drew
            clear hW3
            have tp := below_keep hb3 HP.out
            have TB := Lib.hid (ex_trans HB2.out hb3)
            have hi3 := HIN.out.below TB.out
            have TIN := Lib.hid hi3
            have TAP := Lib.hid HAP.out
            have TAL := Lib.hid fun b hb => (Or.inl (HALL.out b hb) : b ∈ (KPst 107 3).all (L.take (j + 1)) ∨ W1.heap.size ≤ b)
            have TMK := Lib.hid (show (dropP f.attrs[k].name f.attrs[k].val f.id) (mkP L[j]) = ⟨h.name, h.val, ids⟩ by
              rw [← HX.out]
              have h9 : isPst f.attrs[k].name f.attrs[k].val (mkP (h, ids)) = false := by simp [isPst, eqS, Vl.eqb, mkP, h0]
              unfold dropP; rw [h9]; rfl)
            clear hi3 hb3
            have tu := blk_cell? tp
            have tl := blk_lt tp
            by_cases hz : h.n = 0
            · have i5 : ¬ ((0 : Int) < ((h.n : Nat) : Int)) := by omega
              have HN := Lib.hid (show O.map mkP = (((L.take (j + 1)).map mkP).map (dropP f.attrs[k].name f.attrs[k].val f.id)).filter someIds by
                rw [HST.out, HO.out.2.2.2, TMK.out]
                have h9 : someIds ⟨h.name, h.val, ids⟩ = false := by
                  have h8 : (ids).length = h.n := TIN.out.len
                  simp only [someIds]; rw [h8, hz]; rfl
                rw [h9]; simp)
              clear hz
              go_wp2_with fail
              go_roundw
              case rel => exact ⟨j + 1, q, O, A4, c4, by omega, by go_num, rfl, HO.out.1.below TB.out, HO.out.2.1, fun b hb => (HO.out.2.2.1 b hb).imp NK.all_take id, HN.out, ex_trans hbW TB.out⟩
              case measure => simp [intOf]; omega
            · have i5 : (0 : Int) < ((h.n : Nat) : Int) := by omega
              have tz := TB.out.size
              go_wp2_with (at_builtin; refine wpList_append_row rfl _ _ _ rfl encPh Try.underlying55 hi hi0 hi1 hi2 rfl rfl rfl (HO.out.1.1.below (ex_alloc TB.out _)) (src1 encPh _ (⟨h.name, h.val, h.A, h.n, h.c⟩ : Ph) _ (by simp) rfl) (by unfold maxLen; omega) (by omega) (by simp; omega) ?_; intro A8 c8 w8 hr8 hc8 hx8)
              have HREL := Lib.hid (show NRow (KPst 107 3) w8 (w.heap.size + 1) A8 (q + 1) c8 (O ++ [(⟨h.name, h.val, h.A, h.n, h.c⟩, ids)]) ∧ (∀ b ∈ rowBs A8 c8, W1.heap.size ≤ b) ∧ (∀ b ∈ (KPst 107 3).all (O ++ [(⟨h.name, h.val, h.A, h.n, h.c⟩, ids)]), b ∈ (KPst 107 3).all (L.take (j + 1)) ∨ W1.heap.size ≤ b) ∧ (O ++ [((⟨h.name, h.val, h.A, h.n, h.c⟩ : Ph), ids)]).map mkP = (((L.take (j + 1)).map mkP).map (dropP f.attrs[k].name f.attrs[k].val f.id)).filter someIds ∧ Below W1.heap.size W1 w8 from by
                refine ⟨NRow.add2 (K := (KPst 107 3)) (x := (⟨h.name, h.val, h.A, h.n, h.c⟩, ids)) HO.out.1 (ex_alloc TB.out _) (TIN.out.below (by go_grown)) TAP.out hr8 hc8 hx8, fun b hb => ?_, fun b hb => ?_, ?_, Below.mark (ex_trans hbW (ex_alloc TB.out _)) hc8 (by have := hbW.size; simp; omega) HO.out.2.1⟩
                · rcases hx8 b hb with h9 | h9
                  · exact HO.out.2.1 b h9
                  · have := hbW.size; simp at h9; omega
                · obtain ⟨y, hy, hby⟩ := NK.all_mem.1 hb
                  rcases List.mem_append.1 hy with hy | hy
                  · exact (HO.out.2.2.1 b (NK.all_mem.2 ⟨y, hy, hby⟩)).imp NK.all_take id
                  · obtain rfl := List.mem_singleton.1 hy
                    exact TAL.out b hby
                · rw [HST.out, List.map_append, HO.out.2.2.2, TMK.out]
                  have h9 : someIds ⟨h.name, h.val, ids⟩ = true := by
                    have h8 : (ids).length = h.n := TIN.out.len
                    simp only [someIds]; rw [h8]; simpa using hz
                  rw [h9]; rfl)
              clear hr8 hc8 hx8 hz
              go_wp2_with fail
              go_roundw
              case rel => exact ⟨j + 1, q + 1, _, A8, c8, by omega, by go_num, rfl, HREL.out⟩
              case measure => simp [intOf]; omega
          | true =>
            cases h1 : (h.val.kind == f.attrs[k].val.kind) with
            | false =>
              refine wp_region_held_drew (S := (fun w' => w'.cell? ⟨wr.heap.size, 0, none⟩ = some (.string h.name) ∧ w'.cell? ⟨wr.heap.size, 1, none⟩ = some (.int .i64 h.val.kind) ∧ w'.cell? ⟨wr.heap.size, 2, none⟩ = some (.int .i64 h.val.int) ∧ w'.cell? ⟨wr.heap.size, 3, none⟩ = some (.string h.val.str) ∧ w'.cell? ⟨w.heap.size, 4, none⟩ = some (.slice (some ⟨b, off, none⟩) f.attrs.length c2) ∧ w'.cell? ⟨b, off + k * 4, none⟩ = some (.string f.attrs[k].name) ∧ w'.cell? ⟨b, off + k * 4 + 1, none⟩ = some (.int .i64 f.attrs[k].val.kind) ∧ w'.cell? ⟨b, off + k * 4 + 2, none⟩ = some (.int .i64 f.attrs[k].val.int) ∧ w'.cell? ⟨b, off + k * 4 + 3, none⟩ = some (.string f.attrs[k].val.str))) (by kernel_rfl) (by (try dsimp only); exact ⟨p0, p1, p2, p3, e4, r0, r1, r2, r3⟩) (fun hHeld => ?_)
              first | refine tkA 0 ?_ | refine skA 0 ?_
              simp only [Act.put, List.setIfInBounds_toArray, List.set_cons_zero, List.set_cons_succ]
              first | refine tkA 1 ?_ | refine skA 1 ?_
              simp only [Act.put, List.setIfInBounds_toArray, List.set_cons_zero, List.set_cons_succ]
              first | refine tkA 2 ?_ | refine skA 2 ?_
              simp only [Act.put, List.setIfInBounds_toArray, List.set_cons_zero, List.set_cons_succ]
              first | refine tkA 3 ?_ | refine skA 3 ?_
              simp only [Act.put, List.setIfInBounds_toArray, List.set_cons_zero, List.set_cons_succ]
              first | refine tkA 4 ?_ | refine skA 4 ?_
              simp only [Act.put, List.setIfInBounds_toArray, List.set_cons_zero, List.set_cons_succ]
              first | refine tkA 5 ?_ | refine skA 5 ?_
              simp only [Act.put, List.setIfInBounds_toArray, List.set_cons_zero, List.set_cons_succ]
              first | refine tkA 6 ?_ | refine skA 6 ?_
              simp only [Act.put, List.setIfInBounds_toArray, List.set_cons_zero, List.set_cons_succ]
              first | refine tkA 7 ?_ | refine skA 7 ?_
              simp only [Act.put, List.setIfInBounds_toArray, List.set_cons_zero, List.set_cons_succ]
              first | refine tkA 8 ?_ | refine skA 8 ?_
              simp only [Act.put, List.setIfInBounds_toArray, List.set_cons_zero, List.set_cons_succ]
              first | refine tkA 9 ?_ | refine skA 9 ?_
              simp only [Act.put, List.setIfInBounds_toArray, List.set_cons_zero, List.set_cons_succ]
              first | refine tkA 10 ?_ | refine skA 10 ?_
              simp only [Act.put, List.setIfInBounds_toArray, List.set_cons_zero, List.set_cons_succ]
              first | refine tkA 11 ?_ | refine skA 11 ?_
              simp only [Act.put, List.setIfInBounds_toArray, List.set_cons_zero, List.set_cons_succ]
              first | refine tkA 12 ?_ | refine skA 12 ?_
              simp only [Act.put, List.setIfInBounds_toArray, List.set_cons_zero, List.set_cons_succ]
              first | refine tkA 13 ?_ | refine skA 13 ?_
              simp only [Act.put, List.setIfInBounds_toArray, List.set_cons_zero, List.set_cons_succ]
              first | refine tkA 14 ?_ | refine skA 14 ?_
              simp only [Act.put, List.setIfInBounds_toArray, List.set_cons_zero, List.set_cons_succ]
              first | refine tkA 15 ?_ | refine skA 15 ?_
              simp only [Act.put, List.setIfInBounds_toArray, List.set_cons_zero, List.set_cons_succ]
              first | refine tkA 16 ?_ | refine skA 16 ?_
              simp only [Act.put, List.setIfInBounds_toArray, List.set_cons_zero, List.set_cons_succ]
              first | refine tkA 17 ?_ | refine skA 17 ?_
              simp only [Act.put, List.setIfInBounds_toArray, List.set_cons_zero, List.set_cons_succ]
              first | refine tkA 18 ?_ | refine skA 18 ?_
              simp only [Act.put, List.setIfInBounds_toArray, List.set_cons_zero, List.set_cons_succ]
              first | refine tkA 19 ?_ | refine skA 19 ?_
              simp only [Act.put, List.setIfInBounds_toArray, List.set_cons_zero, List.set_cons_succ]
              refine wpAnyH_done (by kernel_rfl) ?_ _
              clear hHeld
              generalize hW3 : World.drew W2 = W3
              have hb3 : Below W2.heap.size W2 W3 := by rw [← hW3]; exact (Below.refl _ _).drew
              clear hW3
              have tp := below_keep hb3 HP.out
              have TB := Lib.hid (ex_trans HB2.out hb3)
              have hi3 := HIN.out.below TB.out
              have TIN := Lib.hid hi3
              have TAP := Lib.hid HAP.out
              have TAL := Lib.hid fun b hb => (Or.inl (HALL.out b hb) : b ∈ (KPst 107 3).all (L.take (j + 1)) ∨ W1.heap.size ≤ b)
              have TMK := Lib.hid (show (dropP f.attrs[k].name f.attrs[k].val f.id) (mkP L[j]) = ⟨h.name, h.val, ids⟩ by
                rw [← HX.out]
                have h9 : isPst f.attrs[k].name f.attrs[k].val (mkP (h, ids)) = false := by simp [isPst, eqS, Vl.eqb, mkP, h1]
                unfold dropP; rw [h9]; rfl)
              clear hi3 hb3
              have tu := blk_cell? tp
              have tl := blk_lt tp
              by_cases hz : h.n = 0
              · have i5 : ¬ ((0 : Int) < ((h.n : Nat) : Int)) := by omega
                have HN := Lib.hid (show O.map mkP = (((L.take (j + 1)).map mkP).map (dropP f.attrs[k].name f.attrs[k].val f.id)).filter someIds by
                  rw [HST.out, HO.out.2.2.2, TMK.out]
                  have h9 : someIds ⟨h.name, h.val, ids⟩ = false := by
                    have h8 : (ids).length = h.n := TIN.out.len
                    simp only [someIds]; rw [h8, hz]; rfl
                  rw [h9]; simp)
                clear hz
                go_wp2_with fail
                go_roundw
                case rel => exact ⟨j + 1, q, O, A4, c4, by omega, by go_num, rfl, HO.out.1.below TB.out, HO.out.2.1, fun b hb => (HO.out.2.2.1 b hb).imp NK.all_take id, HN.out, ex_trans hbW TB.out⟩
                case measure => simp [intOf]; omega
              · have i5 : (0 : Int) < ((h.n : Nat) : Int) := by omega
                have tz := TB.out.size
                go_wp2_with (at_builtin; refine wpList_append_row rfl _ _ _ rfl encPh Try.underlying55 hi hi0 hi1 hi2 rfl rfl rfl (HO.out.1.1.below (ex_alloc TB.out _)) (src1 encPh _ (⟨h.name, h.val, h.A, h.n, h.c⟩ : Ph) _ (by simp) rfl) (by unfold maxLen; omega) (by omega) (by simp; omega) ?_; intro A8 c8 w8 hr8 hc8 hx8)
                have HREL := Lib.hid (show NRow (KPst 107 3) w8 (w.heap.size + 1) A8 (q + 1) c8 (O ++ [(⟨h.name, h.val, h.A, h.n, h.c⟩, ids)]) ∧ (∀ b ∈ rowBs A8 c8, W1.heap.size ≤ b) ∧ (∀ b ∈ (KPst 107 3).all (O ++ [(⟨h.name, h.val, h.A, h.n, h.c⟩, ids)]), b ∈ (KPst 107 3).all (L.take (j + 1)) ∨ W1.heap.size ≤ b) ∧ (O ++ [((⟨h.name, h.val, h.A, h.n, h.c⟩ : Ph), ids)]).map mkP = (((L.take (j + 1)).map mkP).map (dropP f.attrs[k].name f.attrs[k].val f.id)).filter someIds ∧ Below W1.heap.size W1 w8 from by
                  refine ⟨NRow.add2 (K := (KPst 107 3)) (x := (⟨h.name, h.val, h.A, h.n, h.c⟩, ids)) HO.out.1 (ex_alloc TB.out _) (TIN.out.below (by go_grown)) TAP.out hr8 hc8 hx8, fun b hb => ?_, fun b hb => ?_, ?_, Below.mark (ex_trans hbW (ex_alloc TB.out _)) hc8 (by have := hbW.size; simp; omega) HO.out.2.1⟩
                  · rcases hx8 b hb with h9 | h9
                    · exact HO.out.2.1 b h9
                    · have := hbW.size; simp at h9; omega
                  · obtain ⟨y, hy, hby⟩ := NK.all_mem.1 hb
                    rcases List.mem_append.1 hy with hy | hy
                    · exact (HO.out.2.2.1 b (NK.all_mem.2 ⟨y, hy, hby⟩)).imp NK.all_take id
                    · obtain rfl := List.mem_singleton.1 hy
                      exact TAL.out b hby
                  · rw [HST.out, List.map_append, HO.out.2.2.2, TMK.out]
                    have h9 : someIds ⟨h.name, h.val, ids⟩ = true := by
                      have h8 : (ids).length = h.n := TIN.out.len
                      simp only [someIds]; rw [h8]; simpa using hz
                    rw [h9]; rfl)
                clear hr8 hc8 hx8 hz
                go_wp2_with fail
                go_roundw
                case rel => exact ⟨j + 1, q + 1, _, A8, c8, by omega, by go_num, rfl, HREL.out⟩
                case measure => simp [intOf]; omega
            | true =>
              cases h2 : (h.val.int == f.attrs[k].val.int) with
              | false =>
                refine wp_region_held_drew (S := (fun w' => w'.cell? ⟨wr.heap.size, 0, none⟩ = some (.string h.name) ∧ w'.cell? ⟨wr.heap.size, 1, none⟩ = some (.int .i64 h.val.kind) ∧ w'.cell? ⟨wr.heap.size, 2, none⟩ = some (.int .i64 h.val.int) ∧ w'.cell? ⟨wr.heap.size, 3, none⟩ = some (.string h.val.str) ∧ w'.cell? ⟨w.heap.size, 4, none⟩ = some (.slice (some ⟨b, off, none⟩) f.attrs.length c2) ∧ w'.cell? ⟨b, off + k * 4, none⟩ = some (.string f.attrs[k].name) ∧ w'.cell? ⟨b, off + k * 4 + 1, none⟩ = some (.int .i64 f.attrs[k].val.kind) ∧ w'.cell? ⟨b, off + k * 4 + 2, none⟩ = some (.int .i64 f.attrs[k].val.int) ∧ w'.cell? ⟨b, off + k * 4 + 3, none⟩ = some (.string f.attrs[k].val.str))) (by kernel_rfl) (by (try dsimp only); exact ⟨p0, p1, p2, p3, e4, r0, r1, r2, r3⟩) (fun hHeld => ?_)
                first | refine tkA 0 ?_ | refine skA 0 ?_
                simp only [Act.put, List.setIfInBounds_toArray, List.set_cons_zero, List.set_cons_succ]
                first | refine tkA 1 ?_ | refine skA 1 ?_
                simp only [Act.put, List.setIfInBounds_toArray, List.set_cons_zero, List.set_cons_succ]
                first | refine tkA 2 ?_ | refine skA 2 ?_
                simp only [Act.put, List.setIfInBounds_toArray, List.set_cons_zero, List.set_cons_succ]
                first | refine tkA 3 ?_ | refine skA 3 ?_
                simp only [Act.put, List.setIfInBounds_toArray, List.set_cons_zero, List.set_cons_succ]
                first | refine tkA 4 ?_ | refine skA 4 ?_
                simp only [Act.put, List.setIfInBounds_toArray, List.set_cons_zero, List.set_cons_succ]
                first | refine tkA 5 ?_ | refine skA 5 ?_
                simp only [Act.put, List.setIfInBounds_toArray, List.set_cons_zero, List.set_cons_succ]
                first | refine tkA 6 ?_ | refine skA 6 ?_
                simp only [Act.put, List.setIfInBounds_toArray, List.set_cons_zero, List.set_cons_succ]
                first | refine tkA 7 ?_ | refine skA 7 ?_
                simp only [Act.put, List.setIfInBounds_toArray, List.set_cons_zero, List.set_cons_succ]
                first | refine tkA 8 ?_ | refine skA 8 ?_
                simp only [Act.put, List.setIfInBounds_toArray, List.set_cons_zero, List.set_cons_succ]
                first | refine tkA 9 ?_ | refine skA 9 ?_
                simp only [Act.put, List.setIfInBounds_toArray, List.set_cons_zero, List.set_cons_succ]
                first | refine tkA 10 ?_ | refine skA 10 ?_
                simp only [Act.put, List.setIfInBounds_toArray, List.set_cons_zero, List.set_cons_succ]
                first | refine tkA 11 ?_ | refine skA 11 ?_
                simp only [Act.put, List.setIfInBounds_toArray, List.set_cons_zero, List.set_cons_succ]
                first | refine tkA 12 ?_ | refine skA 12 ?_
                simp only [Act.put, List.setIfInBounds_toArray, List.set_cons_zero, List.set_cons_succ]
                first | refine tkA 13 ?_ | refine skA 13 ?_
                simp only [Act.put, List.setIfInBounds_toArray, List.set_cons_zero, List.set_cons_succ]
                first | refine tkA 14 ?_ | refine skA 14 ?_
                simp only [Act.put, List.setIfInBounds_toArray, List.set_cons_zero, List.set_cons_succ]
                first | refine tkA 15 ?_ | refine skA 15 ?_
                simp only [Act.put, List.setIfInBounds_toArray, List.set_cons_zero, List.set_cons_succ]
                first | refine tkA 16 ?_ | refine skA 16 ?_
                simp only [Act.put, List.setIfInBounds_toArray, List.set_cons_zero, List.set_cons_succ]
                first | refine tkA 17 ?_ | refine skA 17 ?_
                simp only [Act.put, List.setIfInBounds_toArray, List.set_cons_zero, List.set_cons_succ]
                first | refine tkA 18 ?_ | refine skA 18 ?_
                simp only [Act.put, List.setIfInBounds_toArray, List.set_cons_zero, List.set_cons_succ]
                first | refine tkA 19 ?_ | refine skA 19 ?_
                simp only [Act.put, List.setIfInBounds_toArray, List.set_cons_zero, List.set_cons_succ]
                refine wpAnyH_done (by kernel_rfl) ?_ _
                clear hHeld
                generalize hW3 : World.drew W2 = W3
                have hb3 : Below W2.heap.size W2 W3 := by rw [← hW3]; exact (Below.refl _ _).drew
                clear hW3
                have tp := below_keep hb3 HP.out
                have TB := Lib.hid (ex_trans HB2.out hb3)
                have hi3 := HIN.out.below TB.out
                have TIN := Lib.hid hi3
                have TAP := Lib.hid HAP.out
                have TAL := Lib.hid fun b hb => (Or.inl (HALL.out b hb) : b ∈ (KPst 107 3).all (L.take (j + 1)) ∨ W1.heap.size ≤ b)
                have TMK := Lib.hid (show (dropP f.attrs[k].name f.attrs[k].val f.id) (mkP L[j]) = ⟨h.name, h.val, ids⟩ by
                  rw [← HX.out]
                  have h9 : isPst f.attrs[k].name f.attrs[k].val (mkP (h, ids)) = false := by simp [isPst, eqS, Vl.eqb, mkP, h2]
                  unfold dropP; rw [h9]; rfl)
                clear hi3 hb3
                have tu := blk_cell? tp
                have tl := blk_lt tp
                by_cases hz : h.n = 0
                · have i5 : ¬ ((0 : Int) < ((h.n : Nat) : Int)) := by omega
                  have HN := Lib.hid (show O.map mkP = (((L.take (j + 1)).map mkP).map (dropP f.attrs[k].name f.attrs[k].val f.id)).filter someIds by
                    rw [HST.out, HO.out.2.2.2, TMK.out]
                    have h9 : someIds ⟨h.name, h.val, ids⟩ = false := by
                      have h8 : (ids).length = h.n := TIN.out.len
                      simp only [someIds]; rw [h8, hz]; rfl
                    rw [h9]; simp)
                  clear hz
                  go_wp2_with fail
                  go_roundw
                  case rel => exact ⟨j + 1, q, O, A4, c4, by omega, by go_num, rfl, HO.out.1.below TB.out, HO.out.2.1, fun b hb => (HO.out.2.2.1 b hb).imp NK.all_take id, HN.out, ex_trans hbW TB.out⟩
                  case measure => simp [intOf]; omega
                · have i5 : (0 : Int) < ((h.n : Nat) : Int) := by omega
                  have tz := TB.out.size
                  go_wp2_with (at_builtin; refine wpList_append_row rfl _ _ _ rfl encPh Try.underlying55 hi hi0 hi1 hi2 rfl rfl rfl (HO.out.1.1.below (ex_alloc TB.out _)) (src1 encPh _ (⟨h.name, h.val, h.A, h.n, h.c⟩ : Ph) _ (by simp) rfl) (by unfold maxLen; omega) (by omega) (by simp; omega) ?_; intro A8 c8 w8 hr8 hc8 hx8)
                  have HREL := Lib.hid (show NRow (KPst 107 3) w8 (w.heap.size + 1) A8 (q + 1) c8 (O ++ [(⟨h.name, h.val, h.A, h.n, h.c⟩, ids)]) ∧ (∀ b ∈ rowBs A8 c8, W1.heap.size ≤ b) ∧ (∀ b ∈ (KPst 107 3).all (O ++ [(⟨h.name, h.val, h.A, h.n, h.c⟩, ids)]), b ∈ (KPst 107 3).all (L.take (j + 1)) ∨ W1.heap.size ≤ b) ∧ (O ++ [((⟨h.name, h.val, h.A, h.n, h.c⟩ : Ph), ids)]).map mkP = (((L.take (j + 1)).map mkP).map (dropP f.attrs[k].name f.attrs[k].val f.id)).filter someIds ∧ Below W1.heap.size W1 w8 from by
                    refine ⟨NRow.add2 (K := (KPst 107 3)) (x := (⟨h.name, h.val, h.A, h.n, h.c⟩, ids)) HO.out.1 (ex_alloc TB.out _) (TIN.out.below (by go_grown)) TAP.out hr8 hc8 hx8, fun b hb => ?_, fun b hb => ?_, ?_, Below.mark (ex_trans hbW (ex_alloc TB.out _)) hc8 (by have := hbW.size; simp; omega) HO.out.2.1⟩
                    · rcases hx8 b hb with h9 | h9
                      · exact HO.out.2.1 b h9
                      · have := hbW.size; simp at h9; omega
                    · obtain ⟨y, hy, hby⟩ := NK.all_mem.1 hb
                      rcases List.mem_append.1 hy with hy | hy
                      · exact (HO.out.2.2.1 b (NK.all_mem.2 ⟨y, hy, hby⟩)).imp NK.all_take id
                      · obtain rfl := List.mem_singleton.1 hy
                        exact TAL.out b hby
                    · rw [HST.out, List.map_append, HO.out.2.2.2, TMK.out]
                      have h9 : someIds ⟨h.name, h.val, ids⟩ = true := by
                        have h8 : (ids).length = h.n := TIN.out.len
                        simp only [someIds]; rw [h8]; simpa using hz
                      rw [h9]; rfl)
                  clear hr8 hc8 hx8 hz
                  go_wp2_with fail
                  go_roundw
                  case rel => exact ⟨j + 1, q + 1, _, A8, c8, by omega, by go_num, rfl, HREL.out⟩
                  case measure => simp [intOf]; omega
              | true =>
                cases h3 : (h.val.str.toList == f.attrs[k].val.str.toList) with
                | false =>
                  refine wp_region_held_drew (S := (fun w' => w'.cell? ⟨wr.heap.size, 0, none⟩ = some (.string h.name) ∧ w'.cell? ⟨wr.heap.size, 1, none⟩ = some (.int .i64 h.val.kind) ∧ w'.cell? ⟨wr.heap.size, 2, none⟩ = some (.int .i64 h.val.int) ∧ w'.cell? ⟨wr.heap.size, 3, none⟩ = some (.string h.val.str) ∧ w'.cell? ⟨w.heap.size, 4, none⟩ = some (.slice (some ⟨b, off, none⟩) f.attrs.length c2) ∧ w'.cell? ⟨b, off + k * 4, none⟩ = some (.string f.attrs[k].name) ∧ w'.cell? ⟨b, off + k * 4 + 1, none⟩ = some (.int .i64 f.attrs[k].val.kind) ∧ w'.cell? ⟨b, off + k * 4 + 2, none⟩ = some (.int .i64 f.attrs[k].val.int) ∧ w'.cell? ⟨b, off + k * 4 + 3, none⟩ = some (.string f.attrs[k].val.str))) (by kernel_rfl) (by (try dsimp only); exact ⟨p0, p1, p2, p3, e4, r0, r1, r2, r3⟩) (fun hHeld => ?_)
                  first | refine tkA 0 ?_ | refine skA 0 ?_
                  simp only [Act.put, List.setIfInBounds_toArray, List.set_cons_zero, List.set_cons_succ]
                  first | refine tkA 1 ?_ | refine skA 1 ?_
                  simp only [Act.put, List.setIfInBounds_toArray, List.set_cons_zero, List.set_cons_succ]
                  first | refine tkA 2 ?_ | refine skA 2 ?_
                  simp only [Act.put, List.setIfInBounds_toArray, List.set_cons_zero, List.set_cons_succ]
                  first | refine tkA 3 ?_ | refine skA 3 ?_
                  simp only [Act.put, List.setIfInBounds_toArray, List.set_cons_zero, List.set_cons_succ]
                  first | refine tkA 4 ?_ | refine skA 4 ?_
                  simp only [Act.put, List.setIfInBounds_toArray, List.set_cons_zero, List.set_cons_succ]
                  first | refine tkA 5 ?_ | refine skA 5 ?_
                  simp only [Act.put, List.setIfInBounds_toArray, List.set_cons_zero, List.set_cons_succ]
                  first | refine tkA 6 ?_ | refine skA 6 ?_
                  simp only [Act.put, List.setIfInBounds_toArray, List.set_cons_zero, List.set_cons_succ]
                  first | refine tkA 7 ?_ | refine skA 7 ?_
                  simp only [Act.put, List.setIfInBounds_toArray, List.set_cons_zero, List.set_cons_succ]
                  first | refine tkA 8 ?_ | refine skA 8 ?_
                  simp only [Act.put, List.setIfInBounds_toArray, List.set_cons_zero, List.set_cons_succ]
                  first | refine tkA 9 ?_ | refine skA 9 ?_
                  simp only [Act.put, List.setIfInBounds_toArray, List.set_cons_zero, List.set_cons_succ]
                  first | refine tkA 10 ?_ | refine skA 10 ?_
                  simp only [Act.put, List.setIfInBounds_toArray, List.set_cons_zero, List.set_cons_succ]
                  first | refine tkA 11 ?_ | refine skA 11 ?_
                  simp only [Act.put, List.setIfInBounds_toArray, List.set_cons_zero, List.set_cons_succ]
                  first | refine tkA 12 ?_ | refine skA 12 ?_
                  simp only [Act.put, List.setIfInBounds_toArray, List.set_cons_zero, List.set_cons_succ]
                  first | refine tkA 13 ?_ | refine skA 13 ?_
                  simp only [Act.put, List.setIfInBounds_toArray, List.set_cons_zero, List.set_cons_succ]
                  first | refine tkA 14 ?_ | refine skA 14 ?_
                  simp only [Act.put, List.setIfInBounds_toArray, List.set_cons_zero, List.set_cons_succ]
                  first | refine tkA 15 ?_ | refine skA 15 ?_
                  simp only [Act.put, List.setIfInBounds_toArray, List.set_cons_zero, List.set_cons_succ]
                  first | refine tkA 16 ?_ | refine skA 16 ?_
                  simp only [Act.put, List.setIfInBounds_toArray, List.set_cons_zero, List.set_cons_succ]
                  first | refine tkA 17 ?_ | refine skA 17 ?_
                  simp only [Act.put, List.setIfInBounds_toArray, List.set_cons_zero, List.set_cons_succ]
                  first | refine tkA 18 ?_ | refine skA 18 ?_
                  simp only [Act.put, List.setIfInBounds_toArray, List.set_cons_zero, List.set_cons_succ]
                  first | refine tkA 19 ?_ | refine skA 19 ?_
                  simp only [Act.put, List.setIfInBounds_toArray, List.set_cons_zero, List.set_cons_succ]
                  refine wpAnyH_done (by kernel_rfl) ?_ _
                  clear hHeld
                  generalize hW3 : World.drew W2 = W3
                  have hb3 : Below W2.heap.size W2 W3 := by rw [← hW3]; exact (Below.refl _ _).drew
                  clear hW3
                  have tp := below_keep hb3 HP.out
                  have TB := Lib.hid (ex_trans HB2.out hb3)
                  have hi3 := HIN.out.below TB.out
                  have TIN := Lib.hid hi3
                  have TAP := Lib.hid HAP.out
                  have TAL := Lib.hid fun b hb => (Or.inl (HALL.out b hb) : b ∈ (KPst 107 3).all (L.take (j + 1)) ∨ W1.heap.size ≤ b)
                  have TMK := Lib.hid (show (dropP f.attrs[k].name f.attrs[k].val f.id) (mkP L[j]) = ⟨h.name, h.val, ids⟩ by
                    rw [← HX.out]
                    have h9 : isPst f.attrs[k].name f.attrs[k].val (mkP (h, ids)) = false := by simp [isPst, eqS, Vl.eqb, mkP, h3]
                    unfold dropP; rw [h9]; rfl)
                  clear hi3 hb3
                  have tu := blk_cell? tp
                  have tl := blk_lt tp
                  by_cases hz : h.n = 0
                  · have i5 : ¬ ((0 : Int) < ((h.n : Nat) : Int)) := by omega
                    have HN := Lib.hid (show O.map mkP = (((L.take (j + 1)).map mkP).map (dropP f.attrs[k].name f.attrs[k].val f.id)).filter someIds by
                      rw [HST.out, HO.out.2.2.2, TMK.out]
                      have h9 : someIds ⟨h.name, h.val, ids⟩ = false := by
                        have h8 : (ids).length = h.n := TIN.out.len
                        simp only [someIds]; rw [h8, hz]; rfl
                      rw [h9]; simp)
                    clear hz
                    go_wp2_with fail
                    go_roundw
                    case rel => exact ⟨j + 1, q, O, A4, c4, by omega, by go_num, rfl, HO.out.1.below TB.out, HO.out.2.1, fun b hb => (HO.out.2.2.1 b hb).imp NK.all_take id, HN.out, ex_trans hbW TB.out⟩
                    case measure => simp [intOf]; omega
                  · have i5 : (0 : Int) < ((h.n : Nat) : Int) := by omega
                    have tz := TB.out.size
                    go_wp2_with (at_builtin; refine wpList_append_row rfl _ _ _ rfl encPh Try.underlying55 hi hi0 hi1 hi2 rfl rfl rfl (HO.out.1.1.below (ex_alloc TB.out _)) (src1 encPh _ (⟨h.name, h.val, h.A, h.n, h.c⟩ : Ph) _ (by simp) rfl) (by unfold maxLen; omega) (by omega) (by simp; omega) ?_; intro A8 c8 w8 hr8 hc8 hx8)
                    have HREL := Lib.hid (show NRow (KPst 107 3) w8 (w.heap.size + 1) A8 (q + 1) c8 (O ++ [(⟨h.name, h.val, h.A, h.n, h.c⟩, ids)]) ∧ (∀ b ∈ rowBs A8 c8, W1.heap.size ≤ b) ∧ (∀ b ∈ (KPst 107 3).all (O ++ [(⟨h.name, h.val, h.A, h.n, h.c⟩, ids)]), b ∈ (KPst 107 3).all (L.take (j + 1)) ∨ W1.heap.size ≤ b) ∧ (O ++ [((⟨h.name, h.val, h.A, h.n, h.c⟩ : Ph), ids)]).map mkP = (((L.take (j + 1)).map mkP).map (dropP f.attrs[k].name f.attrs[k].val f.id)).filter someIds ∧ Below W1.heap.size W1 w8 from by
                      refine ⟨NRow.add2 (K := (KPst 107 3)) (x := (⟨h.name, h.val, h.A, h.n, h.c⟩, ids)) HO.out.1 (ex_alloc TB.out _) (TIN.out.below (by go_grown)) TAP.out hr8 hc8 hx8, fun b hb => ?_, fun b hb => ?_, ?_, Below.mark (ex_trans hbW (ex_alloc TB.out _)) hc8 (by have := hbW.size; simp; omega) HO.out.2.1⟩
                      · rcases hx8 b hb with h9 | h9
                        · exact HO.out.2.1 b h9
                        · have := hbW.size; simp at h9; omega
                      · obtain ⟨y, hy, hby⟩ := NK.all_mem.1 hb
                        rcases List.mem_append.1 hy with hy | hy
                        · exact (HO.out.2.2.1 b (NK.all_mem.2 ⟨y, hy, hby⟩)).imp NK.all_take id
                        · obtain rfl := List.mem_singleton.1 hy
                          exact TAL.out b hby
                      · rw [HST.out, List.map_append, HO.out.2.2.2, TMK.out]
                        have h9 : someIds ⟨h.name, h.val, ids⟩ = true := by
                          have h8 : (ids).length = h.n := TIN.out.len
                          simp only [someIds]; rw [h8]; simpa using hz
                        rw [h9]; rfl)
                    clear hr8 hc8 hx8 hz
                    go_wp2_with fail
                    go_roundw
                    case rel => exact ⟨j + 1, q + 1, _, A8, c8, by omega, by go_num, rfl, HREL.out⟩
                    case measure => simp [intOf]; omega
                | true =>
                  refine wp_region_held_drew (S := (fun w' => w'.cell? ⟨wr.heap.size, 0, none⟩ = some (.string h.name) ∧ w'.cell? ⟨wr.heap.size, 1, none⟩ = some (.int .i64 h.val.kind) ∧ w'.cell? ⟨wr.heap.size, 2, none⟩ = some (.int .i64 h.val.int) ∧ w'.cell? ⟨wr.heap.size, 3, none⟩ = some (.string h.val.str) ∧ w'.cell? ⟨w.heap.size, 4, none⟩ = some (.slice (some ⟨b, off, none⟩) f.attrs.length c2) ∧ w'.cell? ⟨b, off + k * 4, none⟩ = some (.string f.attrs[k].name) ∧ w'.cell? ⟨b, off + k * 4 + 1, none⟩ = some (.int .i64 f.attrs[k].val.kind) ∧ w'.cell? ⟨b, off + k * 4 + 2, none⟩ = some (.int .i64 f.attrs[k].val.int) ∧ w'.cell? ⟨b, off + k * 4 + 3, none⟩ = some (.string f.attrs[k].val.str))) (by kernel_rfl) (by (try dsimp only); exact ⟨p0, p1, p2, p3, e4, r0, r1, r2, r3⟩) (fun hHeld => ?_)
                  first | refine tkA 0 ?_ | refine skA 0 ?_
                  simp only [Act.put, List.setIfInBounds_toArray, List.set_cons_zero, List.set_cons_succ]
                  first | refine tkA 1 ?_ | refine skA 1 ?_
                  simp only [Act.put, List.setIfInBounds_toArray, List.set_cons_zero, List.set_cons_succ]
                  first | refine tkA 2 ?_ | refine skA 2 ?_
                  simp only [Act.put, List.setIfInBounds_toArray, List.set_cons_zero, List.set_cons_succ]
                  first | refine tkA 3 ?_ | refine skA 3 ?_
                  simp only [Act.put, List.setIfInBounds_toArray, List.set_cons_zero, List.set_cons_succ]
                  first | refine tkA 4 ?_ | refine skA 4 ?_
                  simp only [Act.put, List.setIfInBounds_toArray, List.set_cons_zero, List.set_cons_succ]
                  first | refine tkA 5 ?_ | refine skA 5 ?_
                  simp only [Act.put, List.setIfInBounds_toArray, List.set_cons_zero, List.set_cons_succ]
                  first | refine tkA 6 ?_ | refine skA 6 ?_
                  simp only [Act.put, List.setIfInBounds_toArray, List.set_cons_zero, List.set_cons_succ]
                  first | refine tkA 7 ?_ | refine skA 7 ?_
                  simp only [Act.put, List.setIfInBounds_toArray, List.set_cons_zero, List.set_cons_succ]
                  first | refine tkA 8 ?_ | refine skA 8 ?_
                  simp only [Act.put, List.setIfInBounds_toArray, List.set_cons_zero, List.set_cons_succ]
                  first | refine tkA 9 ?_ | refine skA 9 ?_
                  simp only [Act.put, List.setIfInBounds_toArray, List.set_cons_zero, List.set_cons_succ]
                  first | refine tkA 10 ?_ | refine skA 10 ?_
                  simp only [Act.put, List.setIfInBounds_toArray, List.set_cons_zero, List.set_cons_succ]
                  first | refine tkA 11 ?_ | refine skA 11 ?_
                  simp only [Act.put, List.setIfInBounds_toArray, List.set_cons_zero, List.set_cons_succ]
                  first | refine tkA 12 ?_ | refine skA 12 ?_
                  simp only [Act.put, List.setIfInBounds_toArray, List.set_cons_zero, List.set_cons_succ]
                  first | refine tkA 13 ?_ | refine skA 13 ?_
                  simp only [Act.put, List.setIfInBounds_toArray, List.set_cons_zero, List.set_cons_succ]
                  first | refine tkA 14 ?_ | refine skA 14 ?_
                  simp only [Act.put, List.setIfInBounds_toArray, List.set_cons_zero, List.set_cons_succ]
                  first | refine tkA 15 ?_ | refine skA 15 ?_
                  simp only [Act.put, List.setIfInBounds_toArray, List.set_cons_zero, List.set_cons_succ]
                  first | refine tkA 16 ?_ | refine skA 16 ?_
                  simp only [Act.put, List.setIfInBounds_toArray, List.set_cons_zero, List.set_cons_succ]
                  first | refine tkA 17 ?_ | refine skA 17 ?_
                  simp only [Act.put, List.setIfInBounds_toArray, List.set_cons_zero, List.set_cons_succ]
                  first | refine tkA 18 ?_ | refine skA 18 ?_
                  simp only [Act.put, List.setIfInBounds_toArray, List.set_cons_zero, List.set_cons_succ]
                  first | refine tkA 19 ?_ | refine skA 19 ?_
                  simp only [Act.put, List.setIfInBounds_toArray, List.set_cons_zero, List.set_cons_succ]
                  refine wpAnyH_done (by kernel_rfl) ?_ _
                  clear hHeld
                  generalize hW3 : World.drew W2 = W3
                  have hb3 : Below W2.heap.size W2 W3 := by rw [← hW3]; exact (Below.refl _ _).drew
                  clear hW3
                  have tp := below_keep hb3 HP.out
                  have TB := Lib.hid (ex_trans HB2.out hb3)
                  have hi3 := HIN.out.below TB.out
                  have TMK := Lib.hid (show (dropP f.attrs[k].name f.attrs[k].val f.id) (mkP L[j]) = ⟨h.name, h.val, dropId f.id ids⟩ by
                    rw [← HX.out]
                    have h9 : isPst f.attrs[k].name f.attrs[k].val (mkP (h, ids)) = true := by simp [isPst, eqS, Vl.eqb, mkP, h0, h1, h2, h3]
                    unfold dropP; rw [h9]; rfl)
                  have kf3 := below_keep (ex_trans hbW TB.out) (HBF.out _ (List.Mem.head _))
                  have uf := blk_cell? kf3
                  have tu := blk_cell? tp
                  have tl := blk_lt tp
                  have TP := Lib.hid tp
                  have HI3 := Lib.hid hi3
                  clear tp hi3 kf3
                  go_wp2_with fail
                  refine (spec_l07DropId h.A h.n h.c ids f.id _ (HI3.out.sl encInt (fun _ => rfl)) hHn).mono ?_; rintro e w4 ⟨A5, c5, rfl, hr5, hb5⟩
                  have tp4 := below_keep hb5 TP.out
                  clear tu uf
                  have tu := blk_cell? tp4
                  have tf := blk_free tp4
                  have tl4 := blk_lt tp4
                  have TP4 := Lib.hid tp4
                  have HR5 := Lib.hid (And.intro hr5 hb5)
                  clear tp4 hr5 hb5
                  go_upto_region 12 with fail
                  generalize hWT : World.setCell w4 _ _ = WT
                  have hcT : Chg [wr.heap.size] w4 WT := by rw [← hWT]; exact (Chg.refl _ _).set (by simp) _
                  have tp : WT.heap[wr.heap.size]? = some (.cells #[.string h.name, .int .i64 h.val.kind, .int .i64 h.val.int, .string h.val.str, .slice A5 (dropId f.id ids).length c5] 107 (0, 0)) := by rw [← hWT]; exact blk_set TP4.out 4 _
                  clear hWT tu tf tl tl4
                  have TB2 := Lib.hid (Below.mark (ex_trans TB.out HR5.out.2) hcT (ex_trans TB.out HR5.out.2).size (by simp))
                  have TIN := Lib.hid ((HR5.out.1.chg hcT (fun b hb hm => by have h9 := (HR5.out.1.base b hb).1; have h8 := HB2.out.size; have h7 := hb3.size; simp only [List.mem_singleton] at hm; omega)).re (B' := w.heap.size + 1) (fun b hb => by have h9 := (HR5.out.1.base b hb).1; have h8 := hb3.size; omega))
                  have hnw : ∀ b ∈ rowBs A5 c5, wr.heap.size ≤ b := fun b hb => by have h9 := (HR5.out.1.base b hb).1; have h8 := hb3.size; omega
                  have TAP := Lib.hid (show ∀ b ∈ rowBs A5 c5, b ∉ rowBs A4 c4 ++ (KPst 107 3).all O from fun b hb hm => by have h9 := (HO.out.1.base b hm).2; have h8 := hnw b hb; omega)
                  have TAL := Lib.hid fun b hb => (Or.inr (Nat.le_trans hbW.size (hnw b hb)) : b ∈ (KPst 107 3).all (L.take (j + 1)) ∨ W1.heap.size ≤ b)
                  clear TB hnw hb3 hcT HI3 HR5
                  have TB := TB2
                  have tu := blk_cell? tp
                  have tl := blk_lt tp
                  by_cases hz : (dropId f.id ids).length = 0
                  · have i5 : ¬ ((0 : Int) < (((dropId f.id ids).length : Nat) : Int)) := by omega
                    have HN := Lib.hid (show O.map mkP = (((L.take (j + 1)).map mkP).map (dropP f.attrs[k].name f.attrs[k].val f.id)).filter someIds by
                      rw [HST.out, HO.out.2.2.2, TMK.out]
                      have h9 : someIds ⟨h.name, h.val, dropId f.id ids⟩ = false := by
                        have h8 : (dropId f.id ids).length = (dropId f.id ids).length := TIN.out.len
                        simp only [someIds]; rw [h8, hz]; rfl
                      rw [h9]; simp)
                    clear hz
                    go_wp2_with fail
                    go_roundw
                    case rel => exact ⟨j + 1, q, O, A4, c4, by omega, by go_num, rfl, HO.out.1.below TB.out, HO.out.2.1, fun b hb => (HO.out.2.2.1 b hb).imp NK.all_take id, HN.out, ex_trans hbW TB.out⟩
                    case measure => simp [intOf]; omega
                  · have i5 : (0 : Int) < (((dropId f.id ids).length : Nat) : Int) := by omega
                    have tz := TB.out.size
                    go_wp2_with (at_builtin; refine wpList_append_row rfl _ _ _ rfl encPh Try.underlying55 hi hi0 hi1 hi2 rfl rfl rfl (HO.out.1.1.below (ex_alloc TB.out _)) (src1 encPh _ (⟨h.name, h.val, A5, (dropId f.id ids).length, c5⟩ : Ph) _ (by simp) rfl) (by unfold maxLen; omega) (by omega) (by simp; omega) ?_; intro A8 c8 w8 hr8 hc8 hx8)
                    have HREL := Lib.hid (show NRow (KPst 107 3) w8 (w.heap.size + 1) A8 (q + 1) c8 (O ++ [(⟨h.name, h.val, A5, (dropId f.id ids).length, c5⟩, dropId f.id ids)]) ∧ (∀ b ∈ rowBs A8 c8, W1.heap.size ≤ b) ∧ (∀ b ∈ (KPst 107 3).all (O ++ [(⟨h.name, h.val, A5, (dropId f.id ids).length, c5⟩, dropId f.id ids)]), b ∈ (KPst 107 3).all (L.take (j + 1)) ∨ W1.heap.size ≤ b) ∧ (O ++ [((⟨h.name, h.val, A5, (dropId f.id ids).length, c5⟩ : Ph), dropId f.id ids)]).map mkP = (((L.take (j + 1)).map mkP).map (dropP f.attrs[k].name f.attrs[k].val f.id)).filter someIds ∧ Below W1.heap.size W1 w8 from by
                      refine ⟨NRow.add2 (K := (KPst 107 3)) (x := (⟨h.name, h.val, A5, (dropId f.id ids).length, c5⟩, dropId f.id ids)) HO.out.1 (ex_alloc TB.out _) (TIN.out.below (by go_grown)) TAP.out hr8 hc8 hx8, fun b hb => ?_, fun b hb => ?_, ?_, Below.mark (ex_trans hbW (ex_alloc TB.out _)) hc8 (by have := hbW.size; simp; omega) HO.out.2.1⟩
                      · rcases hx8 b hb with h9 | h9
                        · exact HO.out.2.1 b h9
                        · have := hbW.size; simp at h9; omega
                      · obtain ⟨y, hy, hby⟩ := NK.all_mem.1 hb
                        rcases List.mem_append.1 hy with hy | hy
                        · exact (HO.out.2.2.1 b (NK.all_mem.2 ⟨y, hy, hby⟩)).imp NK.all_take id
                        · obtain rfl := List.mem_singleton.1 hy
                          exact TAL.out b hby
                      · rw [HST.out, List.map_append, HO.out.2.2.2, TMK.out]
                        have h9 : someIds ⟨h.name, h.val, dropId f.id ids⟩ = true := by
                          have h8 : (dropId f.id ids).length = (dropId f.id ids).length := TIN.out.len
                          simp only [someIds]; rw [h8]; simpa using hz
                        rw [h9]; rfl)
                    clear hr8 hc8 hx8 hz
                    go_wp2_with fail
                    go_roundw
                    case rel => exact ⟨j + 1, q + 1, _, A8, c8, by omega, by go_num, rfl, HREL.out⟩
                    case measure => simp [intOf]; omega
        · obtain rfl : L.length = j := by omega
          have e9 := HO.out.2.2.2
          rw [List.take_of_length_le (Nat.le_refl _), HMS.out] at e9
          have HE := Lib.hid e9
          have HB9 := Lib.hid (HBF.out.below hbW)
          clear e9
          go_wp2_with fail
          go_roundw
          case rel => exact ⟨k + 1, q, A4, c4, by omega, by go_num, rfl, HB9.out, ⟨O, HO.out.1, HE.out⟩, hBW⟩
          case measure => simp [intOf]; omega
    · obtain rfl : f.attrs.length = k := by omega
      rw [List.take_of_length_le (Nat.le_refl _)] at hrow
      have hrow' : PRows 107 3 wr (w.heap.size + 1) A1 n1 c1 (remX l f) := hrow
      have HR := Lib.hid (And.intro hrow' hrow'.len)
      clear hrow hrow' hids
      go_wp2_with fail
      go_returns
      obtain ⟨⟨L9, h8, h9⟩, h7⟩ := HR.out
      exact ⟨A1, c1, by rw [h7]; rfl, ⟨L9, by rw [h7]; exact h8.re (fun b hb => by have := (h8.base b hb).1; omega), h9⟩, hb⟩
end Go.Proofs.Ytjobgnioehkomaa
namespace Go.Proofs.Ytjobgnioehkomaa
open Go.RowKit
set_option linter.unusedVariables false
set_option maxRecDepth 100000
theorem sum_mem {l : List Nat} {x : Nat} (h : x ∈ l) : x ≤ l.sum := by
  induction l with
  | nil => cases h
  | cons y l ih =>
    rw [List.sum_cons]
    rcases List.mem_cons.1 h with rfl | h
    · omega
    · have := ih h; omega
theorem wide_of {M : Nat} {l : List Pst} (h1 : l.length ≤ M) (h3 : (l.map (·.cnt)).sum ≤ M) : Wide M l :=
  ⟨h1, fun p hp => Nat.le_trans (sum_mem (List.mem_map_of_mem (f := Pst.cnt) hp)) h3, h3⟩
theorem sum_upto (fs : List Fil) {k : Nat} (hk : k < fs.length) : ((fs.take k).map (·.attrs.length)).sum + fs[k].attrs.length ≤ (fs.map (·.attrs.length)).sum := by
  have e : fs.map (·.attrs.length) = (fs.take k).map (·.attrs.length) ++ (fs[k].attrs.length :: (fs.drop (k + 1)).map (·.attrs.length)) := by
    rw [← List.map_cons (f := fun f : Fil => f.attrs.length), ← List.map_append]
    congr 1
    simp
  rw [e, List.sum_append, List.sum_cons]
  omega
theorem wide_upto (fs : List Fil) (k : Nat) : Wide ((fs.take k).map (·.attrs.length)).sum ((fs.take k).foldl addX []) := by
  have := foldX_wide (fs.take k) 0 [] ⟨Nat.le_refl _, fun p hp => absurd hp (by simp), Nat.le_refl _⟩
  rw [Nat.zero_add] at this
  exact this
theorem bld_succ (fs : List Fil) {k : Nat} (hk : k < fs.length) : (fs.take (k + 1)).foldl addX [] = addX ((fs.take k).foldl addX []) fs[k] := by
  rw [List.take_succ_eq_append_getElem hk, List.foldl_append]; rfl
set_option maxHeartbeats 3200000 in
theorem impl_BuildIndex (s : Sto) (A : Option Addr) (n c : Nat) (B : Option Addr) (m d : Nat) (w : World) (hT : Sl 5 RFil w B m s.files) (hsum : (s.files.map (·.attrs.length)).sum ≤ 1073741822) (hm : m ≤ 1073741824) :
    Calls Try.prog 45 #[s.v A n c B m d] w (NewPsts 107 3 w (bldX s)) := by
  obtain rfl : s.files.length = m := hT.len
  have HADD := Lib.hid fun (k : Nat) (hk : k < s.files.length) (A1 : Option Addr) (c1 : Nat) (A2 : Option Addr) (c2 : Nat) (w' : World) (h1 : Sl 5 RPst w' A1 ((s.files.take k).foldl addX []).length ((s.files.take k).foldl addX [])) (h2 : Sl 4 RAtr w' A2 s.files[k].attrs.length s.files[k].attrs) =>
    impl_AddToIndex ((s.files.take k).map (·.attrs.length)).sum A1 _ c1 _ s.files[k] A2 _ c2 w' h1 h2 (wide_upto _ _) (Nat.le_trans (sum_upto s.files hk) hsum)
  clear hsum
  go_enter Try.func45, Try.ntmps45
  go_wp2_with fail
  go_loopw [3, 10] (fun v i wr => ∃ (k : Nat) (A1 : Option Addr) (c1 : Nat), k ≤ s.files.length ∧ i = .int .i64 k ∧ v = .slice A1 ((s.files.take k).foldl addX []).length c1 ∧ PRows 107 3 wr w.heap.size A1 ((s.files.take k).foldl addX []).length c1 ((s.files.take k).foldl addX []) ∧ Below w.heap.size w wr) (fun _ i _ => s.files.length - (intOf i).toNat)
  case atStart => exact ⟨0, _, 0, Nat.zero_le _, rfl, rfl, PRows.any0 _ _ _ _ _, by go_grown⟩
  case round =>
    obtain ⟨k, A1, c1, hk2, rfl, rfl, hrow, hb⟩ := hrel
    by_cases hlt : k < s.files.length
    · obtain ⟨b, off, rfl, bw, bc⟩ := hT.fil (by omega)
      obtain ⟨qA, qn, qc, q0, q1, q2, q3, q4, qS⟩ := bc k (by omega)
      rw [← hb.cell (p := ⟨b, _, none⟩) bw] at q0 q1 q2 q3 q4
      obtain rfl : s.files[k].attrs.length = qn := qS.len
      have QS := Lib.hid (qS.mono mAtr hb)
      have i0 : (0 : Int) ≤ (k : Int) := by omega
      have i1 : (k : Int) < (s.files.length : Int) := by omega
      have HR := Lib.hid hrow
      have HE := Lib.hid (bld_succ s.files hlt)
      clear bc hrow qS
      go_wp2_with fail
      refine (HADD.out k hlt A1 c1 qA qc _ ((HR.out.below (by go_grown)).sl) (QS.out.mono mAtr (by go_grown))).mono ?_; rintro e w2 ⟨A2, c2, rfl, hr2, hb2⟩
      have hbx := ex_trans (w := wr) (by go_grown) hb2
      have HX := Lib.hid (And.intro (hr2.lower (show w.heap.size ≤ _ by have := hb.size; simp; omega)) (ex_trans hb hbx))
      rw [← HE.out] at HX
      clear hr2 hb2 q0 q1 q2 q3 q4
      go_wp2_with fail
      go_roundw
      case rel => exact ⟨k + 1, A2, c2, by omega, by go_num, by rw [HE.out], HX.out⟩
      case measure => simp [intOf]; omega
    · obtain rfl : s.files.length = k := by omega
      rw [List.take_of_length_le (by omega)] at hrow
      have HR := Lib.hid hrow
      clear hrow
      go_wp2_with fail
      go_returns
      have h9 := HR.out
      exact ⟨A1, c1, by unfold bldX; rw [List.take_of_length_le (Nat.le_refl _)]; rfl, h9, hb⟩
set_option maxHeartbeats 3200000 in
theorem spec_BuildIndex (s : Sto) (A : Option Addr) (n c : Nat) (B : Option Addr) (m d : Nat) (w : World) (hT : Sl 5 RFil w B m s.files) (hsum : (s.files.map (·.attrs.length)).sum ≤ 1073741822) (hm : m ≤ 1073741824) :
    Calls Try.prog 46 #[s.v A n c B m d] w (NewPsts 107 3 w (bldX s)) := by
  obtain rfl : s.files.length = m := hT.len
  have HADD := Lib.hid fun (k : Nat) (hk : k < s.files.length) (A1 : Option Addr) (c1 : Nat) (A2 : Option Addr) (c2 : Nat) (w' : World) (h1 : Sl 5 RPst w' A1 ((s.files.take k).foldl addX []).length ((s.files.take k).foldl addX [])) (h2 : Sl 4 RAtr w' A2 s.files[k].attrs.length s.files[k].attrs) =>
    spec_AddToIndex ((s.files.take k).map (·.attrs.length)).sum A1 _ c1 _ s.files[k] A2 _ c2 w' h1 h2 (wide_upto _ _) (Nat.le_trans (sum_upto s.files hk) hsum)
  clear hsum
  go_enter Try.func46, Try.ntmps46
  go_wp2_with fail
  go_loopw [3, 4] (fun v i wr => ∃ (k : Nat) (A1 : Option Addr) (c1 : Nat), k ≤ s.files.length ∧ i = .int .i64 k ∧ v = .slice A1 ((s.files.take k).foldl addX []).length c1 ∧ HasB wr [(w.heap.size, #[.slice A n c, .slice B s.files.length d, .int .i64 s.next], 40)] ∧ PRows 107 3 wr (w.heap.size + 1) A1 ((s.files.take k).foldl addX []).length c1 ((s.files.take k).foldl addX []) ∧ Below w.heap.size w wr) (fun _ i _ => s.files.length - (intOf i).toNat)
  case atStart => exact ⟨0, _, 0, Nat.zero_le _, rfl, rfl, fun x hx => by simp only [List.mem_singleton] at hx; subst hx; exact (hp_old (by simp)).trans (hp_new rfl), PRows.any0 _ _ _ _ _, by go_grown⟩
  case round =>
    obtain ⟨k, A1, c1, hk2, rfl, rfl, hbs, hrow, hb⟩ := hrel
    have us := blk_cell? (hbs _ (List.Mem.head _))
    have ls := blk_lt (hbs _ (List.Mem.head _))
    simp only at ls
    have HBS := Lib.hid hbs
    clear hbs
    by_cases hlt : k < s.files.length
    · obtain ⟨b, off, rfl, bw, bc⟩ := hT.fil (by omega)
      obtain ⟨qA, qn, qc, q0, q1, q2, q3, q4, qS⟩ := bc k (by omega)
      rw [← hb.cell (p := ⟨b, _, none⟩) bw] at q0 q1 q2 q3 q4
      obtain rfl : s.files[k].attrs.length = qn := qS.len
      have QS := Lib.hid (qS.mono mAtr hb)
      have i0 : (0 : Int) ≤ (k : Int) := by omega
      have i1 : (k : Int) < (s.files.length : Int) := by omega
      have HR := Lib.hid hrow
      have HE := Lib.hid (bld_succ s.files hlt)
      clear bc hrow qS
      go_wp2_with fail
      refine (HADD.out k hlt A1 c1 qA qc _ ((HR.out.below (by go_grown)).sl) (QS.out.mono mAtr (by go_grown))).mono ?_; rintro e w2 ⟨A2, c2, rfl, hr2, hb2⟩
      have hbx := ex_trans (w := wr) (by go_grown) hb2
      have HX := Lib.hid (And.intro (HBS.out.below hbx) (And.intro (hr2.lower (show w.heap.size + 1 ≤ _ by first | omega | (simp; omega))) (ex_trans hb hbx)))
      rw [← HE.out] at HX
      clear hr2 hb2 q0 q1 q2 q3 q4 us
      go_wp2_with fail
      go_roundw
      case rel => exact ⟨k + 1, A2, c2, by omega, by go_num, by rw [HE.out], HX.out⟩
      case measure => simp [intOf]; omega
    · obtain rfl : s.files.length = k := by omega
      rw [List.take_of_length_le (by omega)] at hrow
      have HR := Lib.hid hrow
      clear hrow
      go_wp2_with fail
      go_returns
      obtain ⟨L9, h8, h9⟩ := HR.out
      exact ⟨A1, c1, rfl, ⟨L9, h8.re (fun b hb => by have := (h8.base b hb).1; omega), h9⟩, hb⟩
end Go.Proofs.Ytjobgnioehkomaa
namespace Go.Proofs.Ytjobgnioehkomaa
open Go.RowKit
set_option linter.unusedVariables false
theorem sorted_ext {α : Type} {r : α → α → Prop} (irr : ∀ a, ¬ r a a) (asy : ∀ a b, r a b → ¬ r b a) : ∀ (l m : List α), l.Pairwise r → m.Pairwise r → (∀ x, x ∈ l ↔ x ∈ m) → l = m
  | [], [], _, _, _ => rfl
  | [], b :: m, _, _, h => absurd ((h b).2 (by simp)) (by simp)
  | a :: l, [], _, _, h => absurd ((h a).1 (by simp)) (by simp)
  | a :: l, b :: m, h1, h2, h => by
    rw [List.pairwise_cons] at h1 h2
    have e : a = b := by
      rcases List.mem_cons.1 ((h a).1 (by simp)) with e | ha
      · exact e
      · rcases List.mem_cons.1 ((h b).2 (by simp)) with e | hb
        · exact e.symm
        · exact absurd (h1.1 b hb) (asy _ _ (h2.1 a ha))
    subst e
    rw [sorted_ext irr asy l m h1.2 h2.2 fun x => ⟨fun hx => by
      rcases List.mem_cons.1 ((h x).1 (List.mem_cons_of_mem _ hx)) with e | hm
      · subst e; exact absurd (h1.1 x hx) (irr _)
      · exact hm, fun hx => by
      rcases List.mem_cons.1 ((h x).2 (List.mem_cons_of_mem _ hx)) with e | hm
      · subst e; exact absurd (h2.1 x hx) (irr _)
      · exact hm⟩]
/-- the order of the postings -/
def ltK (a b : ByteArray × Vl) : Prop := Op.bytesLess a.1.toList b.1.toList = true ∨ (a.1 = b.1 ∧ 0 < cmpV b.2 a.2)
def keyP (p : Pst) : ByteArray × Vl := (p.name, p.val)
theorem ltK_irr (a : ByteArray × Vl) : ¬ ltK a a := by
  rintro (h | ⟨_, h⟩)
  · rw [bless_irrefl] at h; cases h
  · have := (cmpV_ok.zero a.2 a.2).2 rfl; omega
theorem ltK_trans {a b c : ByteArray × Vl} (h1 : ltK a b) (h2 : ltK b c) : ltK a c := by
  rcases h1 with h1 | ⟨e1, h1⟩
  · rcases h2 with h2 | ⟨e2, h2⟩
    · exact .inl (@bless_trans _ _ _ h1 h2)
    · exact .inl (e2 ▸ h1)
  · rcases h2 with h2 | ⟨e2, h2⟩
    · exact .inl (e1 ▸ h2)
    · exact .inr ⟨e1.trans e2, by
      have a1 := cmpV_ok.anti a.2 b.2
      have a2 := cmpV_ok.anti b.2 c.2
      have a3 := cmpV_ok.anti a.2 c.2
      have := cmpV_ok.lt_le (a := a.2) (b := b.2) (c := c.2) (by omega) (by omega)
      omega⟩
theorem ltK_asy (a b : ByteArray × Vl) (h : ltK a b) : ¬ ltK b a := fun h2 => ltK_irr a (ltK_trans h h2)
theorem ltK_tot (a b : ByteArray × Vl) (h : a ≠ b) : ltK a b ∨ ltK b a := by
  obtain ⟨n1, v1⟩ := a
  obtain ⟨n2, v2⟩ := b
  by_cases hn : n1 = n2
  · subst hn
    have hv : v1 ≠ v2 := fun e => h (by rw [e])
    rcases Int.lt_trichotomy (cmpV v1 v2) 0 with h1 | h1 | h1
    · exact .inl (.inr ⟨rfl, by have := cmpV_ok.anti v1 v2; show 0 < cmpV v2 v1; omega⟩)
    · exact absurd ((cmpV_ok.zero v1 v2).1 h1) hv
    · exact .inr (.inr ⟨rfl, h1⟩)
  · have h3 := bless_gt n1.toList n2.toList
    cases h1 : Op.bytesLess n1.toList n2.toList with
    | true => exact .inl (.inl h1)
    | false =>
      rw [h1] at h3
      have h4 : (n1.toList == n2.toList) = false := by
        cases h5 : (n1.toList == n2.toList) with
        | false => rfl
        | true => exact absurd (eqS_iff.1 h5) hn
      rw [h4] at h3
      exact .inr (.inl h3)
/-- an index in order -/
def WF (l : List Pst) : Prop := (l.map keyP).Pairwise ltK ∧ ∀ p ∈ l, p.ids ≠ [] ∧ p.ids.Pairwise (· < ·)
/-- what an index says -/
def Has (l : List Pst) (nm : ByteArray) (v : Vl) (i : Int) : Prop := ∃ p ∈ l, p.name = nm ∧ p.val = v ∧ i ∈ p.ids
theorem key_unique {l : List Pst} (h : (l.map keyP).Pairwise ltK) {p q : Pst} (hp : p ∈ l) (hq : q ∈ l) (e : keyP p = keyP q) : p = q := by
  induction l with
  | nil => cases hp
  | cons x l ih =>
    rw [List.map_cons, List.pairwise_cons] at h
    rcases List.mem_cons.1 hp with e1 | hp1
    · rcases List.mem_cons.1 hq with e2 | hq1
      · rw [e1, e2]
      · subst e1
        exact absurd (e ▸ h.1 _ (List.mem_map_of_mem hq1)) (ltK_irr _)
    · rcases List.mem_cons.1 hq with e2 | hq1
      · subst e2
        exact absurd (e ▸ h.1 _ (List.mem_map_of_mem hp1)) (ltK_irr _)
      · exact ih h.2 hp1 hq1
theorem wf_sub {l m : List Pst} (hl : WF l) (hm : WF m) (h : ∀ nm v i, Has l nm v i ↔ Has m nm v i) {p : Pst} (hp : p ∈ l) : p ∈ m := by
  obtain ⟨hne, hs⟩ := hl.2 p hp
  obtain ⟨i0, hi0⟩ := List.exists_mem_of_ne_nil _ hne
  obtain ⟨q, hq, e1, e2, _⟩ := (h p.name p.val i0).1 ⟨p, hp, rfl, rfl, hi0⟩
  have hids : p.ids = q.ids := sorted_ext (r := fun a b : Int => a < b) (fun a => Int.lt_irrefl a) (fun a b h1 h2 => by omega) _ _ hs (hm.2 q hq).2 fun i => by
    constructor
    · intro hi
      obtain ⟨q', hq', f1, f2, hi'⟩ := (h p.name p.val i).1 ⟨p, hp, rfl, rfl, hi⟩
      have := key_unique hm.1 hq hq' (by unfold keyP; rw [e1, e2, f1, f2])
      rw [this]; exact hi'
    · intro hi
      obtain ⟨p', hp', f1, f2, hi'⟩ := (h p.name p.val i).2 ⟨q, hq, e1, e2, hi⟩
      have := key_unique hl.1 hp hp' (by unfold keyP; rw [f1, f2])
      rw [this]; exact hi'
  have : p = q := by
    cases p; cases q
    simp only at e1 e2 hids
    subst e1; subst e2; subst hids
    rfl
  rw [this]; exact hq
theorem wf_ext {l m : List Pst} (hl : WF l) (hm : WF m) (h : ∀ nm v i, Has l nm v i ↔ Has m nm v i) : l = m := by
  refine sorted_ext (r := fun p q : Pst => ltK (keyP p) (keyP q)) (fun a => ltK_irr _) (fun a b => ltK_asy _ _) l m ?_ ?_ fun p => ⟨fun hp => wf_sub hl hm h hp, fun hp => wf_sub hm hl (fun nm v i => (h nm v i).symm) hp⟩
  · exact List.pairwise_map.1 hl.1
  · exact List.pairwise_map.1 hm.1
/-! ### one id put in -/
theorem putI_ok {l : List Int} {n : Int} (h : l.Pairwise (· < ·)) : (putI l n).Pairwise (· < ·) ∧ ∀ x, x ∈ putI l n ↔ x ∈ l ∨ x = n := by
  unfold putI
  obtain ⟨k, hk⟩ : ∃ k, k = l.findIdx (geI n) := ⟨_, rfl⟩
  rw [← hk]
  have hkl : k ≤ l.length := by rw [hk]; exact List.findIdx_le_length
  have hlow : ∀ x ∈ l.take k, x < n := by
    intro x hx
    obtain ⟨j, hj, rfl⟩ := List.mem_iff_getElem.1 hx
    rw [List.length_take] at hj
    have h9 : geI n (l[j]'(by omega)) = false := by
      have := List.not_of_lt_findIdx (p := geI n) (xs := l) (i := j) (by omega)
      simpa using this
    rw [List.getElem_take]
    unfold geI at h9
    simp only [decide_eq_false_iff_not] at h9
    omega
  have hhigh : ∀ (hl : k < l.length), n ≤ l[k] := by
    intro hl
    have h9 : geI n l[k] = true := by
      have := List.findIdx_getElem (p := geI n) (xs := l) (w := by rw [← hk]; exact hl)
      simpa only [← hk] using this
    unfold geI at h9
    simpa using h9
  split
  · rename_i he
    refine ⟨h, fun x => ⟨.inl, fun hx => ?_⟩⟩
    rcases hx with hx | rfl
    · exact hx
    · exact List.mem_of_getElem? he
  · rename_i he
    have hgt : ∀ x ∈ l.drop k, n < x := by
      intro x hx
      by_cases hl : k < l.length
      · have h1 := hhigh hl
        have hne : l[k] ≠ n := fun e => he (by rw [List.getElem?_eq_getElem hl, e])
        have hd := List.drop_eq_getElem_cons hl
        have hp : (l.drop k).Pairwise (· < ·) := h.sublist (List.drop_sublist _ _)
        rw [hd] at hx hp
        rw [List.pairwise_cons] at hp
        rcases List.mem_cons.1 hx with rfl | hx
        · omega
        · have := hp.1 x hx; omega
      · rw [List.drop_of_length_le (by omega)] at hx; cases hx
    unfold insL
    refine ⟨?_, fun x => ?_⟩
    · rw [List.pairwise_append]
      refine ⟨h.sublist (List.take_sublist _ _), List.pairwise_cons.2 ⟨hgt, h.sublist (List.drop_sublist _ _)⟩, fun a ha b hb => ?_⟩
      have h1 := hlow a ha
      rcases List.mem_cons.1 hb with rfl | hb
      · exact h1
      · have := hgt b hb; omega
    · constructor
      · intro hx
        rcases List.mem_append.1 hx with hx | hx
        · exact .inl (List.mem_of_mem_take hx)
        · rcases List.mem_cons.1 hx with rfl | hx
          · exact .inr rfl
          · exact .inl (List.mem_of_mem_drop hx)
      · rintro (hx | rfl)
        · rw [← List.take_append_drop k l] at hx
          rcases List.mem_append.1 hx with hx | hx
          · exact List.mem_append_left _ hx
          · exact List.mem_append_right _ (List.mem_cons_of_mem _ hx)
        · exact List.mem_append_right _ (List.mem_cons_self ..)
/-! ### one attribute put in -/
theorem isPst_iff {nm : ByteArray} {v : Vl} {p : Pst} : isPst nm v p = true ↔ p.name = nm ∧ p.val = v := by
  unfold isPst; rw [Bool.and_eq_true, eqS_iff, Vl.eqb_iff]
theorem gtP_iff {nm : ByteArray} {v : Vl} {p : Pst} : gtP nm v p = true ↔ ltK (nm, v) (keyP p) := by
  unfold gtP ltK keyP
  rw [Bool.or_eq_true, Bool.and_eq_true, eqS_iff, decide_eq_true_eq]
  constructor
  · rintro (h | ⟨h1, h2⟩)
    · exact .inl h
    · exact .inr ⟨h1.symm, h2⟩
  · rintro (h | ⟨h1, h2⟩)
    · exact .inl h
    · exact .inr ⟨h1.symm, h2⟩
theorem addA_ok {l : List Pst} (h : WF l) (id : Int) (a : Atr) : WF (addA id l a) ∧ ∀ nm v i, Has (addA id l a) nm v i ↔ Has l nm v i ∨ (a.name = nm ∧ a.val = v ∧ i = id) := by
  unfold addA
  by_cases hi : l.findIdx (isPst a.name a.val) < l.length
  · rw [dif_pos hi]
    generalize hk : l.findIdx (isPst a.name a.val) = k at hi
    have hp : isPst a.name a.val l[k] = true := by
      have := List.findIdx_getElem (p := isPst a.name a.val) (xs := l) (w := by rw [hk]; exact hi)
      simpa only [hk] using this
    obtain ⟨e1, e2⟩ := isPst_iff.1 hp
    obtain ⟨hne, hs⟩ := h.2 l[k] (List.getElem_mem hi)
    obtain ⟨p1, p2⟩ := putI_ok (n := id) hs
    have hkm : keyP (⟨l[k].name, l[k].val, putI l[k].ids id⟩ : Pst) = keyP l[k] := rfl
    have hmap : (l.set k ⟨l[k].name, l[k].val, putI l[k].ids id⟩).map keyP = l.map keyP := by
      rw [List.map_set, hkm]
      have : (l.map keyP)[k]'(by simpa using hi) = keyP l[k] := by simp
      rw [← this, List.set_getElem_self]
    refine ⟨⟨by rw [hmap]; exact h.1, fun p hp => ?_⟩, fun nm v i => ?_⟩
    · rcases List.mem_or_eq_of_mem_set hp with hp | rfl
      · exact h.2 p hp
      · exact ⟨List.ne_nil_of_mem ((p2 id).2 (.inr rfl)), p1⟩
    · constructor
      · rintro ⟨p, hp, f1, f2, f3⟩
        rcases List.mem_or_eq_of_mem_set hp with hp | rfl
        · exact .inl ⟨p, hp, f1, f2, f3⟩
        · rcases (p2 i).1 f3 with f3 | rfl
          · exact .inl ⟨l[k], List.getElem_mem hi, f1, f2, f3⟩
          · exact .inr ⟨e1 ▸ f1, e2 ▸ f2, rfl⟩
      · rintro (⟨p, hp, f1, f2, f3⟩ | ⟨f1, f2, rfl⟩)
        · by_cases hpk : p = l[k]
          · refine ⟨_, List.mem_set hi _, ?_, ?_, (p2 i).2 (.inl (hpk ▸ f3))⟩
            · rw [← f1, hpk]
            · rw [← f2, hpk]
          · obtain ⟨j, hj, rfl⟩ := List.mem_iff_getElem.1 hp
            have hjk : k ≠ j := fun e => hpk (by subst e; rfl)
            exact ⟨l[j], List.mem_iff_getElem.2 ⟨j, by simpa using hj, by rw [List.getElem_set_ne hjk]⟩, f1, f2, f3⟩
        · exact ⟨_, List.mem_set hi _, e1.trans f1, e2.trans f2, (p2 i).2 (.inr rfl)⟩
  · rw [dif_neg hi]
    have hno : ∀ p ∈ l, keyP p ≠ (a.name, a.val) := fun p hp e => by
      have h1 := List.findIdx_lt_length_of_exists (p := isPst a.name a.val) (xs := l) ⟨p, hp, isPst_iff.2 ⟨congrArg Prod.fst e, congrArg Prod.snd e⟩⟩
      exact hi h1
    generalize hk : l.findIdx (gtP a.name a.val) = k
    have hlt : ∀ p ∈ l.take k, ltK (keyP p) (a.name, a.val) := by
      intro p hp
      obtain ⟨j, hj, rfl⟩ := List.mem_iff_getElem.1 hp
      rw [List.length_take] at hj
      rw [List.getElem_take]
      have h9 : gtP a.name a.val (l[j]'(by omega)) = false := by
        have := List.not_of_lt_findIdx (p := gtP a.name a.val) (xs := l) (i := j) (by omega)
        simpa using this
      rcases ltK_tot _ _ (hno (l[j]'(by omega)) (List.getElem_mem _)) with h1 | h1
      · exact h1
      · rw [gtP_iff.2 h1] at h9; cases h9
    have hsp : l.Pairwise (fun p q : Pst => ltK (keyP p) (keyP q)) := List.pairwise_map.1 h.1
    have hgt : ∀ p ∈ l.drop k, ltK (a.name, a.val) (keyP p) := by
      intro p hp
      by_cases hl : k < l.length
      · have hb : gtP a.name a.val l[k] = true := by
          have h9 := List.findIdx_getElem (p := gtP a.name a.val) (xs := l) (w := by rw [hk]; exact hl)
          simpa only [hk] using h9
        have hd := List.drop_eq_getElem_cons hl
        have hq : (l.drop k).Pairwise (fun p q : Pst => ltK (keyP p) (keyP q)) := hsp.sublist (List.drop_sublist _ _)
        rw [hd] at hp hq
        rw [List.pairwise_cons] at hq
        rcases List.mem_cons.1 hp with rfl | hp
        · exact gtP_iff.1 hb
        · exact ltK_trans (gtP_iff.1 hb) (hq.1 p hp)
      · rw [List.drop_of_length_le (by omega)] at hp; cases hp
    have hmem : ∀ p, p ∈ insL l ⟨a.name, a.val, [id]⟩ k ↔ p ∈ l ∨ p = ⟨a.name, a.val, [id]⟩ := by
      intro p
      refine ⟨insL_mem, ?_⟩
      unfold insL
      rintro (hp | rfl)
      · rw [← List.take_append_drop k l] at hp
        rcases List.mem_append.1 hp with hp | hp
        · exact List.mem_append_left _ hp
        · exact List.mem_append_right _ (List.mem_cons_of_mem _ hp)
      · exact List.mem_append_right _ (List.mem_cons_self ..)
    refine ⟨⟨?_, fun p hp => ?_⟩, fun nm v i => ?_⟩
    · rw [List.pairwise_map]
      unfold insL
      rw [List.pairwise_append]
      refine ⟨hsp.sublist (List.take_sublist _ _), List.pairwise_cons.2 ⟨fun p hp => hgt p hp, hsp.sublist (List.drop_sublist _ _)⟩, fun p hp q hq => ?_⟩
      rcases List.mem_cons.1 hq with rfl | hq
      · exact hlt p hp
      · exact ltK_trans (hlt p hp) (hgt q hq)
    · rcases (hmem p).1 hp with hp | rfl
      · exact h.2 p hp
      · exact ⟨by simp, List.pairwise_singleton _ _⟩
    · constructor
      · rintro ⟨p, hp, f1, f2, f3⟩
        rcases (hmem p).1 hp with hp | rfl
        · exact .inl ⟨p, hp, f1, f2, f3⟩
        · exact .inr ⟨f1, f2, by simpa using f3⟩
      · rintro (⟨p, hp, f1, f2, f3⟩ | ⟨f1, f2, rfl⟩)
        · exact ⟨p, (hmem p).2 (.inl hp), f1, f2, f3⟩
        · exact ⟨_, (hmem _).2 (.inr rfl), f1, f2, by simp⟩
/-- a file says a triple -/
def Says (f : Fil) (nm : ByteArray) (v : Vl) (i : Int) : Prop := ∃ a ∈ f.attrs, a.name = nm ∧ a.val = v ∧ i = f.id
theorem foldA_ok {id : Int} : ∀ (ys : List Atr) (l : List Pst), WF l → WF (ys.foldl (addA id) l) ∧ ∀ nm v i, Has (ys.foldl (addA id) l) nm v i ↔ Has l nm v i ∨ ∃ a ∈ ys, a.name = nm ∧ a.val = v ∧ i = id
  | [], l, h => ⟨h, fun nm v i => by simp⟩
  | a :: ys, l, h => by
    obtain ⟨h1, h2⟩ := addA_ok h id a
    obtain ⟨h3, h4⟩ := foldA_ok (id := id) ys _ h1
    refine ⟨h3, fun nm v i => ?_⟩
    rw [List.foldl_cons, h4, h2]
    simp only [List.mem_cons, exists_eq_or_imp, or_assoc]
theorem addX_ok {l : List Pst} (h : WF l) (f : Fil) : WF (addX l f) ∧ ∀ nm v i, Has (addX l f) nm v i ↔ Has l nm v i ∨ Says f nm v i := foldA_ok f.attrs l h
theorem foldX_ok : ∀ (fs : List Fil) (l : List Pst), WF l → WF (fs.foldl addX l) ∧ ∀ nm v i, Has (fs.foldl addX l) nm v i ↔ Has l nm v i ∨ ∃ f ∈ fs, Says f nm v i
  | [], l, h => ⟨h, fun nm v i => by simp⟩
  | f :: fs, l, h => by
    obtain ⟨h1, h2⟩ := addX_ok h f
    obtain ⟨h3, h4⟩ := foldX_ok fs _ h1
    refine ⟨h3, fun nm v i => ?_⟩
    rw [List.foldl_cons, h4, h2]
    simp only [List.mem_cons, exists_eq_or_imp, or_assoc]
theorem wf_nil : WF [] := ⟨List.Pairwise.nil, fun p hp => by cases hp⟩
theorem bldX_ok (s : Sto) : WF (bldX s) ∧ ∀ nm v i, Has (bldX s) nm v i ↔ ∃ f ∈ s.files, Says f nm v i := by
  obtain ⟨h1, h2⟩ := foldX_ok s.files [] wf_nil
  refine ⟨h1, fun nm v i => (h2 nm v i).trans ⟨?_, .inr⟩⟩
  rintro (⟨p, hp, _⟩ | h)
  · cases hp
  · exact h
/-! ### one attribute taken out -/
theorem dropP_key (nm : ByteArray) (v : Vl) (id : Int) (p : Pst) : keyP (dropP nm v id p) = keyP p := by unfold dropP; split <;> rfl
theorem stepR_ok2 {l : List Pst} (h : WF l) (id : Int) (a : Atr) : WF (stepR id l a) ∧ ∀ nm v i, Has (stepR id l a) nm v i ↔ Has l nm v i ∧ ¬ (a.name = nm ∧ a.val = v ∧ i = id) := by
  unfold stepR
  refine ⟨⟨?_, fun p hp => ?_⟩, fun nm v i => ?_⟩
  · have e : (l.map (dropP a.name a.val id)).map keyP = l.map keyP := by
      rw [List.map_map]
      exact List.map_congr_left fun p _ => dropP_key _ _ _ p
    have hs : (((l.map (dropP a.name a.val id)).filter someIds).map keyP).Sublist (l.map keyP) := by
      rw [← e]; exact List.filter_sublist.map _
    exact h.1.sublist hs
  · obtain ⟨h1, h2⟩ := List.mem_filter.1 hp
    obtain ⟨q, hq, rfl⟩ := List.mem_map.1 h1
    refine ⟨fun e => (by unfold someIds at h2; rw [e] at h2; simp at h2), ?_⟩
    unfold dropP
    split
    · exact (h.2 q hq).2.sublist List.filter_sublist
    · exact (h.2 q hq).2
  · constructor
    · rintro ⟨p, hp, f1, f2, f3⟩
      obtain ⟨q, hq, rfl⟩ := List.mem_map.1 (List.mem_filter.1 hp).1
      unfold dropP at f1 f2 f3
      split at f3
      · rename_i hc
        rw [if_pos hc] at f1 f2
        have h3 := List.mem_filter.1 f3
        refine ⟨⟨q, hq, f1, f2, h3.1⟩, fun ⟨_, _, e⟩ => ?_⟩
        have := h3.2
        rw [e] at this; simp at this
      · rename_i hc
        rw [if_neg hc] at f1 f2
        refine ⟨⟨q, hq, f1, f2, f3⟩, fun ⟨e1, e2, _⟩ => hc (isPst_iff.2 ⟨f1.trans e1.symm, f2.trans e2.symm⟩)⟩
    · rintro ⟨⟨q, hq, f1, f2, f3⟩, hn⟩
      have hi : i ∈ (dropP a.name a.val id q).ids := by
        unfold dropP
        split
        · rename_i hc
          obtain ⟨e1, e2⟩ := isPst_iff.1 hc
          refine List.mem_filter.2 ⟨f3, ?_⟩
          have : i ≠ id := fun e => hn ⟨e1.symm.trans f1, e2.symm.trans f2, e⟩
          simpa using this
        · exact f3
      refine ⟨dropP a.name a.val id q, List.mem_filter.2 ⟨List.mem_map_of_mem hq, ?_⟩, ?_, ?_, hi⟩
      · unfold someIds
        cases hh : (dropP a.name a.val id q).ids with
        | nil => rw [hh] at hi; cases hi
        | cons x y => rfl
      · have := congrArg Prod.fst (dropP_key a.name a.val id q); exact this.trans f1
      · have := congrArg Prod.snd (dropP_key a.name a.val id q); exact this.trans f2
theorem foldR_ok {id : Int} : ∀ (ys : List Atr) (l : List Pst), WF l → WF (ys.foldl (stepR id) l) ∧ ∀ nm v i, Has (ys.foldl (stepR id) l) nm v i ↔ Has l nm v i ∧ ¬ ∃ a ∈ ys, a.name = nm ∧ a.val = v ∧ i = id
  | [], l, h => ⟨h, fun nm v i => by simp⟩
  | a :: ys, l, h => by
    obtain ⟨h1, h2⟩ := stepR_ok2 h id a
    obtain ⟨h3, h4⟩ := foldR_ok (id := id) ys _ h1
    refine ⟨h3, fun nm v i => ?_⟩
    rw [List.foldl_cons, h4, h2]
    simp only [List.mem_cons, exists_eq_or_imp, not_or, and_assoc]
theorem remX_ok2 {l : List Pst} (h : WF l) (f : Fil) : WF (remX l f) ∧ ∀ nm v i, Has (remX l f) nm v i ↔ Has l nm v i ∧ ¬ Says f nm v i := foldR_ok f.attrs l h
/-- one file of a store turned: its index is the old one with the file taken out and put in anew -/
theorem idx_turn {fs : List Fil} (hid : fs.Pairwise fun f g => f.id < g.id) {k : Nat} (hk : k < fs.length) {x : Fil} (hx : x.id = fs[k].id) (sc : List Fld) (nx : Int) :
    addX (remX (bldX ⟨sc, fs, nx⟩) fs[k]) x = bldX ⟨sc, fs.set k x, nx⟩ := by
  obtain ⟨b1, b2⟩ := bldX_ok ⟨sc, fs, nx⟩
  obtain ⟨r1, r2⟩ := remX_ok2 b1 fs[k]
  obtain ⟨a1, a2⟩ := addX_ok r1 x
  obtain ⟨c1, c2⟩ := bldX_ok ⟨sc, fs.set k x, nx⟩
  have hne : ∀ j (hj : j < fs.length), j ≠ k → fs[j].id ≠ fs[k].id := fun j hj hjk e => by
    rcases Nat.lt_or_gt_of_ne hjk with h | h
    · have := List.pairwise_iff_getElem.1 hid j k hj hk h; omega
    · have := List.pairwise_iff_getElem.1 hid k j hk hj h; omega
  refine wf_ext a1 c1 fun nm v i => ?_
  rw [a2, r2, b2, c2]
  simp only
  constructor
  · rintro (⟨⟨f, hf, hs⟩, hn⟩ | hs)
    · obtain ⟨j, hj, rfl⟩ := List.mem_iff_getElem.1 hf
      have hjk : k ≠ j := fun e => by subst e; exact hn hs
      exact ⟨fs[j], List.mem_iff_getElem.2 ⟨j, by simpa using hj, by rw [List.getElem_set_ne hjk]⟩, hs⟩
    · exact ⟨x, List.mem_set hk _, hs⟩
  · rintro ⟨f, hf, hs⟩
    obtain ⟨j, hj, rfl⟩ := List.mem_iff_getElem.1 hf
    rw [List.length_set] at hj
    by_cases hjk : k = j
    · subst hjk
      rw [List.getElem_set_self] at hs
      exact .inr hs
    · rw [List.getElem_set_ne hjk] at hs
      refine .inl ⟨⟨fs[j], List.getElem_mem hj, hs⟩, ?_⟩
      rintro ⟨a, _, _, _, e⟩
      obtain ⟨a', _, _, _, e'⟩ := hs
      exact hne j hj (fun e => hjk e.symm) (e'.symm.trans e)
end Go.Proofs.Ytjobgnioehkomaa
namespace Go.Proofs.Ytjobgnioehkomaa
open Go.RowKit
set_option linter.unusedVariables false
set_option maxRecDepth 100000
theorem sum_le5 : ∀ l : List Fil, (∀ f ∈ l, OkF f) → (l.map (·.attrs.length)).sum ≤ 5 * l.length
  | [], _ => by simp
  | f :: l, h => by
    have h1 := sum_le5 l fun g hg => h g (List.mem_cons_of_mem _ hg)
    have h2 := (h f (List.mem_cons_self ..)).1
    simp only [List.map_cons, List.sum_cons, List.length_cons]
    omega
theorem StoG.sum {fs : List Fil} {m : Nat} {nx : Int} (h : StoG fs m nx) : (fs.map (·.attrs.length)).sum ≤ 60 := by
  have h1 := sum_le5 fs h.2.2.1
  have h2 := (validS_iff.1 h.2.1).2.2.1
  simp only at h2
  omega
theorem StoG.wide {fs : List Fil} {m : Nat} {nx : Int} (h : StoG fs m nx) : Wide 60 (bldX ⟨usualL, fs, nx⟩) := (bldX_wide ⟨usualL, fs, nx⟩).le h.sum
theorem OkF.ok16 {f : Fil} (h : OkF f) : f.ok 16 := ⟨by have := h.1; omega, fun a ha => h.2 a ha⟩
theorem StoG.nms {fs : List Fil} {m : Nat} {nx : Int} (h : StoG fs m nx) : Nms 16 (bldX ⟨usualL, fs, nx⟩) :=
  foldX_nms fs [] (fun p hp => by cases hp) fun f hf => (h.2.2.1 f hf).ok16
theorem PRows.draw {eP ei : Nat} {w w' : World} {B n c g : Nat} {A : Option Addr} {l : List Pst} (h : PRows eP ei w B A n c l) (hg : g < B) (hc : Chg [g] w w') : PRows eP ei w' B A n c l := by
  obtain ⟨L, h1, h2⟩ := h
  exact ⟨L, h1.chg hc (fun b hb hm => by have := (h1.base b hb).1; rw [List.mem_singleton] at hm; omega), h2⟩
theorem spec_BuildG {fs : List Fil} {m : Nat} {nx : Int} (hG : StoG fs m nx) (A : Option Addr) (c : Nat) (B : Option Addr) (d : Nat) (w : World) (hT : Sl 5 RFil w B m fs) :
    Calls Try.prog 46 #[.agg #[.slice A 4 c, .slice B m d, .int .i64 nx]] w fun e w' => ∃ P pn pc, e = .returned (.slice P pn pc) ∧ PRows 107 3 w' w.heap.size P pn pc (bldX ⟨usualL, fs, nx⟩) ∧ Below w.heap.size w w' := by
  have h := spec_BuildIndex ⟨usualL, fs, nx⟩ A 4 c B m d w hT (Nat.le_trans hG.sum (by omega)) (by have h1 := (validS_iff.1 hG.2.1).2.2.1; have h2 := hG.1; simp only at h1; omega)
  exact h.mono fun e w' ⟨P, pc, h1, h2, h3⟩ => ⟨P, _, pc, h1, h2, h3⟩
/-- the box of the store, and the box of the result -/
def MidI (W0 w1 : World) (g r b : Nat) (fs : List Fil) (nx : Int) (A : Option Addr) (c : Nat) (B : Option Addr) (m d : Nat) (w' : World) : Prop :=
  w'.heap[b]? = some (.cells #[.slice A 4 c, .slice B m d, .int .i64 nx] 40 (0, 0)) ∧ w'.heap[r]? = some (.cells #[.int .i64 0, .int .i64 0, .bool false, .int .i64 0, .slice none 0 0] 28 (0, 0)) ∧ FRow 138 2 eFld w' w1.heap.size A 4 c usualL ∧ FRows 28 84 w' w1.heap.size B m d fs ∧ Cur W0 w' g ∧ Chg [g] w1 w'
section
variable {W0 w1 w2 w3 : World} {g r b m c d : Nat} {fs : List Fil} {nx : Int} {A B : Option Addr}
theorem MidI.step (h : MidI W0 w1 g r b fs nx A c B m d w2) (hg : g < w1.heap.size) (hr : r < g) (hb : w1.heap.size ≤ b) (hC : Cur W0 w3 g) (hc : Chg [g] w2 w3) : MidI W0 w1 g r b fs nx A c B m d w3 :=
  ⟨hc.keepb h.1 (by simp only [List.mem_singleton]; omega), hc.keepb h.2.1 (by simp only [List.mem_singleton]; omega), row_draw h.2.2.1 hg hc, h.2.2.2.1.draw hg hc, hC, h.2.2.2.2.2.trans hc⟩
theorem MidI.below (h : MidI W0 w1 g r b fs nx A c B m d w2) (hg : g < w1.heap.size) (hr : r < g) (hb : w1.heap.size ≤ b) (hB : Below w2.heap.size w2 w3) : MidI W0 w1 g r b fs nx A c B m d w3 :=
  h.step hg hr hb (h.2.2.2.2.1.below hB) (Chg.of_below _ hB)
theorem MidI.three (h : MidI W0 w1 g r b fs nx A c B m d w2) :
    w2.cell? ⟨b, 0, none⟩ = some (.slice A 4 c) ∧ w2.cell? ⟨b, 1, none⟩ = some (.slice B m d) ∧ w2.cell? ⟨b, 2, none⟩ = some (.int .i64 nx) :=
  ⟨blk_cell? h.1 0, blk_cell? h.1 1, blk_cell? h.1 2⟩
end
theorem NRow.hcellC {H β : Type} {K : NK H β} {w : World} {B n c : Nat} {A : Option Addr} {L : List (H × List β)} (hE : Enc K.size K.enc) (h : NRow K w B A n c L) (hn : 0 < n) : ∃ g, A = some ⟨g, 0, none⟩ ∧ B ≤ g ∧ g < w.heap.size ∧ rowBs A c = [g] ∧ (∀ j, w.frozen? ⟨g, j, none⟩ = false) ∧
    ∀ i (hi : i < L.length) j u, (K.enc L[i].1)[j]? = some u → w.cell? ⟨g, i * K.size + j, none⟩ = some u := by
  obtain ⟨g, hA, hB, hg, hr, hf, hc⟩ := h.1.cell hE hn
  refine ⟨g, hA, hB, hg, hr, hf, fun i hi j u hu => ?_⟩
  have := hc i (by simpa using hi) j u
  rw [List.getElem_map] at this
  exact this hu
/-- one file of a row: its header, its attributes' row -/
theorem FRows.at_ {eF ea : Nat} {w : World} {B n c : Nat} {A : Option Addr} {l : List Fil} (h : FRows eF ea w B A n c l) {k : Nat} (hk : k < l.length) : ∃ b off P q r, A = some ⟨b, off, none⟩ ∧ w.cell? ⟨b, off + k * 5, none⟩ = some (.int .i64 l[k].id) ∧ w.cell? ⟨b, off + k * 5 + 1, none⟩ = some (.int .i64 l[k].owner) ∧
      w.cell? ⟨b, off + k * 5 + 2, none⟩ = some (.bool l[k].shared) ∧ w.cell? ⟨b, off + k * 5 + 3, none⟩ = some (.int .i64 l[k].link) ∧ w.cell? ⟨b, off + k * 5 + 4, none⟩ = some (.slice P q r) ∧ FRow ea 4 eAtr w B P q r l[k].attrs := by
  obtain ⟨L, hN, rfl⟩ := h
  have hkL : k < L.length := by simpa using hk
  obtain ⟨g, hA, -, -, -, -, hc⟩ := hN.hcellC encFh (by have := hN.len; omega)
  have hi := hN.2.1 L[k] (List.getElem_mem hkL)
  refine ⟨g, 0, L[k].1.A, L[k].1.n, L[k].1.c, hA, ?_, ?_, ?_, ?_, ?_, ?_⟩
  · rw [List.getElem_map]; have := hc k hkL 0 _ rfl; simpa [mkF] using this
  · rw [List.getElem_map]; have := hc k hkL 1 _ rfl; simpa [mkF] using this
  · rw [List.getElem_map]; have := hc k hkL 2 _ rfl; simpa [mkF] using this
  · rw [List.getElem_map]; have := hc k hkL 3 _ rfl; simpa [mkF] using this
  · have := hc k hkL 4 _ rfl; simpa using this
  · rw [List.getElem_map]; exact hi
/-- a drawn index with a file -/
def IxF (w : World) (e : Ending) (w' : World) : Prop := ∃ (fs : List Fil) (m : Nat) (nx : Int) (P : Option Addr) (pn pc : Nat) (f : Fil) (A : Option Addr) (q r : Nat), StoG fs m nx ∧ e = .returned (.tuple #[.slice P pn pc, .agg #[.int .i64 f.id, .int .i64 f.owner, .bool f.shared, .int .i64 f.link, .slice A q r]]) ∧ PRows 107 3 w' (w.heap.size + 1) P pn pc (bldX ⟨usualL, fs, nx⟩) ∧ FRow 84 4 eAtr w' (w.heap.size + 1) A q r f.attrs ∧ OkF f ∧ Below w.heap.size w w'
set_option maxHeartbeats 1600000 in
theorem spec_DrawAddToIndex (A0 : Option Addr) (n0 c0 : Nat) (l : List Int) (w : World) (hS : Sl 1 RByt w A0 n0 l) (hn : n0 ≤ 1048576) (hl : ∀ y ∈ l, 0 ≤ y ∧ y ≤ 255) : Calls Try.prog 34 #[.slice A0 n0 c0] w (IxF w) := by
  have HN := Lib.hid fun w' (hb : Below w.heap.size w w') => spec_l01New A0 n0 c0 l w' (hS.mono mByt hb) hn hl
  clear hS hl
  go_enter Try.func34, Try.ntmps34
  go_wp2_with fail
  refine (HN.out _ (by go_grown)).mono ?_; rintro e w1 ⟨g, rfl, hC⟩
  have hgw := (cur_w hC).1
  have hk := (cur_w hC).2
  have HR := Lib.hid (below_keep hk (hp_new rfl))
  have hgl := cur_lt hC
  have HB1 := Lib.hid (ex_trans (ex_alloc (Below.refl w.heap.size w) _) hk)
  have HC1 := Lib.hid hC
  simp at hgw
  have hrg : w.heap.size < g := by omega
  generalize World.alloc w _ = W0 at *
  clear hC hk
  go_wp2_with fail
  refine (spec_l05Store W0 _ g HC1.out).mono ?_; rintro e w2 ⟨fs, nx, A, c, B, m, d, rfl, hr, hf, hG, hm1, hm7, hx8, hc2, hg2⟩
  have HG := Lib.hid hG
  have HX2 := Lib.hid (And.intro hr (And.intro hf (And.intro hc2 hg2)))
  have hbl := hg2.size
  clear hr hf hG hc2 hg2
  go_wp2_with fail
  generalize hw3 : World.alloc w2 _ = w3
  have hm : MidI W0 w1 g w.heap.size w2.heap.size fs nx A c B m d w3 := by
    have hba : Below w2.heap.size w2 w3 := by rw [← hw3]; exact (Below.refl _ _).alloc (Nat.le_refl _) _
    refine ⟨by rw [← hw3]; exact hp_new rfl, below_keep hba (HX2.out.2.2.2.keepb HR.out (by simp only [List.mem_singleton]; omega)), HX2.out.1.below hba, HX2.out.2.1.below hba, HX2.out.2.2.1.below hba, HX2.out.2.2.2.trans (Chg.of_below _ hba)⟩
  clear hw3 HX2 HR
  generalize w2.heap.size = b at *
  refine (spec_l01Once W0 _ g 2 (by omega) (by omega) hm.2.2.2.2.1).mono ?_; rintro e w4 ⟨q, rfl, hc4, hg4⟩
  have HM := Lib.hid (hm.step hgl hrg hbl hc4 hg4)
  clear hm hc4 hg4
  cases q with
  | true =>
    go_upto_region 4 with fail
    refine wp_region_held_drew (S := (fun w' => w'.cell? ⟨b, 0, none⟩ = some (.slice A 4 c) ∧ w'.cell? ⟨b, 1, none⟩ = some (.slice B m d) ∧ w'.cell? ⟨b, 2, none⟩ = some (.int .i64 nx))) (by kernel_rfl) (by (try dsimp only); exact (HM.out.below hgl hrg hbl (Below.refl _ _).drew).three) (fun hHeld => ?_)
    replace HM := Lib.hid (HM.out.below hgl hrg hbl (Below.refl _ _).drew)
    generalize World.drew w4 = Wd at *
    first | refine tkA 0 ?_ | refine skA 0 ?_
    simp only [Act.put, List.setIfInBounds_toArray, List.set_cons_zero, List.set_cons_succ]
    first | refine tkA 2 ?_ | refine skA 2 ?_
    simp only [Act.put, List.setIfInBounds_toArray, List.set_cons_zero, List.set_cons_succ]
    first | refine tkA 3 ?_ | refine skA 3 ?_
    simp only [Act.put, List.setIfInBounds_toArray, List.set_cons_zero, List.set_cons_succ]
    first | refine tkA 4 ?_ | refine skA 4 ?_
    simp only [Act.put, List.setIfInBounds_toArray, List.set_cons_zero, List.set_cons_succ]
    first | refine tkA 5 ?_ | refine skA 5 ?_
    simp only [Act.put, List.setIfInBounds_toArray, List.set_cons_zero, List.set_cons_succ]
    first | refine tkA 6 ?_ | refine skA 6 ?_
    simp only [Act.put, List.setIfInBounds_toArray, List.set_cons_zero, List.set_cons_succ]
    first | refine tkA 7 ?_ | refine skA 7 ?_
    simp only [Act.put, List.setIfInBounds_toArray, List.set_cons_zero, List.set_cons_succ]
    refine held_one 1 (by kernel_rfl) rfl (fun K hK => ?_)
    go_simp
    go_at_call 46
    refine (spec_BuildG HG.out A c B d _ HM.out.2.2.2.1.sl).mono ?_; rintro e w5 ⟨P, pn, pc, rfl, hp, hb5⟩
    have hpz := HM.out.2.2.2.2.2.size
    have HP5 := Lib.hid (show PRows 107 3 w5 w1.heap.size P pn pc (bldX ⟨usualL, fs, nx⟩) from hp.lower hpz)
    replace HM := Lib.hid (HM.out.below hgl hrg hbl hb5)
    go_wp2_with fail
    refine hK.out _ _ (by (try dsimp only); exact HM.out.three) (fun hNew => ?_)
    clear hK K hHeld
    have hHeld := hNew
    clear hNew
    try simp only [Act.put, List.setIfInBounds_toArray, List.set_cons_zero, List.set_cons_succ]
    clear hp hb5
    refine held_one 8 (by kernel_rfl) rfl (fun K hK => ?_)
    go_simp
    go_at_call 62
    refine (spec_l01Below W0 _ g m (by omega) (by omega) HM.out.2.2.2.2.1).mono ?_; rintro e w6 ⟨y, rfl, ⟨y0, y1⟩, hc6, hg6⟩
    have HP := Lib.hid (HP5.out.draw hgl hg6)
    replace HM := Lib.hid (HM.out.step hgl hrg hbl hc6 hg6)
    go_wp2_with fail
    refine hK.out _ _ (by (try dsimp only); exact HM.out.three) (fun hNew => ?_)
    clear hK K hHeld
    have hHeld := hNew
    clear hNew
    try simp only [Act.put, List.setIfInBounds_toArray, List.set_cons_zero, List.set_cons_succ]
    clear hc6 hg6 HP5
    obtain ⟨k, rfl⟩ : ∃ k : Nat, y = k := ⟨y.toNat, by omega⟩
    have hkf : k < fs.length := by have := HG.out.1; omega
    have i1 : (k : Int) < (m : Int) := by omega
    have i0 : (0 : Int) ≤ (k : Int) := by omega
    obtain ⟨fb, fo, P2, q2, r2, hB, z0, z1, z2, z3, z4, hrow⟩ := HM.out.2.2.2.1.at_ hkf
    have HRW := Lib.hid hrow
    have HOF := Lib.hid (HG.out.2.2.1 fs[k] (List.getElem_mem hkf))
    clear hrow y0 y1
    subst hB
    obtain ⟨f, hf⟩ : ∃ f, f = fs[k] := ⟨_, rfl⟩
    rw [← hf] at z0 z1 z2 z3 HRW HOF
    clear hf
    have hrb : w.heap.size < w1.heap.size := by omega
    have hrw : w.heap.size < w1.heap.size := hrb
    first | refine tkA 9 ?_ | refine skA 9 ?_
    simp only [Act.put, List.setIfInBounds_toArray, List.set_cons_zero, List.set_cons_succ]
    first | refine tkA 11 ?_ | refine skA 11 ?_
    simp only [Act.put, List.setIfInBounds_toArray, List.set_cons_zero, List.set_cons_succ]
    refine held_one 10 (by kernel_rfl) rfl (fun K hK => ?_)
    go_simp
    refine hK.out _ _ (by (try dsimp only); exact hHeld) (fun hNew => ?_)
    clear hK K hHeld
    have hHeld := hNew
    clear hNew
    try simp only [Act.put, List.setIfInBounds_toArray, List.set_cons_zero, List.set_cons_succ]
    clear z0 z1 z2 z3 z4
    have v0 := blk_cell? HM.out.2.1 0
    have v1 := blk_cell? HM.out.2.1 1
    have v2 := blk_cell? HM.out.2.1 2
    have v3 := blk_cell? HM.out.2.1 3
    have v4 := blk_cell? HM.out.2.1 4
    have vf := blk_free HM.out.2.1
    simp only [List.getElem?_toArray, List.getElem?_cons_zero, List.getElem?_cons_succ] at v0 v1 v2 v3 v4
    have hc : Chg [w.heap.size] w6 (World.setCell (World.setCell (World.setCell (World.setCell (World.setCell w6 ⟨w.heap.size, 0, none⟩ (.int .i64 f.id)) ⟨w.heap.size, 1, none⟩ (.int .i64 f.owner)) ⟨w.heap.size, 2, none⟩ (.bool f.shared)) ⟨w.heap.size, 3, none⟩ (.int .i64 f.link)) ⟨w.heap.size, 4, none⟩ (.slice P2 q2 r2)) := ((((((Chg.refl [w.heap.size] w6).set (by simp) _).set (by simp) _).set (by simp) _).set (by simp) _).set (by simp) _)
    have hv := blk_set (blk_set (blk_set (blk_set (blk_set HM.out.2.1 0 (.int .i64 f.id)) 1 (.int .i64 f.owner)) 2 (.bool f.shared)) 3 (.int .i64 f.link)) 4 (.slice P2 q2 r2)
    have hk1 := HM.out.three
    have hk2 : ∀ j, (⟨b, j, none⟩ : Addr).block ∉ [w.heap.size] := fun j h => by have h1 := List.mem_singleton.1 h; simp only at h1; omega
    refine held_one 12 (by kernel_rfl) rfl (fun K hK => ?_)
    go_simp
    generalize World.setCell (World.setCell (World.setCell (World.setCell (World.setCell w6 _ _) _ _) _ _) _ _) _ _ = w9 at *
    refine hK.out _ _ (by (try dsimp only); exact ⟨hc.cell hk1.1 (hk2 _), hc.cell hk1.2.1 (hk2 _), hc.cell hk1.2.2 (hk2 _)⟩) (fun hNew => ?_)
    clear hK K hHeld
    have hHeld := hNew
    clear hNew
    try simp only [Act.put, List.setIfInBounds_toArray, List.set_cons_zero, List.set_cons_succ]
    refine wpAnyH_done (by kernel_rfl) ?_ _
    clear hHeld hk1 hk2 v0 v1 v2 v3 v4 vf
    have e0 := blk_cell? hv 0
    have e1 := blk_cell? hv 1
    have e2 := blk_cell? hv 2
    have e3 := blk_cell? hv 3
    have e4 := blk_cell? hv 4
    simp at e0 e1 e2 e3 e4
    have HCC := Lib.hid hc
    clear hv hc
    go_wp2_with fail
    refine bodyPost_ret (v := .tuple #[.slice P pn pc, .agg #[.int .i64 f.id, .int .i64 f.owner, .bool f.shared, .int .i64 f.link, .slice P2 q2 r2]]) (by simp [results, Try.results34, go_sem, e0, e1, e2, e3, e4]) rfl ?_
    have hzz := HM.out.2.2.2.2.2.size
    exact ⟨fs, m, nx, P, pn, pc, f, P2, q2, r2, HG.out, rfl, (HP.out.draw hrb HCC.out).lower (by omega), (row_draw HRW.out hrw HCC.out).low (by omega), HOF.out, Below.mark (Below.mark HB1.out HM.out.2.2.2.2.2 HB1.out.size (fun x hx => by simp only [List.mem_singleton] at hx; omega)) HCC.out (by have := HB1.out.size; omega) (fun x hx => by simp only [List.mem_singleton] at hx; omega)⟩
  | false =>
    obtain ⟨x0, x1, x2⟩ := HM.out.three
    go_wp2_with fail
    refine (spec_BuildG HG.out A c B d _ HM.out.2.2.2.1.sl).mono ?_; rintro e w5 ⟨P, pn, pc, rfl, hp, hb5⟩
    have hpz := HM.out.2.2.2.2.2.size
    have HP5 := Lib.hid (show PRows 107 3 w5 w1.heap.size P pn pc (bldX ⟨usualL, fs, nx⟩) from hp.lower hpz)
    replace HM := Lib.hid (HM.out.below hgl hrg hbl hb5)
    clear hp hb5 x0 x1 x2
    go_wp2_with fail
    refine (spec_l01Below W0 _ g 12 (by omega) (by omega) HM.out.2.2.2.2.1).mono ?_; rintro e w6 ⟨y, rfl, ⟨y0, y1⟩, hc6, hg6⟩
    have HP6 := Lib.hid (HP5.out.draw hgl hg6)
    replace HM := Lib.hid (HM.out.step hgl hrg hbl hc6 hg6)
    clear hc6 hg6 HP5
    go_wp2_with fail
    refine (spec_l04FileG W0 _ g _ HM.out.2.2.2.2.1).mono ?_; rintro e w7 ⟨f, P2, q2, r2, rfl, hrow, hq4, hgf, hc6, hg6⟩
    have hpz7 := HM.out.2.2.2.2.2.size
    have HRW := Lib.hid (show FRow 84 4 eAtr w7 w1.heap.size P2 q2 r2 f.attrs from hrow.low hpz7)
    have HOF := Lib.hid (show OkF f from ⟨by have := hrow.len; omega, hgf.1⟩)
    have HP := Lib.hid (HP6.out.draw hgl hg6)
    replace HM := Lib.hid (HM.out.step hgl hrg hbl hc6 hg6)
    clear hc6 hg6 HP6 hrow hgf y0 y1
    have hrb : w.heap.size < w1.heap.size := by omega
    have hrw : w.heap.size < w1.heap.size := hrb
    have v0 := blk_cell? HM.out.2.1 0
    have v1 := blk_cell? HM.out.2.1 1
    have v2 := blk_cell? HM.out.2.1 2
    have v3 := blk_cell? HM.out.2.1 3
    have v4 := blk_cell? HM.out.2.1 4
    have vf := blk_free HM.out.2.1
    simp only [List.getElem?_toArray, List.getElem?_cons_zero, List.getElem?_cons_succ] at v0 v1 v2 v3 v4
    go_wp2_with fail
    refine bodyPost_ret (v := .tuple #[.slice P pn pc, .agg #[.int .i64 f.id, .int .i64 f.owner, .bool f.shared, .int .i64 f.link, .slice P2 q2 r2]]) (by simp [results, Try.results34, go_sem, v0, v1, v2, v3, v4]) rfl ?_
    have hc : Chg [w.heap.size] w7 _ := ((((((Chg.refl [w.heap.size] w7).set (a := ⟨w.heap.size, 0, none⟩) (by simp) (.int .i64 f.id)).set (a := ⟨w.heap.size, 1, none⟩) (by simp) (.int .i64 f.owner)).set (a := ⟨w.heap.size, 2, none⟩) (by simp) (.bool f.shared)).set (a := ⟨w.heap.size, 3, none⟩) (by simp) (.int .i64 f.link)).set (a := ⟨w.heap.size, 4, none⟩) (by simp) (.slice P2 q2 r2))
    have hzz := HM.out.2.2.2.2.2.size
    exact ⟨fs, m, nx, P, pn, pc, f, P2, q2, r2, HG.out, rfl, (HP.out.draw hrb hc).lower (by omega), (row_draw HRW.out hrw hc).low (by omega), HOF.out, Below.mark (Below.mark HB1.out HM.out.2.2.2.2.2 HB1.out.size (fun x hx => by simp only [List.mem_singleton] at hx; omega)) hc (by have := HB1.out.size; omega) (fun x hx => by simp only [List.mem_singleton] at hx; omega)⟩
end Go.Proofs.Ytjobgnioehkomaa
namespace Go.Proofs.Ytjobgnioehkomaa
open Go.RowKit
set_option linter.unusedVariables false
set_option maxRecDepth 100000
set_option maxHeartbeats 1600000 in
theorem spec_DrawRemoveFromIndex (A0 : Option Addr) (n0 c0 : Nat) (l : List Int) (w : World) (hS : Sl 1 RByt w A0 n0 l) (hn : n0 ≤ 1048576) (hl : ∀ y ∈ l, 0 ≤ y ∧ y ≤ 255) : Calls Try.prog 35 #[.slice A0 n0 c0] w (IxF w) := by
  have HN := Lib.hid fun w' (hb : Below w.heap.size w w') => spec_DrawAddToIndex A0 n0 c0 l w' (hS.mono mByt hb) hn hl
  clear hS hl
  go_enter Try.func35, Try.ntmps35
  go_wp2_with fail
  refine (HN.out _ (by go_grown)).mono ?_; rintro e w5 ⟨fs, m, nx, P, pn, pc, f, A, q, r, hG, rfl, hp, hr, hof, hb⟩
  have hv := below_keep hb (hp_new rfl)
  have HB := Lib.hid (ex_trans (ex_alloc (Below.refl w.heap.size w) _) hb)
  have HP := Lib.hid (hp.lower (show w.heap.size + 1 ≤ _ by simp))
  have HR := Lib.hid (hr.low (show w.heap.size + 1 ≤ _ by simp))
  have HG := Lib.hid (And.intro hG hof)
  clear hp hr hb hG hof HN
  have v0 := blk_cell? hv 0
  have v1 := blk_cell? hv 1
  have v2 := blk_cell? hv 2
  have v3 := blk_cell? hv 3
  have v4 := blk_cell? hv 4
  have vf := blk_free hv
  simp only [List.getElem?_toArray, List.getElem?_cons_zero, List.getElem?_cons_succ] at v0 v1 v2 v3 v4
  clear hv
  go_wp2_with fail
  refine bodyPost_ret (v := .tuple #[.slice P pn pc, .agg #[.int .i64 f.id, .int .i64 f.owner, .bool f.shared, .int .i64 f.link, .slice A q r]]) (by simp [results, Try.results35, go_sem, v0, v1, v2, v3, v4]) rfl ?_
  have hc : Chg [w.heap.size] w5 _ := ((((((Chg.refl [w.heap.size] w5).set (a := ⟨w.heap.size, 0, none⟩) (by simp) (.int .i64 f.id)).set (a := ⟨w.heap.size, 1, none⟩) (by simp) (.int .i64 f.owner)).set (a := ⟨w.heap.size, 2, none⟩) (by simp) (.bool f.shared)).set (a := ⟨w.heap.size, 3, none⟩) (by simp) (.int .i64 f.link)).set (a := ⟨w.heap.size, 4, none⟩) (by simp) (.slice A q r))
  exact ⟨fs, m, nx, P, pn, pc, f, A, q, r, HG.out.1, rfl, HP.out.draw (by omega) hc, row_draw HR.out (by omega) hc, HG.out.2, Below.mark HB.out hc HB.out.size (fun x hx => by simp only [List.mem_singleton] at hx; omega)⟩
set_option maxHeartbeats 1600000 in
theorem spec_DrawBuildIndex (A0 : Option Addr) (n0 c0 : Nat) (l : List Int) (w : World) (hS : Sl 1 RByt w A0 n0 l) (hn : n0 ≤ 1048576) (hl : ∀ y ∈ l, 0 ≤ y ∧ y ≤ 255) :
    Calls Try.prog 43 #[.slice A0 n0 c0] w fun e w' => ∃ (fs : List Fil) (nx : Int) (A : Option Addr) (c : Nat) (B : Option Addr) (m d : Nat), e = .returned (.agg #[.slice A 4 c, .slice B m d, .int .i64 nx]) ∧ Sl 2 RFld w' A 4 usualL ∧ Sl 5 RFil w' B m fs ∧ StoG fs m nx ∧ 1 ≤ m ∧ m ≤ 7 ∧ nx ≤ 8 ∧ Below w.heap.size w w' := by
  have HN := Lib.hid fun w' (hb : Below w.heap.size w w') => spec_l01New A0 n0 c0 l w' (hS.mono mByt hb) hn hl
  clear hS hl
  go_enter Try.func43, Try.ntmps43
  go_wp2_with fail
  refine (HN.out _ (by go_grown)).mono ?_; rintro e w1 ⟨g, rfl, hC⟩
  have hk := (cur_w hC).2
  have HR1 := Lib.hid (below_keep hk (hp_new rfl))
  have HB1 := Lib.hid (ex_trans (ex_alloc (Below.refl w.heap.size w) _) hk)
  have hgw := (cur_w hC).1
  have HC1 := Lib.hid hC
  simp at hgw
  clear hC hk
  go_wp2_with fail
  refine (spec_l05Store _ _ g HC1.out).mono ?_; rintro e w2 ⟨fs, nx, A, c, B, m, d, rfl, hr, hf, hG, hm1, hm7, hx8, hc2, hg2⟩
  have HR2 := Lib.hid (hg2.keepb HR1.out (by simp only [List.mem_singleton]; omega))
  have HB2 := Lib.hid (Below.mark HB1.out hg2 HB1.out.size (by simp only [List.mem_singleton]; intro b hb; omega))
  have HF2 := Lib.hid (And.intro hr hf)
  have HG := Lib.hid hG
  have hzw : w.heap.size < w1.heap.size := blk_lt HR1.out
  clear hr hf hG hc2 hg2
  have r0 := blk_cell? HR2.out 0
  have r1 := blk_cell? HR2.out 1
  have r2 := blk_cell? HR2.out 2
  have rf := blk_free HR2.out
  simp only [List.getElem?_toArray, List.getElem?_cons_zero, List.getElem?_cons_succ] at r0 r1 r2
  go_wp2_with fail
  refine bodyPost_ret (v := .agg #[.slice A 4 c, .slice B m d, .int .i64 nx]) (by simp [results, Try.results43, go_sem, r0, r1, r2]) rfl ?_
  have hc : Chg [w.heap.size] w2 _ := ((((Chg.refl [w.heap.size] w2).set (a := ⟨w.heap.size, 0, none⟩) (by simp) (.slice A 4 c)).set (a := ⟨w.heap.size, 1, none⟩) (by simp) (.slice B m d)).set (a := ⟨w.heap.size, 2, none⟩) (by simp) (.int .i64 nx))
  exact ⟨fs, nx, A, c, B, m, d, rfl, (HF2.out.1.chg hc (fun b hb h => by have := (HF2.out.1.base b hb).1; simp only [List.mem_singleton] at h; omega)).sl (R := RFld) encFld (fun _ => rfl), (HF2.out.2.draw (by omega) hc).sl, HG.out, hm1, hm7, hx8, Below.mark HB2.out hc HB2.out.size (fun b hb => by simp only [List.mem_singleton] at hb; omega)⟩
/-- two drawn indexes -/
def TwoIx (w : World) (e : Ending) (w' : World) : Prop := ∃ (fs : List Fil) (m : Nat) (nx : Int) (P : Option Addr) (pn pc : Nat) (fs2 : List Fil) (m2 : Nat) (nx2 : Int) (P2 : Option Addr) (pn2 pc2 : Nat), StoG fs m nx ∧ StoG fs2 m2 nx2 ∧ e = .returned (.tuple #[.slice P pn pc, .slice P2 pn2 pc2]) ∧ Sl 5 RPst w' P pn (bldX ⟨usualL, fs, nx⟩) ∧ Sl 5 RPst w' P2 pn2 (bldX ⟨usualL, fs2, nx2⟩) ∧ Below w.heap.size w w'
set_option maxHeartbeats 1600000 in
theorem spec_DrawEqualIndexes (A0 : Option Addr) (n0 c0 : Nat) (l : List Int) (w : World) (hS : Sl 1 RByt w A0 n0 l) (hn : n0 ≤ 1048576) (hl : ∀ y ∈ l, 0 ≤ y ∧ y ≤ 255) : Calls Try.prog 36 #[.slice A0 n0 c0] w (TwoIx w) := by
  have HN := Lib.hid fun w' (hb : Below w.heap.size w w') => spec_l01New A0 n0 c0 l w' (hS.mono mByt hb) hn hl
  clear hS hl
  go_enter Try.func36, Try.ntmps36
  go_wp2_with fail
  refine (HN.out _ (by go_grown)).mono ?_; rintro e w1 ⟨g, rfl, hC⟩
  have hgw := (cur_w hC).1
  have HB1 := Lib.hid (cur_w hC).2
  have hgl := cur_lt hC
  have HC1 := Lib.hid hC
  clear hC
  go_wp2_with fail
  refine (spec_l05Store _ _ g HC1.out).mono ?_; rintro e w2 ⟨fs, nx, A, c, B, m, d, rfl, hr, hf, hG, hm1, hm7, hx8, hc2, hg2⟩
  have HG := Lib.hid hG
  have HX2 := Lib.hid (And.intro hf (And.intro hc2 hg2))
  have hbl := hg2.size
  clear hr hf hG hc2 hg2
  go_wp2_with fail
  generalize hw3 : World.alloc w2 _ = w3
  have hba : Below w2.heap.size w2 w3 := by rw [← hw3]; exact (Below.refl _ _).alloc (Nat.le_refl _) _
  have hbx : w3.heap[w2.heap.size]? = some (.cells #[.slice A 4 c, .slice B m d, .int .i64 nx] 40 (0, 0)) := by rw [← hw3]; exact hp_new rfl
  have HM3 := Lib.hid (And.intro (HX2.out.1.below hba) (And.intro (HX2.out.2.1.below hba) (HX2.out.2.2.trans (Chg.of_below _ hba))))
  have HBX3 := Lib.hid hbx
  clear hw3 HX2 hba hbx
  generalize w2.heap.size = b at *
  refine (spec_l01Once _ _ g 2 (by omega) (by omega) HM3.out.2.1).mono ?_; rintro e w4 ⟨q, rfl, hc4, hg4⟩
  have HBX := Lib.hid (hg4.keepb HBX3.out (by simp only [List.mem_singleton]; omega))
  have HM := Lib.hid (And.intro (HM3.out.1.draw hgl hg4) (And.intro hc4 (HM3.out.2.2.trans hg4)))
  clear hc4 hg4 HM3 HBX3
  cases q with
  | true =>
    have y0 := blk_cell? HBX.out 0
    have y1 := blk_cell? HBX.out 1
    have y2 := blk_cell? HBX.out 2
    simp only [List.getElem?_toArray, List.getElem?_cons_zero, List.getElem?_cons_succ] at y0 y1 y2
    go_upto_region 4 with fail
    refine wp_region_held_drew (S := (fun w' => w'.cell? ⟨b, 0, none⟩ = some (.slice A 4 c) ∧ w'.cell? ⟨b, 1, none⟩ = some (.slice B m d) ∧ w'.cell? ⟨b, 2, none⟩ = some (.int .i64 nx) ∧ Below w4.heap.size w4 w')) (by kernel_rfl) (by (try dsimp only); exact ⟨y0, y1, y2, (Below.refl _ _).drew⟩) (fun hHeld => ?_)
    first | refine tkA 0 ?_ | refine skA 0 ?_
    simp only [Act.put, List.setIfInBounds_toArray, List.set_cons_zero, List.set_cons_succ]
    first | refine tkA 2 ?_ | refine skA 2 ?_
    simp only [Act.put, List.setIfInBounds_toArray, List.set_cons_zero, List.set_cons_succ]
    refine held_one 1 (by kernel_rfl) rfl (fun K hK => ?_)
    go_simp
    go_at_call 46
    refine (spec_BuildG HG.out A c B d _ (HM.out.1.sl.mono mFil hHeld.2.2.2)).mono ?_; rintro e wq1 ⟨P1, pn1, pc1, rfl, hp1, hb1⟩
    have HP1 := Lib.hid hp1
    go_wp2_with fail
    refine hK.out _ _ (by (try dsimp only); exact ⟨keep_cell hb1 hHeld.1, keep_cell hb1 hHeld.2.1, keep_cell hb1 hHeld.2.2.1, ex_trans hHeld.2.2.2 hb1⟩) (fun hNew => ?_)
    clear hK K hHeld
    have hHeld := hNew
    clear hNew
    try simp only [Act.put, List.setIfInBounds_toArray, List.set_cons_zero, List.set_cons_succ]
    clear hp1
    refine held_one 3 (by kernel_rfl) rfl (fun K hK => ?_)
    go_simp
    go_at_call 46
    refine (spec_BuildG HG.out A c B d _ (HM.out.1.sl.mono mFil hHeld.2.2.2)).mono ?_; rintro e wq2 ⟨P2, pn2, pc2, rfl, hp2, hb2⟩
    have HP2 := Lib.hid hp2
    go_wp2_with fail
    refine hK.out _ _ (by (try dsimp only); exact ⟨keep_cell hb2 hHeld.1, keep_cell hb2 hHeld.2.1, keep_cell hb2 hHeld.2.2.1, ex_trans hHeld.2.2.2 hb2⟩) (fun hNew => ?_)
    clear hK K hHeld
    have hHeld := hNew
    clear hNew
    try simp only [Act.put, List.setIfInBounds_toArray, List.set_cons_zero, List.set_cons_succ]
    first | refine tkA 4 ?_ | refine skA 4 ?_
    simp only [Act.put, List.setIfInBounds_toArray, List.set_cons_zero, List.set_cons_succ]
    first | refine tkA 5 ?_ | refine skA 5 ?_
    simp only [Act.put, List.setIfInBounds_toArray, List.set_cons_zero, List.set_cons_succ]
    refine wpAnyH_done (by kernel_rfl) ?_ _
    have hB := hHeld.2.2.2
    have HP3 := Lib.hid (HP1.out.below hb2)
    clear hHeld hp2 hb1 hb2
    go_wp2_with fail
    go_returns
    exact ⟨fs, m, nx, P1, pn1, pc1, fs, m, nx, P2, pn2, pc2, HG.out, HG.out, rfl, HP3.out.sl, HP2.out.sl, ex_trans (Below.mark HB1.out HM.out.2.2 HB1.out.size (fun x hx => by simp only [List.mem_singleton] at hx; omega)) hB⟩
  | false =>
    have y0 := blk_cell? HBX.out 0
    have y1 := blk_cell? HBX.out 1
    have y2 := blk_cell? HBX.out 2
    simp only [List.getElem?_toArray, List.getElem?_cons_zero, List.getElem?_cons_succ] at y0 y1 y2
    go_wp2_with fail
    refine (spec_BuildG HG.out A c B d _ HM.out.1.sl).mono ?_; rintro e w5 ⟨P, pn, pc, rfl, hp, hb5⟩
    have hpz := HM.out.2.2.size
    have HP5 := Lib.hid (show PRows 107 3 w5 w1.heap.size P pn pc (bldX ⟨usualL, fs, nx⟩) from hp.lower hpz)
    have HC5 := Lib.hid (HM.out.2.1.below hb5)
    have HK5 := Lib.hid (HM.out.2.2.trans (Chg.of_below _ hb5))
    clear hp hb5 y0 y1 y2
    go_wp2_with fail
    refine (spec_l05Store _ _ g HC5.out).mono ?_; rintro e w6 ⟨fs2, nx2, A2, c2, B2, m2, d2, rfl, hr2, hf2, hG2, -, -, -, hc6, hg6⟩
    have HP6 := Lib.hid (HP5.out.draw hgl hg6)
    have HK6 := Lib.hid (HK5.out.trans hg6)
    have HG2 := Lib.hid hG2
    have HF6 := Lib.hid hf2
    clear hr2 hf2 hG2 hc6 hg6
    go_wp2_with fail
    refine (spec_BuildG HG2.out A2 c2 B2 d2 _ HF6.out.sl).mono ?_; rintro e w7 ⟨P2, pn2, pc2, rfl, hp2, hb7⟩
    have HP7 := Lib.hid (HP6.out.below hb7)
    have HQ7 := Lib.hid hp2
    have HB7 := Lib.hid (ex_trans (Below.mark HB1.out HK6.out HB1.out.size (fun x hx => by simp only [List.mem_singleton] at hx; omega)) hb7)
    clear hp2 hb7
    go_wp2_with fail
    go_returns
    exact ⟨fs, m, nx, P, pn, pc, fs2, m2, nx2, P2, pn2, pc2, HG.out, HG2.out, rfl, HP7.out.sl, HQ7.out.sl, HB7.out⟩
end Go.Proofs.Ytjobgnioehkomaa
