/-
  PLAIN: decimal and hexadecimal figures, fields of a line: what both sides of the text functions say.
-/
import Derived.Lib.ItoaNum
import Derived.Lib.AtoiTie
import Derived.Lib.HexFns2
import Derived.Lib.FieldsLaws
namespace Go.Proofs.YtkoagijliokhlaaDoor
open Go Go.Lib
set_option linter.unusedVariables false
theorem itoa_nat (n : Nat) : Lib.itoa (n : Int) = Lib.decDigits n := by
  unfold Lib.itoa
  rw [if_neg (by omega)]
  simp

theorem dd_lt {n : Nat} (h : n < 10) : Lib.decDigits n = [UInt8.ofNat (48 + n)] := by rw [Lib.decDigits, dif_pos h]
theorem dd_ge {n : Nat} (h : ¬ n < 10) : Lib.decDigits n = Lib.decDigits (n / 10) ++ [UInt8.ofNat (48 + n % 10)] := by rw [Lib.decDigits, dif_neg h]

/-- the digits of what is left, none for 0 -/
def ddz (n : Nat) : List UInt8 := if n = 0 then [] else Lib.decDigits n
theorem ddz_step {n : Nat} (h : n ≠ 0) : ddz n = ddz (n / 10) ++ [UInt8.ofNat (48 + n % 10)] := by
  unfold ddz
  rw [if_neg h]
  by_cases hn : n < 10
  · rw [dd_lt hn, if_pos (by omega), Nat.mod_eq_of_lt hn]; rfl
  · rw [dd_ge hn, if_neg (by omega)]

theorem decFrom_app : ∀ (l m : List UInt8) (acc n : Nat), Lib.decFrom acc l = some n → Lib.decFrom acc (l ++ m) = Lib.decFrom n m
  | [], m, acc, n, h => by simp only [Lib.decFrom, Option.some.injEq] at h; subst h; rfl
  | b :: r, m, acc, n, h => by
    simp only [Lib.decFrom, List.cons_append] at h ⊢
    cases hd : Lib.digitVal b with
    | none => rw [hd] at h; cases h
    | some d => rw [hd] at h; exact decFrom_app r m _ n h
theorem digitVal_mk {d : Nat} (h : d < 10) : Lib.digitVal (UInt8.ofNat (48 + d)) = some d := by
  unfold Lib.digitVal
  have e : (UInt8.ofNat (48 + d)).toNat = 48 + d := by rw [UInt8.toNat_ofNat']; omega
  rw [e, if_pos (by omega)]
  congr 1; omega
theorem decFrom_dd (n : Nat) : Lib.decFrom 0 (Lib.decDigits n) = some n := by
  induction n using Nat.strongRecOn with
  | _ n ih =>
    by_cases h : n < 10
    · rw [dd_lt h]
      simp only [Lib.decFrom, digitVal_mk h]
      simp
    · rw [dd_ge h, decFrom_app _ _ _ _ (ih (n / 10) (by omega))]
      simp only [Lib.decFrom, digitVal_mk (Nat.mod_lt n (by decide : 0 < 10))]
      congr 1; omega
theorem dd_ne (n : Nat) : Lib.decDigits n ≠ [] := by
  by_cases h : n < 10
  · rw [dd_lt h]; simp
  · rw [dd_ge h]; simp
theorem decNat_dd (n : Nat) : Lib.decNat (Lib.decDigits n) = some n := by
  unfold Lib.decNat
  have h := dd_ne n
  cases hd : Lib.decDigits n with
  | nil => exact absurd hd h
  | cons b r => rw [← hd]; have : (Lib.decDigits n).isEmpty = false := by rw [hd]; rfl
                rw [this]; exact decFrom_dd n
theorem digit_of_dd (n : Nat) : ∀ b ∈ Lib.decDigits n, 48 ≤ b.toNat ∧ b.toNat ≤ 57 := by
  intro b hb
  obtain ⟨k, hk⟩ := List.getElem?_of_mem hb
  obtain ⟨d, hd⟩ := Lib.digit_of_decFrom _ _ _ (decFrom_dd n) k b hk
  have := Lib.digitVal_eq hd
  omega
theorem atoi_dd {n : Nat} (h : (Lib.decDigits n).length ≤ 18) : Lib.atoiAll (Lib.decDigits n) = .ok (n : Int) := by
  cases hd : Lib.decDigits n with
  | nil => exact absurd hd (dd_ne n)
  | cons b r =>
    have hb := digit_of_dd n b (by rw [hd]; simp)
    rw [Lib.atoiAll_plain b r (by omega) (by omega), ← hd, Lib.signless_short h, decNat_dd]
    rfl

/-- what both sides of ParseUint say -/
def pu (l : List UInt8) : Option Nat :=
  match Lib.decFrom 0 l with
  | some n => if l.length ≤ 10 ∧ n ≤ 1000000000 ∧ Lib.decDigits n = l then some n else none
  | none => none
theorem pu_some {l : List UInt8} {n : Nat} : pu l = some n ↔ l.length ≤ 10 ∧ n ≤ 1000000000 ∧ Lib.decDigits n = l := by
  unfold pu
  constructor
  · intro h
    cases hd : Lib.decFrom 0 l with
    | none => rw [hd] at h; cases h
    | some m =>
      rw [hd] at h
      simp only at h
      split at h
      · rename_i hc
        simp only [Option.some.injEq] at h
        subst h; exact hc
      · cases h
  · rintro ⟨h1, h2, h3⟩
    have : Lib.decFrom 0 l = some n := by rw [← h3]; exact decFrom_dd n
    rw [this]; simp only
    rw [if_pos ⟨h1, h2, h3⟩]
theorem pu_none {l : List UInt8} (h : ∀ n, l.length ≤ 10 → n ≤ 1000000000 → Lib.decDigits n ≠ l) : pu l = none := by
  cases hp : pu l with
  | none => rfl
  | some n => obtain ⟨h1, h2, h3⟩ := pu_some.1 hp; exact absurd h3 (h n h1 h2)
theorem pu_ok {l : List UInt8} {v : Int} (hl : l.length ≤ 10) (h0 : 0 ≤ v) (h1 : v ≤ 1000000000) (h2 : Lib.itoa v = l) : pu l = some v.toNat := by
  obtain ⟨n, rfl⟩ : ∃ n : Nat, v = n := ⟨v.toNat, by omega⟩
  rw [itoa_nat] at h2
  exact pu_some.2 ⟨hl, by omega, by simpa using h2⟩
/-- of a number that Atoi gives and that does not spell the text back nothing is left -/
theorem pu_bad {l : List UInt8} {v : Int} (ha : Lib.atoiAll l = .ok v) (h : ¬ (0 ≤ v ∧ v ≤ 1000000000 ∧ Lib.itoa v = l)) : pu l = none := by
  refine pu_none fun n hl hn he => h ?_
  have := atoi_dd (n := n) (by rw [he]; omega)
  rw [he, ha] at this
  simp only [Lib.NumEnd.ok.injEq] at this
  subst this
  exact ⟨by omega, by omega, by rw [itoa_nat]; exact he⟩
theorem pu_err {l : List UInt8} (ha : ∀ v, Lib.atoiAll l ≠ .ok v) : pu l = none := by
  refine pu_none fun n hl hn he => ?_
  have := atoi_dd (n := n) (by rw [he]; omega)
  rw [he] at this
  exact ha _ this
theorem pu_long {l : List UInt8} (h : 10 < l.length) : pu l = none := pu_none fun n hl _ _ => by omega
theorem pu_sign {l : List UInt8} (h : Lib.decFrom 0 l = none) : pu l = none := by unfold pu; rw [h]
theorem pu_num {l : List UInt8} {n : Nat} (h : Lib.decFrom 0 l = some n) (hl : l.length ≤ 10) (hb : ¬ (n ≤ 1000000000 ∧ Lib.itoa n = l)) : pu l = none := by
  refine pu_none fun m h1 h2 h3 => hb ?_
  have := decFrom_dd m
  rw [h3, h] at this
  simp only [Option.some.injEq] at this
  subst this
  exact ⟨h2, by rw [itoa_nat]; exact h3⟩
theorem v_digit : ∀ d : Fin 16, Hx.v (Hx.digit d.val) = d.val := by decide +kernel
theorem v_dig {d : Nat} (h : d < 16) : Hx.v (Hx.digit d) = d := v_digit ⟨d, h⟩
theorem decode_encode : ∀ p : List UInt8, Hx.decode (Hx.encode p) = (p, .ok)
  | [] => Hx.decode_nil
  | a :: t => by
    have h1 : a.toNat / 16 < 16 := by have := a.toNat_lt; omega
    have h2 : a.toNat % 16 < 16 := Nat.mod_lt _ (by decide)
    rw [Hx.encode_cons, Hx.decode_two, v_dig h1, v_dig h2, if_neg (by omega), if_neg (by omega), decode_encode t]
    simp only [Prod.mk.injEq, and_true, List.cons.injEq]
    rw [show a.toNat / 16 * 16 + a.toNat % 16 = a.toNat by omega]
    simp
open Classical in
/-- what both sides of DecodeHex say -/
noncomputable def dh (l : List UInt8) : Option (List UInt8) := if (Hx.decode l).1.length ≤ 20000 ∧ Hx.encode (Hx.decode l).1 = l then some (Hx.decode l).1 else none
theorem dh_some {l p : List UInt8} : dh l = some p ↔ p.length ≤ 20000 ∧ Hx.encode p = l := by
  unfold dh
  constructor
  · intro h
    split at h
    · rename_i hc
      simp only [Option.some.injEq] at h
      subst h; exact hc
    · cases h
  · rintro ⟨h1, rfl⟩
    rw [decode_encode]
    simp [h1]
theorem dh_none {l : List UInt8} (h : ∀ p, p.length ≤ 20000 → Hx.encode p ≠ l) : dh l = none := by
  cases hp : dh l with
  | none => rfl
  | some n => obtain ⟨h1, h2⟩ := dh_some.1 hp; exact absurd h2 (h n h1)
theorem dh_bad {l : List UInt8} (h : (Hx.decode l).2 ≠ .ok) : dh l = none := dh_none fun p _ he => h (by rw [← he, decode_encode])
theorem dh_not {l : List UInt8} (h : ¬ ((Hx.decode l).1.length ≤ 20000 ∧ Hx.encode (Hx.decode l).1 = l)) : dh l = none := dh_none fun p h1 he => h (by rw [← he, decode_encode]; exact ⟨h1, rfl⟩)
theorem dh_odd {l : List UInt8} (h : l.length % 2 ≠ 0) : dh l = none := dh_none fun p _ he => h (by rw [← he, Hx.encode_length]; omega)
theorem dh_long {l : List UInt8} (h : 40000 < l.length) : dh l = none := dh_none fun p h1 he => by have := Hx.encode_length p; rw [he] at this; omega
/-- the value of a lower case hexadecimal figure -/
def lowV (x : Int) : Int := if 48 ≤ x ∧ x ≤ 57 then x - 48 else if 97 ≤ x ∧ x ≤ 102 then x - 87 else -1
theorem lowV_digit : ∀ d : Fin 16, lowV ((Hx.digit d.val).toNat : Int) = d.val := by decide +kernel
theorem lowV_dig {d : Nat} (h : d < 16) : lowV ((Hx.digit d).toNat : Int) = d := lowV_digit ⟨d, h⟩
theorem dig_lowV : ∀ c : Fin 256, 0 ≤ lowV (c.val : Int) → Hx.digit (lowV (c.val : Int)).toNat = UInt8.ofNat c.val ∧ lowV (c.val : Int) < 16 := by decide +kernel
theorem dig_low (c : UInt8) (h : 0 ≤ lowV (c.toNat : Int)) : Hx.digit (lowV (c.toNat : Int)).toNat = c ∧ lowV (c.toNat : Int) < 16 := by
  have := dig_lowV ⟨c.toNat, c.toNat_lt⟩ h
  simpa using this
theorem encode_app (a b : List UInt8) : Hx.encode (a ++ b) = Hx.encode a ++ Hx.encode b := by simp [Hx.encode, List.flatMap_append]
theorem enc_low (p : List UInt8) : ∀ (k : Nat) (c : UInt8), (Hx.encode p)[k]? = some c → 0 ≤ lowV (c.toNat : Int) := by
  intro k c hk
  have hm := List.mem_of_getElem? hk
  unfold Hx.encode at hm
  obtain ⟨b, _, hb⟩ := List.mem_flatMap.1 hm
  have h1 : b.toNat / 16 < 16 := by have := b.toNat_lt; omega
  have h2 : b.toNat % 16 < 16 := Nat.mod_lt _ (by decide)
  simp only [List.mem_cons, List.not_mem_nil, or_false] at hb
  rcases hb with rfl | rfl
  · rw [lowV_dig h1]; omega
  · rw [lowV_dig h2]; omega
theorem dh_fig {l : List UInt8} {k : Nat} {c : UInt8} (hk : l[k]? = some c) (h : lowV (c.toNat : Int) < 0) : dh l = none := dh_none fun p _ he => by
  have := enc_low p k c (by rw [he]; exact hk)
  omega
/-- one byte more -/
theorem enc_step {l p : List UInt8} {k : Nat} {x y : UInt8} (h : Hx.encode p = l.take (2 * k)) (hx : l[2 * k]? = some x) (hy : l[2 * k + 1]? = some y) (h1 : 0 ≤ lowV (x.toNat : Int)) (h2 : 0 ≤ lowV (y.toNat : Int)) :
    Hx.encode (p ++ [UInt8.ofNat (16 * lowV (x.toNat : Int) + lowV (y.toNat : Int)).toNat]) = l.take (2 * (k + 1)) := by
  obtain ⟨a1, a2⟩ := dig_low x h1
  obtain ⟨b1, b2⟩ := dig_low y h2
  generalize lowV (x.toNat : Int) = u at *
  generalize lowV (y.toNat : Int) = v at *
  have e : (UInt8.ofNat (16 * u + v).toNat).toNat = (16 * u + v).toNat := by rw [UInt8.toNat_ofNat']; omega
  rw [encode_app, h, Hx.encode_cons, e, show (16 * u + v).toNat / 16 = u.toNat by omega, show (16 * u + v).toNat % 16 = v.toNat by omega, a1, b1]
  rw [show 2 * (k + 1) = 2 * k + 1 + 1 by omega, List.take_add_one, List.take_add_one, hx, hy]
  simp [Hx.encode]

/-! ### fields of a line of printable bytes -/
/-- the line without its blanks; none where a byte is out of range or the line is too long -/
def sfBytes (l : List UInt8) : Prop := ∀ b ∈ l, 32 ≤ b.toNat ∧ b.toNat ≤ 126
theorem isSp_print {b : UInt8} (h1 : 32 ≤ b.toNat) (h2 : b.toNat ≤ 126) : Lib.isSp b = decide (b.toNat = 32) := by
  have key : ∀ c : Fin 256, 32 ≤ c.val → c.val ≤ 126 → Lib.isSp (UInt8.ofNat c.val) = decide (c.val = 32) := by decide +kernel
  have := key ⟨b.toNat, b.toNat_lt⟩ h1 h2
  simpa using this
/-! ### the figures of the program itself -/
theorem fig_hex : ∀ d : Fin 16, (Hx.digit d.val).toNat = if d.val < 10 then 48 + d.val else 87 + d.val := by decide +kernel
theorem fig_dec {d : Nat} (h : d < 10) : UInt8.ofNat (48 + d) = Hx.digit d := by
  have := fig_hex ⟨d, by omega⟩
  simp only at this
  rw [if_pos h] at this
  rw [← this]; simp
end Go.Proofs.YtkoagijliokhlaaDoor
