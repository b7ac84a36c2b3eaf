/-
  PLAIN: a list of texts put in one by one is the list sorted, each once.
-/
import Derived.WalkKit
import Derived.Lib.Hide
import Derived.Lib.SlicesCompact
import Derived.Test.YtjobgnioehkomaaLib
import Derived.Test.YtjobgnioehkomaaOwn
import Derived.Test.YtjobgnioehkomaaRow
import Derived.Test.YtjobgnioehkomaaC1
import Derived.Test.YtjobgnioehkomaaC2
import Derived.Test.YtjobgnioehkomaaC3
import Derived.Test.YtjobgnioehkomaaD1
import Derived.Test.YtjobgnioehkomaaD7
import Derived.Test.YtjobgnioehkomaaQ5
import Derived.Test.YtjobgnioehkomaaP4
import Derived.Test.YtjobgnioehkomaaRows
namespace Go.Proofs.Ytjobgnioehkomaa
open Go.RowKit
set_option linter.unusedVariables false
abbrev lessB (x y : List UInt8) : Bool := Op.bytesLess x y
def leB (x y : List UInt8) : Bool := !lessB y x
theorem less_or (x y : List UInt8) : lessB x y = true ∨ x = y ∨ lessB y x = true := by
  have h := bless_gt x y
  cases h1 : Op.bytesLess x y with
  | true => exact .inl h1
  | false =>
    rw [h1] at h
    cases h2 : (x == y) with
    | true => exact .inr (.inl (by simpa using h2))
    | false => rw [h2] at h; exact .inr (.inr h)
theorem leB_trans (x y z : List UInt8) (h1 : leB x y = true) (h2 : leB y z = true) : leB x z = true := by
  unfold leB at *
  cases h : lessB z x with
  | false => rfl
  | true =>
    exfalso
    rcases less_or x y with h3 | rfl | h3
    · have h4 := bless_trans z x y h h3
      rw [show lessB z y = true from h4] at h2
      cases h2
    · rw [h] at h2; cases h2
    · rw [h3] at h1; cases h1
theorem leB_total (x y : List UInt8) : (leB x y || leB y x) = true := by
  unfold leB
  cases h : lessB y x with
  | false => rfl
  | true =>
    cases h2 : lessB x y with
    | false => rfl
    | true =>
      have := bless_trans x y x h2 h
      rw [bless_irrefl] at this
      cases this
theorem leB_lt {x y : List UInt8} (h : leB x y = true) (hne : x ≠ y) : lessB x y = true := by
  rcases less_or x y with h1 | h1 | h1
  · exact h1
  · exact absurd h1 hne
  · unfold leB at h; rw [h1] at h; cases h
def Asc (l : List (List UInt8)) : Prop := l.Pairwise fun x y => lessB x y = true
theorem asc_ext : ∀ (l m : List (List UInt8)), Asc l → Asc m → (∀ x, x ∈ l ↔ x ∈ m) → l = m
  | [], [], _, _, _ => rfl
  | [], y :: m, _, _, h => absurd ((h y).2 (by simp)) (by simp)
  | x :: l, [], _, _, h => absurd ((h x).1 (by simp)) (by simp)
  | x :: l, y :: m, h1, h2, h => by
    have a1 := List.pairwise_cons.1 h1
    have a2 := List.pairwise_cons.1 h2
    have irr : ∀ z, lessB z z = true → False := fun z hz => by rw [show lessB z z = false from bless_irrefl z] at hz; cases hz
    have hxy : x = y := by
      rcases List.mem_cons.1 ((h x).1 (by simp)) with e | hx
      · exact e
      · rcases List.mem_cons.1 ((h y).2 (by simp)) with e | hy
        · exact e.symm
        · exact (irr x (bless_trans x y x (a1.1 y hy) (a2.1 x hx))).elim
    subst hxy
    rw [asc_ext l m a1.2 a2.2 fun z => ⟨fun hz => ?_, fun hz => ?_⟩]
    · rcases List.mem_cons.1 ((h z).1 (by simp [hz])) with e | hm
      · exact (irr x (by have := a1.1 z hz; rw [e] at this; exact this)).elim
      · exact hm
    · rcases List.mem_cons.1 ((h z).2 (by simp [hz])) with e | hm
      · exact (irr x (by have := a2.1 z hz; rw [e] at this; exact this)).elim
      · exact hm
/-- what is kept of an ascending row: each once, strictly ascending -/
theorem compact_asc (d : Array (List UInt8)) (hd : ∀ i j, i < j → j < d.size → leB d[i]! d[j]! = true) : ∀ m, m ≤ d.size →
    Asc (Lib.compactUpTo d m) ∧ (∀ x, x ∈ Lib.compactUpTo d m ↔ ∃ i, i < m ∧ d[i]! = x)
  | 0, _ => ⟨List.Pairwise.nil, fun x => ⟨fun h => absurd h (by simp [Lib.compactUpTo]), fun ⟨i, hi, _⟩ => absurd hi (by omega)⟩⟩
  | m + 1, hm => by
    obtain ⟨h1, h2⟩ := compact_asc d hd m (by omega)
    rw [Lib.compactUpTo_succ]
    cases hk : Lib.keeps d m with
    | true =>
      have hk' : m = 0 ∨ d[m]! ≠ d[m - 1]! := by unfold Lib.keeps at hk; exact of_decide_eq_true hk
      refine ⟨List.pairwise_append.2 ⟨h1, List.pairwise_singleton _ _, fun x hx y hy => ?_⟩, fun x => ?_⟩
      · obtain rfl := List.mem_singleton.1 (by simpa using hy)
        obtain ⟨i, hi, rfl⟩ := (h2 x).1 hx
        have hm0 : m ≠ 0 := by omega
        have hne : d[m]! ≠ d[m - 1]! := hk'.resolve_left hm0
        have hlast : leB d[m - 1]! d[m]! = true := hd _ _ (by omega) (by omega)
        have hlt : lessB d[m - 1]! d[m]! = true := leB_lt hlast (fun e => hne e.symm)
        by_cases hi2 : i = m - 1
        · rw [hi2]; exact hlt
        · have h3 : leB d[i]! d[m - 1]! = true := hd _ _ (by omega) (by omega)
          by_cases he : d[i]! = d[m - 1]!
          · rw [he]; exact hlt
          · exact bless_trans _ _ _ (leB_lt h3 he) hlt
      · rw [List.mem_append, h2]
        constructor
        · rintro (⟨i, hi, e⟩ | h)
          · exact ⟨i, by omega, e⟩
          · exact ⟨m, by omega, (List.mem_singleton.1 (by simpa using h)).symm⟩
        · rintro ⟨i, hi, e⟩
          by_cases him : i = m
          · right; subst him; simp [e]
          · exact .inl ⟨i, by omega, e⟩
    | false =>
      have hk' : ¬ (m = 0 ∨ d[m]! ≠ d[m - 1]!) := by unfold Lib.keeps at hk; exact of_decide_eq_false hk
      have hm0 : m ≠ 0 := fun h => hk' (.inl h)
      have he : d[m]! = d[m - 1]! := Classical.byContradiction fun h => hk' (.inr h)
      refine ⟨by simpa using h1, fun x => ?_⟩
      simp only [Bool.false_eq_true, if_false, List.append_nil]
      rw [h2]
      constructor
      · rintro ⟨i, hi, e⟩; exact ⟨i, by omega, e⟩
      · rintro ⟨i, hi, e⟩
        by_cases him : i = m
        · exact ⟨m - 1, by omega, by rw [← he, ← him]; exact e⟩
        · exact ⟨i, by omega, e⟩
def onceB (l : List (List UInt8)) : List (List UInt8) := Lib.compact (l.mergeSort fun x y => decide (x ≤ y))
theorem le_dec (x y : List UInt8) : decide (x ≤ y) = leB x y := by
  unfold leB lessB
  rw [bytesLess_eq]
  by_cases h : y < x
  · rw [decide_eq_true h, decide_eq_false (List.not_le.2 h)]; rfl
  · rw [decide_eq_false h, decide_eq_true (List.not_lt.1 h)]; rfl
theorem onceB_ok (l : List (List UInt8)) : Asc (onceB l) ∧ ∀ x, x ∈ onceB l ↔ x ∈ l := by
  have e : (fun x y : List UInt8 => decide (x ≤ y)) = leB := by funext x y; exact le_dec x y
  unfold onceB
  rw [e]
  have hs := List.pairwise_mergeSort (le := leB) leB_trans leB_total l
  have hp := List.mergeSort_perm l leB
  obtain ⟨m, hm⟩ : ∃ m, m = l.mergeSort leB := ⟨_, rfl⟩
  rw [← hm] at hs hp ⊢
  have hget : ∀ i, (h : i < m.length) → m.toArray[i]! = m[i] := fun i h => by simp [getElem!_pos, h]
  obtain ⟨h1, h2⟩ := compact_asc m.toArray (fun i j hij hj => by
    have hj' : j < m.length := by simpa using hj
    rw [hget i (by omega), hget j hj']
    exact List.pairwise_iff_getElem.1 hs i j (by omega) hj' hij) m.length (by simp)
  refine ⟨h1, fun x => ?_⟩
  rw [← hp.mem_iff]
  refine (h2 x).trans ⟨fun ⟨i, hi, e⟩ => ?_, fun hx => ?_⟩
  · rw [hget i hi] at e; rw [← e]; exact List.getElem_mem hi
  · obtain ⟨i, hi, e⟩ := List.getElem_of_mem hx
    exact ⟨i, hi, by rw [hget i hi]; exact e⟩
/-! ### put in one by one -/
def geS (s x : ByteArray) : Bool := !Op.bytesLess x.toList s.toList
def putS (l : List ByteArray) (s : ByteArray) : List ByteArray := if l[l.findIdx (geS s)]? = some s then l else insL l s (l.findIdx (geS s))
def keyB (s : ByteArray) : List UInt8 := s.data.toList
theorem key_eq (s : ByteArray) : s.toList = keyB s := ByteArray.toList_eq s
def AscS (l : List ByteArray) : Prop := Asc (l.map keyB)
theorem key_inj {s t : ByteArray} (h : keyB s = keyB t) : s = t := by
  cases s with | mk a => cases t with | mk b =>
  have : a.toList = b.toList := h
  congr 1
  exact Array.toList_inj.1 this
theorem putS_ok {l : List ByteArray} {s : ByteArray} (h : AscS l) : AscS (putS l s) ∧ ∀ x, x ∈ putS l s ↔ x ∈ l ∨ x = s := by
  obtain ⟨k, hk⟩ : ∃ k, k = l.findIdx (geS s) := ⟨_, rfl⟩
  have hkl : k ≤ l.length := by rw [hk]; exact List.findIdx_le_length
  have hlow : ∀ i (hi : i < l.length), i < k → lessB (keyB l[i]) (keyB s) = true := fun i hi hik => by
    have h9 : geS s l[i] = false := by
      have := List.not_of_lt_findIdx (p := geS s) (xs := l) (by rw [← hk]; exact hik)
      simpa using this
    unfold geS at h9
    rw [key_eq, key_eq] at h9
    cases h8 : Op.bytesLess (keyB l[i]) (keyB s) with
    | true => exact h8
    | false => rw [h8] at h9; cases h9
  have hat : ∀ (hi : k < l.length), leB (keyB s) (keyB l[k]) = true := fun hi => by
    have h9 : geS s (l[k]) = true := by
      have := List.findIdx_getElem (p := geS s) (xs := l) (w := by rw [← hk]; exact hi)
      simpa only [← hk] using this
    unfold geS at h9
    rw [key_eq, key_eq] at h9
    exact h9
  unfold putS
  rw [← hk]
  split
  · rename_i he
    refine ⟨h, fun x => ⟨.inl, fun hx => ?_⟩⟩
    rcases hx with hx | rfl
    · exact hx
    · exact List.mem_of_getElem? he
  · rename_i hne
    have hsplit : l = l.take k ++ l.drop k := (List.take_append_drop k l).symm
    have hp := h
    unfold AscS Asc at hp
    rw [hsplit, List.map_append, List.pairwise_append] at hp
    obtain ⟨p1, p2, p3⟩ := hp
    have hlowm : ∀ y ∈ l.take k, lessB (keyB y) (keyB s) = true := fun y hy => by
      obtain ⟨i, hi, rfl⟩ := List.mem_take_iff_getElem.1 hy
      exact hlow i (by omega) (by omega)
    have hhigh : ∀ y ∈ l.drop k, lessB (keyB s) (keyB y) = true := fun y hy => by
      obtain ⟨i, hi, rfl⟩ := List.mem_drop_iff_getElem.1 hy
      have hkl2 : k < l.length := by omega
      have h8 : lessB (keyB s) (keyB l[k]) = true := leB_lt (hat hkl2) (fun e => hne (by rw [List.getElem?_eq_getElem hkl2, key_inj e]))
      by_cases hi0 : i = 0
      · subst hi0; simpa using h8
      · have h7 := List.pairwise_iff_getElem.1 h k (k + i) (by simpa using hkl2) (by simp; omega) (by omega)
        simp only [List.getElem_map] at h7
        exact bless_trans _ _ _ h8 h7
    refine ⟨?_, fun x => ?_⟩
    · unfold AscS Asc insL
      rw [List.map_append, List.map_cons, List.pairwise_append, List.pairwise_cons]
      refine ⟨p1, ⟨fun y hy => ?_, p2⟩, fun a ha b hb => ?_⟩
      · obtain ⟨z, hz, rfl⟩ := List.mem_map.1 hy
        exact hhigh z hz
      · obtain ⟨y, hy, rfl⟩ := List.mem_map.1 ha
        rcases List.mem_cons.1 hb with rfl | hb
        · exact hlowm y hy
        · exact p3 _ ha _ hb
    · unfold insL
      rw [List.mem_append, List.mem_cons]
      constructor
      · rintro (hx | rfl | hx)
        · exact .inl (List.mem_of_mem_take hx)
        · exact .inr rfl
        · exact .inl (List.mem_of_mem_drop hx)
      · rintro (hx | rfl)
        · rw [hsplit, List.mem_append] at hx
          rcases hx with hx | hx
          · exact .inl hx
          · exact .inr (.inr hx)
        · exact .inr (.inl rfl)
theorem putAll_ok : ∀ (ns l : List ByteArray), AscS l → AscS (ns.foldl putS l) ∧ ∀ x, x ∈ ns.foldl putS l ↔ x ∈ l ∨ x ∈ ns
  | [], l, h => ⟨h, fun x => by simp⟩
  | s :: ns, l, h => by
    obtain ⟨h1, h2⟩ := putS_ok (s := s) h
    obtain ⟨h3, h4⟩ := putAll_ok ns _ h1
    refine ⟨h3, fun x => ?_⟩
    rw [List.foldl_cons, h4, h2, List.mem_cons]
    constructor
    · rintro ((h | h) | h)
      · exact .inl h
      · exact .inr (.inl h)
      · exact .inr (.inr h)
    · rintro (h | h | h)
      · exact .inl (.inl h)
      · exact .inl (.inr h)
      · exact .inr h
def onceS (l : List ByteArray) : List ByteArray := (onceB (l.map keyB)).map fun b => ⟨b.toArray⟩
theorem onceS_put (l : List ByteArray) : onceS l = l.foldl putS [] := by
  obtain ⟨h1, h2⟩ := onceB_ok (l.map keyB)
  obtain ⟨h3, h4⟩ := putAll_ok l [] (by unfold AscS Asc; exact List.Pairwise.nil)
  have e : onceB (l.map keyB) = (l.foldl putS []).map keyB := asc_ext _ _ h1 h3 fun x => by
    rw [h2, List.mem_map, List.mem_map]
    constructor
    · rintro ⟨y, hy, rfl⟩; exact ⟨y, (h4 y).2 (.inr hy), rfl⟩
    · rintro ⟨y, hy, rfl⟩
      rcases (h4 y).1 hy with h | h
      · cases h
      · exact ⟨y, h, rfl⟩
  unfold onceS
  rw [e, List.map_map]
  have : ((fun b : List UInt8 => (⟨b.toArray⟩ : ByteArray)) ∘ keyB) = id := by funext s; cases s; simp [keyB, Function.comp]
  rw [this, List.map_id]
theorem putS_len (l : List ByteArray) (s : ByteArray) : (putS l s).length ≤ l.length + 1 := by
  unfold putS; split
  · omega
  · rw [insL_len]; omega
theorem putAll_len : ∀ (ns l : List ByteArray), (ns.foldl putS l).length ≤ l.length + ns.length
  | [], l => Nat.le_refl _
  | s :: ns, l => by
    have h1 := putAll_len ns (putS l s)
    have h2 := putS_len l s
    rw [List.foldl_cons, List.length_cons]; omega
end Go.Proofs.Ytjobgnioehkomaa
