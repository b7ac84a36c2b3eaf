/-
  PLAIN: a stable sort, swaps, merges.
-/
import Derived.Test.YtjobgnioehkomaaLib
namespace Go.Proofs.Ytjobgnioehkomaa
set_option linter.unusedVariables false
/-! ### stable insertion: behind the equal ones -/
section
variable {α : Type} (key : α → Int)
def insK (x : α) : List α → List α
  | [] => [x]
  | y :: l => if key y ≤ key x then y :: insK x l else x :: y :: l
/-- what is inserted one after the other -/
def mrg (u v : List α) : List α := v.foldl (fun s x => insK key x s) u
def srt (l : List α) : List α := mrg key [] l
/-- ascending -/
def Asc : List α → Prop
  | [] => True
  | x :: l => (∀ y ∈ l, key x ≤ key y) ∧ Asc l
variable {key}
@[simp] theorem mrg_nil (u : List α) : mrg key u [] = u := rfl
theorem mrg_cons (u v : List α) (x : α) : mrg key u (x :: v) = mrg key (insK key x u) v := rfl
theorem mrg_append (u v v' : List α) : mrg key u (v ++ v') = mrg key (mrg key u v) v' := by unfold mrg; rw [List.foldl_append]
theorem insK_len (x : α) (l : List α) : (insK key x l).length = l.length + 1 := by
  induction l with
  | nil => rfl
  | cons y l ih => unfold insK; split <;> simp [ih]
theorem mrg_len (u v : List α) : (mrg key u v).length = u.length + v.length := by
  induction v generalizing u with
  | nil => simp
  | cons x v ih => rw [mrg_cons, ih, insK_len, List.length_cons]; omega
theorem srt_len (l : List α) : (srt key l).length = l.length := by unfold srt; rw [mrg_len]; simp
theorem insK_mem {x y : α} {l : List α} : y ∈ insK key x l ↔ y = x ∨ y ∈ l := by
  induction l with
  | nil => simp [insK]
  | cons z l ih =>
    unfold insK
    split
    · simp only [List.mem_cons, ih]
      constructor
      · rintro (h | h | h) <;> simp [h]
      · rintro (h | h | h) <;> simp [h]
    · simp only [List.mem_cons]
theorem mrg_mem {y : α} {u v : List α} : y ∈ mrg key u v ↔ y ∈ u ∨ y ∈ v := by
  induction v generalizing u with
  | nil => simp
  | cons x v ih =>
    rw [mrg_cons, ih, insK_mem, List.mem_cons]
    constructor
    · rintro ((h | h) | h) <;> simp [h]
    · rintro (h | h | h) <;> simp [h]
theorem srt_mem {y : α} {l : List α} : y ∈ srt key l ↔ y ∈ l := by unfold srt; rw [mrg_mem]; simp
theorem insK_asc {x : α} {l : List α} (h : Asc key l) : Asc key (insK key x l) := by
  induction l with
  | nil => exact ⟨by simp, trivial⟩
  | cons y l ih =>
    unfold insK
    split
    · refine ⟨fun z hz => ?_, ih h.2⟩
      rcases insK_mem.1 hz with rfl | hz
      · assumption
      · exact h.1 z hz
    · refine ⟨fun z hz => ?_, h⟩
      rcases List.mem_cons.1 hz with rfl | hz
      · omega
      · have := h.1 z hz; omega
theorem mrg_asc {u v : List α} (h : Asc key u) : Asc key (mrg key u v) := by
  induction v generalizing u with
  | nil => exact h
  | cons x v ih => exact ih (insK_asc h)
theorem srt_asc (l : List α) : Asc key (srt key l) := mrg_asc trivial
theorem Asc.split {u v : List α} (h : Asc key (u ++ v)) : Asc key u ∧ Asc key v ∧ ∀ x ∈ u, ∀ y ∈ v, key x ≤ key y := by
  induction u with
  | nil => exact ⟨trivial, h, fun x hx => absurd hx (by simp)⟩
  | cons z u ih =>
    obtain ⟨h1, h2, h3⟩ := ih h.2
    refine ⟨⟨fun y hy => h.1 y (List.mem_append_left _ hy), h1⟩, h2, fun x hx y hy => ?_⟩
    rcases List.mem_cons.1 hx with rfl | hx
    · exact h.1 y (List.mem_append_right _ hy)
    · exact h3 x hx y hy
theorem insK_comm {x y : α} (h : key x < key y) (l : List α) : insK key y (insK key x l) = insK key x (insK key y l) := by
  induction l with
  | nil => simp only [insK]; rw [if_pos (by omega), if_neg (by omega)]
  | cons z l ih =>
    by_cases h1 : key z ≤ key x
    · have h2 : key z ≤ key y := by omega
      simp only [insK, if_pos h1, if_pos h2, ih]
    · by_cases h2 : key z ≤ key y
      · have h3 : key x ≤ key y := by omega
        simp only [insK, if_neg h1, if_pos h2, if_pos h3]
      · have h3 : key x ≤ key y := by omega
        have h4 : ¬ key y ≤ key x := by omega
        simp only [insK, if_neg h1, if_neg h2, if_pos h3, if_neg h4]
theorem mrg_behind {x : α} {t : List α} (h : ∀ y ∈ t, key x < key y) (s : List α) : mrg key (insK key x s) t = insK key x (mrg key s t) := by
  induction t generalizing s with
  | nil => rfl
  | cons y t ih => rw [mrg_cons, mrg_cons, insK_comm (h y (by simp)), ih fun z hz => h z (by simp [hz])]
theorem mrg_ins {x : α} {t : List α} (h : Asc key t) (s : List α) : mrg key s (insK key x t) = insK key x (mrg key s t) := by
  induction t generalizing s with
  | nil => rfl
  | cons y t ih =>
    by_cases hc : key y ≤ key x
    · rw [show insK key x (y :: t) = y :: insK key x t from if_pos hc, mrg_cons, mrg_cons, ih h.2]
    · rw [show insK key x (y :: t) = x :: y :: t from if_neg hc, mrg_cons, mrg_behind]
      intro z hz
      rcases List.mem_cons.1 hz with rfl | hz
      · omega
      · have := h.1 z hz; omega
theorem mrg_srt (s v : List α) : mrg key s (srt key v) = mrg key s v := by
  have key1 : ∀ v2 v1 : List α, mrg key s (srt key v1) = mrg key s v1 → mrg key s (srt key (v1 ++ v2)) = mrg key s (v1 ++ v2) := by
    intro v2
    induction v2 with
    | nil => intro v1 h; simpa using h
    | cons x v2 ih =>
      intro v1 h
      have e : v1 ++ x :: v2 = (v1 ++ [x]) ++ v2 := by simp
      rw [e]
      refine ih (v1 ++ [x]) ?_
      have e2 : srt key (v1 ++ [x]) = insK key x (srt key v1) := by unfold srt; rw [mrg_append]; rfl
      rw [e2, mrg_ins (srt_asc v1), h, mrg_append]; rfl
  simpa using key1 v [] rfl
theorem srt_merge (u v : List α) : mrg key (srt key u) (srt key v) = srt key (u ++ v) := by
  rw [mrg_srt]; unfold srt; rw [mrg_append]
/-- already ascending -/
theorem insK_last {x : α} {l w : List α} (h : ∀ y ∈ l, key y ≤ key x) : insK key x (l ++ w) = l ++ insK key x w := by
  induction l with
  | nil => rfl
  | cons y l ih => rw [List.cons_append, insK, if_pos (h y (by simp)), ih fun z hz => h z (by simp [hz])]; rfl
theorem insK_front {x : α} {l w : List α} (h : ∀ y ∈ w, key x < key y) : insK key x (l ++ w) = insK key x l ++ w := by
  induction l with
  | nil =>
    cases w with
    | nil => rfl
    | cons y w => exact if_neg (by have := h y (by simp); omega)
  | cons y l ih =>
    rw [List.cons_append, insK, insK]
    split
    · rw [ih]; rfl
    · rfl
theorem mrg_left {l u v : List α} (h : ∀ y ∈ l, ∀ x ∈ v, key y ≤ key x) : mrg key (l ++ u) v = l ++ mrg key u v := by
  induction v generalizing u with
  | nil => rfl
  | cons x v ih => rw [mrg_cons, mrg_cons, insK_last fun y hy => h y hy x (by simp), ih fun y hy z hz => h y hy z (by simp [hz])]
theorem mrg_right {u w v : List α} (h : ∀ x ∈ v, ∀ y ∈ w, key x < key y) : mrg key (u ++ w) v = mrg key u v ++ w := by
  induction v generalizing u with
  | nil => rfl
  | cons x v ih => rw [mrg_cons, mrg_cons, insK_front fun y hy => h x (by simp) y hy, ih fun z hz y hy => h z (by simp [hz]) y hy]
theorem mrg_asc_nil {v : List α} (h : Asc key v) : mrg key [] v = v := by
  have key1 : ∀ v l : List α, Asc key v → (∀ y ∈ l, ∀ x ∈ v, key y ≤ key x) → mrg key l v = l ++ v := by
    intro v
    induction v with
    | nil => intro l _ _; simp
    | cons x v ih =>
      intro l h hl
      have e : insK key x l = l ++ [x] := by have := insK_last (w := []) fun y hy => hl y hy x (by simp); simpa [insK] using this
      rw [mrg_cons, e, ih _ h.2]
      · simp
      · intro y hy z hz
        rcases List.mem_append.1 hy with hy | hy
        · exact hl y hy z (by simp [hz])
        · obtain rfl : y = x := by simpa using hy
          exact h.1 z hz
  simpa using key1 v [] h (by simp)
/-- THE SPLIT: two halves of either side are merged apart -/
theorem mrg_split {u1 u2 v1 v2 : List α} (hv : Asc key (v1 ++ v2)) (h1 : ∀ x ∈ v1, ∀ y ∈ u2, key x < key y) (h2 : ∀ x ∈ u1, ∀ y ∈ v2, key x ≤ key y) :
    mrg key (u1 ++ u2) (v1 ++ v2) = mrg key u1 v1 ++ mrg key u2 v2 := by
  rw [mrg_append, mrg_right h1, mrg_left]
  intro y hy x hx
  rcases mrg_mem.1 hy with hy | hy
  · exact h2 y hy x hx
  · exact hv.split.2.2 y hy x hx
/-- the split's conditions, out of what stands at the border -/
theorem asc_last {l : List α} {x : α} (h : Asc key l) (hx : l.getLast? = some x) : ∀ y ∈ l, key y ≤ key x := by
  intro y hy
  obtain ⟨l', rfl⟩ := List.getLast?_eq_some_iff.1 hx
  rcases List.mem_append.1 hy with hy | hy
  · exact h.split.2.2 y hy x (by simp)
  · obtain rfl : y = x := by simpa using hy
    exact Int.le_refl _
theorem asc_first {l : List α} {x : α} (h : Asc key l) (hx : l.head? = some x) : ∀ y ∈ l, key x ≤ key y := by
  intro y hy
  cases l with
  | nil => simp at hx
  | cons z l =>
    obtain rfl : z = x := by simpa using hx
    rcases List.mem_cons.1 hy with rfl | hy
    · exact Int.le_refl _
    · exact h.1 y hy
theorem srt_map {β : Type} (f : β → α) (l : List β) : (srt (fun b => key (f b)) l).map f = srt key (l.map f) := by
  have h1 : ∀ (x : β) (s : List β), (insK (fun b => key (f b)) x s).map f = insK key (f x) (s.map f) := by
    intro x s
    induction s with
    | nil => rfl
    | cons y s ih => simp only [insK, List.map_cons]; split <;> simp [ih]
  have h2 : ∀ v u : List β, (mrg (fun b => key (f b)) u v).map f = mrg key (u.map f) (v.map f) := by
    intro v
    induction v with
    | nil => intro u; rfl
    | cons x v ih => intro u; rw [mrg_cons, ih, h1]; rfl
  exact h2 l []
end

/-! ### swaps -/
section
variable {α : Type}
def swp (l : List α) (i j : Nat) : List α := if hi : i < l.length then if hj : j < l.length then (l.set i l[j]).set j l[i] else l else l
theorem swp_len (l : List α) (i j : Nat) : (swp l i j).length = l.length := by
  unfold swp
  split
  · split <;> simp
  · rfl
theorem swp_eq {l : List α} {i j : Nat} (hi : i < l.length) (hj : j < l.length) : swp l i j = (l.set i l[j]).set j l[i] := by unfold swp; rw [dif_pos hi, dif_pos hj]
/-- P with x put at place k -/
def mvd (P : List α) (x : α) (k : Nat) : List α := P.take k ++ x :: P.drop k
theorem mvd_len (P : List α) (x : α) {k : Nat} (hk : k ≤ P.length) : (mvd P x k).length = P.length + 1 := by unfold mvd; simp; omega
theorem mvd_at (P : List α) (x : α) {k : Nat} (hk : k ≤ P.length) : (mvd P x k)[k]? = some x := by
  unfold mvd
  rw [List.getElem?_append_right (by simp; omega)]
  simp [Nat.min_eq_left hk]
theorem mvd_low (P : List α) (x : α) {k i : Nat} (hk : k ≤ P.length) (h : i < k) : (mvd P x k)[i]? = P[i]? := by
  unfold mvd
  rw [List.getElem?_append_left (by simp; omega), List.getElem?_take_of_lt h]
theorem mvd_high (P : List α) (x : α) {k i : Nat} (hk : k ≤ P.length) (h : k ≤ i) : (mvd P x k)[i + 1]? = P[i]? := by
  unfold mvd
  rw [List.getElem?_append_right (by simp; omega)]
  simp only [List.length_take, Nat.min_eq_left hk]
  rw [show i + 1 - k = (i - k) + 1 by omega, List.getElem?_cons_succ, List.getElem?_drop]
  congr 1; omega
theorem swp_get (l : List α) {i j k : Nat} (hi : i < l.length) (hj : j < l.length) : (swp l i j)[k]? = if k = j then l[i]? else if k = i then l[j]? else l[k]? := by
  rw [swp_eq hi hj, List.getElem?_set, List.getElem?_set]
  simp only [List.length_set]
  by_cases h1 : j = k
  · subst h1
    rw [if_pos rfl, if_pos hj, if_pos rfl, List.getElem?_eq_getElem hi]
  · rw [if_neg h1, if_neg (show ¬ k = j from fun h => h1 h.symm)]
    by_cases h2 : i = k
    · subst h2
      rw [if_pos rfl, if_pos hi, if_pos rfl, List.getElem?_eq_getElem hj]
    · rw [if_neg h2, if_neg (show ¬ k = i from fun h => h2 h.symm)]
theorem mvd_up (P : List α) (x : α) {k : Nat} (hk : k < P.length) : swp (mvd P x k) k (k + 1) = mvd P x (k + 1) := by
  apply List.ext_getElem?
  intro i
  rw [swp_get _ (by rw [mvd_len _ _ (by omega)]; omega) (by rw [mvd_len _ _ (by omega)]; omega)]
  by_cases h1 : i = k + 1
  · rw [if_pos h1, h1, mvd_at _ _ (by omega), mvd_at _ _ (by omega)]
  · rw [if_neg h1]
    by_cases h2 : i = k
    · rw [if_pos h2, h2, mvd_high _ _ (by omega) (Nat.le_refl _), mvd_low _ _ (by omega) (by omega)]
    · rw [if_neg h2]
      rcases Nat.lt_or_ge i k with h3 | h3
      · rw [mvd_low _ _ (by omega) h3, mvd_low _ _ (by omega) (by omega)]
      · obtain ⟨i, rfl⟩ : ∃ i', i = i' + 1 := ⟨i - 1, by omega⟩
        rw [mvd_high _ _ (by omega) (by omega), mvd_high _ _ (by omega) (by omega)]
theorem mvd_down (P : List α) (x : α) {k : Nat} (hk : k < P.length) : swp (mvd P x (k + 1)) (k + 1) k = mvd P x k := by
  apply List.ext_getElem?
  intro i
  rw [swp_get _ (by rw [mvd_len _ _ (by omega)]; omega) (by rw [mvd_len _ _ (by omega)]; omega)]
  by_cases h1 : i = k
  · rw [if_pos h1, h1, mvd_at _ _ (by omega), mvd_at _ _ (by omega)]
  · rw [if_neg h1]
    by_cases h2 : i = k + 1
    · rw [if_pos h2, h2, mvd_low _ _ (by omega) (by omega), mvd_high _ _ (by omega) (Nat.le_refl _)]
    · rw [if_neg h2]
      rcases Nat.lt_or_ge i k with h3 | h3
      · rw [mvd_low _ _ (by omega) (by omega), mvd_low _ _ (by omega) h3]
      · obtain ⟨i, rfl⟩ : ∃ i', i = i' + 1 := ⟨i - 1, by omega⟩
        rw [mvd_high _ _ (by omega) (by omega), mvd_high _ _ (by omega) (by omega)]
/-- n swaps one after the other -/
def swr (l : List α) (a b : Nat) : Nat → List α
  | 0 => l
  | n + 1 => swr (swp l a b) (a + 1) (b + 1) n
theorem swp_blocks (P M Q : List α) (x y : α) : swp (P ++ x :: (M ++ y :: Q)) P.length (P.length + 1 + M.length) = P ++ y :: (M ++ x :: Q) := by
  have e1 : (P ++ x :: (M ++ y :: Q))[P.length]? = some x := by rw [List.getElem?_append_right (Nat.le_refl _)]; simp
  have e2 : (P ++ x :: (M ++ y :: Q))[P.length + 1 + M.length]? = some y := by
    rw [List.getElem?_append_right (by omega), show P.length + 1 + M.length - P.length = M.length + 1 by omega, List.getElem?_cons_succ, List.getElem?_append_right (Nat.le_refl _)]; simp
  obtain ⟨h1, g1⟩ := List.getElem?_eq_some_iff.1 e1
  obtain ⟨h2, g2⟩ := List.getElem?_eq_some_iff.1 e2
  rw [swp_eq h1 h2, g1, g2, List.set_append_right _ _ (Nat.le_refl _), Nat.sub_self, List.set_cons_zero, List.set_append_right _ _ (by omega), show P.length + 1 + M.length - P.length = M.length + 1 by omega, List.set_cons_succ, List.set_append_right _ _ (Nat.le_refl _), Nat.sub_self, List.set_cons_zero]
theorem swr_blocks : ∀ (A B P M Q : List α), A.length = B.length → swr (P ++ A ++ M ++ B ++ Q) P.length (P.length + A.length + M.length) A.length = P ++ B ++ M ++ A ++ Q
  | [], [], P, M, Q, _ => by simp [swr]
  | x :: A, y :: B, P, M, Q, h => by
    have e : P ++ (x :: A) ++ M ++ (y :: B) ++ Q = P ++ x :: ((A ++ M) ++ y :: (B ++ Q)) := by simp
    have e2 : P ++ y :: ((A ++ M) ++ x :: (B ++ Q)) = (P ++ [y]) ++ A ++ (M ++ [x]) ++ B ++ Q := by simp
    have ih := swr_blocks A B (P ++ [y]) (M ++ [x]) Q (by simpa using h)
    have n1 : P.length + (A.length + 1) + M.length = P.length + 1 + (A ++ M).length := by rw [List.length_append]; omega
    rw [List.length_cons, e, swr, n1, swp_blocks, e2]
    have n2 : (P ++ [y]).length = P.length + 1 := by simp
    rw [n2, List.length_append (as := M), List.length_singleton] at ih
    rw [show P.length + 1 + (A ++ M).length + 1 = P.length + 1 + A.length + (M.length + 1) by rw [List.length_append]; omega, ih]
    simp
theorem swr_len (l : List α) (a b n : Nat) : (swr l a b n).length = l.length := by
  induction n generalizing l a b with
  | zero => rfl
  | succ n ih => rw [swr, ih, swp_len]
end

/-! ### what stands at a place -/
section
variable {α : Type} (key : α → Int)
def ka (l : List α) (i : Nat) : Int := match l[i]? with | some x => key x | none => 0
variable {key}
theorem ka_at {l : List α} {i : Nat} {x : α} (h : l[i]? = some x) : ka key l i = key x := by unfold ka; rw [h]
theorem ka_get {l : List α} {i : Nat} (h : i < l.length) : ka key l i = key l[i] := ka_at (List.getElem?_eq_getElem h)
theorem ka_left {u v : List α} {i : Nat} (h : i < u.length) : ka key (u ++ v) i = ka key u i := by unfold ka; rw [List.getElem?_append_left h]
theorem ka_right {u v : List α} {i j : Nat} (h : u.length + j = i) : ka key (u ++ v) i = ka key v j := by
  unfold ka; rw [List.getElem?_append_right (by omega), show i - u.length = j by omega]
theorem mvd_app (X V Y : List α) (x : α) {k : Nat} (h : k ≤ V.length) : mvd (X ++ V ++ Y) x (X.length + k) = X ++ (V.take k ++ x :: V.drop k) ++ Y := by
  unfold mvd
  rw [List.append_assoc X V Y, List.take_append, List.drop_append, List.take_of_length_le (l := X) (by omega), List.drop_of_length_le (l := X) (by omega), show X.length + k - X.length = k by omega, List.take_append_of_le_length h, List.drop_append_of_le_length h]
  simp
theorem asc_take_lt {V : List α} (hV : Asc key V) {k : Nat} {z : Int} (c : k = 0 ∨ ka key V (k - 1) < z) (hk : k ≤ V.length) : ∀ y ∈ V.take k, key y < z := by
  intro y hy
  rcases c with rfl | c
  · simp at hy
  · rcases Nat.eq_zero_or_pos k with rfl | h0
    · simp at hy
    · have h1 : (V.take k ++ V.drop k) = V := List.take_append_drop k V
      rw [← h1] at hV
      have h2 : (V.take k).getLast? = some V[k - 1] := by
        rw [List.getLast?_eq_getElem?, List.length_take, Nat.min_eq_left hk, List.getElem?_take_of_lt (by omega), List.getElem?_eq_getElem]
      have := asc_last hV.split.1 h2 y hy
      rw [ka_get (by omega)] at c
      omega
theorem asc_take_le {V : List α} (hV : Asc key V) {k : Nat} {z : Int} (c : k = 0 ∨ ka key V (k - 1) ≤ z) (hk : k ≤ V.length) : ∀ y ∈ V.take k, key y ≤ z := by
  intro y hy
  have := asc_take_lt (z := z + 1) hV (c.imp_right fun h => by omega) hk y hy
  omega
theorem asc_drop_le {V : List α} (hV : Asc key V) {k : Nat} {z : Int} (c : k = V.length ∨ z ≤ ka key V k) : ∀ y ∈ V.drop k, z ≤ key y := by
  intro y hy
  rcases c with rfl | c
  · simp at hy
  · rcases Nat.lt_or_ge k V.length with h0 | h0
    · have h1 : (V.take k ++ V.drop k) = V := List.take_append_drop k V
      rw [← h1] at hV
      have h2 : (V.drop k).head? = some V[k] := by rw [List.head?_drop, List.getElem?_eq_getElem h0]
      have := asc_first hV.split.2.1 h2 y hy
      rw [ka_get h0] at c
      omega
    · rw [List.drop_of_length_le h0] at hy; simp at hy
theorem asc_drop_lt {V : List α} (hV : Asc key V) {k : Nat} {z : Int} (c : k = V.length ∨ z < ka key V k) : ∀ y ∈ V.drop k, z < key y := by
  intro y hy
  have := asc_drop_le (z := z + 1) hV (c.imp_right fun h => by omega) y hy
  omega
theorem mrg_one_left {x : α} {V : List α} (hV : Asc key V) {k : Nat} (hk : k ≤ V.length) (c1 : k = 0 ∨ ka key V (k - 1) < key x) (c2 : k = V.length ∨ key x ≤ ka key V k) : mrg key [x] V = V.take k ++ x :: V.drop k := by
  have h1 : (V.take k ++ V.drop k) = V := List.take_append_drop k V
  have e := mrg_split (key := key) (u1 := []) (u2 := [x]) (v1 := V.take k) (v2 := V.drop k) (by rw [h1]; exact hV) (fun y hy z hz => by simp at hz; subst hz; exact asc_take_lt hV c1 hk y hy) (fun y hy => by simp at hy)
  rw [h1, List.nil_append] at e
  rw [← h1] at hV
  have e2 := mrg_left (key := key) (l := [x]) (u := []) (v := V.drop k) fun y hy z hz => by simp at hy; subst hy; exact asc_drop_le (by rw [h1] at hV; exact hV) c2 z hz
  rw [List.append_nil] at e2
  rw [e, mrg_asc_nil hV.split.1, e2, mrg_asc_nil hV.split.2.1]; rfl
theorem mrg_one_right {y : α} {U : List α} (hU : Asc key U) {k : Nat} (hk : k ≤ U.length) (c1 : k = 0 ∨ ka key U (k - 1) ≤ key y) (c2 : k = U.length ∨ key y < ka key U k) : mrg key U [y] = U.take k ++ y :: U.drop k := by
  have h1 : (U.take k ++ U.drop k) = U := List.take_append_drop k U
  have e : insK key y (U.take k ++ U.drop k) = U.take k ++ insK key y (U.drop k) := insK_last (asc_take_le hU c1 hk)
  have e2 := insK_front (key := key) (l := []) (x := y) (w := U.drop k) fun z hz => asc_drop_lt hU c2 z hz
  rw [h1] at e
  rw [mrg_cons, mrg_nil, e]
  simpa [insK] using e2
theorem merge_one_left {X V Y l : List α} {x : α} (hl : l = X ++ [x] ++ V ++ Y) (hV : Asc key V) {a m b i : Nat} (ha : X.length = a) (hm : a + 1 = m) (hb : m + V.length = b) (hi1 : m ≤ i) (hi2 : i ≤ b)
    (c1 : i = m ∨ ka key l (i - 1) < ka key l a) (c2 : i = b ∨ ka key l a ≤ ka key l i) : X ++ mrg key [x] V ++ Y = mvd (X ++ V ++ Y) x (i - 1) := by
  have hx : ka key l a = key x := ka_at (by rw [hl, ← ha]; simp)
  have hv : ∀ j, j < V.length → ka key l (m + j) = ka key V j := fun j hj => by
    rw [hl, List.append_assoc (X ++ [x]), ka_right (u := X ++ [x]) (j := j) (by simp; omega), ka_left hj]
  rw [show i - 1 = X.length + (i - m) by omega, mvd_app _ _ _ _ (by omega), mrg_one_left hV (k := i - m) (by omega)]
  · rcases c1 with c1 | c1
    · exact .inl (by omega)
    · rcases Nat.eq_or_lt_of_le hi1 with h | h
      · exact .inl (by omega)
      · right; rw [← hv _ (by omega), ← hx, show m + (i - m - 1) = i - 1 by omega]; exact c1
  · rcases c2 with c2 | c2
    · exact .inl (by omega)
    · rcases Nat.eq_or_lt_of_le hi2 with h | h
      · exact .inl (by omega)
      · right; rw [← hv _ (by omega), ← hx, show m + (i - m) = i by omega]; exact c2
theorem merge_one_right {X U Y l : List α} {y : α} (hl : l = X ++ U ++ [y] ++ Y) (hU : Asc key U) {a m i : Nat} (ha : X.length = a) (hm : a + U.length = m) (hi1 : a ≤ i) (hi2 : i ≤ m)
    (c1 : i = a ∨ ka key l (i - 1) ≤ ka key l m) (c2 : i = m ∨ ka key l m < ka key l i) : X ++ mrg key U [y] ++ Y = mvd (X ++ U ++ Y) y i := by
  have hx : ka key l m = key y := ka_at (by rw [hl, ← hm, ← ha, ← List.length_append]; simp)
  have hv : ∀ j, j < U.length → ka key l (a + j) = ka key U j := fun j hj => by
    rw [hl, List.append_assoc X U, List.append_assoc X, ka_right (u := X) (j := j) (by omega), List.append_assoc, ka_left hj]
  rw [show i = X.length + (i - a) by omega, mvd_app _ _ _ _ (by omega), mrg_one_right hU (k := i - a) (by omega)]
  · rcases c1 with c1 | c1
    · exact .inl (by omega)
    · rcases Nat.eq_or_lt_of_le hi1 with h | h
      · exact .inl (by omega)
      · right; rw [← hv _ (by omega), ← hx, show a + (i - a - 1) = i - 1 by omega]; exact c1
  · rcases c2 with c2 | c2
    · exact .inl (by omega)
    · rcases Nat.eq_or_lt_of_le hi2 with h | h
      · exact .inl (by omega)
      · right; rw [← hv _ (by omega), ← hx, show a + (i - a) = i by omega]; exact c2
theorem mvd_self (X Y : List α) (x : α) : mvd (X ++ Y) x X.length = X ++ [x] ++ Y := by
  have := mvd_app (X) [] Y x (k := 0) (by simp)
  simpa using this
theorem merge_mid {X U1 U2 V1 V2 Y l : List α} (hl : l = X ++ (U1 ++ U2) ++ (V1 ++ V2) ++ Y) (hu : Asc key (U1 ++ U2)) (hv : Asc key (V1 ++ V2)) {a s m e b : Nat} (ha : X.length = a) (hs : a + U1.length = s) (hm : s + U2.length = m) (he : m + V1.length = e) (hb : e + V2.length = b)
    (c1 : s = m ∨ e = m ∨ ka key l (e - 1) < ka key l s) (c2 : s = a ∨ e = b ∨ ka key l (s - 1) ≤ ka key l e) : mrg key (U1 ++ U2) (V1 ++ V2) = mrg key U1 V1 ++ mrg key U2 V2 := by
  have e1 : l = X ++ (U1 ++ (U2 ++ (V1 ++ (V2 ++ Y)))) := by rw [hl]; simp
  have g1 : ∀ j, j < U1.length → ka key l (a + j) = ka key U1 j := fun j hj => by
    rw [e1, ka_right (u := X) (j := j) (by omega), ka_left hj]
  have g2 : ∀ j, j < U2.length → ka key l (s + j) = ka key U2 j := fun j hj => by
    rw [e1, ka_right (u := X) (j := U1.length + j) (by omega), ka_right rfl, ka_left hj]
  have g3 : ∀ j, j < V1.length → ka key l (m + j) = ka key V1 j := fun j hj => by
    rw [e1, ka_right (u := X) (j := U1.length + (U2.length + j)) (by omega), ka_right rfl, ka_right rfl, ka_left hj]
  have g4 : ∀ j, j < V2.length → ka key l (e + j) = ka key V2 j := fun j hj => by
    rw [e1, ka_right (u := X) (j := U1.length + (U2.length + (V1.length + j))) (by omega), ka_right rfl, ka_right rfl, ka_right rfl, ka_left hj]
  refine mrg_split hv (fun x hx y hy => ?_) (fun x hx y hy => ?_)
  · have p1 : 0 < V1.length := List.length_pos_of_mem hx
    have p2 : 0 < U2.length := List.length_pos_of_mem hy
    rcases c1 with c1 | c1 | c1
    · omega
    · omega
    · rw [show e - 1 = m + (V1.length - 1) by omega, g3 _ (by omega), show s = s + 0 from rfl, g2 _ p2] at c1
      have q1 := asc_take_lt (k := V1.length) hv.split.1 (.inr c1) (Nat.le_refl _) x (by rw [List.take_length]; exact hx)
      have q2 := asc_drop_le (k := 0) hu.split.2.1 (.inr (Int.le_refl _)) y hy
      omega
  · have p1 : 0 < U1.length := List.length_pos_of_mem hx
    have p2 : 0 < V2.length := List.length_pos_of_mem hy
    rcases c2 with c2 | c2 | c2
    · omega
    · omega
    · rw [show s - 1 = a + (U1.length - 1) by omega, g1 _ (by omega), show e = e + 0 from rfl, g4 _ p2] at c2
      have q1 := asc_take_le (k := U1.length) hu.split.1 (.inr c2) (Nat.le_refl _) x (by rw [List.take_length]; exact hx)
      have q2 := asc_drop_le (k := 0) hv.split.2.1 (.inr (Int.le_refl _)) y hy
      omega
end
theorem mem_swp {α : Type} {l : List α} {i j : Nat} {x : α} (h : x ∈ swp l i j) : x ∈ l := by
  unfold swp at h
  split at h
  · split at h
    · rcases List.mem_or_eq_of_mem_set h with h | h
      · rcases List.mem_or_eq_of_mem_set h with h | h
        · exact h
        · rw [h]; exact List.getElem_mem _
      · rw [h]; exact List.getElem_mem _
    · exact h
  · exact h

/-! ### sorted piece by piece -/
section
variable {α : Type} (key : α → Int)
def chs (bs : Nat) (l : List α) : List α :=
  if h : bs = 0 ∨ l.length ≤ bs then srt key l else srt key (l.take bs) ++ chs bs (l.drop bs)
termination_by l.length
decreasing_by simp; omega
variable {key}
theorem chs_last {bs : Nat} {l : List α} (h : l.length ≤ bs) : chs key bs l = srt key l := by rw [chs, dif_pos (.inr h)]
theorem chs_step {bs : Nat} {l : List α} (h0 : 0 < bs) (h : bs ≤ l.length) : chs key bs l = srt key (l.take bs) ++ chs key bs (l.drop bs) := by
  rcases Nat.eq_or_lt_of_le h with h | h
  · rw [chs_last (by omega), List.take_of_length_le (by omega), List.drop_of_length_le (by omega), chs_last (by simp)]
    simp [srt]
  · rw [chs, dif_neg (by omega)]
theorem chs_len (bs : Nat) (l : List α) : (chs key bs l).length = l.length := by
  rw [chs]
  split
  · exact srt_len l
  · rename_i h
    rw [List.length_append, srt_len, chs_len bs (l.drop bs), List.length_take, List.length_drop]; omega
termination_by l.length
decreasing_by simp; omega
theorem chs_mem {bs : Nat} {l : List α} {x : α} (h : x ∈ chs key bs l) : x ∈ l := by
  rw [chs] at h
  split at h
  · exact srt_mem.1 h
  · rcases List.mem_append.1 h with h | h
    · exact List.mem_of_mem_take (srt_mem.1 h)
    · exact List.mem_of_mem_drop (chs_mem h)
termination_by l.length
decreasing_by simp; omega
end
end Go.Proofs.Ytjobgnioehkomaa
