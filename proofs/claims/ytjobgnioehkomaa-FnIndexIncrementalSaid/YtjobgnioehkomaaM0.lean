/-
  MARKS: the statements' own functions that write into a result and look whether it still stands.
-/
import Derived.WalkKit
import Derived.WalkSpells
import Derived.WalkLawsBesides
import Derived.Lib.Hide
import Derived.Handy
import Derived.StillTailTactics
import Derived.Deep.Light
import Derived.Outline
import Derived.Test.YtjobgnioehkomaaLib
import Derived.Test.YtjobgnioehkomaaOwn
import Derived.Test.YtjobgnioehkomaaRow
import Derived.Test.YtjobgnioehkomaaC1
import Derived.Test.YtjobgnioehkomaaRows
namespace Go.Proofs.Ytjobgnioehkomaa
open Go.RowKit
set_option linter.unusedVariables false
set_option maxRecDepth 100000
def mdig (k : Nat) : List UInt8 := if h : k = 0 then [] else mdig (k / 10) ++ [UInt8.ofNat (48 + k % 10)]
decreasing_by omega
def mt (k : Int) : ByteArray := ⟨(109 :: mdig k.toNat).toArray⟩
theorem mdig_zero : mdig 0 = [] := by unfold mdig; simp
theorem mdig_pos {k : Nat} (h : 0 < k) : mdig k = mdig (k / 10) ++ [UInt8.ofNat (48 + k % 10)] := by
  conv => lhs; unfold mdig
  rw [dif_neg (by omega)]
theorem mdig_len (k : Nat) : (mdig k).length ≤ k := by
  induction k using Nat.strongRecOn with
  | _ k ih =>
    rcases Nat.eq_zero_or_pos k with rfl | h
    · rw [mdig_zero]; simp
    · rw [mdig_pos h, List.length_append]
      have := ih (k / 10) (by omega)
      simp only [List.length_cons, List.length_nil]
      omega
theorem conv1 {P : Program} {src dst e : TypeId} (hs : P.underlying src = some (.slice e)) (he : P.underlying e = some (.int .u8)) (hd : P.underlying dst = some .string) (W : World) (n : Nat) (h : n ≤ 255) :
    (convert src dst (.slice (some ⟨W.heap.size, 0, none⟩) 1 1)).run P (W.alloc (.cells #[.int .u8 (n : Int)] e)) = .ok (.string ⟨#[UInt8.ofNat n]⟩) (W.alloc (.cells #[.int .u8 (n : Int)] e)) := by
  have h1 := run_convert_bytes_back (P := P) (W.alloc (.cells #[.int .u8 (n : Int)] e)) src dst e ⟨W.heap.size, 0, none⟩ 1 [UInt8.ofNat n] hs he hd (fun j hj => by
    obtain rfl : j = 0 := by simpa using hj
    rw [Addr.add_lit, blk_cell? (blk_new W _)]
    simp
    omega)
  exact h1
/-! ### One element of an owned slice is written anew -/
theorem OSl.upd {α : Type} {e size n : Nat} {O : OR α} {w : World} {A : Option Addr} {l : List α} {bs : List Nat} (hO : OLoc O) (h : OSl e size O w A n l bs) (hnd : bs.Nodup) {i : Nat} (hi : i < n) :
    ∃ (g : Nat) (bss : List (List Nat)), A = some ⟨g, 0, none⟩ ∧ g < w.heap.size ∧ g ∈ bs ∧ (∀ b ∈ bss.getD i [], b ∈ bs ∧ b ≠ g) ∧ (bss.getD i []).Nodup ∧ ∃ cur : Array Value, w.heap[g]? = some (.cells cur e (0, 0)) ∧ n * size ≤ cur.size ∧
      (∃ cs : List Value, cs.length = size ∧ (∀ j u, cs[j]? = some u → cur[i * size + j]? = some u) ∧ ∀ hi, O w cs (l[i]'hi) (bss.getD i [])) ∧
      (∀ (w2 : World) (cur' : Array Value) (cs' : List Value) (x' : α), w2.heap[g]? = some (.cells cur' e (0, 0)) → cur'.size = cur.size → (∀ j, j < i * size ∨ (i + 1) * size ≤ j → cur'[j]? = cur[j]?) → cs'.length = size →
        (∀ j u, cs'[j]? = some u → cur'[i * size + j]? = some u) → O w2 cs' x' (bss.getD i []) → (∀ b ∈ bs, b ≠ g → b ∉ bss.getD i [] → w2.heap[b]? = w.heap[b]?) → OSl e size O w2 A n (l.set i x') bs) := by
  obtain ⟨hl, ⟨h0, _⟩ | ⟨g, bss, rfl, hF, rfl⟩⟩ := h
  · omega
  · have hF0 := hF
    obtain ⟨cur, hc, hs, hb, hkl, hf⟩ := hF
    have hgn : g ∉ bss.flatten := (List.nodup_cons.1 hnd).1
    have hfn : bss.flatten.Nodup := (List.nodup_cons.1 hnd).2
    have hm : bss.getD i [] ∈ bss := hF0.inl hi
    have hsub : ∀ b ∈ bss.getD i [], b ∈ bss.flatten := fun b hb => List.mem_flatten.2 ⟨_, hm, hb⟩
    obtain ⟨cs, h1, h2, h3⟩ := hf i (by omega) hi
    have hpair := List.pairwise_flatten.1 hfn
    refine ⟨g, bss, rfl, blk_lt hc, by simp, fun b hb => ⟨List.mem_cons_of_mem _ (hsub b hb), fun e => hgn (e ▸ hsub b hb)⟩, hpair.1 _ hm, cur, hc, hs, ⟨cs, h1, h2, fun _ => h3⟩, ?_⟩
    intro w2 cur' cs' x' hg' hsz hold hcs' hnew ho hfar
    refine ⟨by rw [List.length_set]; exact hl, .inr ⟨g, bss, rfl, ⟨cur', hg', by omega, hb, by rw [List.length_set]; exact hkl, fun j hj hjk => ?_⟩, rfl⟩⟩
    by_cases e : j = i
    · subst e
      refine ⟨cs', hcs', hnew, ?_⟩
      rw [List.getElem_set_self]
      exact ho
    · rw [List.length_set] at hj
      obtain ⟨cs1, q1, q2, q3⟩ := hf j hj hjk
      have hjm : bss.getD j [] ∈ bss := hF0.inl hjk
      refine ⟨cs1, q1, fun a u ha => ?_, ?_⟩
      · have has : a < size := by rw [← q1]; exact (List.getElem?_eq_some_iff.1 ha).1
        rw [hold _ ?_]
        · exact q2 a u ha
        · rcases Nat.lt_or_ge j i with hlt | hge
          · left
            have : (j + 1) * size ≤ i * size := Nat.mul_le_mul_right _ (by omega)
            rw [Nat.succ_mul] at this
            omega
          · right
            have : (i + 1) * size ≤ j * size := Nat.mul_le_mul_right _ (by omega)
            omega
      · rw [List.getElem_set_ne (by omega)]
        refine hO.loc q3 fun b hb => ?_
        have hbf : b ∈ bss.flatten := List.mem_flatten.2 ⟨_, hjm, hb⟩
        refine hfar b (List.mem_cons_of_mem _ hbf) (fun e => hgn (e ▸ hbf)) fun hbi => ?_
        have hdis := List.pairwise_iff_getElem.1 hpair.2
        rw [List.getD_eq_getElem?_getD, List.getElem?_eq_getElem (by omega)] at hb hbi
        simp only [Option.getD_some] at hb hbi
        rcases Nat.lt_or_ge j i with hlt | hge
        · exact hdis j i (by omega) (by omega) hlt b hb b hbi rfl
        · exact hdis i j (by omega) (by omega) (by omega) b hbi b hb rfl
/-! ### What a marked list reads -/
def mkString (n k : Nat) : List ByteArray := (List.range n).map fun i => mt (k + i : Nat)
def mkInt (n k : Nat) : List Int := (List.range n).map fun i => ((k + i : Nat) : Int)
def mkField (n k : Nat) : List Fld := (List.range n).map fun i => ⟨mt (k + 2 * i : Nat), ((k + 2 * i + 1 : Nat) : Int)⟩
def mkAttr (n k : Nat) : List Atr := (List.range n).map fun i => ⟨mt (k + 4 * i : Nat), ⟨((k + 4 * i + 1 : Nat) : Int), ((k + 4 * i + 2 : Nat) : Int), mt (k + 4 * i + 3 : Nat)⟩⟩
/-- the first i as marked, the others as they were -/
def mix {α : Type} (m l : List α) (i : Nat) : List α := m.take i ++ l.drop i
theorem mix_zero {α : Type} (m l : List α) : mix m l 0 = l := by simp [mix]
theorem mix_all {α : Type} {m l : List α} (h : m.length = l.length) : mix m l l.length = m := by simp [mix, ← h]
theorem mix_len {α : Type} {m l : List α} (h : m.length = l.length) {i : Nat} (hi : i ≤ l.length) : (mix m l i).length = l.length := by simp [mix]; omega
theorem mix_at {α : Type} {m l : List α} (h : m.length = l.length) {i : Nat} (hi : i < l.length) : (mix m l i)[i]'(by rw [mix_len h (by omega)]; exact hi) = l[i] := by
  simp only [mix]
  rw [List.getElem_append_right (by simp; omega)]
  simp [show min i m.length = i by omega]
theorem mix_set {α : Type} {m l : List α} (h : m.length = l.length) {i : Nat} (hi : i < l.length) {x : α} (hx : m[i]'(by omega) = x) : (mix m l i).set i x = mix m l (i + 1) := by
  subst hx
  apply List.ext_getElem
  · rw [List.length_set, mix_len h (by omega), mix_len h (by omega)]
  · intro j h1 h2
    rw [List.length_set, mix_len h (by omega)] at h1
    rw [List.getElem_set]
    split
    · rename_i e; subst e
      simp only [mix]
      rw [List.getElem_append_left (by simp; omega), List.getElem_take]
    · simp only [mix]
      by_cases hj : j < i
      · rw [List.getElem_append_left (by simp; omega), List.getElem_append_left (by simp; omega)]
        simp
      · rw [List.getElem_append_right (by simp; omega), List.getElem_append_right (by simp; omega)]
        simp only [List.length_take, List.getElem_drop]
        congr 1
        omega
theorem sets_chg {bs : List Nat} {w w1 : World} {g : Nat} (hg : g ∈ bs) : ∀ (vs : List Value) (w1 : World) (o : Nat), Chg bs w w1 → Chg bs w (sets w1 g o vs)
  | [], _, _, hb => hb
  | v :: vs, w1, o, hb => sets_chg (w1 := w1) hg vs _ _ (hb.set (a := ⟨g, o, none⟩) hg v)
/-- the cells of element i are stored one after the other: 'w1' reads in bs as w -/
theorem setsA_out {size n i : Nat} {cur : Array Value} {cs : List Value} (hs : n * size ≤ cur.size) (hi : i < n) (hc : cs.length = size) :
    (setsA cur (i * size) cs).size = cur.size ∧ (∀ j, j < i * size ∨ (i + 1) * size ≤ j → (setsA cur (i * size) cs)[j]? = cur[j]?) ∧ ∀ j u, cs[j]? = some u → (setsA cur (i * size) cs)[i * size + j]? = some u := by
  have hle : (i + 1) * size ≤ n * size := Nat.mul_le_mul_right _ (by omega)
  rw [Nat.succ_mul] at hle
  refine ⟨setsA_size _ _ _, fun j hj => ?_, fun j u hu => setsA_get _ _ _ _ _ (by omega) hu⟩
  rcases hj with hj | hj
  · exact setsA_low _ _ _ _ hj
  · exact setsA_high _ _ _ _ (by rw [hc]; rw [Nat.succ_mul] at hj; exact hj)
end Go.Proofs.Ytjobgnioehkomaa
