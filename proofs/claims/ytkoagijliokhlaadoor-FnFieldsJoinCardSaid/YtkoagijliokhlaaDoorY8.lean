/-
  CONTRACTS: texts compared; the fields of a joined line.
-/
import Derived.WalkKit
import Derived.WalkSpells
import Derived.WalkLawsBesides
import Derived.Lib.Hide
import Derived.Handy
import Derived.StillTailTactics
import Derived.Deep.Light
import Derived.Deep.QuietTactic
import Derived.BigQuiet
import Derived.Test.YtkoagijliokhlaaDoorLib
import Derived.Test.YtkoagijliokhlaaDoorOwn
import Derived.Test.YtkoagijliokhlaaDoorRow
import Derived.Test.YtkoagijliokhlaaDoorN0
import Derived.Test.YtkoagijliokhlaaDoorHld
import Derived.Test.YtkoagijliokhlaaDoorSz
import Derived.Test.YtkoagijliokhlaaDoorC1
import Derived.Test.YtkoagijliokhlaaDoorC2
import Derived.Test.YtkoagijliokhlaaDoorD1
import Derived.Test.YtkoagijliokhlaaDoorX0
import Derived.Test.YtkoagijliokhlaaDoorX1
import Derived.Test.YtkoagijliokhlaaDoorX2
import Derived.Test.YtkoagijliokhlaaDoorRows
namespace Go.Proofs.YtkoagijliokhlaaDoor
open Go.RowKit
set_option linter.unusedVariables false
set_option maxRecDepth 100000
set_option maxHeartbeats 800000 in
theorem laws_sameTexts_same (A B : Option Addr) (n c m d : Nat) (l : List ByteArray) (w : World) (hS : Sl 1 RStr w A n l) (hT : Sl 1 RStr w B m l) (hn : n ≤ 1073741824) (hm : m ≤ 1073741824) :
    Calls Tryd.prog 31 #[.slice A n c, .slice B m d] w fun e w' => e = .returned (.bool true) ∧ Below w.heap.size w w' := by
  obtain rfl : l.length = n := hS.len
  obtain rfl : l.length = m := hT.len
  go_enter Tryd.func31, Tryd.ntmps31
  go_wp2_with fail
  go_loopw [5] (fun i wr => ∃ (k : Nat), k ≤ l.length ∧ i = .int .i64 k ∧ Below w.heap.size w wr) (fun i _ => l.length - (intOf i).toNat)
  case atStart => exact ⟨0, Nat.zero_le _, rfl, Below.refl _ _⟩
  case round =>
    obtain ⟨k, hk, rfl, hb⟩ := hrel
    by_cases hlt : k < l.length
    · have i0 : (0 : Int) ≤ (k : Int) := by omega
      have i2 : (k : Int) < (l.length : Int) := by omega
      obtain ⟨b, off, rfl, bw, bc⟩ := hS.str (by omega)
      obtain ⟨b1, off1, rfl, b1w, b1c⟩ := hT.str (by omega)
      have q0 := bc k (by omega)
      have r0 := b1c k (by omega)
      rw [← hb.cell (p := ⟨b, _, none⟩) bw] at q0
      rw [← hb.cell (p := ⟨b1, _, none⟩) b1w] at r0
      clear bc b1c
      go_wp2_with fail
      go_quiet (fail)
      go_wp2_with fail
      go_roundw
      case rel => exact ⟨k + 1, by omega, by go_num, ex_drewN hb _⟩
      case measure => simp [intOf]; omega
    · go_wp2_with fail
      go_returns
      exact ⟨rfl, hb⟩
def joinL (F : List (List UInt8)) : List UInt8 := F.flatMap (fun w => 32 :: w)
def WordOk (w : List UInt8) : Prop := w ≠ [] ∧ ∀ b ∈ w, Lib.isSp b = false
theorem fgo_word : ∀ (w cur r : List UInt8), (∀ b ∈ w, Lib.isSp b = false) → Lib.fieldsGo cur (w ++ r) = Lib.fieldsGo (cur ++ w) r
  | [], cur, r, _ => by simp
  | b :: w, cur, r, h => by
    rw [List.cons_append, Lib.fieldsGo_more cur b _ (h b (by simp)), fgo_word w _ r (fun x hx => h x (by simp [hx]))]
    simp
theorem sp32 : Lib.isSp 32 = true := by decide
theorem fgo_join : ∀ (F : List (List UInt8)), (∀ w ∈ F, WordOk w) → Lib.fieldsGo [] (joinL F) = F
  | [], _ => by simp [joinL, Lib.fieldsGo]
  | w :: F, h => by
    have hw := h w (by simp)
    have ih := fgo_join F (fun x hx => h x (by simp [hx]))
    have e : joinL (w :: F) = 32 :: (w ++ joinL F) := by simp [joinL]
    rw [e, Lib.fieldsGo_sp 32 _ sp32, fgo_word w [] _ hw.2, List.nil_append]
    cases F with
    | nil =>
      have : (w.isEmpty) = false := by cases w with | nil => exact absurd rfl hw.1 | cons _ _ => rfl
      simp [joinL, Lib.fieldsGo, this]
    | cons v F =>
      have e2 : joinL (v :: F) = 32 :: (v ++ joinL F) := by simp [joinL]
      rw [e2] at ih ⊢
      rw [Lib.fieldsGo_end w 32 _ sp32 hw.1]
      rw [Lib.fieldsGo_sp 32 _ sp32] at ih
      rw [ih]
theorem fgo_ok : ∀ (l cur : List UInt8), (∀ b ∈ cur, Lib.isSp b = false) → ∀ w ∈ Lib.fieldsGo cur l, WordOk w ∧ (∀ b ∈ w, b ∈ cur ∨ b ∈ l) ∧ w.length ≤ cur.length + l.length
  | [], cur, hc, w, hw => by
    cases cur with
    | nil => simp [Lib.fieldsGo] at hw
    | cons a t =>
      simp only [Lib.fieldsGo, List.isEmpty_cons, Bool.false_eq_true, if_false, List.mem_singleton] at hw
      subst hw
      exact ⟨⟨by simp, hc⟩, fun b hb => .inl hb, by simp⟩
  | b :: l, cur, hc, w, hw => by
    cases hb : Lib.isSp b with
    | true =>
      cases cur with
      | nil =>
        rw [Lib.fieldsGo_sp b l hb] at hw
        obtain ⟨h1, h2, h3⟩ := fgo_ok l [] (by simp) w hw
        exact ⟨h1, fun x hx => .inr (by rcases h2 x hx with h | h; exact absurd h (by simp); simp [h]), by simp at h3 ⊢; omega⟩
      | cons a t =>
        rw [Lib.fieldsGo_end (a :: t) b l hb (by simp)] at hw
        rcases List.mem_cons.1 hw with rfl | hw
        · exact ⟨⟨by simp, hc⟩, fun x hx => .inl hx, by simp⟩
        · obtain ⟨h1, h2, h3⟩ := fgo_ok l [] (by simp) w hw
          exact ⟨h1, fun x hx => .inr (by rcases h2 x hx with h | h; exact absurd h (by simp); simp [h]), by simp at h3 ⊢; omega⟩
    | false =>
      rw [Lib.fieldsGo_more cur b l hb] at hw
      obtain ⟨h1, h2, h3⟩ := fgo_ok l (cur ++ [b]) (fun x hx => by
        rcases List.mem_append.1 hx with h | h
        · exact hc x h
        · obtain rfl : x = b := by simpa using h
          exact hb) w hw
      refine ⟨h1, fun x hx => ?_, by simp at h3 ⊢; omega⟩
      rcases h2 x hx with h | h
      · rcases List.mem_append.1 h with h | h
        · exact .inl h
        · exact .inr (by simp at h; simp [h])
      · exact .inr (by simp [h])
/-- the fields' text, each behind a space -/
def joinS (fs : List ByteArray) : ByteArray := ⟨(fs.flatMap (fun b => 32 :: b.data.toList)).toArray⟩
theorem joinS_nil : joinS [] = ByteArray.empty := rfl
theorem joinS_take (fs : List ByteArray) (k : Nat) (h : k < fs.length) : joinS (fs.take k) ++ (⟨#[32]⟩ : ByteArray) ++ fs[k] = joinS (fs.take (k + 1)) := by
  apply ByteArray.ext
  have e : fs.take (k + 1) = fs.take k ++ [fs[k]] := by rw [List.take_add_one, List.getElem?_eq_getElem h]; rfl
  apply Array.ext'
  unfold joinS
  rw [e, List.flatMap_append]
  simp
theorem joinS_size : ∀ (fs : List ByteArray) (m : Nat), (∀ f ∈ fs, f.size ≤ m) → (joinS fs).size ≤ fs.length * (m + 1)
  | [], m, _ => by rw [joinS_nil]; simp
  | f :: fs, m, h => by
    have ih := joinS_size fs m (fun x hx => h x (by simp [hx]))
    have hf := h f (by simp)
    have e : (joinS (f :: fs)).size = 1 + f.size + (joinS fs).size := by
      show (((f :: fs).flatMap (fun b => 32 :: b.data.toList)).toArray).size = 1 + f.size + ((fs.flatMap (fun b => 32 :: b.data.toList)).toArray).size
      rw [List.size_toArray, List.size_toArray, List.flatMap_cons, List.length_append, List.length_cons, Lib.size_eq f]
      omega
    rw [e, List.length_cons, Nat.succ_mul]
    omega
theorem sfL_word (s : ByteArray) : ∀ f ∈ sfL s, f.size ≤ 600 := fun f hf => by
  cases h : sfB s with
  | false => rw [sfN h] at hf; cases hf
  | true =>
    rw [sfY h] at hf
    obtain ⟨w, hw, rfl⟩ := List.mem_map.1 hf
    have h1 := (fgo_ok s.data.toList [] (by simp) w hw).2.2
    have h2 : s.size ≤ 600 := by
      unfold sfB at h
      simp only [Bool.and_eq_true, decide_eq_true_eq] at h
      exact h.1.1
    rw [Lib.size_eq] at h2
    show w.toArray.size ≤ 600
    rw [List.size_toArray]
    simp at h1
    simp at h2
    omega
theorem sfL_le (s : ByteArray) : (sfL s).length ≤ 24 := by
  cases h : sfB s with
  | false => rw [sfN h]; simp
  | true =>
    rw [sfY h, List.length_map]
    unfold sfB at h
    simp only [Bool.and_eq_true, decide_eq_true_eq] at h
    exact h.2
theorem joinS_map (F : List (List UInt8)) : (joinS (F.map (fun l => (⟨l.toArray⟩ : ByteArray)))).data.toList = joinL F := by
  simp [joinS, joinL, List.flatMap_map]
/-- the joined line splits into the same fields -/
theorem join_split (s : ByteArray) (h : sfB s = true) (hz : (joinS (sfL s)).size ≤ 600) : sfB (joinS (sfL s)) = true ∧ sfL (joinS (sfL s)) = sfL s := by
  have hj : (joinS (sfL s)).data.toList = joinL (Lib.fields s.data.toList) := by rw [sfY h, joinS_map]
  have hw : ∀ w ∈ Lib.fields s.data.toList, WordOk w := fun w hw => (fgo_ok _ [] (by simp) w hw).1
  have hf : Lib.fields (joinS (sfL s)).data.toList = Lib.fields s.data.toList := by rw [hj]; exact fgo_join _ hw
  have hin : ∀ b ∈ joinL (Lib.fields s.data.toList), inR b = true := fun b hb => by
    obtain ⟨w, hw, hb⟩ := List.mem_flatMap.1 hb
    rcases List.mem_cons.1 hb with rfl | hb
    · decide
    · have h2 := (fgo_ok _ [] (by simp) w hw).2.1 b hb
      have h3 : b ∈ s.data.toList := by rcases h2 with h2 | h2; exact absurd h2 (by simp); exact h2
      unfold sfB at h
      simp only [Bool.and_eq_true, decide_eq_true_eq] at h
      exact List.all_eq_true.1 h.1.2 b h3
  have hB : sfB (joinS (sfL s)) = true := by
    refine sf_ok hz (fun k x hx => hin x ?_) ?_
    · rw [← hj]; exact List.mem_of_getElem? hx
    · rw [hf]
      unfold sfB at h
      simp only [Bool.and_eq_true, decide_eq_true_eq] at h
      exact h.2
  exact ⟨hB, by rw [sfY hB, hf, ← sfY h]⟩
end Go.Proofs.YtkoagijliokhlaaDoor
