/-
  SEVERAL TEXTS IN ONE: W0 Hl4 W2 Z7 Z8 Z9.
-/
import Derived.WalkKit
import Derived.Lib.Hide
import Derived.WalkSpells
import Derived.WalkLawsBesides
import Derived.Handy
import Derived.Deep.RegionHeld3
import Derived.StillTailTactics
import Derived.Deep.Light
import Derived.Deep.QuietTactic
import Derived.BigQuiet
import Derived.Deep.DeepCutAuto
import Derived.Test.YtjobgnioehkomaaLib
import Derived.Test.YtjobgnioehkomaaC1
import Derived.Test.YtjobgnioehkomaaC2
import Derived.Test.YtjobgnioehkomaaC3
import Derived.Test.YtjobgnioehkomaaC4
import Derived.Test.YtjobgnioehkomaaC5
import Derived.Test.YtjobgnioehkomaaC8
import Derived.Test.YtjobgnioehkomaaT2
import Derived.Test.YtjobgnioehkomaaE3
import Derived.Test.YtjobgnioehkomaaE4
import Derived.Test.YtjobgnioehkomaaE5
import Derived.Test.YtjobgnioehkomaaE6
import Derived.Test.YtjobgnioehkomaaE7
import Derived.Test.YtjobgnioehkomaaE9
import Derived.Test.YtjobgnioehkomaaHld
import Derived.Test.YtjobgnioehkomaaHl2
import Derived.Test.YtjobgnioehkomaaHl3
import Derived.Test.YtjobgnioehkomaaT1
import Derived.Test.YtjobgnioehkomaaD5
import Derived.Test.YtjobgnioehkomaaD7
import Derived.Test.YtjobgnioehkomaaD8
import Derived.Test.YtjobgnioehkomaaY1
import Derived.Test.YtjobgnioehkomaaY2
import Derived.Test.YtjobgnioehkomaaZ1
import Derived.Test.YtjobgnioehkomaaZ3
import Derived.Test.YtjobgnioehkomaaOwn
import Derived.Test.YtjobgnioehkomaaRow
import Derived.Test.YtjobgnioehkomaaN0
import Derived.Test.YtjobgnioehkomaaRaw
import Derived.Test.YtjobgnioehkomaaSz
import Derived.Test.YtjobgnioehkomaaT3
import Derived.Test.YtjobgnioehkomaaT4
import Derived.Test.YtjobgnioehkomaaD1
import Derived.Test.YtjobgnioehkomaaD3
import Derived.Test.YtjobgnioehkomaaD4
import Derived.Test.YtjobgnioehkomaaH1
import Derived.Test.YtjobgnioehkomaaI1
import Derived.Test.YtjobgnioehkomaaI2
import Derived.Test.YtjobgnioehkomaaZ4
import Derived.Test.YtjobgnioehkomaaRows
namespace Go.Proofs.Ytjobgnioehkomaa
set_option linter.unusedVariables false
/-- what a valid store says, as facts on its list of files -/
def GoodL (sc : List Fld) (fs : List Fil) (nx : Int) : Prop := (∀ f ∈ fs, validF sc f = true ∧ f.id < nx) ∧ List.Pairwise (fun f g : Fil => f.id < g.id) fs
theorem validS_iff {s : Sto} : validS s = true ↔ GoodL s.schema s.files s.next ∧ okSchema s.schema = true ∧ s.files.length ≤ 12 ∧ 1 ≤ s.next ∧ s.next ≤ 61 := by
  classical
  unfold validS
  simp only [Bool.and_eq_true, decide_eq_true_eq, inB]
  constructor
  · rintro ⟨h1, ⟨h2, h3⟩, h4, h5⟩
    refine ⟨⟨fun f hf => ?_, ?_⟩, h2, by omega, h4, h5⟩
    · obtain ⟨k, hk, rfl⟩ := List.mem_iff_getElem.1 hf
      have h := h1 k hk
      unfold stBad at h
      rw [dif_pos hk] at h
      simp only [Bool.or_eq_false_iff, decide_eq_false_iff_not, Bool.not_eq_false'] at h
      exact ⟨h.1.1, by have := h.1.2; omega⟩
    · rw [List.pairwise_iff_getElem]
      have step : ∀ (k : Nat) (hk : k + 1 < s.files.length), s.files[k].id < s.files[k + 1].id := by
        intro k hk
        have h := h1 (k + 1) hk
        unfold stBad at h
        rw [dif_pos hk] at h
        simp at h
        have h2 := h.2
        omega
      intro i j hi hj hij
      induction j with
      | zero => omega
      | succ j ih =>
        by_cases e : i = j
        · subst e; exact step i hj
        · have a := ih (by omega) (by omega); have b := step j hj; omega
  · rintro ⟨⟨h1, h2⟩, h3, h4, h5, h6⟩
    refine ⟨fun k hk => ?_, ⟨h3, by omega⟩, h5, h6⟩
    unfold stBad
    rw [dif_pos hk]
    have ha := h1 _ (List.getElem_mem hk)
    rw [ha.1]
    simp only [Bool.not_true, Bool.false_or, Bool.or_eq_false_iff, decide_eq_false_iff_not, Bool.and_eq_false_iff]
    refine ⟨by have := ha.2; omega, ?_⟩
    by_cases h0 : 0 < k
    · right
      have := (List.pairwise_iff_getElem.1 h2) (k - 1) k (by omega) hk (by omega)
      omega
    · left; exact h0
theorem GoodL.find {sc : List Fld} {fs : List Fil} {nx : Int} (h : GoodL sc fs nx) {f : Fil} (hf : f ∈ fs) : fs.find? (atId f.id) = some f := by
  have h2 := h.2
  clear h
  induction fs with
  | nil => cases hf
  | cons x l ih =>
    rw [List.pairwise_cons] at h2
    rcases List.mem_cons.1 hf with rfl | hm
    · rw [List.find?_cons_of_pos (by simp [atId])]
    · rw [List.find?_cons_of_neg (by have := h2.1 f hm; simp only [atId, beq_iff_eq]; omega)]
      exact ih hm h2.2
theorem findF_mem {s : Sto} (h : validS s = true) {f : Fil} (hf : f ∈ s.files) : findF s f.id = f := by
  unfold findF; rw [(validS_iff.1 h).1.find hf]; rfl
theorem validF_parts {sc : List Fld} {f : Fil} (h : validF sc f = true) : validA sc f.attrs = true ∧ 1 ≤ f.id ∧ f.id ≤ 60 ∧ 0 ≤ f.owner ∧ f.owner ≤ 2 ∧ 0 ≤ f.link ∧ f.link ≤ 60 ∧ okSchema sc = true := by
  unfold validF inB at h
  simp only [Bool.and_eq_true, decide_eq_true_eq] at h
  exact ⟨h.1, h.2.1.1.1.1, h.2.1.1.1.2, h.2.1.1.2.1, h.2.1.1.2.2, h.2.1.2.1, h.2.1.2.2, h.2.2⟩
theorem validA_mem {sc : List Fld} {l : List Atr} (h : validA sc l = true) {a : Atr} (ha : a ∈ l) : matchF sc a.name a.val = true := by
  classical
  unfold validA at h
  rw [decide_eq_true_eq] at h
  obtain ⟨k, hk, rfl⟩ := List.mem_iff_getElem.1 ha
  have h2 := h k hk
  unfold attrBad at h2
  rw [dif_pos hk] at h2
  simp only [Bool.or_eq_false_iff, Bool.not_eq_false'] at h2
  exact h2.2
theorem matchF_int {sc : List Fld} {nm : ByteArray} {v : Vl} (h : matchF sc nm v = true) (hk : v.kind = 1) : 0 ≤ v.int ∧ v.int ≤ 999 := by
  unfold matchF okVl inB at h
  rw [hk] at h
  simp only [Bool.and_eq_true] at h
  have h1 := h.1.1
  simp at h1
  exact h1.1
theorem getA_mem {l : List Atr} {nm : ByteArray} : getA l nm = Vl.zero ∨ ∃ a ∈ l, a.val = getA l nm := by
  unfold getA
  cases h : l.find? (fun a => eqS a.name nm) with
  | none => exact .inl rfl
  | some a => exact .inr ⟨a, List.mem_of_find?_eq_some h, rfl⟩
theorem validF_int {sc : List Fld} {f : Fil} (h : validF sc f = true) (nm : ByteArray) : 0 ≤ intA f.attrs nm ∧ intA f.attrs nm ≤ 999 := by
  unfold intA
  split
  · rename_i hk
    rcases getA_mem (l := f.attrs) (nm := nm) with h0 | ⟨a, ha, he⟩
    · rw [h0] at hk; cases hk
    · rw [← he] at hk ⊢
      exact matchF_int (validA_mem (validF_parts h).1 ha) hk
  · omega
theorem creS_valid {s : Sto} (f : Fil) (h : validS s = true) : validS (creS s f) = true := by
  unfold creS
  by_cases hk : creOk s f = true
  · rw [if_pos hk]
    unfold creOk at hk
    simp only [Bool.and_eq_true, decide_eq_true_eq] at hk
    obtain ⟨⟨hv, hl⟩, hf⟩ := hk
    obtain ⟨⟨g1, g2⟩, g3, g4, g5, g6⟩ := validS_iff.1 hv
    have hid := (validF_parts hf)
    simp only [creF] at hid
    refine validS_iff.2 ⟨⟨fun x hx => ?_, ?_⟩, g3, by simp; omega, by simp; omega, by simp only; omega⟩
    · simp only [List.mem_append, List.mem_singleton] at hx
      rcases hx with hx | rfl
      · exact ⟨(g1 x hx).1, by have := (g1 x hx).2; simp only; omega⟩
      · exact ⟨hf, by simp [creF]; omega⟩
    · simp only [List.pairwise_append]
      refine ⟨g2, List.pairwise_singleton _ _, fun x hx y hy => ?_⟩
      rw [List.mem_singleton] at hy; subst hy
      exact (g1 x hx).2
  · rw [if_neg hk]; exact h
theorem delS_valid {s : Sto} (id : Int) (h : validS s = true) : validS (delS s id) = true := by
  unfold delS
  split
  · obtain ⟨⟨g1, g2⟩, g3, g4, g5, g6⟩ := validS_iff.1 h
    have hsub : (s.files.take (s.files.findIdx (atId id)) ++ s.files.drop (s.files.findIdx (atId id) + 1)).Sublist s.files := by
      conv => rhs; rw [← List.take_append_drop (s.files.findIdx (atId id)) s.files]
      refine List.Sublist.append_left ?_ _
      rw [← List.drop_drop]
      exact List.drop_sublist _ _
    exact validS_iff.2 ⟨⟨fun x hx => g1 x (hsub.subset hx), g2.sublist hsub⟩, g3, by have := hsub.length_le; simp only; omega, g5, g6⟩
  · exact h
theorem creS_schema (s : Sto) (f : Fil) : (creS s f).schema = s.schema := by unfold creS; split <;> rfl
theorem delS_schema (s : Sto) (id : Int) : (delS s id).schema = s.schema := by unfold delS; split <;> rfl
theorem creS_mem {s : Sto} {f x : Fil} (h : x ∈ (creS s f).files) : x ∈ s.files ∨ x.attrs = f.attrs := by
  unfold creS at h
  split at h
  · simp only [List.mem_append, List.mem_singleton] at h
    rcases h with h | rfl
    · exact .inl h
    · exact .inr rfl
  · exact .inl h
theorem delS_mem {s : Sto} {id : Int} {x : Fil} (h : x ∈ (delS s id).files) : x ∈ s.files := by
  unfold delS at h
  split at h
  · simp only [List.mem_append] at h
    rcases h with h | h
    · exact List.mem_of_mem_take h
    · exact List.mem_of_mem_drop h
  · exact h
theorem creS_len (s : Sto) (f : Fil) : (creS s f).files.length ≤ s.files.length + 1 := by unfold creS; split <;> simp
theorem delS_len (s : Sto) (id : Int) : (delS s id).files.length ≤ s.files.length := by unfold delS; split <;> simp <;> omega
end Go.Proofs.Ytjobgnioehkomaa
namespace Go.Proofs.Ytjobgnioehkomaa
open Go.RowKit
variable {P : Program} {ops : Array Oper} {Q : Exit → Act → World → Prop} {md : Region.Mode} {S : World → Prop} {F : List Nat} {L : List Oper}
theorem heldG_one (i : Nat) {o : Oper} {tl : List Oper} {fuel : Nat} {listed : Array Bool} {a : Act} {w : World} (hr : Region.ready md L.toArray listed = [i]) (hd : L.drop i = o :: tl)
    (h : ∀ K' : Act → World → Prop, Shut (∀ a w, (noF F (listed.setIfInBounds i true) = true → S w) → ((noF F (listed.setIfInBounds i true) = true → S w) → anyG P md L.toArray Q S F fuel (listed.setIfInBounds i true) a w) → K' a w) → if Region.wanted o (yielded L.toArray a.tmps) = true then Oper.wp P o a w K' Q else K' (a.put o.dst undef) w) :
    anyG P md L.toArray Q S F (fuel + 1) listed a w := by
  refine ⟨fun h0 => (by rw [hr] at h0; cases h0), fun j hj => ?_⟩
  rw [hr] at hj
  obtain rfl : j = i := by simpa using hj
  exact wpOp_step (held_at hd) (fun K' hK => h K' (fun a w hS hW => hK a w ⟨hS, hW hS⟩))
end Go.Proofs.Ytjobgnioehkomaa
namespace Go.Proofs.Ytjobgnioehkomaa
open Go.RowKit
set_option linter.unusedVariables false
abbrev ltA (a b : Atr) : Prop := Op.bytesLess a.name.toList b.name.toList = true
theorem validA_iff {s : List Fld} {l : List Atr} : validA s l = true ↔ (∀ a ∈ l, matchF s a.name a.val = true) ∧ l.Pairwise ltA := by
  constructor
  · intro h
    refine ⟨fun a ha => validA_mem h ha, ?_⟩
    have hg : goodA s l l.length := by
      classical
      unfold validA at h
      rwa [decide_eq_true_eq] at h
    have step : ∀ (k : Nat) (hk : k + 1 < l.length), ltA l[k] l[k + 1] := by
      intro k hk
      have h2 := hg (k + 1) hk
      unfold attrBad at h2
      rw [dif_pos hk] at h2
      simp at h2
      exact h2.1
    rw [List.pairwise_iff_getElem]
    intro i j hi hj hij
    induction j with
    | zero => omega
    | succ j ih =>
      by_cases e : i = j
      · subst e; exact step i hj
      · exact bless_trans (ih (by omega) (by omega)) (step j hj)
  · rintro ⟨h1, h2⟩
    refine validA_all fun k hk => ?_
    unfold attrBad
    rw [dif_pos hk, h1 _ (List.getElem_mem hk)]
    simp only [Bool.not_true, Bool.or_false, Bool.and_eq_false_iff, decide_eq_false_iff_not, Bool.not_eq_false']
    by_cases h0 : 0 < k
    · exact .inr ((List.pairwise_iff_getElem.1 h2) (k - 1) k (by omega) hk (by omega))
    · exact .inl h0
theorem validA_set {s : List Fld} {l : List Atr} (h : validA s l = true) {nm : ByteArray} {v : Vl} (hm : matchF s nm v = true) : validA s (setL l nm v) = true := by
  obtain ⟨h1, h2⟩ := validA_iff.1 h
  have hk : (v.kind == 0) = false := by
    unfold matchF at hm
    simp only [Bool.and_eq_true, bne_iff_ne, ne_eq] at hm
    simpa using hm.1.2
  have d1 : ∀ a ∈ dropA l nm, matchF s a.name a.val = true := fun a ha => h1 a (List.mem_filter.1 ha).1
  have d2 : (dropA l nm).Pairwise ltA := h2.filter _
  have d3 : ∀ a ∈ dropA l nm, eqS a.name nm = false := fun a ha => by
    have := (List.mem_filter.1 ha).2
    simpa using this
  unfold setL
  rw [hk]
  generalize dropA l nm = r at *
  simp only [Bool.false_eq_true, if_false]
  unfold insL
  generalize hi : r.findIdx (gtA nm) = i
  have hlt : ∀ a ∈ r.take i, ltA a ⟨nm, v⟩ := by
    intro a ha
    obtain ⟨j, hj, rfl⟩ := List.mem_iff_getElem.1 ha
    rw [List.length_take] at hj
    have hb : gtA nm (r[j]'(by omega)) = false := by
      have := List.not_of_lt_findIdx (p := gtA nm) (xs := r) (i := j) (by omega)
      simpa using this
    rw [List.getElem_take]
    unfold ltA
    rw [bless_gt nm.toList (r[j]'(by omega)).name.toList]
    unfold gtA at hb
    rw [hb]
    have he := d3 _ (List.getElem_mem (show j < r.length by omega))
    unfold eqS at he
    simp only [Bool.false_or, Bool.not_eq_true', beq_eq_false_iff_ne, ne_eq] at he ⊢
    exact fun e => he e.symm
  have hgt : ∀ a ∈ r.drop i, ltA ⟨nm, v⟩ a := by
    intro a ha
    by_cases hl : i < r.length
    · have hb : gtA nm r[i] = true := by
        have h9 := List.findIdx_getElem (p := gtA nm) (xs := r) (w := by rw [hi]; exact hl)
        simpa only [hi] using h9
      have hd := List.drop_eq_getElem_cons hl
      rw [hd] at ha
      rcases List.mem_cons.1 ha with rfl | ha
      · exact hb
      · have hp : (r.drop i).Pairwise ltA := d2.sublist (List.drop_sublist _ _)
        rw [hd, List.pairwise_cons] at hp
        exact bless_trans (show Op.bytesLess nm.toList r[i].name.toList = true from hb) (hp.1 a ha)
    · rw [List.drop_of_length_le (by omega)] at ha; cases ha
  refine validA_iff.2 ⟨fun a ha => ?_, ?_⟩
  · rcases List.mem_append.1 ha with ha | ha
    · exact d1 a (List.mem_of_mem_take ha)
    · rcases List.mem_cons.1 ha with rfl | ha
      · exact hm
      · exact d1 a (List.mem_of_mem_drop ha)
  · rw [List.pairwise_append]
    refine ⟨d2.sublist (List.take_sublist _ _), List.pairwise_cons.2 ⟨hgt, d2.sublist (List.drop_sublist _ _)⟩, fun a ha b hb => ?_⟩
    rcases List.mem_cons.1 hb with rfl | hb
    · exact hlt a ha
    · exact bless_trans (hlt a ha) (hgt b hb)
theorem validA_nil (s : List Fld) : validA s [] = true := validA_iff.2 ⟨fun a ha => (by cases ha), List.Pairwise.nil⟩
/-! ### the usual schema -/
theorem txt_dec {s : ByteArray} {m : Int} (h : ∀ i : Fin s.size, 97 ≤ (s[i.1]'i.2).toNat ∧ (s[i.1]'i.2).toNat ≤ 122) (h1 : inB s.size 1 m = true) : txt s m = true := by
  rw [← txt_low (m := m) fun i hi => ?_]
  · exact h1
  · have := h ⟨i, hi⟩
    simp only at this
    omega
theorem txt_a : txt ⟨#[97]⟩ 1 = true := txt_dec (by decide) (by decide)
theorem txt_b : txt ⟨#[98]⟩ 1 = true := txt_dec (by decide) (by decide)
theorem txt_n : txt ⟨#[110]⟩ 1 = true := txt_dec (by decide) (by decide)
theorem txt_t : txt ⟨#[116]⟩ 1 = true := txt_dec (by decide) (by decide)
theorem txt_ink : txt ⟨#[105, 110, 107]⟩ 6 = true := txt_dec (by decide) (by decide)
theorem txt_sea : txt ⟨#[115, 101, 97]⟩ 6 = true := txt_dec (by decide) (by decide)
theorem txt_red : txt ⟨#[114, 101, 100]⟩ 6 = true := txt_dec (by decide) (by decide)
theorem txt_blue : txt ⟨#[98, 108, 117, 101]⟩ 6 = true := txt_dec (by decide) (by decide)
theorem usual_ok : okSchema usualL = true := by
  unfold okSchema
  rw [if_pos]
  · decide
  · intro i hi
    match i, hi with
    | 0, _ => simp [badAt, usualL, fA, txt_a]
    | 1, _ => simp [badAt, usualL, fA, fBb, txt_b]; decide +kernel
    | 2, _ => simp [badAt, usualL, fBb, fN, txt_n]; decide +kernel
    | 3, _ => simp [badAt, usualL, fN, fT, txt_t]; decide +kernel
theorem match_int {nm : ByteArray} {x : Int} (h : fldKind usualL nm = 1) (h0 : 0 ≤ x) (h1 : x ≤ 999) : matchF usualL nm (intV x) = true := by
  unfold matchF okVl intV
  rw [h]
  simp [inB, h0, h1]
theorem match_str {nm s : ByteArray} (h : fldKind usualL nm = 2) (hs : txt s 6 = true) : matchF usualL nm (strV s) = true := by
  unfold matchF okVl strV
  rw [h]
  simp [hs]
theorem kind_a : fldKind usualL ⟨#[97]⟩ = 1 := by decide +kernel
theorem kind_b : fldKind usualL ⟨#[98]⟩ = 1 := by decide +kernel
theorem kind_n : fldKind usualL ⟨#[110]⟩ = 2 := by decide +kernel
theorem kind_t : fldKind usualL ⟨#[116]⟩ = 2 := by decide +kernel
/-- what a drawn file is known by -/
def GoodF (f : Fil) : Prop := smallA f.attrs ∧ validA usualL f.attrs = true ∧ (0 ≤ f.owner ∧ f.owner ≤ 2) ∧ (0 ≤ f.link ∧ f.link ≤ 60)
theorem GoodF.set {f : Fil} (h : GoodF f) {nm : ByteArray} {v : Vl} (h1 : nm.size ≤ 16) (h2 : v.str.size ≤ 16) (hm : matchF usualL nm v = true) : GoodF (setA f nm v) :=
  ⟨h.1.set h1 h2, validA_set h.2.1 hm, h.2.2.1, h.2.2.2⟩
theorem GoodF.valid {f : Fil} (h : GoodF f) (h1 : 1 ≤ f.id) (h2 : f.id ≤ 60) : validF usualL f = true := by
  unfold validF inB
  simp [h.2.1, h.2.2.1.1, h.2.2.1.2, h.2.2.2.1, h.2.2.2.2, h1, h2, usual_ok]
theorem new_valid : validS (newSto usualL) = true := by
  refine validS_iff.2 ⟨⟨fun f hf => ?_, ?_⟩, usual_ok, ?_, ?_, ?_⟩ <;> simp [newSto] at *
theorem creS_good {s : Sto} {f : Fil} (h : validS s = true) (hs : s.schema = usualL) (hl : s.files.length < 12) (hn : s.next ≤ 60) (hf : GoodF f) : creS s f = ⟨s.schema, s.files ++ [creF s f], s.next + 1⟩ := by
  unfold creS
  rw [if_pos]
  unfold creOk
  rw [h, hs, (show GoodF (creF s f) from hf).valid (validS_iff.1 h).2.2.2.1 hn]
  simp [hl]
end Go.Proofs.Ytjobgnioehkomaa
namespace Go.Proofs.Ytjobgnioehkomaa
open Go.RowKit
set_option linter.unusedVariables false
set_option maxRecDepth 100000
/-- a drawn file, valid in the usual schema, its row the call's own -/
def DrawG (W0 w : World) (g : Nat) (e : Ending) (w' : World) : Prop := ∃ (f : Fil) (A : Option Addr) (n c : Nat), e = .returned (.agg #[.int .i64 f.id, .int .i64 f.owner, .bool f.shared, .int .i64 f.link, .slice A n c]) ∧ FRow 84 4 eAtr w' w.heap.size A n c f.attrs ∧ n ≤ 4 ∧ GoodF f ∧ Cur W0 w' g ∧ Chg [g] w w'
def MidG (W0 w : World) (g b m : Nat) (w' : World) : Prop := ∃ (f : Fil) (A : Option Addr) (n c : Nat), n ≤ m ∧ GoodF f ∧ MidF W0 w g b f A n c w'
set_option maxHeartbeats 6400000 in
theorem spec_l04FileG (W0 w : World) (g : Nat) (id : Int) (hC : Cur W0 w g) : Calls Try.prog 91 #[.pointer (some ⟨g, 0, none⟩), .int .i64 id] w (DrawG W0 w g) := by
  have HB := Lib.hid fun n h0 h1 w' (h : Cur W0 w' g) => spec_l01Below W0 w' g n h0 h1 h
  have HO := Lib.hid fun n h0 h1 w' (h : Cur W0 w' g) => spec_l01Once W0 w' g n h0 h1 h
  have HP := Lib.hid fun (A : Option Addr) (m c : Nat) ls w' h0 h1 hS (h : Cur W0 w' g) => spec_l01Pick W0 w' g A m c ls h0 h1 hS h
  have hgl := cur_lt hC
  have hgw := (cur_w hC).2.size
  have HC := Lib.hid hC
  clear hC
  go_enter Try.func91, Try.ntmps91
  go_wp2_with fail
  refine (HB.out 3 (by omega) (by omega) _ (HC.out.below (ex_alloc (Below.refl _ _) _))).mono ?_; rintro e w1 ⟨x, rfl, ⟨x0, x1⟩, hc1, hg1⟩
  have H1 := Lib.hid (And.intro hc1 (And.intro ((Chg.of_below [g] (ex_alloc (Below.refl w.heap.size w) _)).trans hg1) (hg1.keepb (hp_new rfl) (by simp only [List.mem_singleton]; omega))))
  clear hc1 hg1
  go_wp2_with fail
  refine (HO.out 2 (by omega) (by omega) _ H1.out.1).mono ?_; rintro e w2 ⟨sh, rfl, hc2, hg2⟩
  have H2 := Lib.hid (And.intro hc2 (And.intro (H1.out.2.1.trans hg2) (hg2.keepb H1.out.2.2 (by simp only [List.mem_singleton]; omega))))
  have hz2 : w.heap.size < w2.heap.size := blk_lt H2.out.2.2
  clear hc2 hg2 H1
  go_wp2_with fail
  generalize hw3 : World.alloc w2 _ = w3
  have hM3 : MidF W0 w g w2.heap.size ⟨id, x, sh, 0, []⟩ none 0 0 w3 := by
    have hba : Below w2.heap.size w2 w3 := by rw [← hw3]; exact (Below.refl _ _).alloc (Nat.le_refl _) _
    refine ⟨by rw [← hw3]; exact hp_new rfl, below_keep hba H2.out.2.2, FRow.any0 _ _ _ _ _ _, H2.out.1.below hba, H2.out.2.1.trans (Chg.of_below _ hba)⟩
  have hl3 : w2.heap.size < w3.heap.size := by rw [← hw3]; simp
  clear hw3 H2
  obtain ⟨f, A, n, c, hn, hsm, hm⟩ : MidG W0 w g w2.heap.size 0 w3 := ⟨_, none, 0, 0, Nat.le_refl _, ⟨fun a ha => (by cases ha), validA_nil _, ⟨x0, by show x ≤ 2; omega⟩, ⟨by show (0 : Int) ≤ 0; omega, by show (0 : Int) ≤ 60; omega⟩⟩, hM3⟩
  have hbl := hz2
  clear hM3 hz2 x0 x1
  generalize w2.heap.size = b at *
  have HM0 := Lib.hid hm
  have HSM := Lib.hid hsm
  clear hm hsm
  refine (HO.out 2 (by omega) (by omega) _ HM0.out.2.2.2.1).mono ?_; rintro e w4 ⟨q, rfl, hc, hg⟩
  have HM := Lib.hid (HM0.out.step hgl hbl hc hg)
  clear hc hg HM0
  go_upto_if 13 with fail
  go_cut [] (fun w' => MidG W0 w g b 0 w')
  case first =>
    cases q with
    | false =>
      go_wp2_with fail
      go_meet
      exact ⟨f, A, n, c, by omega, HSM.out, HM.out⟩
    | true =>
      go_wp2_with fail
      refine (HB.out 7 (by omega) (by omega) _ HM.out.2.2.2.1).mono ?_; rintro e w5 ⟨y, rfl, hy, hc, hg⟩
      have HM5 := Lib.hid (HM.out.step hgl hbl hc hg)
      clear hc hg
      have u3 := blk_cell? HM5.out.1 3
      have uf := blk_free HM5.out.1
      simp only [List.getElem?_toArray, List.getElem?_cons_zero, List.getElem?_cons_succ] at u3
      go_wp2_with fail
      go_meet
      exact ⟨{ f with link := y }, A, n, c, by omega, ⟨HSM.out.1, HSM.out.2.1, HSM.out.2.2.1, ⟨hy.1, by have := hy.2; show y ≤ 60; omega⟩⟩, HM5.out.link hgl hgw hbl y⟩
  case rest =>
    generalize wc = w5 at *
    clear HM HSM
    clear hn
    obtain ⟨f, A, n, c, hn, hsm, hm⟩ := hcut
    have HM0 := Lib.hid hm
    have HSM := Lib.hid hsm
    clear hm hsm
    go_wp2_with fail
    refine (HO.out 4 (by omega) (by omega) _ HM0.out.2.2.2.1).mono ?_; rintro e w6 ⟨q, rfl, hc, hg⟩
    have HM := Lib.hid (HM0.out.step hgl hbl hc hg)
    clear hc hg HM0
    go_upto_if 19 with fail
    go_cut [] (fun w' => MidG W0 w g b 1 w')
    case first =>
      cases q with
      | false =>
        go_upto_region 5 with fail
        refine region_F (S := (fun w' => w'.cell? ⟨b, 0, none⟩ = some (.int .i64 f.id) ∧ w'.cell? ⟨b, 1, none⟩ = some (.int .i64 f.owner) ∧ w'.cell? ⟨b, 2, none⟩ = some (.bool f.shared) ∧ w'.cell? ⟨b, 3, none⟩ = some (.int .i64 f.link) ∧ w'.cell? ⟨b, 4, none⟩ = some (.slice A n c) ∧ MidF W0 w g b f A n c w')) [5] (by kernel_rfl) (by (try dsimp only); exact (HM.out.step hgl hbl (HM.out.2.2.2.1.below (Below.refl _ _).drew) (Chg.of_below _ (Below.refl _ _).drew)).cells) (fun hHeld => ?_)
        generalize World.drew w6 = Wd at *
        refine heldF_take 0 rfl (by kernel_rfl) (by kernel_rfl) (by kernel_rfl) (by kernel_rfl) (by kernel_rfl) (by rfl) (fun _ _ _ h => h) (by assumption) (by intro w hSw; (try dsimp only at hSw); go_simp; first | done | with_reducible rfl) ?_
        simp only [Act.put, List.setIfInBounds_toArray, List.set_cons_zero, List.set_cons_succ]
        refine heldF_take 1 rfl (by kernel_rfl) (by kernel_rfl) (by kernel_rfl) (by kernel_rfl) (by kernel_rfl) (by rfl) (fun _ _ _ h => h) (by assumption) (by intro w hSw; (try dsimp only at hSw); go_simp; first | done | with_reducible rfl) ?_
        simp only [Act.put, List.setIfInBounds_toArray, List.set_cons_zero, List.set_cons_succ]
        have hgd := cur_lt hHeld.2.2.2.2.2.2.2.2.1
        refine heldF_one 2 (by kernel_rfl) rfl (fun K hK => ?_)
        go_simp
        go_at_call 62
        refine (HB.out 4 (by omega) (by omega) _ hHeld.2.2.2.2.2.2.2.2.1).mono ?_; rintro e w3 ⟨x, rfl, hx, hc3, hg3⟩
        go_wp2_with fail
        refine hK.out _ _ (fun _ => by (try dsimp only); exact (hHeld.2.2.2.2.2.step hgl hbl hc3 hg3).cells) (fun hNew => ?_)
        clear hK K hHeld
        have hHeld := hNew rfl
        clear hNew
        try simp only [Act.put, List.setIfInBounds_toArray, List.set_cons_zero, List.set_cons_succ]
        have HX := Lib.hid hx
        clear hc3 hg3 hx
        refine heldF_one 3 (by kernel_rfl) rfl (fun K hK => ?_)
        go_simp
        go_at_call 11
        refine (spec_IntValue x _).mono ?_; rintro e w4 ⟨rfl, hb4⟩
        go_wp2_with fail
        refine hK.out _ _ (fun _ => by (try dsimp only); exact (hHeld.2.2.2.2.2.below hgl hbl hb4).cells) (fun hNew => ?_)
        clear hK K hHeld
        have hHeld := hNew rfl
        clear hNew
        try simp only [Act.put, List.setIfInBounds_toArray, List.set_cons_zero, List.set_cons_succ]
        clear hb4
        refine heldF_one 4 (by kernel_rfl) rfl (fun K hK => ?_)
        go_simp
        go_at_call 23
        refine (spec_SetAttr f A n c ⟨#[97]⟩ (intV x) _ (hHeld.2.2.2.2.2.2.2.1.sl (R := RAtr) encAtr (fun _ => rfl)) (by omega)).mono ?_; rintro e w5 ⟨A5, c5, rfl, hr5, hb5⟩
        have HR5 := Lib.hid (hr5.re (fun x hx => Nat.le_trans hHeld.2.2.2.2.2.2.2.2.2.size (hr5.base x hx).1))
        have HM5 := Lib.hid (hHeld.2.2.2.2.2.below hgl hbl hb5)
        go_wp2_with fail
        refine hK.out _ _ (fun _ => by (try dsimp only); exact HM5.out.cells) (fun hNew => ?_)
        clear hK K hHeld
        have hHeld := hNew rfl
        clear hNew
        try simp only [Act.put, List.setIfInBounds_toArray, List.set_cons_zero, List.set_cons_succ]
        clear hr5 hb5
        have u0 := blk_cell? HM5.out.1 0
        have u1 := blk_cell? HM5.out.1 1
        have u2 := blk_cell? HM5.out.1 2
        have u3 := blk_cell? HM5.out.1 3
        have u4 := blk_cell? HM5.out.1 4
        have uf := blk_free HM5.out.1
        refine heldF_one 5 (by kernel_rfl) rfl (fun K hK => ?_)
        go_simp
        refine hK.out _ _ (fun h => by cases (show true = false from h)) (fun _ => ?_)
        clear hK K
        try clear hHeld
        try simp only [Act.put, List.setIfInBounds_toArray, List.set_cons_zero, List.set_cons_succ]
        refine anyF_done (by kernel_rfl) ?_ _
        go_wp2_with fail
        go_meet
        have hl5 : (setA f ⟨#[97]⟩ (intV x)).attrs.length ≤ 1 := Nat.le_trans (setL_len f.attrs ⟨#[97]⟩ (intV x)) (by have h9 := HM5.out.2.2.1.len; omega)
        exact ⟨setA f ⟨#[97]⟩ (intV x), A5, _, c5, hl5, HSM.out.set (nm := ⟨#[97]⟩) (v := (intV x)) (by decide) (show ByteArray.empty.size ≤ 16 by decide) (match_int kind_a HX.out.1 (by have := HX.out.2; omega)), HM5.out.put (f' := setA f ⟨#[97]⟩ (intV x)) hgl hgw hbl HR5.out⟩
      | true =>
        go_wp2_with fail
        go_meet
        exact ⟨f, A, n, c, by omega, HSM.out, HM.out⟩
    case rest =>
      generalize wc = w7 at *
      clear HM HSM
      clear hn
      obtain ⟨f, A, n, c, hn, hsm, hm⟩ := hcut
      have HM0 := Lib.hid hm
      have HSM := Lib.hid hsm
      clear hm hsm
      go_wp2_with fail
      refine (HO.out 2 (by omega) (by omega) _ HM0.out.2.2.2.1).mono ?_; rintro e w8 ⟨q, rfl, hc, hg⟩
      have HM := Lib.hid (HM0.out.step hgl hbl hc hg)
      clear hc hg HM0
      go_upto_if 26 with fail
      go_cut [] (fun w' => MidG W0 w g b 2 w')
      case first =>
        cases q with
        | false =>
          go_wp2_with fail
          go_meet
          exact ⟨f, A, n, c, by omega, HSM.out, HM.out⟩
        | true =>
          go_upto_region 7 with fail
          refine region_F (S := (fun w' => w'.cell? ⟨b, 0, none⟩ = some (.int .i64 f.id) ∧ w'.cell? ⟨b, 1, none⟩ = some (.int .i64 f.owner) ∧ w'.cell? ⟨b, 2, none⟩ = some (.bool f.shared) ∧ w'.cell? ⟨b, 3, none⟩ = some (.int .i64 f.link) ∧ w'.cell? ⟨b, 4, none⟩ = some (.slice A n c) ∧ MidF W0 w g b f A n c w')) [5] (by kernel_rfl) (by (try dsimp only); exact (HM.out.step hgl hbl (HM.out.2.2.2.1.below (Below.refl _ _).drew) (Chg.of_below _ (Below.refl _ _).drew)).cells) (fun hHeld => ?_)
          generalize World.drew w8 = Wd at *
          refine heldF_take 0 rfl (by kernel_rfl) (by kernel_rfl) (by kernel_rfl) (by kernel_rfl) (by kernel_rfl) (by rfl) (fun _ _ _ h => h) (by assumption) (by intro w hSw; (try dsimp only at hSw); go_simp; first | done | with_reducible rfl) ?_
          simp only [Act.put, List.setIfInBounds_toArray, List.set_cons_zero, List.set_cons_succ]
          refine heldF_take 1 rfl (by kernel_rfl) (by kernel_rfl) (by kernel_rfl) (by kernel_rfl) (by kernel_rfl) (by rfl) (fun _ _ _ h => h) (by assumption) (by intro w hSw; (try dsimp only at hSw); go_simp; first | done | with_reducible rfl) ?_
          simp only [Act.put, List.setIfInBounds_toArray, List.set_cons_zero, List.set_cons_succ]
          have hgd := cur_lt hHeld.2.2.2.2.2.2.2.2.1
          refine heldF_one 2 (by kernel_rfl) rfl (fun K hK => ?_)
          go_simp
          go_at_call 62
          refine (HB.out 4 (by omega) (by omega) _ hHeld.2.2.2.2.2.2.2.2.1).mono ?_; rintro e w3 ⟨x, rfl, hx, hc3, hg3⟩
          go_wp2_with fail
          refine hK.out _ _ (fun _ => by (try dsimp only); exact (hHeld.2.2.2.2.2.step hgl hbl hc3 hg3).cells) (fun hNew => ?_)
          clear hK K hHeld
          have hHeld := hNew rfl
          clear hNew
          try simp only [Act.put, List.setIfInBounds_toArray, List.set_cons_zero, List.set_cons_succ]
          have HX := Lib.hid hx
          clear hc3 hg3 hx
          refine heldF_one 3 (by kernel_rfl) rfl (fun K hK => ?_)
          go_simp
          go_at_call 11
          refine (spec_IntValue x _).mono ?_; rintro e w4 ⟨rfl, hb4⟩
          go_wp2_with fail
          refine hK.out _ _ (fun _ => by (try dsimp only); exact (hHeld.2.2.2.2.2.below hgl hbl hb4).cells) (fun hNew => ?_)
          clear hK K hHeld
          have hHeld := hNew rfl
          clear hNew
          try simp only [Act.put, List.setIfInBounds_toArray, List.set_cons_zero, List.set_cons_succ]
          clear hb4
          refine heldF_one 4 (by kernel_rfl) rfl (fun K hK => ?_)
          go_simp
          go_at_call 23
          refine (spec_SetAttr f A n c ⟨#[98]⟩ (intV x) _ (hHeld.2.2.2.2.2.2.2.1.sl (R := RAtr) encAtr (fun _ => rfl)) (by omega)).mono ?_; rintro e w5 ⟨A5, c5, rfl, hr5, hb5⟩
          have HR5 := Lib.hid (hr5.re (fun x hx => Nat.le_trans hHeld.2.2.2.2.2.2.2.2.2.size (hr5.base x hx).1))
          have HM5 := Lib.hid (hHeld.2.2.2.2.2.below hgl hbl hb5)
          go_wp2_with fail
          refine hK.out _ _ (fun _ => by (try dsimp only); exact HM5.out.cells) (fun hNew => ?_)
          clear hK K hHeld
          have hHeld := hNew rfl
          clear hNew
          try simp only [Act.put, List.setIfInBounds_toArray, List.set_cons_zero, List.set_cons_succ]
          clear hr5 hb5
          have u0 := blk_cell? HM5.out.1 0
          have u1 := blk_cell? HM5.out.1 1
          have u2 := blk_cell? HM5.out.1 2
          have u3 := blk_cell? HM5.out.1 3
          have u4 := blk_cell? HM5.out.1 4
          have uf := blk_free HM5.out.1
          refine heldF_one 5 (by kernel_rfl) rfl (fun K hK => ?_)
          go_simp
          refine hK.out _ _ (fun h => by cases (show true = false from h)) (fun _ => ?_)
          clear hK K
          try clear hHeld
          try simp only [Act.put, List.setIfInBounds_toArray, List.set_cons_zero, List.set_cons_succ]
          refine anyF_done (by kernel_rfl) ?_ _
          go_wp2_with fail
          go_meet
          have hl5 : (setA f ⟨#[98]⟩ (intV x)).attrs.length ≤ 2 := Nat.le_trans (setL_len f.attrs ⟨#[98]⟩ (intV x)) (by have h9 := HM5.out.2.2.1.len; omega)
          exact ⟨setA f ⟨#[98]⟩ (intV x), A5, _, c5, hl5, HSM.out.set (nm := ⟨#[98]⟩) (v := (intV x)) (by decide) (show ByteArray.empty.size ≤ 16 by decide) (match_int kind_b HX.out.1 (by have := HX.out.2; omega)), HM5.out.put (f' := setA f ⟨#[98]⟩ (intV x)) hgl hgw hbl HR5.out⟩
      case rest =>
        generalize wc = w9 at *
        clear HM HSM
        clear hn
        obtain ⟨f, A, n, c, hn, hsm, hm⟩ := hcut
        have HM0 := Lib.hid hm
        have HSM := Lib.hid hsm
        clear hm hsm
        go_wp2_with fail
        refine (HO.out 3 (by omega) (by omega) _ HM0.out.2.2.2.1).mono ?_; rintro e w10 ⟨q, rfl, hc, hg⟩
        have HM := Lib.hid (HM0.out.step hgl hbl hc hg)
        clear hc hg HM0
        go_upto_if 34 with fail
        go_cut [] (fun w' => MidG W0 w g b 3 w')
        case first =>
          cases q with
          | false =>
            go_upto_region 9 with fail
            refine region_F (S := (fun w' => w'.cell? ⟨b, 0, none⟩ = some (.int .i64 f.id) ∧ w'.cell? ⟨b, 1, none⟩ = some (.int .i64 f.owner) ∧ w'.cell? ⟨b, 2, none⟩ = some (.bool f.shared) ∧ w'.cell? ⟨b, 3, none⟩ = some (.int .i64 f.link) ∧ w'.cell? ⟨b, 4, none⟩ = some (.slice A n c) ∧ MidF W0 w g b f A n c w')) [6] (by kernel_rfl) (by (try dsimp only); exact (HM.out.step hgl hbl (HM.out.2.2.2.1.below (Below.refl _ _).drew) (Chg.of_below _ (Below.refl _ _).drew)).cells) (fun hHeld => ?_)
            generalize World.drew w10 = Wd at *
            refine heldF_take 0 rfl (by kernel_rfl) (by kernel_rfl) (by kernel_rfl) (by kernel_rfl) (by kernel_rfl) (by rfl) (fun _ _ _ h => h) (by assumption) (by intro w hSw; (try dsimp only at hSw); go_simp; first | done | with_reducible rfl) ?_
            simp only [Act.put, List.setIfInBounds_toArray, List.set_cons_zero, List.set_cons_succ]
            refine heldF_take 1 rfl (by kernel_rfl) (by kernel_rfl) (by kernel_rfl) (by kernel_rfl) (by kernel_rfl) (by rfl) (fun _ _ _ h => h) (by assumption) (by intro w hSw; (try dsimp only at hSw); go_simp; first | done | with_reducible rfl) ?_
            simp only [Act.put, List.setIfInBounds_toArray, List.set_cons_zero, List.set_cons_succ]
            have hgd := cur_lt hHeld.2.2.2.2.2.2.2.2.1
            refine heldF_one 2 (by kernel_rfl) rfl (fun K hK => ?_)
            go_simp
            refine hK.out _ _ (fun _ => by (try dsimp only); exact (hHeld.2.2.2.2.2.below hgl hbl (ex_alloc (Below.refl _ _) _)).cells) (fun hNew => ?_)
            clear hK K hHeld
            have hHeld := hNew rfl
            clear hNew
            try simp only [Act.put, List.setIfInBounds_toArray, List.set_cons_zero, List.set_cons_succ]
            refine heldF_one 3 (by kernel_rfl) rfl (fun K hK => ?_)
            go_simp
            go_at_call 130
            refine (HP.out _ 2 2 [⟨#[105, 110, 107]⟩, ⟨#[115, 101, 97]⟩] _ (by omega) (by omega) (lit_keeps (n := 2) encStr (fun _ _ => rfl) _ [⟨#[105, 110, 107]⟩, ⟨#[115, 101, 97]⟩] 9 hgd rfl (by unfold maxLen; omega) rfl) hHeld.2.2.2.2.2.2.2.2.1).mono ?_
            rintro e w3 ⟨s, rfl, hs, hc3, hg3⟩
            have HT := Lib.hid (show txt s 6 = true by
              simp only [List.mem_cons, List.not_mem_nil, or_false] at hs
              rcases hs with rfl | rfl
              · exact txt_ink
              · exact txt_sea)
            have hs1 : s.size ≤ 16 := by
              simp only [List.mem_cons, List.not_mem_nil, or_false] at hs
              rcases hs with rfl | rfl <;> decide
            go_wp2_with fail
            refine hK.out _ _ (fun _ => by (try dsimp only); exact (hHeld.2.2.2.2.2.step hgl hbl hc3 hg3).cells) (fun hNew => ?_)
            clear hK K hHeld
            have hHeld := hNew rfl
            clear hNew
            try simp only [Act.put, List.setIfInBounds_toArray, List.set_cons_zero, List.set_cons_succ]
            clear hc3 hg3 hs
            refine heldF_one 4 (by kernel_rfl) rfl (fun K hK => ?_)
            go_simp
            go_at_call 129
            refine (spec_StringValue s _).mono ?_; rintro e w4 ⟨rfl, hb4⟩
            go_wp2_with fail
            refine hK.out _ _ (fun _ => by (try dsimp only); exact (hHeld.2.2.2.2.2.below hgl hbl hb4).cells) (fun hNew => ?_)
            clear hK K hHeld
            have hHeld := hNew rfl
            clear hNew
            try simp only [Act.put, List.setIfInBounds_toArray, List.set_cons_zero, List.set_cons_succ]
            clear hb4
            refine heldF_one 5 (by kernel_rfl) rfl (fun K hK => ?_)
            go_simp
            go_at_call 23
            refine (spec_SetAttr f A n c ⟨#[110]⟩ (strV s) _ (hHeld.2.2.2.2.2.2.2.1.sl (R := RAtr) encAtr (fun _ => rfl)) (by omega)).mono ?_; rintro e w5 ⟨A5, c5, rfl, hr5, hb5⟩
            have HR5 := Lib.hid (hr5.re (fun x hx => Nat.le_trans hHeld.2.2.2.2.2.2.2.2.2.size (hr5.base x hx).1))
            have HM5 := Lib.hid (hHeld.2.2.2.2.2.below hgl hbl hb5)
            go_wp2_with fail
            refine hK.out _ _ (fun _ => by (try dsimp only); exact HM5.out.cells) (fun hNew => ?_)
            clear hK K hHeld
            have hHeld := hNew rfl
            clear hNew
            try simp only [Act.put, List.setIfInBounds_toArray, List.set_cons_zero, List.set_cons_succ]
            clear hr5 hb5
            have u0 := blk_cell? HM5.out.1 0
            have u1 := blk_cell? HM5.out.1 1
            have u2 := blk_cell? HM5.out.1 2
            have u3 := blk_cell? HM5.out.1 3
            have u4 := blk_cell? HM5.out.1 4
            have uf := blk_free HM5.out.1
            refine heldF_one 6 (by kernel_rfl) rfl (fun K hK => ?_)
            go_simp
            refine hK.out _ _ (fun h => by cases (show true = false from h)) (fun _ => ?_)
            clear hK K
            try clear hHeld
            try simp only [Act.put, List.setIfInBounds_toArray, List.set_cons_zero, List.set_cons_succ]
            refine anyF_done (by kernel_rfl) ?_ _
            go_wp2_with fail
            go_meet
            have hl5 : (setA f ⟨#[110]⟩ (strV s)).attrs.length ≤ 3 := Nat.le_trans (setL_len f.attrs ⟨#[110]⟩ (strV s)) (by have h9 := HM5.out.2.2.1.len; omega)
            exact ⟨setA f ⟨#[110]⟩ (strV s), A5, _, c5, hl5, HSM.out.set (nm := ⟨#[110]⟩) (v := (strV s)) (by decide) hs1 (match_str kind_n HT.out), HM5.out.put (f' := setA f ⟨#[110]⟩ (strV s)) hgl hgw hbl HR5.out⟩
          | true =>
            go_wp2_with fail
            go_meet
            exact ⟨f, A, n, c, by omega, HSM.out, HM.out⟩
        case rest =>
          generalize wc = w11 at *
          clear HM HSM
          clear hn
          obtain ⟨f, A, n, c, hn, hsm, hm⟩ := hcut
          have HM0 := Lib.hid hm
          have HSM := Lib.hid hsm
          clear hm hsm
          go_wp2_with fail
          refine (HO.out 2 (by omega) (by omega) _ HM0.out.2.2.2.1).mono ?_; rintro e w12 ⟨q, rfl, hc, hg⟩
          have HM := Lib.hid (HM0.out.step hgl hbl hc hg)
          clear hc hg HM0
          go_upto_if 42 with fail
          go_cut [] (fun w' => MidG W0 w g b 4 w')
          case first =>
            cases q with
            | false =>
              go_wp2_with fail
              go_meet
              exact ⟨f, A, n, c, by omega, HSM.out, HM.out⟩
            | true =>
              go_upto_region 11 with fail
              refine region_F (S := (fun w' => w'.cell? ⟨b, 0, none⟩ = some (.int .i64 f.id) ∧ w'.cell? ⟨b, 1, none⟩ = some (.int .i64 f.owner) ∧ w'.cell? ⟨b, 2, none⟩ = some (.bool f.shared) ∧ w'.cell? ⟨b, 3, none⟩ = some (.int .i64 f.link) ∧ w'.cell? ⟨b, 4, none⟩ = some (.slice A n c) ∧ MidF W0 w g b f A n c w')) [6] (by kernel_rfl) (by (try dsimp only); exact (HM.out.step hgl hbl (HM.out.2.2.2.1.below (Below.refl _ _).drew) (Chg.of_below _ (Below.refl _ _).drew)).cells) (fun hHeld => ?_)
              generalize World.drew w12 = Wd at *
              refine heldF_take 0 rfl (by kernel_rfl) (by kernel_rfl) (by kernel_rfl) (by kernel_rfl) (by kernel_rfl) (by rfl) (fun _ _ _ h => h) (by assumption) (by intro w hSw; (try dsimp only at hSw); go_simp; first | done | with_reducible rfl) ?_
              simp only [Act.put, List.setIfInBounds_toArray, List.set_cons_zero, List.set_cons_succ]
              refine heldF_take 1 rfl (by kernel_rfl) (by kernel_rfl) (by kernel_rfl) (by kernel_rfl) (by kernel_rfl) (by rfl) (fun _ _ _ h => h) (by assumption) (by intro w hSw; (try dsimp only at hSw); go_simp; first | done | with_reducible rfl) ?_
              simp only [Act.put, List.setIfInBounds_toArray, List.set_cons_zero, List.set_cons_succ]
              have hgd := cur_lt hHeld.2.2.2.2.2.2.2.2.1
              refine heldF_one 2 (by kernel_rfl) rfl (fun K hK => ?_)
              go_simp
              refine hK.out _ _ (fun _ => by (try dsimp only); exact (hHeld.2.2.2.2.2.below hgl hbl (ex_alloc (Below.refl _ _) _)).cells) (fun hNew => ?_)
              clear hK K hHeld
              have hHeld := hNew rfl
              clear hNew
              try simp only [Act.put, List.setIfInBounds_toArray, List.set_cons_zero, List.set_cons_succ]
              refine heldF_one 3 (by kernel_rfl) rfl (fun K hK => ?_)
              go_simp
              go_at_call 130
              refine (HP.out _ 2 2 [⟨#[114, 101, 100]⟩, ⟨#[98, 108, 117, 101]⟩] _ (by omega) (by omega) (lit_keeps (n := 2) encStr (fun _ _ => rfl) _ [⟨#[114, 101, 100]⟩, ⟨#[98, 108, 117, 101]⟩] 9 hgd rfl (by unfold maxLen; omega) rfl) hHeld.2.2.2.2.2.2.2.2.1).mono ?_
              rintro e w3 ⟨s, rfl, hs, hc3, hg3⟩
              have HT := Lib.hid (show txt s 6 = true by
                simp only [List.mem_cons, List.not_mem_nil, or_false] at hs
                rcases hs with rfl | rfl
                · exact txt_red
                · exact txt_blue)
              have hs1 : s.size ≤ 16 := by
                simp only [List.mem_cons, List.not_mem_nil, or_false] at hs
                rcases hs with rfl | rfl <;> decide
              go_wp2_with fail
              refine hK.out _ _ (fun _ => by (try dsimp only); exact (hHeld.2.2.2.2.2.step hgl hbl hc3 hg3).cells) (fun hNew => ?_)
              clear hK K hHeld
              have hHeld := hNew rfl
              clear hNew
              try simp only [Act.put, List.setIfInBounds_toArray, List.set_cons_zero, List.set_cons_succ]
              clear hc3 hg3 hs
              refine heldF_one 4 (by kernel_rfl) rfl (fun K hK => ?_)
              go_simp
              go_at_call 129
              refine (spec_StringValue s _).mono ?_; rintro e w4 ⟨rfl, hb4⟩
              go_wp2_with fail
              refine hK.out _ _ (fun _ => by (try dsimp only); exact (hHeld.2.2.2.2.2.below hgl hbl hb4).cells) (fun hNew => ?_)
              clear hK K hHeld
              have hHeld := hNew rfl
              clear hNew
              try simp only [Act.put, List.setIfInBounds_toArray, List.set_cons_zero, List.set_cons_succ]
              clear hb4
              refine heldF_one 5 (by kernel_rfl) rfl (fun K hK => ?_)
              go_simp
              go_at_call 23
              refine (spec_SetAttr f A n c ⟨#[116]⟩ (strV s) _ (hHeld.2.2.2.2.2.2.2.1.sl (R := RAtr) encAtr (fun _ => rfl)) (by omega)).mono ?_; rintro e w5 ⟨A5, c5, rfl, hr5, hb5⟩
              have HR5 := Lib.hid (hr5.re (fun x hx => Nat.le_trans hHeld.2.2.2.2.2.2.2.2.2.size (hr5.base x hx).1))
              have HM5 := Lib.hid (hHeld.2.2.2.2.2.below hgl hbl hb5)
              go_wp2_with fail
              refine hK.out _ _ (fun _ => by (try dsimp only); exact HM5.out.cells) (fun hNew => ?_)
              clear hK K hHeld
              have hHeld := hNew rfl
              clear hNew
              try simp only [Act.put, List.setIfInBounds_toArray, List.set_cons_zero, List.set_cons_succ]
              clear hr5 hb5
              have u0 := blk_cell? HM5.out.1 0
              have u1 := blk_cell? HM5.out.1 1
              have u2 := blk_cell? HM5.out.1 2
              have u3 := blk_cell? HM5.out.1 3
              have u4 := blk_cell? HM5.out.1 4
              have uf := blk_free HM5.out.1
              refine heldF_one 6 (by kernel_rfl) rfl (fun K hK => ?_)
              go_simp
              refine hK.out _ _ (fun h => by cases (show true = false from h)) (fun _ => ?_)
              clear hK K
              try clear hHeld
              try simp only [Act.put, List.setIfInBounds_toArray, List.set_cons_zero, List.set_cons_succ]
              refine anyF_done (by kernel_rfl) ?_ _
              go_wp2_with fail
              go_meet
              have hl5 : (setA f ⟨#[116]⟩ (strV s)).attrs.length ≤ 4 := Nat.le_trans (setL_len f.attrs ⟨#[116]⟩ (strV s)) (by have h9 := HM5.out.2.2.1.len; omega)
              exact ⟨setA f ⟨#[116]⟩ (strV s), A5, _, c5, hl5, HSM.out.set (nm := ⟨#[116]⟩) (v := (strV s)) (by decide) hs1 (match_str kind_t HT.out), HM5.out.put (f' := setA f ⟨#[116]⟩ (strV s)) hgl hgw hbl HR5.out⟩
          case rest =>
            generalize wc = w13 at *
            clear HM HSM
            clear hn
            obtain ⟨f, A, n, c, hn, hsm, hm⟩ := hcut
            have HM := Lib.hid hm
            obtain ⟨u0, u1, u2, u3, u4, -⟩ := hm.cells
            have q0 := blk_cell? hm.2.1 0
            have q1 := blk_cell? hm.2.1 1
            have q2 := blk_cell? hm.2.1 2
            have q3 := blk_cell? hm.2.1 3
            have q4 := blk_cell? hm.2.1 4
            have qf := blk_free hm.2.1
            simp only [List.getElem?_toArray, List.getElem?_cons_zero, List.getElem?_cons_succ] at q0 q1 q2 q3 q4
            clear hm
            go_wp2_with fail
            refine bodyPost_ret (v := .agg #[.int .i64 f.id, .int .i64 f.owner, .bool f.shared, .int .i64 f.link, .slice A n c]) (by simp [results, Try.results91, go_sem, q0, q1, q2, q3, q4]) rfl ?_
            have hc : Chg [w.heap.size] w13 _ := ((((((Chg.refl [w.heap.size] w13).set (a := ⟨w.heap.size, 0, none⟩) (by simp) (.int .i64 f.id)).set (a := ⟨w.heap.size, 1, none⟩) (by simp) (.int .i64 f.owner)).set (a := ⟨w.heap.size, 2, none⟩) (by simp) (.bool f.shared)).set (a := ⟨w.heap.size, 3, none⟩) (by simp) (.int .i64 f.link)).set (a := ⟨w.heap.size, 4, none⟩) (by simp) (.slice A n c))
            exact ⟨f, A, n, c, rfl, HM.out.2.2.1.chg hc (fun x hx hm => by obtain rfl := List.mem_singleton.1 hm; exact HM.out.2.2.1.far HM.out.2.1 (by decide) hx), hn, hsm, HM.out.2.2.2.1.chg hc (by simp only [List.mem_singleton]; omega) (fun x hx => by simp only [List.mem_singleton] at hx; omega), HM.out.2.2.2.2.step hc (fun x hx hlt => by simp only [List.mem_singleton] at hx; omega)⟩
end Go.Proofs.Ytjobgnioehkomaa
namespace Go.Proofs.Ytjobgnioehkomaa
open Go.RowKit
set_option linter.unusedVariables false
set_option maxRecDepth 100000
theorem FRow.low {α : Type} {e size : Nat} {enc : α → List Value} {w : World} {B B' n c : Nat} {A : Option Addr} {l : List α} (h : FRow e size enc w B A n c l) (hB : B' ≤ B) : FRow e size enc w B' A n c l := h.re fun b hb => Nat.le_trans hB (h.base b hb).1
theorem spec_NewStoreR (A : Option Addr) (n c : Nat) (l : List Fld) (w : World) (hS : Sl 2 RFld w A n l) (hn : n ≤ 1073741824) :
    Calls Try.prog 140 #[.slice A n c] w fun e w' => ∃ A' c', e = .returned (.agg #[.slice A' n c', .slice none 0 0, .int .i64 1]) ∧ FRow 138 2 eFld w' w.heap.size A' n c' l ∧ Below w.heap.size w w' := by
  obtain rfl : l.length = n := hS.len
  have HS := Lib.hid hS
  clear hS
  obtain ⟨ii, hi, hi0, hi1, hi2⟩ := info_parts info_Field
  go_enter Try.func140, Try.ntmps140
  go_wp2_with (at_builtin; refine wpList_append_row rfl _ _ _ rfl encFld Try.underlying37 hi hi0 hi1 hi2 rfl rfl rfl (FRow.any0 _ _ _ _ _ _) (Src.of_sl (R := RFld) encFld (fun h => h) (HS.out.mono mFld (by go_grown))) (by unfold maxLen; omega) (by omega) (show w.heap.size + 1 ≤ _ by simp) ?_; intro A2 c2 w2 hr2 hc2 hx2; have hb2 := Chg.blow hc2; obtain ⟨hcc2, hff2⟩ := bcell hb2; have hz2 : w.heap.size < w2.heap.size := (by have := hb2.size; simp at this; omega); have HR := Lib.hid hr2; clear hr2)
  have hB2 := ex_trans (w := w) (by go_grown) hb2
  have y0 : w2.cell? ⟨w.heap.size, 0, none⟩ = some (.slice none 0 0) := keep_cell hb2 (by go_simp)
  have y1 : w2.cell? ⟨w.heap.size, 1, none⟩ = some (.slice none 0 0) := keep_cell hb2 (by go_simp)
  have y2 : w2.cell? ⟨w.heap.size, 2, none⟩ = some (.int .i64 0) := keep_cell hb2 (by go_simp)
  refine bodyPost_ret (v := .agg #[.slice A2 l.length c2, .slice none 0 0, .int .i64 1]) (by simp [results, Try.results140, go_sem, y0, y1, y2]) rfl ?_
  have hr2 : FRow 138 2 eFld w2 (w.heap.size + 1) A2 l.length c2 l := by simpa using HR.out
  have hch : Chg [w.heap.size] w2 (sets w2 w.heap.size 0 [.slice A2 l.length c2, .slice none 0 0, .int .i64 1]) := sets_chg (bs := [w.heap.size]) (g := w.heap.size) (w := w2) (w1 := w2) (by simp) _ w2 0 (Chg.refl _ _)
  exact ⟨A2, c2, rfl, (hr2.chg hch fun b hb h => by have := (hr2.base b hb).1; simp at h; omega).low (by omega), Below.mark hB2 hch hB2.size (by simp)⟩
def OkF (f : Fil) : Prop := f.attrs.length ≤ 5 ∧ smallA f.attrs
theorem OkF.ok {f : Fil} (h : OkF f) : f.ok 1073741824 := ⟨by have := h.1; omega, fun a ha => ⟨Nat.le_trans (h.2 a ha).1 (by omega), Nat.le_trans (h.2 a ha).2 (by omega)⟩⟩
/-- what a drawn store is known by: its files, their number, the next number -/
def StoG (fs : List Fil) (m : Nat) (nx : Int) : Prop := fs.length = m ∧ validS ⟨usualL, fs, nx⟩ = true ∧ (∀ f ∈ fs, OkF f) ∧ nx ≤ 60
theorem StoG.ok {fs : List Fil} {m : Nat} {nx : Int} (h : StoG fs m nx) : (⟨usualL, fs, nx⟩ : Sto).ok 1073741824 :=
  ⟨by show usualL.length ≤ _; decide, fun f hf => Nat.le_trans (usual_small f hf) (by omega), by have := (validS_iff.1 h.2.1).2.2.1; show fs.length ≤ _; simp only at this; omega, fun f hf => (h.2.2.1 f hf).ok⟩
theorem StoG.cre {fs : List Fil} {m : Nat} {nx : Int} (h : StoG fs m nx) {f : Fil} (hf : GoodF f) (hn : f.attrs.length ≤ 5) (hm : m < 12) (hx : nx < 60) : creS ⟨usualL, fs, nx⟩ f = ⟨usualL, fs ++ [creF ⟨usualL, fs, nx⟩ f], nx + 1⟩ ∧ StoG (fs ++ [creF ⟨usualL, fs, nx⟩ f]) (m + 1) (nx + 1) := by
  have e := creS_good h.2.1 rfl (by show fs.length < 12; have := h.1; omega) (show nx ≤ 60 by omega) hf
  refine ⟨e, by have := h.1; simp; omega, ?_, fun x hx => ?_, by omega⟩
  · have hv := creS_valid f h.2.1
    rw [e] at hv
    exact hv
  · rcases List.mem_append.1 hx with hx | hx
    · exact h.2.2.1 x hx
    · rw [List.mem_singleton] at hx; subst hx; exact ⟨hn, hf.1⟩
theorem StoG.del {fs : List Fil} {m : Nat} {nx : Int} (h : StoG fs m nx) (id : Int) : ∃ fs' m', delS ⟨usualL, fs, nx⟩ id = ⟨usualL, fs', nx⟩ ∧ StoG fs' m' nx ∧ m ≤ m' + 1 ∧ m' ≤ m := by
  have hs : delS ⟨usualL, fs, nx⟩ id = ⟨usualL, (delS ⟨usualL, fs, nx⟩ id).files, nx⟩ := by unfold delS; split <;> rfl
  refine ⟨(delS ⟨usualL, fs, nx⟩ id).files, _, hs, ⟨rfl, ?_, fun f hf => h.2.2.1 f (delS_mem hf), h.2.2.2⟩, ?_, ?_⟩
  · have hv := delS_valid id h.2.1
    rw [hs] at hv
    exact hv
  · have := h.1
    unfold delS; split
    · simp only [List.length_append, List.length_take, List.length_drop]; omega
    · show m ≤ fs.length + 1; omega
  · have := delS_len ⟨usualL, fs, nx⟩ id
    have h1 := h.1
    exact Nat.le_trans this (Nat.le_of_eq h1)
/-- the box of the store under way, and the box of the result -/
def MidS (W0 w : World) (g b : Nat) (fs : List Fil) (nx : Int) (A : Option Addr) (c : Nat) (B : Option Addr) (m d : Nat) (w' : World) : Prop :=
  w'.heap[b]? = some (.cells #[.slice A 4 c, .slice B m d, .int .i64 nx] 40 (0, 0)) ∧ w'.heap[w.heap.size]? = some (.cells #[.slice none 0 0, .slice none 0 0, .int .i64 0] 40 (0, 0)) ∧ FRow 138 2 eFld w' w.heap.size A 4 c usualL ∧ FRows 28 84 w' (b + 1) B m d fs ∧ Cur W0 w' g ∧ Chg [g] w w'
theorem FRows.draw {eF ea : Nat} {w w' : World} {B n c g : Nat} {A : Option Addr} {l : List Fil} (h : FRows eF ea w B A n c l) (hg : g < B) (hc : Chg [g] w w') : FRows eF ea w' B A n c l := by
  obtain ⟨L, h1, h2⟩ := h
  exact ⟨L, h1.chg hc (fun b hb hm => by have := (h1.base b hb).1; rw [List.mem_singleton] at hm; omega), h2⟩
theorem MidS.step {W0 w w1 w2 : World} {g b m c d : Nat} {fs : List Fil} {nx : Int} {A B : Option Addr} (h : MidS W0 w g b fs nx A c B m d w1) (hg : g < w.heap.size) (hb : w.heap.size < b) (hC : Cur W0 w2 g) (hc : Chg [g] w1 w2) : MidS W0 w g b fs nx A c B m d w2 :=
  ⟨hc.keepb h.1 (by simp only [List.mem_singleton]; omega), hc.keepb h.2.1 (by simp only [List.mem_singleton]; omega), row_draw h.2.2.1 hg hc, h.2.2.2.1.draw (by omega) hc, hC, h.2.2.2.2.2.trans hc⟩
theorem MidS.below {W0 w w1 w2 : World} {g b m c d : Nat} {fs : List Fil} {nx : Int} {A B : Option Addr} (h : MidS W0 w g b fs nx A c B m d w1) (hg : g < w.heap.size) (hb : w.heap.size < b) (hB : Below w1.heap.size w1 w2) : MidS W0 w g b fs nx A c B m d w2 :=
  h.step hg hb (h.2.2.2.2.1.below hB) (Chg.of_below _ hB)
theorem MidS.cells {W0 w w1 : World} {g b m c d : Nat} {fs : List Fil} {nx : Int} {A B : Option Addr} (h : MidS W0 w g b fs nx A c B m d w1) :
    w1.cell? ⟨b, 0, none⟩ = some (.slice A 4 c) ∧ w1.cell? ⟨b, 1, none⟩ = some (.slice B m d) ∧ w1.cell? ⟨b, 2, none⟩ = some (.int .i64 nx) ∧ MidS W0 w g b fs nx A c B m d w1 :=
  ⟨blk_cell? h.1 0, blk_cell? h.1 1, blk_cell? h.1 2, h⟩
/-- the box filled anew -/
theorem MidS.put {W0 w w1 : World} {g b m c d m' c' d' : Nat} {fs fs' : List Fil} {nx nx' : Int} {A B A' B' : Option Addr} (h : MidS W0 w g b fs nx A c B m d w1) (hg : g < w.heap.size) (hW : W0.heap.size ≤ w.heap.size) (hb : w.heap.size < b)
    (hr : FRow 138 2 eFld w1 w.heap.size A' 4 c' usualL) (hf : FRows 28 84 w1 (b + 1) B' m' d' fs') :
    MidS W0 w g b fs' nx' A' c' B' m' d' (World.setCell (World.setCell (World.setCell w1 ⟨b, 0, none⟩ (.slice A' 4 c')) ⟨b, 1, none⟩ (.slice B' m' d')) ⟨b, 2, none⟩ (.int .i64 nx')) := by
  have hc : Chg [b] w1 (World.setCell (World.setCell (World.setCell w1 ⟨b, 0, none⟩ (.slice A' 4 c')) ⟨b, 1, none⟩ (.slice B' m' d')) ⟨b, 2, none⟩ (.int .i64 nx')) :=
    ((((Chg.refl [b] w1).set (by simp) _).set (by simp) _).set (by simp) _)
  refine ⟨?_, hc.keepb h.2.1 (by simp only [List.mem_singleton]; omega), hr.chg hc (fun x hx hm => ?_), hf.draw (by omega) hc, h.2.2.2.2.1.chg hc (by simp only [List.mem_singleton]; omega) (fun x hx => by simp only [List.mem_singleton] at hx; omega), h.2.2.2.2.2.step hc (fun x hx hlt => by simp only [List.mem_singleton] at hx; omega)⟩
  · have h1 := blk_set (blk_set (blk_set h.1 0 (.slice A' 4 c')) 1 (.slice B' m' d')) 2 (.int .i64 nx')
    simpa using h1
  · obtain rfl := List.mem_singleton.1 hm
    exact hr.far h.1 (by decide) hx
/-- a drawn store, its rows the call's own -/
def DrawSt (W0 w : World) (g : Nat) (e : Ending) (w' : World) : Prop := ∃ (fs : List Fil) (nx : Int) (A : Option Addr) (c : Nat) (B : Option Addr) (m d : Nat), e = .returned (.agg #[.slice A 4 c, .slice B m d, .int .i64 nx]) ∧ FRow 138 2 eFld w' w.heap.size A 4 c usualL ∧ FRows 28 84 w' w.heap.size B m d fs ∧ StoG fs m nx ∧ 1 ≤ m ∧ m ≤ 7 ∧ nx ≤ 8 ∧ Cur W0 w' g ∧ Chg [g] w w'
set_option maxHeartbeats 6400000 in
theorem spec_l05Store (W0 w : World) (g : Nat) (hC : Cur W0 w g) : Calls Try.prog 90 #[.pointer (some ⟨g, 0, none⟩)] w (DrawSt W0 w g) := by
  have HB := Lib.hid fun n h0 h1 w' (h : Cur W0 w' g) => spec_l01Below W0 w' g n h0 h1 h
  have HO := Lib.hid fun n h0 h1 w' (h : Cur W0 w' g) => spec_l01Once W0 w' g n h0 h1 h
  have hgl := cur_lt hC
  have hgw := (cur_w hC).2.size
  have HC := Lib.hid hC
  clear hC
  go_enter Try.func90, Try.ntmps90
  go_wp2_with fail
  refine (spec_l03Usual _).mono ?_; rintro e w1 ⟨A1, rfl, hr1, hb1⟩
  have H1 := Lib.hid (And.intro hr1 hb1)
  clear hr1 hb1
  go_wp2_with fail
  refine (spec_NewStoreR A1 4 4 usualL _ (H1.out.1.sl (R := RFld) encFld (fun _ => rfl)) (by omega)).mono ?_; rintro e w2 ⟨A2, c2, rfl, hr2, hb2⟩
  have hz1 := H1.out.2.size
  have hz2 := hb2.size
  simp at hz1
  have hbw : Below w.heap.size w w1 := ex_trans (ex_alloc (Below.refl w.heap.size w) _) H1.out.2
  have HB2 := Lib.hid (ex_trans hbw hb2)
  have hq0 : w1.heap[w.heap.size]? = some (.cells #[.slice none 0 0, .slice none 0 0, .int .i64 0] 40 (0, 0)) := below_keep H1.out.2 (hp_new rfl)
  have HQ := Lib.hid (below_keep hb2 hq0)
  have HR2 := Lib.hid (show FRow 138 2 eFld w2 w.heap.size A2 4 c2 usualL from hr2.low (by omega))
  have hbl : w.heap.size < w2.heap.size := by omega
  clear hr2 hb2 H1 hq0 hbw hz1 hz2
  go_wp2_with fail
  have HM2 : Hid (MidS W0 w g w2.heap.size [] 1 A2 c2 none 0 0 (World.alloc w2 (.cells #[.slice A2 4 c2, .slice none 0 0, .int .i64 1] 40))) := by
    have hba : Below w2.heap.size w2 (World.alloc w2 (.cells #[.slice A2 4 c2, .slice none 0 0, .int .i64 1] 40)) := (Below.refl _ _).alloc (Nat.le_refl _) _
    exact Lib.hid ⟨hp_new rfl, below_keep hba HQ.out, HR2.out.below hba, FRows.any0 _ _ _ _ _, HC.out.below (ex_trans HB2.out hba), Chg.of_below _ (ex_trans HB2.out hba)⟩
  have HG2 : Hid (StoG [] 0 1) := Lib.hid ⟨rfl, new_valid, fun f hf => (by cases hf), by omega⟩
  generalize hw3 : World.alloc w2 _ = w3 at *
  clear hw3 HQ HR2 HB2
  generalize w2.heap.size = b at *
  go_wp2_with fail
  go_loopw [4] (fun i wr => ∃ m : Nat, m ≤ 7 ∧ i = .int .i64 m ∧ ∃ (fs : List Fil) (nx : Int) (A : Option Addr) (c : Nat) (B : Option Addr) (d : Nat), nx = m + 1 ∧ Hid (StoG fs m nx) ∧ Hid (MidS W0 w g b fs nx A c B m d wr)) (fun i _ => 8 - (intOf i).toNat)
  case atStart => exact ⟨0, by omega, rfl, [], 1, A2, c2, none, 0, by omega, HG2, HM2⟩
  case round =>
    obtain ⟨m, hm7, rfl, fs, nx, A, c, B, d, hnx, HG, HM⟩ := hrel
    clear HG2 HM2
    have hxl : nx < 60 := by omega
    have hx8 : nx ≤ 8 := by omega
    have HN := Lib.hid hnx
    clear hnx
    go_wp2_with fail
    refine (HB.out 7 (by omega) (by omega) _ HM.out.2.2.2.2.1).mono ?_; rintro e w3 ⟨x, rfl, ⟨x0, x1⟩, hc3, hg3⟩
    replace HM := Lib.hid (HM.out.step hgl hbl hc3 hg3)
    clear hc3 hg3
    by_cases hlt : (m : Int) < 1 + x
    · have hm6 : m < 7 := by omega
      go_upto_region 5 with fail
      refine region_G (S := (fun w' => w'.cell? ⟨b, 0, none⟩ = some (.slice A 4 c) ∧ w'.cell? ⟨b, 1, none⟩ = some (.slice B m d) ∧ w'.cell? ⟨b, 2, none⟩ = some (.int .i64 nx) ∧ MidS W0 w g b fs nx A c B m d w')) [8] (by kernel_rfl) (by (try dsimp only); exact (HM.out.below hgl hbl (Below.refl _ _).drew).cells) (fun hHeld => ?_)
      generalize World.drew w3 = Wd at *
      refine heldG_take 0 rfl (by kernel_rfl) (by kernel_rfl) (by kernel_rfl) (by kernel_rfl) (by kernel_rfl) (by kernel_rfl) (by rfl) (fun _ _ _ h => h) (by assumption) (by intro w hSw; (try dsimp only at hSw); go_simp; first | done | with_reducible rfl) ?_
      simp only [Act.put, List.setIfInBounds_toArray, List.set_cons_zero, List.set_cons_succ]
      refine heldG_take 1 rfl (by kernel_rfl) (by kernel_rfl) (by kernel_rfl) (by kernel_rfl) (by kernel_rfl) (by kernel_rfl) (by rfl) (fun _ _ _ h => h) (by assumption) (by intro w hSw; (try dsimp only at hSw); go_simp; first | done | with_reducible rfl) ?_
      simp only [Act.put, List.setIfInBounds_toArray, List.set_cons_zero, List.set_cons_succ]
      refine heldG_one 2 (by kernel_rfl) rfl (fun K hK => ?_)
      go_simp
      go_at_call 91
      refine (spec_l04FileG W0 _ g 1 hHeld.2.2.2.2.2.2.2.1).mono ?_; rintro e w4 ⟨f, P, q, r, rfl, hrf, hq, hgf, hc4, hg4⟩
      have HRF := Lib.hid hrf
      have HGF := Lib.hid hgf
      have hfl : f.attrs.length = q := hrf.len
      go_wp2_with fail
      refine hK.out _ _ (fun _ => by (try dsimp only); exact (hHeld.2.2.2.step hgl hbl hc4 hg4).cells) (fun hNew => ?_)
      clear hK K hHeld
      have hHeld := hNew (by kernel_rfl)
      clear hNew
      try simp only [Act.put, List.setIfInBounds_toArray, List.set_cons_zero, List.set_cons_succ]
      clear hc4 hg4 hrf hgf
      refine heldG_one 3 (by kernel_rfl) rfl (fun K hK => ?_)
      go_simp
      go_at_call 127
      have HX := Lib.hid (StoG.cre HG.out HGF.out (by omega) (by omega) hxl)
      refine (spec_CreateFile ⟨usualL, fs, nx⟩ A 4 c B m d f P q r _ (hHeld.2.2.2.2.2.1.sl (R := RFld) encFld (fun _ => rfl)) hHeld.2.2.2.2.2.2.1.sl (HRF.out.sl (R := RAtr) encAtr (fun _ => rfl)) HG.out.ok (show f.ok 1073741824 from OkF.ok ⟨by omega, HGF.out.1⟩)).mono ?_
      rw [HX.out.1]
      rintro e w5 ⟨A5, c5, B5, d5, X5, rfl, hr5, -, hx5, -, hf5, hb5⟩
      obtain ⟨fs5, hfs5⟩ : ∃ l, l = fs ++ [creF ⟨usualL, fs, nx⟩ f] := ⟨_, rfl⟩
      rw [← hfs5] at hf5 ⊢
      have hl5 : fs5.length = m + 1 := by rw [hfs5]; exact HX.out.2.1
      simp only [hl5, show usualL.length = 4 from rfl] at hr5 hf5 ⊢
      have hbw : b < w4.heap.size := blk_lt hHeld.2.2.2.1
      have HR5 := Lib.hid (And.intro (show FRow 138 2 eFld w5 w.heap.size A5 4 c5 usualL from hr5.low (by omega)) (hf5.lower (show b + 1 ≤ X5 by omega)))
      have HG5 := Lib.hid (show StoG fs5 (m + 1) (nx + 1) by rw [hfs5]; exact HX.out.2)
      have HM5 := Lib.hid (hHeld.2.2.2.below hgl hbl hb5)
      clear hfs5 hl5 hr5 hf5 hx5 HX
      go_wp2_with fail
      refine hK.out _ _ (fun _ => by (try dsimp only); exact HM5.out.cells) (fun hNew => ?_)
      clear hK K hHeld
      have hHeld := hNew (by kernel_rfl)
      clear hNew
      try simp only [Act.put, List.setIfInBounds_toArray, List.set_cons_zero, List.set_cons_succ]
      clear hb5
      refine heldG_pure 4 rfl (by kernel_rfl) (by kernel_rfl) (by kernel_rfl) (by kernel_rfl) (by rfl) (fun _ _ _ h => h) (by assumption) (by intro w _; go_simp; first | done | with_reducible rfl) ?_
      simp only [Act.put, List.setIfInBounds_toArray, List.set_cons_zero, List.set_cons_succ]
      refine heldG_pure 5 rfl (by kernel_rfl) (by kernel_rfl) (by kernel_rfl) (by kernel_rfl) (by rfl) (fun _ _ _ h => h) (by assumption) (by intro w _; go_simp; first | done | with_reducible rfl) ?_
      simp only [Act.put, List.setIfInBounds_toArray, List.set_cons_zero, List.set_cons_succ]
      refine heldG_pure 6 rfl (by kernel_rfl) (by kernel_rfl) (by kernel_rfl) (by kernel_rfl) (by rfl) (fun _ _ _ h => h) (by assumption) (by intro w _; go_simp; first | done | with_reducible rfl) ?_
      simp only [Act.put, List.setIfInBounds_toArray, List.set_cons_zero, List.set_cons_succ]
      refine heldG_pure 7 rfl (by kernel_rfl) (by kernel_rfl) (by kernel_rfl) (by kernel_rfl) (by rfl) (fun _ _ _ h => h) (by assumption) (by intro w _; go_simp; first | done | with_reducible rfl) ?_
      simp only [Act.put, List.setIfInBounds_toArray, List.set_cons_zero, List.set_cons_succ]
      have u0 := blk_cell? HM5.out.1 0
      have u1 := blk_cell? HM5.out.1 1
      have u2 := blk_cell? HM5.out.1 2
      have uf := blk_free HM5.out.1
      refine heldG_last 8 (by kernel_rfl) rfl (by kernel_rfl) (fun K hK => ?_)
      go_simp
      refine hK.out _ _ ?_
      clear hK K
      try clear hHeld
      try simp only [Act.put, List.setIfInBounds_toArray, List.set_cons_zero, List.set_cons_succ]
      refine anyG_done (by kernel_rfl) ?_ _
      have HM6 := Lib.hid (HM5.out.put (nx' := nx + 1) hgl hgw hbl HR5.out.1 HR5.out.2)
      clear u0 u1 u2 uf HM
      go_wp2_with fail
      go_roundw
      case rel => exact ⟨m + 1, by omega, by go_num, fs5, nx + 1, A5, c5, B5, d5, by rw [HN.out]; omega, HG5, HM6⟩
      case measure => simp [intOf]; omega
    · have hm1 : 1 ≤ m := by omega
      obtain ⟨z0, z1, z2, -⟩ := HM.out.cells
      go_upto_region 6 with fail
      clear hlt x0 x1
      by_cases h2 : 2 < m
      · have i1 : (2 : Int) < (m : Int) := by omega
        go_wp2_with fail
        refine (HO.out 3 (by omega) (by omega) _ HM.out.2.2.2.2.1).mono ?_; rintro e w4 ⟨q, rfl, hc4, hg4⟩
        replace HM := Lib.hid (HM.out.step hgl hbl hc4 hg4)
        clear hc4 hg4
        cases q with
        | false =>
          obtain ⟨u0, u1, u2, -⟩ := HM.out.cells
          have q0 := blk_cell? HM.out.2.1 0
          have q1 := blk_cell? HM.out.2.1 1
          have q2 := blk_cell? HM.out.2.1 2
          have qf := blk_free HM.out.2.1
          simp only [List.getElem?_toArray, List.getElem?_cons_zero, List.getElem?_cons_succ] at q0 q1 q2
          go_wp2_with fail
          refine bodyPost_ret (v := .agg #[.slice A 4 c, .slice B m d, .int .i64 nx]) (by simp [results, Try.results90, go_sem, q0, q1, q2]) rfl ?_
          have hc : Chg [w.heap.size] w4 _ := ((((Chg.refl [w.heap.size] w4).set (a := ⟨w.heap.size, 0, none⟩) (by simp) (.slice A 4 c)).set (a := ⟨w.heap.size, 1, none⟩) (by simp) (.slice B m d)).set (a := ⟨w.heap.size, 2, none⟩) (by simp) (.int .i64 nx))
          exact ⟨fs, nx, A, c, B, m, d, rfl, HM.out.2.2.1.chg hc (fun x hx hm => by obtain rfl := List.mem_singleton.1 hm; exact HM.out.2.2.1.far HM.out.2.1 (by decide) hx), (HM.out.2.2.2.1.draw (by omega) hc).lower (by omega), HG.out, hm1, hm7, hx8, HM.out.2.2.2.2.1.chg hc (by simp only [List.mem_singleton]; omega) (fun x hx => by simp only [List.mem_singleton] at hx; omega), HM.out.2.2.2.2.2.step hc (fun x hx hlt => by simp only [List.mem_singleton] at hx; omega)⟩
        | true =>
          obtain ⟨fb, fo, rfl, fbw, fc⟩ := HM.out.2.2.2.1.sl.fil (by omega)
          have hfl : fs.length = m := HG.out.1
          obtain ⟨-, -, -, i0, -⟩ := fc 1 (by omega)
          obtain ⟨id1, hid⟩ : ∃ x, x = (fs[1]'(by omega)).id := ⟨_, rfl⟩
          rw [← hid] at i0
          clear fc hid hfl
          simp only [Nat.one_mul] at i0
          have j1 : (1 : Int) < (m : Int) := by omega
          obtain ⟨x0, x1, x2, x3⟩ := HM.out.cells
          go_upto_region 7 with fail
          refine region_G (S := (fun w' => w'.cell? ⟨b, 0, none⟩ = some (.slice A 4 c) ∧ w'.cell? ⟨b, 1, none⟩ = some (.slice (some ⟨fb, fo, none⟩) m d) ∧ w'.cell? ⟨b, 2, none⟩ = some (.int .i64 nx) ∧ w'.cell? ⟨fb, fo + 5, none⟩ = some (.int .i64 id1) ∧ MidS W0 w g b fs nx A c (some ⟨fb, fo, none⟩) m d w')) [10] (by kernel_rfl) (by (try dsimp only); exact ⟨x0, x1, x2, i0, x3.below hgl hbl (Below.refl _ _).drew⟩) (fun hHeld => ?_)
          generalize World.drew w4 = Wd at *
          refine heldG_take 0 rfl (by kernel_rfl) (by kernel_rfl) (by kernel_rfl) (by kernel_rfl) (by kernel_rfl) (by kernel_rfl) (by rfl) (fun _ _ _ h => h) (by assumption) (by intro w hSw; (try dsimp only at hSw); go_simp; first | done | with_reducible rfl) ?_
          simp only [Act.put, List.setIfInBounds_toArray, List.set_cons_zero, List.set_cons_succ]
          refine heldG_take 1 rfl (by kernel_rfl) (by kernel_rfl) (by kernel_rfl) (by kernel_rfl) (by kernel_rfl) (by kernel_rfl) (by rfl) (fun _ _ _ h => h) (by assumption) (by intro w hSw; (try dsimp only at hSw); go_simp; first | done | with_reducible rfl) ?_
          simp only [Act.put, List.setIfInBounds_toArray, List.set_cons_zero, List.set_cons_succ]
          refine heldG_take 2 rfl (by kernel_rfl) (by kernel_rfl) (by kernel_rfl) (by kernel_rfl) (by kernel_rfl) (by kernel_rfl) (by rfl) (fun _ _ _ h => h) (by assumption) (by intro w hSw; (try dsimp only at hSw); go_simp; first | done | with_reducible rfl) ?_
          simp only [Act.put, List.setIfInBounds_toArray, List.set_cons_zero, List.set_cons_succ]
          refine heldG_take 3 rfl (by kernel_rfl) (by kernel_rfl) (by kernel_rfl) (by kernel_rfl) (by kernel_rfl) (by kernel_rfl) (by rfl) (fun _ _ _ h => h) (by assumption) (by intro w hSw; (try dsimp only at hSw); go_simp; first | done | with_reducible rfl) ?_
          simp only [Act.put, List.setIfInBounds_toArray, List.set_cons_zero, List.set_cons_succ]
          refine heldG_take 4 rfl (by kernel_rfl) (by kernel_rfl) (by kernel_rfl) (by kernel_rfl) (by kernel_rfl) (by kernel_rfl) (by rfl) (fun _ _ _ h => h) (by assumption) (by intro w hSw; (try dsimp only at hSw); go_simp; first | done | with_reducible rfl) ?_
          simp only [Act.put, List.setIfInBounds_toArray, List.set_cons_zero, List.set_cons_succ]
          refine heldG_take 5 rfl (by kernel_rfl) (by kernel_rfl) (by kernel_rfl) (by kernel_rfl) (by kernel_rfl) (by kernel_rfl) (by rfl) (fun _ _ _ h => h) (by assumption) (by intro w hSw; (try dsimp only at hSw); go_simp; first | done | with_reducible rfl) ?_
          simp only [Act.put, List.setIfInBounds_toArray, List.set_cons_zero, List.set_cons_succ]
          refine heldG_one 6 (by kernel_rfl) rfl (fun K hK => ?_)
          go_simp
          go_at_call 141
          obtain ⟨fs5, m5, hde, hdg, hdm, hdm2⟩ := HG.out.del id1
          refine (spec_DeleteFile ⟨usualL, fs, nx⟩ A 4 c (some ⟨fb, fo, none⟩) m d id1 _ (hHeld.2.2.2.2.2.2.1.sl (R := RFld) encFld (fun _ => rfl)) hHeld.2.2.2.2.2.2.2.1.sl HG.out.ok).mono ?_
          rw [hde]
          rintro e w5 ⟨A5, c5, B5, d5, X5, rfl, hr5, -, hx5, -, hf5, hb5⟩
          have hl5 : fs5.length = m5 := hdg.1
          simp only [hl5, show usualL.length = 4 from rfl] at hr5 hf5 ⊢
          have hbw : b < Wd.heap.size := blk_lt hHeld.2.2.2.2.1
          have HR5 := Lib.hid (And.intro (show FRow 138 2 eFld w5 w.heap.size A5 4 c5 usualL from hr5.low (by have := hHeld.2.2.2.2.2.2.2.2.2.size; omega)) (hf5.lower (show b + 1 ≤ X5 by omega)))
          have HM5 := Lib.hid (hHeld.2.2.2.2.below hgl hbl hb5)
          have HG5 := Lib.hid hdg
          clear hl5 hr5 hf5 hx5 hde hdg
          go_wp2_with fail
          refine hK.out _ _ (fun _ => by (try dsimp only); exact ⟨HM5.out.cells.1, HM5.out.cells.2.1, HM5.out.cells.2.2.1, keep_cell hb5 hHeld.2.2.2.1, HM5.out⟩) (fun hNew => ?_)
          clear hK K hHeld
          have hHeld := hNew (by kernel_rfl)
          clear hNew
          try simp only [Act.put, List.setIfInBounds_toArray, List.set_cons_zero, List.set_cons_succ]
          clear hb5
          refine heldG_pure 7 rfl (by kernel_rfl) (by kernel_rfl) (by kernel_rfl) (by kernel_rfl) (by rfl) (fun _ _ _ h => h) (by assumption) (by intro w _; go_simp; first | done | with_reducible rfl) ?_
          simp only [Act.put, List.setIfInBounds_toArray, List.set_cons_zero, List.set_cons_succ]
          refine heldG_pure 8 rfl (by kernel_rfl) (by kernel_rfl) (by kernel_rfl) (by kernel_rfl) (by rfl) (fun _ _ _ h => h) (by assumption) (by intro w _; go_simp; first | done | with_reducible rfl) ?_
          simp only [Act.put, List.setIfInBounds_toArray, List.set_cons_zero, List.set_cons_succ]
          refine heldG_pure 9 rfl (by kernel_rfl) (by kernel_rfl) (by kernel_rfl) (by kernel_rfl) (by rfl) (fun _ _ _ h => h) (by assumption) (by intro w _; go_simp; first | done | with_reducible rfl) ?_
          simp only [Act.put, List.setIfInBounds_toArray, List.set_cons_zero, List.set_cons_succ]
          have u0 := blk_cell? HM5.out.1 0
          have u1 := blk_cell? HM5.out.1 1
          have u2 := blk_cell? HM5.out.1 2
          have uf := blk_free HM5.out.1
          refine heldG_last 10 (by kernel_rfl) rfl (by kernel_rfl) (fun K hK => ?_)
          go_simp
          refine hK.out _ _ ?_
          clear hK K
          try clear hHeld
          try simp only [Act.put, List.setIfInBounds_toArray, List.set_cons_zero, List.set_cons_succ]
          refine anyG_done (by kernel_rfl) ?_ _
          have HM6 := Lib.hid (HM5.out.put (nx' := nx) hgl hgw hbl HR5.out.1 HR5.out.2)
          clear u0 u1 u2 uf HM HG x0 x1 x2 x3 i0 HM5 HR5
          generalize World.setCell (World.setCell (World.setCell w5 _ _) _ _) _ _ = w6 at *
          obtain ⟨k1, k7⟩ : 1 ≤ m5 ∧ m5 ≤ 7 := by omega
          clear hm1 hm7 h2 i1 j1 hdm hdm2
          obtain ⟨u0, u1, u2, -⟩ := HM6.out.cells
          have q0 := blk_cell? HM6.out.2.1 0
          have q1 := blk_cell? HM6.out.2.1 1
          have q2 := blk_cell? HM6.out.2.1 2
          have qf := blk_free HM6.out.2.1
          simp only [List.getElem?_toArray, List.getElem?_cons_zero, List.getElem?_cons_succ] at q0 q1 q2
          go_wp2_with fail
          refine bodyPost_ret (v := .agg #[.slice A5 4 c5, .slice B5 m5 d5, .int .i64 nx]) (by simp [results, Try.results90, go_sem, q0, q1, q2]) rfl ?_
          have hc : Chg [w.heap.size] w6 _ := ((((Chg.refl [w.heap.size] w6).set (a := ⟨w.heap.size, 0, none⟩) (by simp) (.slice A5 4 c5)).set (a := ⟨w.heap.size, 1, none⟩) (by simp) (.slice B5 m5 d5)).set (a := ⟨w.heap.size, 2, none⟩) (by simp) (.int .i64 nx))
          exact ⟨fs5, nx, A5, c5, B5, m5, d5, rfl, HM6.out.2.2.1.chg hc (fun x hx hm => by obtain rfl := List.mem_singleton.1 hm; exact HM6.out.2.2.1.far HM6.out.2.1 (by decide) hx), (HM6.out.2.2.2.1.draw (by omega) hc).lower (by omega), HG5.out, k1, k7, hx8, HM6.out.2.2.2.2.1.chg hc (by simp only [List.mem_singleton]; omega) (fun x hx => by simp only [List.mem_singleton] at hx; omega), HM6.out.2.2.2.2.2.step hc (fun x hx hlt => by simp only [List.mem_singleton] at hx; omega)⟩
      · have i1 : ¬ ((2 : Int) < (m : Int)) := by omega
        obtain ⟨u0, u1, u2, -⟩ := HM.out.cells
        have q0 := blk_cell? HM.out.2.1 0
        have q1 := blk_cell? HM.out.2.1 1
        have q2 := blk_cell? HM.out.2.1 2
        have qf := blk_free HM.out.2.1
        simp only [List.getElem?_toArray, List.getElem?_cons_zero, List.getElem?_cons_succ] at q0 q1 q2
        go_wp2_with fail
        refine bodyPost_ret (v := .agg #[.slice A 4 c, .slice B m d, .int .i64 nx]) (by simp [results, Try.results90, go_sem, q0, q1, q2]) rfl ?_
        have hc : Chg [w.heap.size] w3 _ := ((((Chg.refl [w.heap.size] w3).set (a := ⟨w.heap.size, 0, none⟩) (by simp) (.slice A 4 c)).set (a := ⟨w.heap.size, 1, none⟩) (by simp) (.slice B m d)).set (a := ⟨w.heap.size, 2, none⟩) (by simp) (.int .i64 nx))
        exact ⟨fs, nx, A, c, B, m, d, rfl, HM.out.2.2.1.chg hc (fun x hx hm => by obtain rfl := List.mem_singleton.1 hm; exact HM.out.2.2.1.far HM.out.2.1 (by decide) hx), (HM.out.2.2.2.1.draw (by omega) hc).lower (by omega), HG.out, hm1, hm7, hx8, HM.out.2.2.2.2.1.chg hc (by simp only [List.mem_singleton]; omega) (fun x hx => by simp only [List.mem_singleton] at hx; omega), HM.out.2.2.2.2.2.step hc (fun x hx hlt => by simp only [List.mem_singleton] at hx; omega)⟩
end Go.Proofs.Ytjobgnioehkomaa
namespace Go.Proofs.Ytjobgnioehkomaa
open Go.RowKit
set_option linter.unusedVariables false
set_option maxRecDepth 100000
set_option maxHeartbeats 3200000 in
theorem spec_DrawSortedByAttr (A0 : Option Addr) (n c0 : Nat) (l : List Int) (w : World) (hS : Sl 1 RByt w A0 n l) (hn : n ≤ 1048576) (hl : ∀ y ∈ l, 0 ≤ y ∧ y ≤ 255) :
    Calls Try.prog 47 #[.slice A0 n c0] w fun e w' => ∃ (fs : List Fil) (nx : Int) (A : Option Addr) (c : Nat) (B : Option Addr) (m d : Nat) (s : ByteArray), e = .returned (.tuple #[.agg #[.slice A 4 c, .slice B m d, .int .i64 nx], .string s]) ∧ Sl 2 RFld w' A 4 usualL ∧ Sl 5 RFil w' B m fs ∧ StoG fs m nx ∧ 1 ≤ m ∧ m ≤ 7 ∧ nx ≤ 8 ∧ s.size ≤ 1 ∧ Below w.heap.size w w' := by
  have HN := Lib.hid fun w' (hb : Below w.heap.size w w') => spec_l01New A0 n c0 l w' (hS.mono mByt hb) hn hl
  clear hS hl
  go_enter Try.func47, Try.ntmps47
  go_wp2_with fail
  refine (HN.out _ (by go_grown)).mono ?_; rintro e w1 ⟨g, rfl, hC⟩
  have hgw := (cur_w hC).1
  have hk := (cur_w hC).2
  have HR1 := Lib.hid (below_keep hk (hp_new rfl))
  have HB1 := Lib.hid (ex_trans (ex_alloc (Below.refl w.heap.size w) _) hk)
  have hgl := cur_lt hC
  have HC1 := Lib.hid hC
  simp at hgw
  clear hC hk
  go_wp2_with fail
  refine (spec_l05Store _ _ g HC1.out).mono ?_; rintro e w2 ⟨fs, nx, A, c, B, m, d, rfl, hr, hf, hG, hm1, hm7, hx8, hc2, hg2⟩
  have HR2 := Lib.hid (hg2.keepb HR1.out (by simp only [List.mem_singleton]; omega))
  have HB2 := Lib.hid (Below.mark HB1.out hg2 HB1.out.size (by simp only [List.mem_singleton]; intro b hb; omega))
  have HC2 := Lib.hid hc2
  have HF2 := Lib.hid (And.intro hr hf)
  have HG := Lib.hid hG
  have hgl2 := hgl
  have hzw : w.heap.size < w1.heap.size := blk_lt HR1.out
  clear hr hf hG
  clear hc2 hg2
  go_wp2_with fail
  refine (spec_l03Name _ _ g HC2.out).mono ?_; rintro e w3 ⟨s, rfl, hs, hc3, hg3⟩
  have HR3 := Lib.hid (hg3.keepb HR2.out (by simp only [List.mem_singleton]; omega))
  have HB3 := Lib.hid (Below.mark HB2.out hg3 HB2.out.size (by simp only [List.mem_singleton]; intro b hb; omega))
  have HC3 := Lib.hid hc3
  have HF3 := Lib.hid (And.intro (row_draw HF2.out.1 hgl hg3) (HF2.out.2.draw hgl hg3))
  clear hc3 hg3
  have r0 := blk_cell? HR3.out 0
  have r1 := blk_cell? HR3.out 1
  have r2 := blk_cell? HR3.out 2
  have rf := blk_free HR3.out
  simp only [List.getElem?_toArray, List.getElem?_cons_zero, List.getElem?_cons_succ] at r0 r1 r2
  go_wp2_with fail
  refine bodyPost_ret (v := .tuple #[.agg #[.slice A 4 c, .slice B m d, .int .i64 nx], .string s]) (by simp [results, Try.results47, go_sem, r0, r1, r2]) rfl ?_
  have hc : Chg [w.heap.size] w3 _ := ((((Chg.refl [w.heap.size] w3).set (a := ⟨w.heap.size, 0, none⟩) (by simp) (.slice A 4 c)).set (a := ⟨w.heap.size, 1, none⟩) (by simp) (.slice B m d)).set (a := ⟨w.heap.size, 2, none⟩) (by simp) (.int .i64 nx))
  exact ⟨fs, nx, A, c, B, m, d, s, rfl, (HF3.out.1.chg hc (fun b hb h => by have := (HF3.out.1.base b hb).1; simp only [List.mem_singleton] at h; omega)).sl (R := RFld) encFld (fun _ => rfl), (HF3.out.2.draw (by omega) hc).sl, HG.out, hm1, hm7, hx8, hs, Below.mark HB3.out hc HB3.out.size (fun b hb => by simp only [List.mem_singleton] at hb; omega)⟩
set_option maxHeartbeats 3200000 in
theorem spec_DrawRangeByAttr (A0 : Option Addr) (n c0 : Nat) (l : List Int) (w : World) (hS : Sl 1 RByt w A0 n l) (hn : n ≤ 1048576) (hl : ∀ y ∈ l, 0 ≤ y ∧ y ≤ 255) :
    Calls Try.prog 49 #[.slice A0 n c0] w fun e w' => ∃ (fs : List Fil) (nx : Int) (A : Option Addr) (c : Nat) (B : Option Addr) (m d : Nat) (s : ByteArray) (lo hi : Int), e = .returned (.tuple #[.agg #[.slice A 4 c, .slice B m d, .int .i64 nx], .string s, .int .i64 lo, .int .i64 hi]) ∧ Sl 2 RFld w' A 4 usualL ∧ Sl 5 RFil w' B m fs ∧ StoG fs m nx ∧ 1 ≤ m ∧ m ≤ 7 ∧ nx ≤ 8 ∧ s.size ≤ 1 ∧ Below w.heap.size w w' := by
  have HN := Lib.hid fun w' (hb : Below w.heap.size w w') => spec_l01New A0 n c0 l w' (hS.mono mByt hb) hn hl
  clear hS hl
  go_enter Try.func49, Try.ntmps49
  go_wp2_with fail
  refine (HN.out _ (by go_grown)).mono ?_; rintro e w1 ⟨g, rfl, hC⟩
  have hgw := (cur_w hC).1
  have hk := (cur_w hC).2
  have HR1 := Lib.hid (below_keep hk (hp_new rfl))
  have HB1 := Lib.hid (ex_trans (ex_alloc (Below.refl w.heap.size w) _) hk)
  have hgl := cur_lt hC
  have HC1 := Lib.hid hC
  simp at hgw
  clear hC hk
  go_wp2_with fail
  refine (spec_l05Store _ _ g HC1.out).mono ?_; rintro e w2 ⟨fs, nx, A, c, B, m, d, rfl, hr, hf, hG, hm1, hm7, hx8, hc2, hg2⟩
  have HR2 := Lib.hid (hg2.keepb HR1.out (by simp only [List.mem_singleton]; omega))
  have HB2 := Lib.hid (Below.mark HB1.out hg2 HB1.out.size (by simp only [List.mem_singleton]; intro b hb; omega))
  have HC2 := Lib.hid hc2
  have HF2 := Lib.hid (And.intro hr hf)
  have HG := Lib.hid hG
  have hgl2 := hgl
  have hzw : w.heap.size < w1.heap.size := blk_lt HR1.out
  clear hr hf hG
  clear hc2 hg2
  go_wp2_with fail
  refine (spec_l03Name _ _ g HC2.out).mono ?_; rintro e w3 ⟨s, rfl, hs, hc3, hg3⟩
  have HR3 := Lib.hid (hg3.keepb HR2.out (by simp only [List.mem_singleton]; omega))
  have HB3 := Lib.hid (Below.mark HB2.out hg3 HB2.out.size (by simp only [List.mem_singleton]; intro b hb; omega))
  have HC3 := Lib.hid hc3
  have HF3 := Lib.hid (And.intro (row_draw HF2.out.1 hgl hg3) (HF2.out.2.draw hgl hg3))
  clear hc3 hg3
  go_wp2_with fail
  refine (spec_l01Below _ _ g 4 (by omega) (by omega) HC3.out).mono ?_; rintro e w4 ⟨x, rfl, ⟨x0, x1⟩, hc4, hg4⟩
  have HR4 := Lib.hid (hg4.keepb HR3.out (by simp only [List.mem_singleton]; omega))
  have HB4 := Lib.hid (Below.mark HB3.out hg4 HB3.out.size (by simp only [List.mem_singleton]; intro b hb; omega))
  have HC4 := Lib.hid hc4
  have HF4 := Lib.hid (And.intro (row_draw HF3.out.1 hgl hg4) (HF3.out.2.draw hgl hg4))
  clear hc4 hg4
  have hzr4 := blk_lt HR4.out
  have hg4l := cur_lt HC4.out
  go_wp2_with fail
  obtain ⟨lo, hlo⟩ : ∃ z : Int, z = x - 1 := ⟨_, rfl⟩
  try rw [← hlo]
  clear hlo x0 x1
  generalize hW5 : World.alloc w4 _ = w5
  have hba5 : Below w4.heap.size w4 w5 := by rw [← hW5]; exact (Below.refl _ _).alloc (Nat.le_refl _) _
  have HL5 : Hid (∀ w', Chg [g] w5 w' → Sl 1 RInt w' (some ⟨w4.heap.size, 0, none⟩) 6 [0, 1, 2, 3, 999, -1]) := Lib.hid fun w' h => by
    rw [← hW5] at h
    exact lit_keeps (n := 6) encInt (fun _ _ => rfl) _ [0, 1, 2, 3, 999, -1] 3 hg4l rfl (by unfold maxLen; omega) rfl w' h
  have HR5 := Lib.hid (below_keep hba5 HR4.out)
  have HB5 := Lib.hid (ex_trans HB4.out hba5)
  have HC5 := Lib.hid (HC4.out.below hba5)
  have HF5 := Lib.hid (And.intro (HF4.out.1.below hba5) (HF4.out.2.below hba5))
  have hz5 := hba5.size
  clear hW5 hba5
  refine (spec_l01PickInt _ _ g _ 6 6 [0, 1, 2, 3, 999, -1] (by omega) (by omega) HL5.out HC5.out).mono ?_; rintro e w6 ⟨y, rfl, hy, hc6, hg6⟩
  have HR6 := Lib.hid (hg6.keepb HR5.out (by simp only [List.mem_singleton]; omega))
  have HB6 := Lib.hid (Below.mark HB5.out hg6 HB5.out.size (by simp only [List.mem_singleton]; intro b hb; omega))
  have HC6 := Lib.hid hc6
  have HF6 := Lib.hid (And.intro (row_draw HF5.out.1 hgl hg6) (HF5.out.2.draw hgl hg6))
  clear hc6 hg6
  clear hy
  have r0 := blk_cell? HR6.out 0
  have r1 := blk_cell? HR6.out 1
  have r2 := blk_cell? HR6.out 2
  have rf := blk_free HR6.out
  simp only [List.getElem?_toArray, List.getElem?_cons_zero, List.getElem?_cons_succ] at r0 r1 r2
  go_wp2_with fail
  refine bodyPost_ret (v := .tuple #[.agg #[.slice A 4 c, .slice B m d, .int .i64 nx], .string s, .int .i64 lo, .int .i64 y]) (by simp [results, Try.results49, go_sem, r0, r1, r2]) rfl ?_
  have hc : Chg [w.heap.size] w6 _ := ((((Chg.refl [w.heap.size] w6).set (a := ⟨w.heap.size, 0, none⟩) (by simp) (.slice A 4 c)).set (a := ⟨w.heap.size, 1, none⟩) (by simp) (.slice B m d)).set (a := ⟨w.heap.size, 2, none⟩) (by simp) (.int .i64 nx))
  exact ⟨fs, nx, A, c, B, m, d, s, lo, y, rfl, (HF6.out.1.chg hc (fun b hb h => by have := (HF6.out.1.base b hb).1; simp only [List.mem_singleton] at h; omega)).sl (R := RFld) encFld (fun _ => rfl), (HF6.out.2.draw (by omega) hc).sl, HG.out, hm1, hm7, hx8, hs, Below.mark HB6.out hc HB6.out.size (fun b hb => by simp only [List.mem_singleton] at hb; omega)⟩
set_option maxHeartbeats 3200000 in
theorem spec_DrawGetAttr (A0 : Option Addr) (n c0 : Nat) (l : List Int) (w : World) (hS : Sl 1 RByt w A0 n l) (hn : n ≤ 1048576) (hl : ∀ y ∈ l, 0 ≤ y ∧ y ≤ 255) :
    Calls Try.prog 120 #[.slice A0 n c0] w fun e w' => ∃ (f : Fil) (A : Option Addr) (c d : Nat) (s : ByteArray), e = .returned (.tuple #[.agg #[.int .i64 f.id, .int .i64 f.owner, .bool f.shared, .int .i64 f.link, .slice A c d], .string s]) ∧ FRow 84 4 eAtr w' (w.heap.size + 1) A c d f.attrs ∧ c ≤ 5 ∧ smallA f.attrs ∧ s.size ≤ 1 ∧ Below w.heap.size w w' := by
  have HN := Lib.hid fun w' (hb : Below w.heap.size w w') => spec_l01New A0 n c0 l w' (hS.mono mByt hb) hn hl
  clear hS hl
  go_enter Try.func120, Try.ntmps120
  go_wp2_with fail
  refine (HN.out _ (by go_grown)).mono ?_; rintro e w1 ⟨g, rfl, hC⟩
  have hgw := (cur_w hC).1
  have hk := (cur_w hC).2
  have HR1 := Lib.hid (below_keep hk (hp_new rfl))
  have HB1 := Lib.hid (ex_trans (ex_alloc (Below.refl w.heap.size w) _) hk)
  have hgl := cur_lt hC
  have HC1 := Lib.hid hC
  simp at hgw
  clear hC hk
  go_wp2_with fail
  refine (spec_l04Any _ _ g HC1.out).mono ?_; rintro e w2 ⟨f, A, c, d, rfl, hr, hn5, hsm, hc2, hg2⟩
  have HR2 := Lib.hid (hg2.keepb HR1.out (by simp only [List.mem_singleton]; omega))
  have HB2 := Lib.hid (Below.mark HB1.out hg2 HB1.out.size (by simp only [List.mem_singleton]; intro b hb; omega))
  have HC2 := Lib.hid hc2
  have HF2 := Lib.hid hr
  have HS := Lib.hid hsm
  have hzw : w.heap.size < w1.heap.size := blk_lt HR1.out
  clear hr hsm
  clear hc2 hg2
  go_wp2_with fail
  refine (spec_l03Name _ _ g HC2.out).mono ?_; rintro e w3 ⟨s, rfl, hs, hc3, hg3⟩
  have HR3 := Lib.hid (hg3.keepb HR2.out (by simp only [List.mem_singleton]; omega))
  have HB3 := Lib.hid (Below.mark HB2.out hg3 HB2.out.size (by simp only [List.mem_singleton]; intro b hb; omega))
  have HC3 := Lib.hid hc3
  have HF3 := Lib.hid (row_draw HF2.out hgl hg3)
  clear hc3 hg3
  have r0 := blk_cell? HR3.out 0
  have r1 := blk_cell? HR3.out 1
  have r2 := blk_cell? HR3.out 2
  have r3 := blk_cell? HR3.out 3
  have r4 := blk_cell? HR3.out 4
  have rf := blk_free HR3.out
  simp only [List.getElem?_toArray, List.getElem?_cons_zero, List.getElem?_cons_succ] at r0 r1 r2 r3 r4
  go_wp2_with fail
  refine bodyPost_ret (v := .tuple #[.agg #[.int .i64 f.id, .int .i64 f.owner, .bool f.shared, .int .i64 f.link, .slice A c d], .string s]) (by simp [results, Try.results120, go_sem, r0, r1, r2, r3, r4]) rfl ?_
  have hc : Chg [w.heap.size] w3 _ := ((((((Chg.refl [w.heap.size] w3).set (a := ⟨w.heap.size, 0, none⟩) (by simp) (.int .i64 f.id)).set (a := ⟨w.heap.size, 1, none⟩) (by simp) (.int .i64 f.owner)).set (a := ⟨w.heap.size, 2, none⟩) (by simp) (.bool f.shared)).set (a := ⟨w.heap.size, 3, none⟩) (by simp) (.int .i64 f.link)).set (a := ⟨w.heap.size, 4, none⟩) (by simp) (.slice A c d))
  exact ⟨f, A, c, d, s, rfl, (HF3.out.chg hc (fun b hb h => by have := (HF3.out.base b hb).1; simp only [List.mem_singleton] at h; omega)).low (by omega), hn5, HS.out, hs, Below.mark HB3.out hc HB3.out.size (fun b hb => by simp only [List.mem_singleton] at hb; omega)⟩
set_option maxHeartbeats 3200000 in
theorem spec_DrawIntAttr (A0 : Option Addr) (n c0 : Nat) (l : List Int) (w : World) (hS : Sl 1 RByt w A0 n l) (hn : n ≤ 1048576) (hl : ∀ y ∈ l, 0 ≤ y ∧ y ≤ 255) :
    Calls Try.prog 52 #[.slice A0 n c0] w fun e w' => ∃ (f : Fil) (A : Option Addr) (c d : Nat) (s : ByteArray), e = .returned (.tuple #[.agg #[.int .i64 f.id, .int .i64 f.owner, .bool f.shared, .int .i64 f.link, .slice A c d], .string s]) ∧ Sl 4 RAtr w' A c f.attrs ∧ c ≤ 5 ∧ smallA f.attrs ∧ s.size ≤ 1 ∧ Below w.heap.size w w' := by
  have HN := Lib.hid fun w' (hb : Below w.heap.size w w') => spec_DrawGetAttr A0 n c0 l w' (hS.mono mByt hb) hn hl
  clear hS hl
  go_enter Try.func52, Try.ntmps52
  go_wp2_with fail
  refine (HN.out _ (by go_grown)).mono ?_; rintro e w3 ⟨f, A, c, d, s, rfl, hr, hn5, hsm, hs, hb⟩
  have HR3 := Lib.hid (below_keep hb (hp_new rfl))
  have HB3 := Lib.hid (ex_trans (ex_alloc (Below.refl w.heap.size w) _) hb)
  have HF3 := Lib.hid hr
  have HS := Lib.hid hsm
  clear hr hsm hb
  have r0 := blk_cell? HR3.out 0
  have r1 := blk_cell? HR3.out 1
  have r2 := blk_cell? HR3.out 2
  have r3 := blk_cell? HR3.out 3
  have r4 := blk_cell? HR3.out 4
  have rf := blk_free HR3.out
  simp only [List.getElem?_toArray, List.getElem?_cons_zero, List.getElem?_cons_succ] at r0 r1 r2 r3 r4
  go_wp2_with fail
  refine bodyPost_ret (v := .tuple #[.agg #[.int .i64 f.id, .int .i64 f.owner, .bool f.shared, .int .i64 f.link, .slice A c d], .string s]) (by simp [results, Try.results52, go_sem, r0, r1, r2, r3, r4]) rfl ?_
  have hc : Chg [w.heap.size] w3 _ := ((((((Chg.refl [w.heap.size] w3).set (a := ⟨w.heap.size, 0, none⟩) (by simp) (.int .i64 f.id)).set (a := ⟨w.heap.size, 1, none⟩) (by simp) (.int .i64 f.owner)).set (a := ⟨w.heap.size, 2, none⟩) (by simp) (.bool f.shared)).set (a := ⟨w.heap.size, 3, none⟩) (by simp) (.int .i64 f.link)).set (a := ⟨w.heap.size, 4, none⟩) (by simp) (.slice A c d))
  exact ⟨f, A, c, d, s, rfl, (HF3.out.chg hc (fun b hb h => by have := (HF3.out.base b hb).1; simp at this; simp only [List.mem_singleton] at h; omega)).sl (R := RAtr) encAtr (fun _ => rfl), hn5, HS.out, hs, Below.mark HB3.out hc HB3.out.size (fun b hb => by simp only [List.mem_singleton] at hb; omega)⟩
set_option maxHeartbeats 1600000 in
theorem laws_fileOf (s : Sto) (A : Option Addr) (n c : Nat) (B : Option Addr) (m d : Nat) (id : Int) (w : World) (hS : Sl 2 RFld w A n s.schema) (hT : Sl 5 RFil w B m s.files) (hok : s.ok 1073741824) :
    Calls Try.prog 21 #[s.v A n c B m d, .int .i64 id] w fun e w' => ∃ A' c', e = .returned (.agg #[.int .i64 (findF s id).id, .int .i64 (findF s id).owner, .bool (findF s id).shared, .int .i64 (findF s id).link, .slice A' (findF s id).attrs.length c']) ∧ Sl 4 RAtr w' A' (findF s id).attrs.length (findF s id).attrs ∧ Below w.heap.size w w' := by
  have HN := Lib.hid fun w' (hb : Below w.heap.size w w') => spec_FindFile s A n c B m d id w' (hS.mono mFld hb) (hT.mono mFil hb) hok
  clear hS hT hok
  generalize findF s id = f at HN ⊢
  go_enter Try.func21, Try.ntmps21
  go_wp2_with fail
  refine (HN.out _ (by go_grown)).mono ?_; rintro e w3 ⟨P, q, rfl, hr, hb⟩
  have hr1 := below_keep hb (hp_new rfl)
  have hz := hb.size
  simp at hz
  have hlt : w.heap.size + 1 < w3.heap.size := by omega
  have HB3 := Lib.hid (ex_trans (show Below w.heap.size w _ by go_grown) hb)
  have HF3 := Lib.hid hr
  have HR3 := Lib.hid hr1
  clear hr hb hr1
  go_upto_region 2 with fail
  have hba : Below w3.heap.size w3 (World.alloc w3 (.cells #[.int .i64 f.id, .int .i64 f.owner, .bool f.shared, .int .i64 f.link, .slice P f.attrs.length q] 28)) := (Below.refl _ _).alloc (Nat.le_refl _) _
  have ht : (World.alloc w3 (.cells #[.int .i64 f.id, .int .i64 f.owner, .bool f.shared, .int .i64 f.link, .slice P f.attrs.length q] 28)).heap[w3.heap.size]? = some (.cells #[.int .i64 f.id, .int .i64 f.owner, .bool f.shared, .int .i64 f.link, .slice P f.attrs.length q] 28 (0, 0)) := hp_new rfl
  generalize World.alloc w3 _ = w4 at *
  have hr1 := below_keep hba HR3.out
  simp at hr1
  have HF4 := Lib.hid (HF3.out.below hba)
  have HB4 := Lib.hid (ex_trans HB3.out hba)
  have t0 := blk_cell? ht 0
  have t1 := blk_cell? ht 1
  have t2 := blk_cell? ht 2
  have t3 := blk_cell? ht 3
  have t4 := blk_cell? ht 4
  have r0 := blk_cell? hr1 0
  have r1 := blk_cell? hr1 1
  have r2 := blk_cell? hr1 2
  have r3 := blk_cell? hr1 3
  have r4 := blk_cell? hr1 4
  have rf := blk_free hr1
  simp only [List.getElem?_toArray, List.getElem?_cons_zero, List.getElem?_cons_succ] at r0 r1 r2 r3 r4 t0 t1 t2 t3 t4
  clear hr1 ht hba HN HR3 HB3
  go_wp2_with fail
  refine bodyPost_ret (v := .agg #[.int .i64 f.id, .int .i64 f.owner, .bool f.shared, .int .i64 f.link, .slice P f.attrs.length q]) (by simp [results, Try.results21, go_sem, r0, r1, r2, r3, r4]) rfl ?_
  have hc : Chg [w.heap.size + 1] w4 _ := ((((((Chg.refl [w.heap.size + 1] w4).set (a := ⟨w.heap.size + 1, 0, none⟩) (by simp) (.int .i64 f.id)).set (a := ⟨w.heap.size + 1, 1, none⟩) (by simp) (.int .i64 f.owner)).set (a := ⟨w.heap.size + 1, 2, none⟩) (by simp) (.bool f.shared)).set (a := ⟨w.heap.size + 1, 3, none⟩) (by simp) (.int .i64 f.link)).set (a := ⟨w.heap.size + 1, 4, none⟩) (by simp) (.slice P f.attrs.length q))
  exact ⟨P, q, rfl, (HF4.out.chg hc (fun b hb h => by have := (HF4.out.base b hb).1; simp at this; simp only [List.mem_singleton] at h; omega)).sl (R := RAtr) encAtr (fun _ => rfl), Below.mark HB4.out hc HB4.out.size (fun b hb => by simp only [List.mem_singleton] at hb; omega)⟩
end Go.Proofs.Ytjobgnioehkomaa
