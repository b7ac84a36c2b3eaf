/-
  CONTRACTS: copies of files, of stores.
-/
import Derived.WalkKit
import Derived.WalkSpells
import Derived.WalkLawsBesides
import Derived.Lib.Hide
import Derived.Handy
import Derived.StillTailTactics
import Derived.Deep.Light
import Derived.Deep.QuietTactic
import Derived.BigQuiet
import Derived.Deep.RegionHeld3
import Derived.Deep.RegionLaw
import Derived.Sort.Walk0
import Derived.Deep.DeepCutAuto
import Derived.Test.YtjobgnioehkomaaLib
import Derived.Test.YtjobgnioehkomaaOwn
import Derived.Test.YtjobgnioehkomaaRow
import Derived.Test.YtjobgnioehkomaaN0
import Derived.Test.YtjobgnioehkomaaRaw
import Derived.Test.YtjobgnioehkomaaHld
import Derived.Test.YtjobgnioehkomaaM0
import Derived.Test.YtjobgnioehkomaaC1
import Derived.Test.YtjobgnioehkomaaC2
import Derived.Test.YtjobgnioehkomaaT1
import Derived.Test.YtjobgnioehkomaaT2
import Derived.Test.YtjobgnioehkomaaT3
import Derived.Test.YtjobgnioehkomaaT4
import Derived.Test.YtjobgnioehkomaaC3
import Derived.Test.YtjobgnioehkomaaC4
import Derived.Test.YtjobgnioehkomaaC5
import Derived.Test.YtjobgnioehkomaaD1
import Derived.Test.YtjobgnioehkomaaD3
import Derived.Test.YtjobgnioehkomaaD5
import Derived.Test.YtjobgnioehkomaaH1
import Derived.Test.YtjobgnioehkomaaE4
import Derived.Test.YtjobgnioehkomaaRows
namespace Go.Proofs.Ytjobgnioehkomaa
open Go.RowKit
set_option linter.unusedVariables false
set_option maxRecDepth 100000
/-- an element and its row are put behind, the headers' row being appended to -/
theorem NRow.add {H β : Type} {K : NK H β} {W0 W1 W2 : World} {B n c c' : Nat} {A A' : Option Addr} {L : List (H × List β)} {x : H × List β} (h : NRow K W0 B A n c L) (hb : Below W0.heap.size W0 W1) (hx : K.inner W1 B x) (hnew : ∀ b ∈ K.bs x.1, W0.heap.size ≤ b)
    (hr : FRow K.e K.size K.enc W2 B A' (n + 1) c' (L.map (·.1) ++ [x.1])) (hc : Chg (rowBs A c) W1 W2) (hx5 : ∀ b ∈ rowBs A' c', b ∈ rowBs A c ∨ W1.heap.size ≤ b) : NRow K W2 B A' (n + 1) c' (L ++ [x]) := by
  have h1 := h.below hb
  obtain ⟨p1, p2⟩ := h1.push hx (fun b hb2 hm => by have h2 := (h.base b hm).2; have h3 := hnew b hb2; omega)
  exact NRow.turn (by simpa using hr) hc hx5 p1 p2
abbrev KFil (eF ea : Nat) : NK Fh Atr := ⟨eF, 5, eFh, (·.A), (·.n), (·.c), ea, 4, eAtr⟩
def mkF (x : Fh × List Atr) : Fil := ⟨x.1.id, x.1.owner, x.1.shared, x.1.link, x.2⟩
/-- files of the call's own -/
def FRows (eF ea : Nat) (w : World) (B : Nat) (A : Option Addr) (n c : Nat) (l : List Fil) : Prop := ∃ L, NRow (KFil eF ea) w B A n c L ∧ L.map mkF = l
def NewFils (eF ea : Nat) (w : World) (l : List Fil) (en : Ending) (w' : World) : Prop :=
  ∃ A c, en = .returned (.slice A l.length c) ∧ FRows eF ea w' w.heap.size A l.length c l ∧ Below w.heap.size w w'
theorem FRows.osl {eF ea : Nat} {w : World} {B n c : Nat} {A : Option Addr} {l : List Fil} (h : FRows eF ea w B A n c l) : ∃ bs, OSl eF 5 (OFil ea) w A n l bs ∧ bs.Nodup ∧ ∀ b ∈ bs, B ≤ b := by
  obtain ⟨L, h1, rfl⟩ := h
  refine NRow.osl (f := mkF) (K := KFil eF ea) encFh h1 fun x hx => ?_
  have hi := h1.2.1 x hx
  have ho := hi.osl (O := OAtr) encAtr (fun _ => ⟨rfl, rfl⟩)
  exact ⟨x.1.A, x.1.n, x.1.c, rfl, hi.le, ho⟩
theorem FRows.sl {eF ea : Nat} {w : World} {B n c : Nat} {A : Option Addr} {l : List Fil} (h : FRows eF ea w B A n c l) : Sl 5 RFil w A n l := by
  obtain ⟨bs, h1, _⟩ := h.osl
  exact h1.sl fun h => h.r
theorem FRows.below {eF ea : Nat} {w w' : World} {B n c : Nat} {A : Option Addr} {l : List Fil} (h : FRows eF ea w B A n c l) (hb : Below w.heap.size w w') : FRows eF ea w' B A n c l := by
  obtain ⟨L, h1, h2⟩ := h; exact ⟨L, h1.below hb, h2⟩
theorem FRows.lower {eF ea : Nat} {w : World} {B B' n c : Nat} {A : Option Addr} {l : List Fil} (h : FRows eF ea w B A n c l) (hb : B' ≤ B) : FRows eF ea w B' A n c l := by
  obtain ⟨L, h1, h2⟩ := h; exact ⟨L, h1.lower hb, h2⟩
theorem FRows.len {eF ea : Nat} {w : World} {B n c : Nat} {A : Option Addr} {l : List Fil} (h : FRows eF ea w B A n c l) : l.length = n := by
  obtain ⟨L, h1, rfl⟩ := h; simpa using h1.len
theorem FRows.any0 (eF ea : Nat) (w : World) (B : Nat) (A : Option Addr) : FRows eF ea w B A 0 0 [] := ⟨[], NRow.any0 _ _ _ _, rfl⟩
/-- a loop's relation -/
def FApp (eF ea : Nat) (w : World) (B k : Nat) (l : List Fil) (v : Value) (wr : World) : Prop := ∃ A c, v = .slice A k c ∧ FRows eF ea wr B A k c l ∧ Below w.heap.size w wr
/-- a store of the call's own: the schema's row lies below X, the files' rows from X on -/
def NewStoR (f : Value → Value) (ef eF ea : Nat) (w : World) (s : Sto) (en : Ending) (w' : World) : Prop :=
  ∃ A c B d X, en = .returned (f (s.v A s.schema.length c B s.files.length d)) ∧ FRow ef 2 eFld w' w.heap.size A s.schema.length c s.schema ∧ (∀ b ∈ rowBs A c, b < X) ∧ w.heap.size ≤ X ∧ X ≤ w'.heap.size ∧ FRows eF ea w' X B s.files.length d s.files ∧ Below w.heap.size w w'
theorem NewStoR.v {f : Value → Value} {ef eF ea : Nat} {w w' : World} {s : Sto} {en : Ending} (h : NewStoR f ef eF ea w s en w') : NewStoV f ef eF ea w s en w' := by
  obtain ⟨A, c, B, d, X, h1, h2, h3, h4, h4b, h5, h6⟩ := h
  obtain ⟨bt, k1, k2, k3⟩ := h5.osl
  have hbs : ∀ b ∈ (if s.schema.length = 0 then [] else rowBs A c), b ∈ rowBs A c := fun b hb => by
    split at hb
    · cases hb
    · exact hb
  refine ⟨A, c, B, d, _, bt, h1, h2.osl (O := OFld) encFld (fun _ => ⟨rfl, rfl⟩), k1, ⟨?_, fun b hb => ?_⟩, h6⟩
  · rw [List.nodup_append]
    refine ⟨?_, k2, fun a ha b hb e => ?_⟩
    · split
      · exact List.nodup_nil
      · exact rowBs_nd _ _
    · subst e
      have e1 := h3 a (hbs a ha)
      have e2 := k3 a hb
      omega
  · rcases List.mem_append.1 hb with hb | hb
    · exact (h2.base b (hbs b hb)).1
    · exact Nat.le_trans h4 (k3 b hb)
theorem meet_set {α : Type} {T e size : Nat} {enc : α → List Value} {W0 Wa w6 : World} {g n c6 : Nat} {A6 : Option Addr} {l : List α} {zs : Array Value} (vs : List Value) (hg : Wa.heap[g]? = some (.cells zs T (0, 0))) (hG : W0.heap.size ≤ g) (hF : FRow e size enc w6 W0.heap.size A6 n c6 l) (hC : Chg [] Wa w6)
    (hX : ∀ b ∈ rowBs A6 c6, b ∈ ([] : List Nat) ∨ Wa.heap.size ≤ b) (hB : Below W0.heap.size W0 w6) :
    (sets w6 g 0 vs).heap[g]? = some (.cells (setsA zs 0 vs) T (0, 0)) ∧ FRow e size enc (sets w6 g 0 vs) W0.heap.size A6 n c6 l ∧ g ∉ rowBs A6 c6 ∧ Below W0.heap.size W0 (sets w6 g 0 vs) := by
  have hlt := blk_lt hg
  have hn : g ∉ rowBs A6 c6 := fun h => by
    rcases hX _ h with h | h
    · cases h
    · omega
  have hch : Chg [g] w6 (sets w6 g 0 vs) := sets_chg (bs := [g]) (g := g) (w := w6) (w1 := w6) (by simp) _ _ 0 (Chg.refl _ _)
  exact ⟨sets_blk _ _ _ _ (hC.keepb hg (by simp)), hF.chg hch (fun b hb h => by simp only [List.mem_singleton] at h; subst h; exact hn hb), hn, Below.mark hB hch hB.size (by simp only [List.mem_singleton]; intro b hb; subst hb; exact hG)⟩
set_option maxHeartbeats 6400000 in
theorem spec_l05Copy (s : Sto) (A : Option Addr) (n c : Nat) (B : Option Addr) (m d : Nat) (w : World) (hS : Sl 2 RFld w A n s.schema) (hT : Sl 5 RFil w B m s.files) (hok : s.ok 1073741824) :
    Calls Try.prog 115 #[s.v A n c B m d] w (NewStoR id 138 28 84 w s) := by
  obtain rfl : s.files.length = m := hT.len
  obtain rfl : s.schema.length = n := hS.len
  have hn := hok.1
  obtain ⟨ii, hi, hi0, hi1, hi2⟩ := info_parts info_File
  obtain ⟨jj, hj, hj0, hj1, hj2⟩ := info_parts info_Field
  have HS := Lib.hid hS
  have HC4 := Lib.hid fun (k : Nat) (hk : k < s.files.length) A n c w' (hS : Sl 4 RAtr w' A n s.files[k].attrs) => spec_l04Copy s.files[k] A n c w' hS (by have := (hok.2.2.2 s.files[k] (List.getElem_mem hk)).1; have := hS.len; omega)
  have hm := hok.2.2.1
  clear hS
  go_enter Try.func115, Try.ntmps115
  go_upto_region 1 with fail
  generalize hW : World.alloc (World.alloc w _) _ = W0
  have hb0 : HasB W0 [(w.heap.size, #[.slice A s.schema.length c, .slice B s.files.length d, .int .i64 s.next], 40), (w.heap.size + 1, #[.slice none 0 0, .slice none 0 0, .int .i64 0], 40)] := by
    rw [← hW]; intro x hx
    simp only [List.mem_cons, List.not_mem_nil, or_false] at hx
    rcases hx with rfl | rfl
    all_goals (simp only; repeat first | exact hp_new (by simp) | rw [hp_old (by simp <;> omega)])
  have hB0 : Below w.heap.size w W0 := by rw [← hW]; go_grown
  have hs0 : w.heap.size + 1 + 1 = W0.heap.size := by rw [← hW]; simp
  clear hW
  have z0 : w.heap.size < W0.heap.size := by omega
  have x0 := blk_cell? (hb0 _ (List.Mem.head _)) 0
  have x1 := blk_cell? (hb0 _ (List.Mem.head _)) 1
  have x2 := blk_cell? (hb0 _ (List.Mem.head _)) 2
  simp only [List.getElem?_toArray, List.getElem?_cons_zero, List.getElem?_cons_succ] at x0 x1 x2
  have HB0 := Lib.hid hb0
  have HS0 := Lib.hid (HS.out.mono mFld hB0)
  clear hb0
  go_cut [3] (fun s3 w' => ∃ (g : Nat) (A1 : Option Addr) (c1 : Nat), s3 = .pointer (some ⟨g, 0, none⟩) ∧ W0.heap.size ≤ g ∧ w'.heap[g]? = some (.cells #[.slice A1 s.schema.length c1, .slice none 0 0, .int .i64 s.next] 40 (0, 0)) ∧ FRow 138 2 eFld w' W0.heap.size A1 s.schema.length c1 s.schema ∧ g ∉ rowBs A1 c1 ∧ Below W0.heap.size W0 w')
  case first =>
    go_region_held3 (fun w' => Tok w' ∧ w'.cell? ⟨w.heap.size, 0, none⟩ = some (.slice A s.schema.length c) ∧ w'.cell? ⟨w.heap.size, 1, none⟩ = some (.slice B s.files.length d) ∧ w'.cell? ⟨w.heap.size, 2, none⟩ = some (.int .i64 s.next))
      (exact ⟨trivial, by go_simp, by go_simp, by go_simp⟩)
      (first | (refine step_append_row rfl (.tmp 5) (.tmp 7) _ rfl encFld Try.underlying37 hj hj0 hj1 hj2 rfl rfl rfl (FRow.any0 _ _ _ _ W0.heap.size _) (Src.of_sl (R := RFld) encFld (fun h => h) (HS0.out.mono mFld (by go_grown))) (by unfold maxLen; omega) (by omega) (by simp <;> omega) ?_; intro A6 c6 w6 hr6 hc6 hx6; have y0 : w6.cell? ⟨w.heap.size, 0, none⟩ = some (.slice A s.schema.length c) := hc6.cell (by go_simp) (by simp [rowBs_zero]); have y1 : w6.cell? ⟨w.heap.size, 1, none⟩ = some (.slice B s.files.length d) := hc6.cell (by go_simp) (by simp [rowBs_zero]); have y2 : w6.cell? ⟨w.heap.size, 2, none⟩ = some (.int .i64 s.next) := hc6.cell (by go_simp) (by simp [rowBs_zero]); have z6 : w.heap.size < w6.heap.size := (by have := hc6.size; simp at this; omega); have HB6 : Below W0.heap.size W0 w6 := (Below.mark (by go_grown) hc6 (by simp <;> omega) (by simp [rowBs_zero])); have HF6 := Lib.hid (show FRow 138 2 eFld w6 W0.heap.size A6 s.schema.length c6 s.schema by simpa using hr6); have HC6 := Lib.hid hc6; have HX6 := Lib.hid hx6; obtain ⟨hcc6, hff6⟩ := bcell (Chg.blow hc6); clear hr6 hc6 hx6))
    all_goals
      clear hcc6 hff6
      go_wp2_with fail
      go_meet
      first
        | exact ⟨w6.heap.size, A6, c6, rfl, HB6.size, hp_new rfl, HF6.out.below (by go_grown), fun h => absurd (HF6.out.base _ h).2 (Nat.lt_irrefl _), ex_alloc HB6 _⟩
        | (obtain ⟨m1, m2, m3, m4⟩ := meet_set (T := 40) (zs := #[.slice none 0 0, .slice none 0 0, .int .i64 0]) [.slice A6 s.schema.length c6, .slice none 0 0, .int .i64 s.next] (g := W0.heap.size + 1) (by exact hp_new (by simp)) (by omega) HF6.out HC6.out HX6.out HB6
           exact ⟨W0.heap.size + 1, A6, c6, rfl, by omega, m1, m2, m3, m4⟩)
        | (obtain ⟨m1, m2, m3, m4⟩ := meet_set (T := 40) (zs := #[.slice none 0 0, .slice none 0 0, .int .i64 0]) [.slice A6 s.schema.length c6, .slice none 0 0, .int .i64 s.next] (g := W0.heap.size) (by exact (hp_old (by simp)).trans (hp_new rfl)) (by omega) HF6.out HC6.out HX6.out HB6
           exact ⟨W0.heap.size, A6, c6, rfl, by omega, m1, m2, m3, m4⟩)
  case rest =>
    generalize wc = w1 at *
    obtain ⟨g, A1, c1, rfl, hG, hg, hF, hgn, hB1⟩ := hcut
    have hg1 : g < w1.heap.size := blk_lt hg
    have HBX := Lib.hid (HB0.out.below hB1)
    have HF := Lib.hid hF
    have hBw := ex_trans hB0 hB1
    have HG := Lib.hid hg
    clear hF hg x0 x1 x2 hi hi0
    obtain ⟨ii, hi, hi0, hi1, hi2⟩ := info_parts info_File
    go_wp2_with fail
    go_loopw [4] (fun i wr => ∃ (k : Nat) (B2 : Option Addr) (d2 : Nat), k ≤ s.files.length ∧ i = .int .i64 k ∧ Chg [g] w1 wr ∧ wr.heap[g]? = some (.cells #[.slice A1 s.schema.length c1, .slice B2 k d2, .int .i64 s.next] 40 (0, 0)) ∧ FRows 28 84 wr w1.heap.size B2 k d2 (s.files.take k)) (fun i _ => s.files.length - (intOf i).toNat)
    case atStart => exact ⟨0, none, 0, Nat.zero_le _, rfl, Chg.refl _ _, HG.out, FRows.any0 _ _ _ _ _⟩
    case round =>
      obtain ⟨k, B2, d2, hk2, rfl, hC, hgo, hR⟩ := hrel
      have HC := Lib.hid hC
      have HR := Lib.hid hR
      have HGo := Lib.hid hgo
      have hsz := hC.size
      have hB := HBX.out.chg hC (fun x hx h => by
        simp only [List.mem_cons, List.not_mem_nil, or_false] at hx
        simp only [List.mem_singleton] at h
        rcases hx with rfl | rfl <;> simp only at h <;> omega)
      have HB := Lib.hid hB
      have HBw := Lib.hid (Below.mark hBw hC hBw.size (by simp only [List.mem_singleton]; intro b hb; omega))
      have x0 := blk_cell? (hB _ (List.Mem.head _)) 0
      have x1 := blk_cell? (hB _ (List.Mem.head _)) 1
      have x2 := blk_cell? (hB _ (List.Mem.head _)) 2
      simp only [List.getElem?_toArray, List.getElem?_cons_zero, List.getElem?_cons_succ] at x0 x1 x2
      have o1 := blk_cell? hgo
      have of := blk_free hgo
      have zg : g < wr.heap.size := blk_lt hgo
      have zw : w.heap.size < wr.heap.size := by omega
      have ng : ¬ (w.heap.size = g) := by omega
      clear hB hC hR hgo
      have i0 : (0 : Int) ≤ (k : Int) := by omega
      by_cases hlt : k < s.files.length
      · obtain ⟨b, off, rfl, bw, bc⟩ := hT.fil (by omega)
        obtain ⟨qA, qn, qc, q0, q1, q2, q3, q4, qS⟩ := bc k (by omega)
        rw [← HBw.out.cell (p := ⟨b, _, none⟩) bw] at q0 q1 q2 q3 q4
        obtain rfl : s.files[k].attrs.length = qn := qS.len
        have QS := Lib.hid (qS.mono mAtr HBw.out)
        have i1 : (k : Int) < (s.files.length : Int) := by omega
        have zb : b < wr.heap.size := by omega
        have nb : ¬ (b = g) := by omega
        clear bc qS
        go_upto_region 5 with fail
        obtain ⟨L, hL1, hL2⟩ := HR.out
        have HL := Lib.hid (And.intro hL1 hL2)
        clear hL1 hL2
        refine wp_region_held_drew (S := (fun w' => w'.cell? ⟨w.heap.size, 1, none⟩ = some (.slice (some ⟨b, off, none⟩) s.files.length d) ∧ w'.cell? ⟨b, off + k * 5, none⟩ = some (.int .i64 s.files[k].id) ∧ w'.cell? ⟨b, off + k * 5 + 1, none⟩ = some (.int .i64 s.files[k].owner) ∧ w'.cell? ⟨b, off + k * 5 + 2, none⟩ = some (.bool s.files[k].shared) ∧ w'.cell? ⟨b, off + k * 5 + 3, none⟩ = some (.int .i64 s.files[k].link) ∧ w'.cell? ⟨b, off + k * 5 + 4, none⟩ = some (.slice qA s.files[k].attrs.length qc))) (by kernel_rfl) (by (try dsimp only); exact ⟨x1, q0, q1, q2, q3, q4⟩) (fun hHeld => ?_)
        first | (refine held_take 0 rfl (by kernel_rfl) (by kernel_rfl) (by kernel_rfl) (by rfl) (fun _ _ _ h => h) (by assumption) (by intro w hSw; (try dsimp only at hSw); go_simp; first | done | with_reducible rfl) ?_) | (refine held_skip 0 rfl (by kernel_rfl) (by kernel_rfl) (by kernel_rfl) (by rfl) (fun _ _ _ h => h) (by assumption) ?_)
        simp only [Act.put, List.setIfInBounds_toArray, List.set_cons_zero, List.set_cons_succ]
        first | (refine held_take 2 rfl (by kernel_rfl) (by kernel_rfl) (by kernel_rfl) (by rfl) (fun _ _ _ h => h) (by assumption) (by intro w hSw; (try dsimp only at hSw); go_simp; first | done | with_reducible rfl) ?_) | (refine held_skip 2 rfl (by kernel_rfl) (by kernel_rfl) (by kernel_rfl) (by rfl) (fun _ _ _ h => h) (by assumption) ?_)
        simp only [Act.put, List.setIfInBounds_toArray, List.set_cons_zero, List.set_cons_succ]
        first | (refine held_take 3 rfl (by kernel_rfl) (by kernel_rfl) (by kernel_rfl) (by rfl) (fun _ _ _ h => h) (by assumption) (by intro w hSw; (try dsimp only at hSw); go_simp; first | done | with_reducible rfl) ?_) | (refine held_skip 3 rfl (by kernel_rfl) (by kernel_rfl) (by kernel_rfl) (by rfl) (fun _ _ _ h => h) (by assumption) ?_)
        simp only [Act.put, List.setIfInBounds_toArray, List.set_cons_zero, List.set_cons_succ]
        first | (refine held_take 4 rfl (by kernel_rfl) (by kernel_rfl) (by kernel_rfl) (by rfl) (fun _ _ _ h => h) (by assumption) (by intro w hSw; (try dsimp only at hSw); go_simp; first | done | with_reducible rfl) ?_) | (refine held_skip 4 rfl (by kernel_rfl) (by kernel_rfl) (by kernel_rfl) (by rfl) (fun _ _ _ h => h) (by assumption) ?_)
        simp only [Act.put, List.setIfInBounds_toArray, List.set_cons_zero, List.set_cons_succ]
        first | (refine held_take 5 rfl (by kernel_rfl) (by kernel_rfl) (by kernel_rfl) (by rfl) (fun _ _ _ h => h) (by assumption) (by intro w hSw; (try dsimp only at hSw); go_simp; first | done | with_reducible rfl) ?_) | (refine held_skip 5 rfl (by kernel_rfl) (by kernel_rfl) (by kernel_rfl) (by rfl) (fun _ _ _ h => h) (by assumption) ?_)
        simp only [Act.put, List.setIfInBounds_toArray, List.set_cons_zero, List.set_cons_succ]
        first | (refine held_take 6 rfl (by kernel_rfl) (by kernel_rfl) (by kernel_rfl) (by rfl) (fun _ _ _ h => h) (by assumption) (by intro w hSw; (try dsimp only at hSw); go_simp; first | done | with_reducible rfl) ?_) | (refine held_skip 6 rfl (by kernel_rfl) (by kernel_rfl) (by kernel_rfl) (by rfl) (fun _ _ _ h => h) (by assumption) ?_)
        simp only [Act.put, List.setIfInBounds_toArray, List.set_cons_zero, List.set_cons_succ]
        refine held_two 1 7 (by kernel_rfl) rfl rfl (fun K hK => ?_) (fun K hK => ?_)
        · go_simp
          refine hK.out _ _ (by (try dsimp only); exact hHeld) (fun hNew => ?_)
          clear hK K hHeld
          have hHeld := hNew
          clear hNew
          try simp only [Act.put, List.setIfInBounds_toArray, List.set_cons_zero, List.set_cons_succ]
          refine held_one 7 (by kernel_rfl) rfl (fun K hK => ?_)
          go_simp
          go_at_call 117
          refine (HC4.out k hlt qA _ qc _ (QS.out.mono mAtr (by go_grown))).mono ?_; rintro e w2 ⟨A2, c2, rfl, hr2, hb2⟩; have hbx := ex_trans (w := wr) (by go_grown) hb2; have HX := Lib.hid (And.intro hr2 hbx); obtain ⟨hcc2, hff2⟩ := bcell hbx; have zw2 : w.heap.size < w2.heap.size := (by have := hbx.size; omega); have zg2 : g < w2.heap.size := (by have := hbx.size; omega); have zb2 : b < w2.heap.size := (by have := hbx.size; omega); clear hr2
          go_wp2_with fail
          refine hK.out _ _ (by (try dsimp only); exact ⟨keep_cell hb2 hHeld.1, keep_cell hb2 hHeld.2.1, keep_cell hb2 hHeld.2.2.1, keep_cell hb2 hHeld.2.2.2.1, keep_cell hb2 hHeld.2.2.2.2.1, keep_cell hb2 hHeld.2.2.2.2.2⟩) (fun hNew => ?_)
          clear hK K hHeld
          have hHeld := hNew
          clear hNew
          try simp only [Act.put, List.setIfInBounds_toArray, List.set_cons_zero, List.set_cons_succ]
          refine held_one 8 (by kernel_rfl) rfl (fun K hK => ?_)
          go_simp
          refine hK.out _ _ (by (try dsimp only); exact ⟨keep_cell (ex_alloc (Below.refl _ _) _) hHeld.1, keep_cell (ex_alloc (Below.refl _ _) _) hHeld.2.1, keep_cell (ex_alloc (Below.refl _ _) _) hHeld.2.2.1, keep_cell (ex_alloc (Below.refl _ _) _) hHeld.2.2.2.1, keep_cell (ex_alloc (Below.refl _ _) _) hHeld.2.2.2.2.1, keep_cell (ex_alloc (Below.refl _ _) _) hHeld.2.2.2.2.2⟩) (fun hNew => ?_)
          clear hK K hHeld
          have hHeld := hNew
          clear hNew
          try simp only [Act.put, List.setIfInBounds_toArray, List.set_cons_zero, List.set_cons_succ]
          refine held_one 9 (by kernel_rfl) rfl (fun K hK => ?_)
          refine step_append_row rfl (.tmp 20) (.tmp 27) _ rfl encFh Try.underlying38 hi hi0 hi1 hi2 rfl rfl rfl (HL.out.1.1.below (ex_alloc HX.out.2 _)) (src1 encFh _ (⟨s.files[k].id, s.files[k].owner, s.files[k].shared, s.files[k].link, A2, s.files[k].attrs.length, c2⟩ : Fh) _ rfl rfl) (by unfold maxLen; omega) (by omega) (by have := HX.out.2.size; simp; omega) ?_; intro A3 c3 w5 hr5 hc5 hx5; have y1 : w5.cell? ⟨w.heap.size, 1, none⟩ = some (.slice (some ⟨b, off, none⟩) s.files.length d) := hc5.cell (by go_simp) (fun h => by have h1 := (HL.out.1.1.base _ h).1; simp only at h1; omega); have r0 : w5.cell? ⟨b, off + k * 5, none⟩ = some (.int .i64 s.files[k].id) := hc5.cell (by go_simp) (fun h => by have h1 := (HL.out.1.1.base _ h).1; simp only at h1; omega); have r1 : w5.cell? ⟨b, off + k * 5 + 1, none⟩ = some (.int .i64 s.files[k].owner) := hc5.cell (by go_simp) (fun h => by have h1 := (HL.out.1.1.base _ h).1; simp only at h1; omega); have r2 : w5.cell? ⟨b, off + k * 5 + 2, none⟩ = some (.bool s.files[k].shared) := hc5.cell (by go_simp) (fun h => by have h1 := (HL.out.1.1.base _ h).1; simp only at h1; omega); have r3 : w5.cell? ⟨b, off + k * 5 + 3, none⟩ = some (.int .i64 s.files[k].link) := hc5.cell (by go_simp) (fun h => by have h1 := (HL.out.1.1.base _ h).1; simp only at h1; omega); have r4 : w5.cell? ⟨b, off + k * 5 + 4, none⟩ = some (.slice qA s.files[k].attrs.length qc) := hc5.cell (by go_simp) (fun h => by have h1 := (HL.out.1.1.base _ h).1; simp only at h1; omega); have hg5 := hc5.keepb ((hp_old (by omega)).trans (below_keep hbx HGo.out)) (fun h => by have h1 := (HL.out.1.1.base _ h).1; omega); have o5 := blk_cell? hg5; have of5 := blk_free hg5; have HG5 := Lib.hid hg5; have HR5 := Lib.hid (And.intro hr5 (And.intro hc5 hx5)); clear hr5 hc5 hx5 hg5 hcc2 hff2
          refine hK.out _ _ (by (try dsimp only); exact ⟨y1, r0, r1, r2, r3, r4⟩) (fun hNew => ?_)
          clear hK K hHeld
          have hHeld := hNew
          clear hNew
          try simp only [Act.put, List.setIfInBounds_toArray, List.set_cons_zero, List.set_cons_succ]
          first | (refine held_take 10 rfl (by kernel_rfl) (by kernel_rfl) (by kernel_rfl) (by rfl) (fun _ _ _ h => h) (by assumption) (by intro w hSw; (try dsimp only at hSw); go_simp; first | done | with_reducible rfl) ?_) | (refine held_skip 10 rfl (by kernel_rfl) (by kernel_rfl) (by kernel_rfl) (by rfl) (fun _ _ _ h => h) (by assumption) ?_)
          simp only [Act.put, List.setIfInBounds_toArray, List.set_cons_zero, List.set_cons_succ]
          refine held_one 11 (by kernel_rfl) rfl (fun K hK => ?_)
          go_simp
          refine hK.out _ _ (by (try dsimp only); exact ⟨((Chg.refl [g] _).set (by simp) _).cell y1 (fun h => by simp only [List.mem_singleton] at h; omega), ((Chg.refl [g] _).set (by simp) _).cell r0 (fun h => by simp only [List.mem_singleton] at h; omega), ((Chg.refl [g] _).set (by simp) _).cell r1 (fun h => by simp only [List.mem_singleton] at h; omega), ((Chg.refl [g] _).set (by simp) _).cell r2 (fun h => by simp only [List.mem_singleton] at h; omega), ((Chg.refl [g] _).set (by simp) _).cell r3 (fun h => by simp only [List.mem_singleton] at h; omega), ((Chg.refl [g] _).set (by simp) _).cell r4 (fun h => by simp only [List.mem_singleton] at h; omega)⟩) (fun hNew => ?_)
          clear hK K hHeld
          have hHeld := hNew
          clear hNew
          try simp only [Act.put, List.setIfInBounds_toArray, List.set_cons_zero, List.set_cons_succ]
          refine wpAnyH_done (by kernel_rfl) ?_ _
          have hch : Chg [g] w5 (w5.setCell ⟨g, 1, none⟩ (.slice A3 (k + 1) c3)) := (Chg.refl _ _).set (by simp) _
          have hsb := (HL.out.1.1.base)
          have HRel := Lib.hid (show Chg [g] w1 (w5.setCell ⟨g, 1, none⟩ (.slice A3 (k + 1) c3)) ∧ (w5.setCell ⟨g, 1, none⟩ (.slice A3 (k + 1) c3)).heap[g]? = some (.cells #[.slice A1 s.schema.length c1, .slice A3 (k + 1) c3, .int .i64 s.next] 40 (0, 0)) ∧ FRows 28 84 (w5.setCell ⟨g, 1, none⟩ (.slice A3 (k + 1) c3)) w1.heap.size A3 (k + 1) c3 (s.files.take (k + 1)) from by
            have hN := NRow.add (K := KFil 28 84) (x := (⟨s.files[k].id, s.files[k].owner, s.files[k].shared, s.files[k].link, A2, s.files[k].attrs.length, c2⟩, s.files[k].attrs)) HL.out.1 (ex_alloc HX.out.2 _) ((HX.out.1.below (by go_grown)).re (fun b hb' => by have h1 := (HX.out.1.base b hb').1; have h2 := hsz; simp at h1; omega)) (fun b hb' => by have h1 := (HX.out.1.base b hb').1; simp at h1; omega) HR5.out.1 HR5.out.2.1 HR5.out.2.2
            refine ⟨?_, blk_set HG5.out 1 _, ⟨L ++ [(⟨s.files[k].id, s.files[k].owner, s.files[k].shared, s.files[k].link, A2, s.files[k].attrs.length, c2⟩, s.files[k].attrs)], hN.chg hch (fun b hb' h => ?_), by rw [List.map_append, HL.out.2, List.take_succ_eq_append_getElem hlt]; rfl⟩⟩
            · have h2 : Chg [g] w1 w5 := (HC.out.step (Chg.of_below [g] (ex_alloc HX.out.2 _)) (fun b hb' _ => hb')).step HR5.out.2.1 (fun b hb' hlt' => by have h3 := (hsb b hb').1; omega)
              exact h2.step hch (fun b hb' _ => hb')
            · have h1 := (hN.base b hb').1
              simp only [List.mem_singleton] at h
              omega)
          clear hch hsb
          go_wp2_with fail
          go_roundw
          case rel => exact ⟨k + 1, A3, c3, by omega, by go_num, HRel.out⟩
          case measure => simp [intOf]; omega
        · go_simp
          go_at_call 117
          refine (HC4.out k hlt qA _ qc _ (QS.out.mono mAtr (by go_grown))).mono ?_; rintro e w2 ⟨A2, c2, rfl, hr2, hb2⟩; have hbx := ex_trans (w := wr) (by go_grown) hb2; have HX := Lib.hid (And.intro hr2 hbx); obtain ⟨hcc2, hff2⟩ := bcell hbx; have zw2 : w.heap.size < w2.heap.size := (by have := hbx.size; omega); have zg2 : g < w2.heap.size := (by have := hbx.size; omega); have zb2 : b < w2.heap.size := (by have := hbx.size; omega); clear hr2
          go_wp2_with fail
          refine hK.out _ _ (by (try dsimp only); exact ⟨keep_cell hb2 hHeld.1, keep_cell hb2 hHeld.2.1, keep_cell hb2 hHeld.2.2.1, keep_cell hb2 hHeld.2.2.2.1, keep_cell hb2 hHeld.2.2.2.2.1, keep_cell hb2 hHeld.2.2.2.2.2⟩) (fun hNew => ?_)
          clear hK K hHeld
          have hHeld := hNew
          clear hNew
          try simp only [Act.put, List.setIfInBounds_toArray, List.set_cons_zero, List.set_cons_succ]
          refine held_two 1 8 (by kernel_rfl) rfl rfl (fun K hK => ?_) (fun K hK => ?_)
          · go_simp
            refine hK.out _ _ (by (try dsimp only); exact hHeld) (fun hNew => ?_)
            clear hK K hHeld
            have hHeld := hNew
            clear hNew
            try simp only [Act.put, List.setIfInBounds_toArray, List.set_cons_zero, List.set_cons_succ]
            refine held_one 8 (by kernel_rfl) rfl (fun K hK => ?_)
            go_simp
            refine hK.out _ _ (by (try dsimp only); exact ⟨keep_cell (ex_alloc (Below.refl _ _) _) hHeld.1, keep_cell (ex_alloc (Below.refl _ _) _) hHeld.2.1, keep_cell (ex_alloc (Below.refl _ _) _) hHeld.2.2.1, keep_cell (ex_alloc (Below.refl _ _) _) hHeld.2.2.2.1, keep_cell (ex_alloc (Below.refl _ _) _) hHeld.2.2.2.2.1, keep_cell (ex_alloc (Below.refl _ _) _) hHeld.2.2.2.2.2⟩) (fun hNew => ?_)
            clear hK K hHeld
            have hHeld := hNew
            clear hNew
            try simp only [Act.put, List.setIfInBounds_toArray, List.set_cons_zero, List.set_cons_succ]
            refine held_one 9 (by kernel_rfl) rfl (fun K hK => ?_)
            refine step_append_row rfl (.tmp 20) (.tmp 27) _ rfl encFh Try.underlying38 hi hi0 hi1 hi2 rfl rfl rfl (HL.out.1.1.below (ex_alloc HX.out.2 _)) (src1 encFh _ (⟨s.files[k].id, s.files[k].owner, s.files[k].shared, s.files[k].link, A2, s.files[k].attrs.length, c2⟩ : Fh) _ rfl rfl) (by unfold maxLen; omega) (by omega) (by have := HX.out.2.size; simp; omega) ?_; intro A3 c3 w5 hr5 hc5 hx5; have y1 : w5.cell? ⟨w.heap.size, 1, none⟩ = some (.slice (some ⟨b, off, none⟩) s.files.length d) := hc5.cell (by go_simp) (fun h => by have h1 := (HL.out.1.1.base _ h).1; simp only at h1; omega); have r0 : w5.cell? ⟨b, off + k * 5, none⟩ = some (.int .i64 s.files[k].id) := hc5.cell (by go_simp) (fun h => by have h1 := (HL.out.1.1.base _ h).1; simp only at h1; omega); have r1 : w5.cell? ⟨b, off + k * 5 + 1, none⟩ = some (.int .i64 s.files[k].owner) := hc5.cell (by go_simp) (fun h => by have h1 := (HL.out.1.1.base _ h).1; simp only at h1; omega); have r2 : w5.cell? ⟨b, off + k * 5 + 2, none⟩ = some (.bool s.files[k].shared) := hc5.cell (by go_simp) (fun h => by have h1 := (HL.out.1.1.base _ h).1; simp only at h1; omega); have r3 : w5.cell? ⟨b, off + k * 5 + 3, none⟩ = some (.int .i64 s.files[k].link) := hc5.cell (by go_simp) (fun h => by have h1 := (HL.out.1.1.base _ h).1; simp only at h1; omega); have r4 : w5.cell? ⟨b, off + k * 5 + 4, none⟩ = some (.slice qA s.files[k].attrs.length qc) := hc5.cell (by go_simp) (fun h => by have h1 := (HL.out.1.1.base _ h).1; simp only at h1; omega); have hg5 := hc5.keepb ((hp_old (by omega)).trans (below_keep hbx HGo.out)) (fun h => by have h1 := (HL.out.1.1.base _ h).1; omega); have o5 := blk_cell? hg5; have of5 := blk_free hg5; have HG5 := Lib.hid hg5; have HR5 := Lib.hid (And.intro hr5 (And.intro hc5 hx5)); clear hr5 hc5 hx5 hg5 hcc2 hff2
            refine hK.out _ _ (by (try dsimp only); exact ⟨y1, r0, r1, r2, r3, r4⟩) (fun hNew => ?_)
            clear hK K hHeld
            have hHeld := hNew
            clear hNew
            try simp only [Act.put, List.setIfInBounds_toArray, List.set_cons_zero, List.set_cons_succ]
            first | (refine held_take 10 rfl (by kernel_rfl) (by kernel_rfl) (by kernel_rfl) (by rfl) (fun _ _ _ h => h) (by assumption) (by intro w hSw; (try dsimp only at hSw); go_simp; first | done | with_reducible rfl) ?_) | (refine held_skip 10 rfl (by kernel_rfl) (by kernel_rfl) (by kernel_rfl) (by rfl) (fun _ _ _ h => h) (by assumption) ?_)
            simp only [Act.put, List.setIfInBounds_toArray, List.set_cons_zero, List.set_cons_succ]
            refine held_one 11 (by kernel_rfl) rfl (fun K hK => ?_)
            go_simp
            refine hK.out _ _ (by (try dsimp only); exact ⟨((Chg.refl [g] _).set (by simp) _).cell y1 (fun h => by simp only [List.mem_singleton] at h; omega), ((Chg.refl [g] _).set (by simp) _).cell r0 (fun h => by simp only [List.mem_singleton] at h; omega), ((Chg.refl [g] _).set (by simp) _).cell r1 (fun h => by simp only [List.mem_singleton] at h; omega), ((Chg.refl [g] _).set (by simp) _).cell r2 (fun h => by simp only [List.mem_singleton] at h; omega), ((Chg.refl [g] _).set (by simp) _).cell r3 (fun h => by simp only [List.mem_singleton] at h; omega), ((Chg.refl [g] _).set (by simp) _).cell r4 (fun h => by simp only [List.mem_singleton] at h; omega)⟩) (fun hNew => ?_)
            clear hK K hHeld
            have hHeld := hNew
            clear hNew
            try simp only [Act.put, List.setIfInBounds_toArray, List.set_cons_zero, List.set_cons_succ]
            refine wpAnyH_done (by kernel_rfl) ?_ _
            have hch : Chg [g] w5 (w5.setCell ⟨g, 1, none⟩ (.slice A3 (k + 1) c3)) := (Chg.refl _ _).set (by simp) _
            have hsb := (HL.out.1.1.base)
            have HRel := Lib.hid (show Chg [g] w1 (w5.setCell ⟨g, 1, none⟩ (.slice A3 (k + 1) c3)) ∧ (w5.setCell ⟨g, 1, none⟩ (.slice A3 (k + 1) c3)).heap[g]? = some (.cells #[.slice A1 s.schema.length c1, .slice A3 (k + 1) c3, .int .i64 s.next] 40 (0, 0)) ∧ FRows 28 84 (w5.setCell ⟨g, 1, none⟩ (.slice A3 (k + 1) c3)) w1.heap.size A3 (k + 1) c3 (s.files.take (k + 1)) from by
              have hN := NRow.add (K := KFil 28 84) (x := (⟨s.files[k].id, s.files[k].owner, s.files[k].shared, s.files[k].link, A2, s.files[k].attrs.length, c2⟩, s.files[k].attrs)) HL.out.1 (ex_alloc HX.out.2 _) ((HX.out.1.below (by go_grown)).re (fun b hb' => by have h1 := (HX.out.1.base b hb').1; have h2 := hsz; simp at h1; omega)) (fun b hb' => by have h1 := (HX.out.1.base b hb').1; simp at h1; omega) HR5.out.1 HR5.out.2.1 HR5.out.2.2
              refine ⟨?_, blk_set HG5.out 1 _, ⟨L ++ [(⟨s.files[k].id, s.files[k].owner, s.files[k].shared, s.files[k].link, A2, s.files[k].attrs.length, c2⟩, s.files[k].attrs)], hN.chg hch (fun b hb' h => ?_), by rw [List.map_append, HL.out.2, List.take_succ_eq_append_getElem hlt]; rfl⟩⟩
              · have h2 : Chg [g] w1 w5 := (HC.out.step (Chg.of_below [g] (ex_alloc HX.out.2 _)) (fun b hb' _ => hb')).step HR5.out.2.1 (fun b hb' hlt' => by have h3 := (hsb b hb').1; omega)
                exact h2.step hch (fun b hb' _ => hb')
              · have h1 := (hN.base b hb').1
                simp only [List.mem_singleton] at h
                omega)
            clear hch hsb
            go_wp2_with fail
            go_roundw
            case rel => exact ⟨k + 1, A3, c3, by omega, by go_num, HRel.out⟩
            case measure => simp [intOf]; omega
          · go_simp
            refine hK.out _ _ (by (try dsimp only); exact ⟨keep_cell (ex_alloc (Below.refl _ _) _) hHeld.1, keep_cell (ex_alloc (Below.refl _ _) _) hHeld.2.1, keep_cell (ex_alloc (Below.refl _ _) _) hHeld.2.2.1, keep_cell (ex_alloc (Below.refl _ _) _) hHeld.2.2.2.1, keep_cell (ex_alloc (Below.refl _ _) _) hHeld.2.2.2.2.1, keep_cell (ex_alloc (Below.refl _ _) _) hHeld.2.2.2.2.2⟩) (fun hNew => ?_)
            clear hK K hHeld
            have hHeld := hNew
            clear hNew
            try simp only [Act.put, List.setIfInBounds_toArray, List.set_cons_zero, List.set_cons_succ]
            refine held_one 1 (by kernel_rfl) rfl (fun K hK => ?_)
            go_simp
            refine hK.out _ _ (by (try dsimp only); exact hHeld) (fun hNew => ?_)
            clear hK K hHeld
            have hHeld := hNew
            clear hNew
            try simp only [Act.put, List.setIfInBounds_toArray, List.set_cons_zero, List.set_cons_succ]
            refine held_one 9 (by kernel_rfl) rfl (fun K hK => ?_)
            refine step_append_row rfl (.tmp 20) (.tmp 27) _ rfl encFh Try.underlying38 hi hi0 hi1 hi2 rfl rfl rfl (HL.out.1.1.below (ex_alloc HX.out.2 _)) (src1 encFh _ (⟨s.files[k].id, s.files[k].owner, s.files[k].shared, s.files[k].link, A2, s.files[k].attrs.length, c2⟩ : Fh) _ rfl rfl) (by unfold maxLen; omega) (by omega) (by have := HX.out.2.size; simp; omega) ?_; intro A3 c3 w5 hr5 hc5 hx5; have y1 : w5.cell? ⟨w.heap.size, 1, none⟩ = some (.slice (some ⟨b, off, none⟩) s.files.length d) := hc5.cell (by go_simp) (fun h => by have h1 := (HL.out.1.1.base _ h).1; simp only at h1; omega); have r0 : w5.cell? ⟨b, off + k * 5, none⟩ = some (.int .i64 s.files[k].id) := hc5.cell (by go_simp) (fun h => by have h1 := (HL.out.1.1.base _ h).1; simp only at h1; omega); have r1 : w5.cell? ⟨b, off + k * 5 + 1, none⟩ = some (.int .i64 s.files[k].owner) := hc5.cell (by go_simp) (fun h => by have h1 := (HL.out.1.1.base _ h).1; simp only at h1; omega); have r2 : w5.cell? ⟨b, off + k * 5 + 2, none⟩ = some (.bool s.files[k].shared) := hc5.cell (by go_simp) (fun h => by have h1 := (HL.out.1.1.base _ h).1; simp only at h1; omega); have r3 : w5.cell? ⟨b, off + k * 5 + 3, none⟩ = some (.int .i64 s.files[k].link) := hc5.cell (by go_simp) (fun h => by have h1 := (HL.out.1.1.base _ h).1; simp only at h1; omega); have r4 : w5.cell? ⟨b, off + k * 5 + 4, none⟩ = some (.slice qA s.files[k].attrs.length qc) := hc5.cell (by go_simp) (fun h => by have h1 := (HL.out.1.1.base _ h).1; simp only at h1; omega); have hg5 := hc5.keepb ((hp_old (by omega)).trans (below_keep hbx HGo.out)) (fun h => by have h1 := (HL.out.1.1.base _ h).1; omega); have o5 := blk_cell? hg5; have of5 := blk_free hg5; have HG5 := Lib.hid hg5; have HR5 := Lib.hid (And.intro hr5 (And.intro hc5 hx5)); clear hr5 hc5 hx5 hg5 hcc2 hff2
            refine hK.out _ _ (by (try dsimp only); exact ⟨y1, r0, r1, r2, r3, r4⟩) (fun hNew => ?_)
            clear hK K hHeld
            have hHeld := hNew
            clear hNew
            try simp only [Act.put, List.setIfInBounds_toArray, List.set_cons_zero, List.set_cons_succ]
            first | (refine held_take 10 rfl (by kernel_rfl) (by kernel_rfl) (by kernel_rfl) (by rfl) (fun _ _ _ h => h) (by assumption) (by intro w hSw; (try dsimp only at hSw); go_simp; first | done | with_reducible rfl) ?_) | (refine held_skip 10 rfl (by kernel_rfl) (by kernel_rfl) (by kernel_rfl) (by rfl) (fun _ _ _ h => h) (by assumption) ?_)
            simp only [Act.put, List.setIfInBounds_toArray, List.set_cons_zero, List.set_cons_succ]
            refine held_one 11 (by kernel_rfl) rfl (fun K hK => ?_)
            go_simp
            refine hK.out _ _ (by (try dsimp only); exact ⟨((Chg.refl [g] _).set (by simp) _).cell y1 (fun h => by simp only [List.mem_singleton] at h; omega), ((Chg.refl [g] _).set (by simp) _).cell r0 (fun h => by simp only [List.mem_singleton] at h; omega), ((Chg.refl [g] _).set (by simp) _).cell r1 (fun h => by simp only [List.mem_singleton] at h; omega), ((Chg.refl [g] _).set (by simp) _).cell r2 (fun h => by simp only [List.mem_singleton] at h; omega), ((Chg.refl [g] _).set (by simp) _).cell r3 (fun h => by simp only [List.mem_singleton] at h; omega), ((Chg.refl [g] _).set (by simp) _).cell r4 (fun h => by simp only [List.mem_singleton] at h; omega)⟩) (fun hNew => ?_)
            clear hK K hHeld
            have hHeld := hNew
            clear hNew
            try simp only [Act.put, List.setIfInBounds_toArray, List.set_cons_zero, List.set_cons_succ]
            refine wpAnyH_done (by kernel_rfl) ?_ _
            have hch : Chg [g] w5 (w5.setCell ⟨g, 1, none⟩ (.slice A3 (k + 1) c3)) := (Chg.refl _ _).set (by simp) _
            have hsb := (HL.out.1.1.base)
            have HRel := Lib.hid (show Chg [g] w1 (w5.setCell ⟨g, 1, none⟩ (.slice A3 (k + 1) c3)) ∧ (w5.setCell ⟨g, 1, none⟩ (.slice A3 (k + 1) c3)).heap[g]? = some (.cells #[.slice A1 s.schema.length c1, .slice A3 (k + 1) c3, .int .i64 s.next] 40 (0, 0)) ∧ FRows 28 84 (w5.setCell ⟨g, 1, none⟩ (.slice A3 (k + 1) c3)) w1.heap.size A3 (k + 1) c3 (s.files.take (k + 1)) from by
              have hN := NRow.add (K := KFil 28 84) (x := (⟨s.files[k].id, s.files[k].owner, s.files[k].shared, s.files[k].link, A2, s.files[k].attrs.length, c2⟩, s.files[k].attrs)) HL.out.1 (ex_alloc HX.out.2 _) ((HX.out.1.below (by go_grown)).re (fun b hb' => by have h1 := (HX.out.1.base b hb').1; have h2 := hsz; simp at h1; omega)) (fun b hb' => by have h1 := (HX.out.1.base b hb').1; simp at h1; omega) HR5.out.1 HR5.out.2.1 HR5.out.2.2
              refine ⟨?_, blk_set HG5.out 1 _, ⟨L ++ [(⟨s.files[k].id, s.files[k].owner, s.files[k].shared, s.files[k].link, A2, s.files[k].attrs.length, c2⟩, s.files[k].attrs)], hN.chg hch (fun b hb' h => ?_), by rw [List.map_append, HL.out.2, List.take_succ_eq_append_getElem hlt]; rfl⟩⟩
              · have h2 : Chg [g] w1 w5 := (HC.out.step (Chg.of_below [g] (ex_alloc HX.out.2 _)) (fun b hb' _ => hb')).step HR5.out.2.1 (fun b hb' hlt' => by have h3 := (hsb b hb').1; omega)
                exact h2.step hch (fun b hb' _ => hb')
              · have h1 := (hN.base b hb').1
                simp only [List.mem_singleton] at h
                omega)
            clear hch hsb
            go_wp2_with fail
            go_roundw
            case rel => exact ⟨k + 1, A3, c3, by omega, by go_num, HRel.out⟩
            case measure => simp [intOf]; omega
      · obtain rfl : s.files.length = k := by omega
        have hr := blk_cell? (HB.out _ (List.Mem.tail _ (List.Mem.head _)))
        have hf := blk_free (HB.out _ (List.Mem.tail _ (List.Mem.head _)))
        have HTK := Lib.hid (show s.files.take s.files.length = s.files from List.take_of_length_le (Nat.le_refl _))
        go_wp2_with fail
        refine bodyPost_ret (v := s.v A1 s.schema.length c1 B2 s.files.length d2) (by simp [results, Try.results115, go_sem, hr]) rfl ?_
        have hch : Chg [w.heap.size + 1] wr (sets wr (w.heap.size + 1) 0 [.slice A1 s.schema.length c1, .slice B2 s.files.length d2, .int .i64 s.next]) := sets_chg (bs := [w.heap.size + 1]) (g := w.heap.size + 1) (w := wr) (w1 := wr) (by simp) _ _ 0 (Chg.refl _ _)
        have hF1 := HF.out.base
        have hFw := HF.out.chg HC.out (fun b hb h => by simp only [List.mem_singleton] at h; subst h; exact hgn hb)
        have hFz := (hFw.chg hch (fun b hb h => by have h1 := (hF1 b hb).1; simp only [List.mem_singleton] at h; omega)).re (B' := w.heap.size) (fun b hb => by have h1 := (hF1 b hb).1; omega)
        obtain ⟨L, hL1, hL2⟩ := HR.out
        rw [HTK.out] at hL2
        refine ⟨A1, c1, B2, d2, w1.heap.size, rfl, hFz, fun b hb => (hF1 b hb).2, by omega, Nat.le_trans hsz hch.size, ⟨L, hL1.chg hch (fun b hb h => by have h1 := (hL1.base b hb).1; simp only [List.mem_singleton] at h; omega), hL2⟩, Below.mark HBw.out hch HBw.out.size (by simp only [List.mem_singleton]; intro b hb; omega)⟩
end Go.Proofs.Ytjobgnioehkomaa
