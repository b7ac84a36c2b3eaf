/-
  CONTRACTS: drawn texts of values.
-/
import Derived.WalkKit
import Derived.WalkSpells
import Derived.WalkLawsBesides
import Derived.Lib.Hide
import Derived.Handy
import Derived.StillTailTactics
import Derived.Deep.Light
import Derived.Deep.QuietTactic
import Derived.BigQuiet
import Derived.Deep.RegionHeld3
import Derived.Deep.DeepCutAuto
import Derived.Lib.ItoaLen
import Derived.Test.YtkoagijliokhlaaDoorLib
import Derived.Test.YtkoagijliokhlaaDoorOwn
import Derived.Test.YtkoagijliokhlaaDoorRow
import Derived.Test.YtkoagijliokhlaaDoorN0
import Derived.Test.YtkoagijliokhlaaDoorHld
import Derived.Test.YtkoagijliokhlaaDoorSz
import Derived.Test.YtkoagijliokhlaaDoorC1
import Derived.Test.YtkoagijliokhlaaDoorC2
import Derived.Test.YtkoagijliokhlaaDoorC4
import Derived.Test.YtkoagijliokhlaaDoorD1
import Derived.Test.YtkoagijliokhlaaDoorX0
import Derived.Test.YtkoagijliokhlaaDoorX1
import Derived.Test.YtkoagijliokhlaaDoorX2
import Derived.Test.YtkoagijliokhlaaDoorX3
import Derived.Test.YtkoagijliokhlaaDoorX4
import Derived.Test.YtkoagijliokhlaaDoorY1
import Derived.Test.YtkoagijliokhlaaDoorY2
import Derived.Test.YtkoagijliokhlaaDoorRows
namespace Go.Proofs.YtkoagijliokhlaaDoor
open Go.RowKit
set_option linter.unusedVariables false
set_option maxRecDepth 100000
theorem fmtV_size (v : Vl) (h : v.small) : (fmtV v).size ≤ 64 := by
  rcases fmtV_cases v with ⟨_, e⟩ | ⟨_, _, h0, h9, e⟩ | ⟨_, _, e⟩ | ⟨_, _, _, e⟩ <;> rw [e]
  · decide
  · have := Lib.itoa_length_le v.int (by omega) (by omega)
    show (Lib.itoa v.int).toArray.size ≤ 64
    rw [List.size_toArray]; omega
  · unfold Vl.small at h; omega
  · decide
set_option maxHeartbeats 3200000 in
theorem spec_DrawParseValue (A : Option Addr) (n c : Nat) (l : List Int) (w : World) (hS : Sl 1 RByt w A n l) (hn : n ≤ 1048576) (hl : ∀ y ∈ l, 0 ≤ y ∧ y ≤ 255) :
    Calls Tryd.prog 20 #[.slice A n c] w fun e w' => ∃ s : ByteArray, e = .returned (.string s) ∧ s.size ≤ 64 ∧ Below w.heap.size w w' := by
  have HN := Lib.hid (spec_l01New A n c l w hS hn hl)
  clear hS hl
  go_enter Tryd.func20, Tryd.ntmps20
  go_wp2_with fail
  refine HN.out.mono ?_; rintro e w1 ⟨g, rfl, hC⟩
  have hgw := (cur_w hC).1
  have HB1 := Lib.hid (cur_w hC).2
  have HC1 := Lib.hid hC
  clear hC
  go_wp2_with fail
  refine (spec_l01Once _ _ g 3 (by omega) (by omega) HC1.out).mono ?_; rintro e w2 ⟨b, rfl, hc2, hg2⟩
  have HB2 := Lib.hid (cur_w hc2).2
  have HC2 := Lib.hid hc2
  clear hc2 hg2
  cases b with
  | true =>
    go_wp2_with fail
    refine (spec_l01Pick _ _ g _ 12 12 [⟨#[]⟩, ⟨#[45]⟩, ⟨#[48]⟩, ⟨#[48, 48]⟩, ⟨#[57, 57, 57]⟩, ⟨#[49, 48, 48, 48]⟩, ⟨#[65]⟩, ⟨#[97, 98, 99, 100, 101, 102, 103]⟩, ⟨#[97, 49]⟩, ⟨#[63]⟩, ⟨#[45, 45]⟩, ⟨#[45, 49]⟩] (by omega) (by omega) (lit_keeps (n := 12) encStr (fun _ _ => rfl) w2 [⟨#[]⟩, ⟨#[45]⟩, ⟨#[48]⟩, ⟨#[48, 48]⟩, ⟨#[57, 57, 57]⟩, ⟨#[49, 48, 48, 48]⟩, ⟨#[65]⟩, ⟨#[97, 98, 99, 100, 101, 102, 103]⟩, ⟨#[97, 49]⟩, ⟨#[63]⟩, ⟨#[45, 45]⟩, ⟨#[45, 49]⟩] 9 (cur_lt HC2.out) rfl (by unfold maxLen; omega) rfl) (HC2.out.below (ex_alloc (Below.refl _ _) _))).mono ?_
    rintro e w3 ⟨s, rfl, hs, hc3, hg3⟩
    have HS := Lib.hid (show s.size ≤ 64 by
      simp only [List.mem_cons, List.not_mem_nil, or_false] at hs
      rcases hs with rfl | rfl | rfl | rfl | rfl | rfl | rfl | rfl | rfl | rfl | rfl | rfl <;> first | decide | simp)
    have HB3 := Lib.hid (cur_w hc3).2
    clear hs hc3 hg3
    go_wp2_with fail
    go_returns
    exact ⟨s, rfl, HS.out, HB3.out⟩
  | false =>
    go_wp2_with fail
    refine (spec_l02Any _ _ g HC2.out).mono ?_; rintro e w3 ⟨v, rfl, hv, hc3, hb3, hg3⟩
    have HV := Lib.hid hv
    have HB3 := Lib.hid hb3
    clear hv hc3 hb3 hg3
    go_wp2_with fail
    refine (spec_FormatValue v _ (by have := HV.out; unfold Vl.small at this; omega)).mono ?_; rintro e w4 ⟨rfl, hb4⟩
    have HB4 := Lib.hid (ex_trans HB3.out hb4)
    clear hb4
    go_wp2_with fail
    go_returns
    exact ⟨fmtV v, rfl, fmtV_size v HV.out, HB4.out⟩
end Go.Proofs.YtkoagijliokhlaaDoor
