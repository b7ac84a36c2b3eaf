/-
  HOW A LAW THAT READS VARIABLES OF THE LIBRARY's FOLLOWS FROM WHAT ITS WALK SHOWS: what the list gives, and the frame.
-/
import Derived.WalkKit
import Derived.ProofKit
import Derived.OpenShut
import Derived.Deep.DeepHandedRow
import Derived.Deep.DeepWitnessRowRef
import Derived.Lib.LaidTab
import Derived.Lib.AppendIntMem
import Derived.LaidMore
import Derived.Stop.LaidErr
import Derived.Stop.Joined
import Derived.MakeChecks
import Derived.SevenTiedAt
import Derived.ChangeSame
import Derived.Test.YtkoagijliokhlaaDoorLib
import Derived.Test.YtkoagijliokhlaaDoorCards
import Derived.Test.YtkoagijliokhlaaDoorTie
import Derived.Test.YtkoagijliokhlaaDoorRows
namespace Go.Proofs.YtkoagijliokhlaaDoor
open Go.RowKit Go.ChangeShapes Go.WideShapes Go.ChangeAt Go.Deep
set_option linter.unusedVariables false
theorem laid_drop {P : Program} {w : World} : ∀ {l : List (String × DataW Unit)} (i : Nat), laidMet P l w → laidMet P (l.drop i) w
  | _, 0, h => h
  | [], _ + 1, h => h
  | _ :: r, i + 1, h => laid_drop (l := r) i (laidMet.tail h)
theorem laid_tab {P : Program} {W : World} {l : List (String × DataW Unit)} {name : String} {k : IntKind} {zs : List Int} {rest : List (String × DataW Unit)} {g : Nat} {t e : TypeId} {n : Nat} (i : Nat) (h : laidMet P l W) (hi : l.drop i = (name, Lib.tabData k zs) :: rest)
    (hg : P.globalNamed name = some g) (hty : (P.globals[g]?).map (·.type) = some t) (ht : P.underlying t = some (.array n e)) (he : P.underlying e = some (.int k)) (hce : P.cellsOf e = 1) (hct : P.cellsOf t = n) : Lib.TabIs P W name k zs := by
  have h2 := laid_drop i h
  rw [hi] at h2
  exact Lib.tabIs_of_head hg hty ht he hce hct h2
theorem star_err : "*" ++ "errors.errorString" = "*errors.errorString" := by decide
theorem row_err (u : TypeId) (h : Tryd.prog.typeName? 3 u = some "*errors.errorString") : u = 129 :=
  typeName_ptr_named (nm := "errors.errorString") (by rw [star_err]; kernel_rfl) (by kernel_rfl) (by decide) u (by rw [star_err]; exact h)
theorem cells_err : Tryd.prog.cellsOf 131 = 1 := by kernel_rfl
theorem cells_str : Tryd.prog.cellsOf 9 = 1 := by kernel_rfl
/-- a listed error: its variable holds a pointer as an error -/
theorem laid_err {W : World} {l : List (String × DataW Unit)} {name : String} {text : List UInt8} {rest : List (String × DataW Unit)} {g : Nat} (i : Nat) (h : laidMet Tryd.prog l W) (hi : l.drop i = (name, .iface "*errors.errorString" (.ptr (.agg [.lit (.string text)]))) :: rest)
    (hg : Tryd.prog.globalNamed name = some g) (hty : (Tryd.prog.globals[g]?).map (·.type) = some 56) : ∃ a : Addr, W.cell? ⟨g, 0, none⟩ = some (.iface 129 (.pointer (some a))) := by
  have h2 := laid_drop i h
  rw [hi] at h2
  obtain ⟨a0, s0, hv0, -, -, -⟩ := laid_sentinel h2 hg hty Tryd.underlying56 row_err Tryd.underlying129 Tryd.underlying131 rfl rfl Tryd.underlying9 cells_err cells_str
  exact ⟨a0, by have h0 := World.var?_cell hg hv0 0; simpa using h0⟩
/-- A LAW THAT RETURNS true AND LEAVES ALL THAT WAS THERE AS IT WAS, where its row lists variables. -/
theorem law_laid {H : Type} {enc : TypeId × Value → H} {C : Checked} {os : Os} {f : FuncId} {fn : Func} {s : ChangeSpec} {tb : TypeId} {n : Nat} {dom : List PathCond} {laid : List (String × DataW Unit)} (F : Stop.Interp)
    (own : ownKnob C.prog.godebug = none) (started : os.Started) (noInit : C.prog.inits.idxOf? f = none) (hfn : C.prog.funcs[f]? = some fn)
    (hvars : s.vars = []) (hrt : fn.resultTypes = #[tb]) (htb : C.prog.underlying tb = some .bool)
    (hn : fn.params.toList.length = n) (hs : ∀ ds : List (DataW H), ds.length = n → s.fn H ds = { results := [.lit (.bool true)], args := ds })
    (hl : laidOutB C.prog = true) (hread : (fn.params.toList.all fun t => C.prog.readableRec t && decide (t < C.prog.types.size)) = true)
    (witness : ∃ (w : World) (tape : Tape) (i : Input), w.os = os ∧ (w.forCall tape i).Shaped C.prog ∧ i.vars = [] ∧ Input.okWide C.prog (w.forCall tape i) .any w.heap.size f i ∧
      (OpenSpec.ofChange s).preRow enc C.prog fn dom false laid (w.forCall tape i).memory i.args ∧ ({} : Assume).holds C.prog (lone (Frame.enter C.prog f i.args .normal) [] (w.forCall tape i)))
    (core : ∀ (W : World) (base : Nat) (args : Array Value) (ds : List (DataW H)) (p : List MemPlace), laidMetH C.prog laid W → DataW.TrodAll enc C.prog W 0 (fun _ => true) true fn.params.toList args.toList ds p →
      (∀ (j : Nat) t v, fn.params[j]? = some t → args[j]? = some v → Value.okWide C.prog W .any base t v) →
      Calls C.prog f args W fun e W' => e = .returned (.bool true) ∧ Below W.heap.size W W') :
    ReturnsInHanded {} C os f .any ((OpenSpec.ofChange s).preRow enc C.prog fn dom false laid) (((OpenSpec.ofChange s).at F).post enc C.prog fn false true false false) := by
  refine returnsInHanded_of_row (C := C) (s := OpenSpec.ofChange s) own started noInit hfn witness ?_
  intro W base args ds gs before hval hW _ _ _ hL _ _
  have hW' := hW
  obtain ⟨p, q, hA, hV, rfl, hfz, hnd⟩ := hW
  have hvars2 : (OpenSpec.ofChange s).vars = [] := hvars
  rw [hvars2] at hV
  obtain ⟨rfl, rfl⟩ := trodVars_none hV
  refine (core W base args ds p hL hA hval).mono fun e W' ⟨he, hb⟩ => ?_
  subst he
  have hlen := trodAll_length _ _ _ _ hA
  have hsd := hs ds (hlen.trans hn)
  have hread' : ∀ t ∈ fn.params.toList, C.prog.readableRec t = true ∧ t < C.prog.types.size := fun t ht => by simpa using List.all_eq_true.1 hread t ht
  have hlt : ∀ x ∈ p, x.block < W.heap.size := fun x hx => hW'.lt x (by simp [hx])
  refine ⟨_, rfl, post_of_below (s := s) (pa := p) (pv := []) hW' ?_ ?_ ?_ rfl hb ?_⟩
  · intro b sp hd
    rw [List.append_nil, hsd, hrt]
    exact trodAll_mk1 (shut_bool htb true)
  · intro sp hsp
    rw [List.append_nil, hsd]
    exact trodAll_stays hl _ _ _ _ hread' hA (fun x hx => hb.same (hlt x hx)) (fun x hx => hsp x (by simp [hx]))
  · intro sp _
    rw [hvars, List.append_nil, hsd]
    exact rfl
  · exact ok_one hrt rfl (okWide_bool_mk htb true)
end Go.Proofs.YtkoagijliokhlaaDoor
