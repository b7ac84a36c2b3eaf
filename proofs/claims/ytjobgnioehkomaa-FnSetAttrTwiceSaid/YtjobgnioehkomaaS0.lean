/-
  A row read behind stores that leave it alone; three operations that may come up.
-/
import Derived.WalkKit
import Derived.WalkSpells
import Derived.WalkLawsBesides
import Derived.Lib.Hide
import Derived.Handy
import Derived.Deep.RegionHeld3
import Derived.Test.YtjobgnioehkomaaLib
import Derived.Test.YtjobgnioehkomaaOwn
import Derived.Test.YtjobgnioehkomaaRow
import Derived.Test.YtjobgnioehkomaaN0
import Derived.Test.YtjobgnioehkomaaHld
namespace Go.Proofs.Ytjobgnioehkomaa
open Go.RowKit
theorem row_reads {e W n c : Nat} {A : Option Addr} {l : List Atr} {w1 w' : World} (hF : FRow e 4 eAtr w1 W A n c l) (h : ∀ b, W ≤ b → b < w1.heap.size → w'.heap[b]? = w1.heap[b]?) : Sl 4 RAtr w' A n l :=
  (hF.loc fun b hb => h b (hF.base b hb).1 (hF.base b hb).2).sl (R := RAtr) encAtr (fun _ => rfl)
theorem held_three {P : Program} {L : List Oper} {Q : Exit → Act → World → Prop} {md : Region.Mode} {S : World → Prop} (i j k : Nat) {o o2 o3 : Oper} {tl tl2 tl3 : List Oper} {fuel : Nat} {listed : Array Bool} {a : Act} {w : World} (hr : Region.ready md L.toArray listed = [i, j, k]) (hd : L.drop i = o :: tl) (hd2 : L.drop j = o2 :: tl2) (hd3 : L.drop k = o3 :: tl3)
    (h : ∀ K' : Act → World → Prop, Shut (∀ a w, S w → (S w → wpAnyH P md L.toArray Q S fuel (listed.setIfInBounds i true) a w) → K' a w) → if Region.wanted o (yielded L.toArray a.tmps) = true then Oper.wp P o a w K' Q else K' (a.put o.dst undef) w)
    (h2 : ∀ K' : Act → World → Prop, Shut (∀ a w, S w → (S w → wpAnyH P md L.toArray Q S fuel (listed.setIfInBounds j true) a w) → K' a w) → if Region.wanted o2 (yielded L.toArray a.tmps) = true then Oper.wp P o2 a w K' Q else K' (a.put o2.dst undef) w)
    (h3 : ∀ K' : Act → World → Prop, Shut (∀ a w, S w → (S w → wpAnyH P md L.toArray Q S fuel (listed.setIfInBounds k true) a w) → K' a w) → if Region.wanted o3 (yielded L.toArray a.tmps) = true then Oper.wp P o3 a w K' Q else K' (a.put o3.dst undef) w) :
    wpAnyH P md L.toArray Q S (fuel + 1) listed a w :=
  wpAnyH_ready hr (by simp) (AllReadyH.cons (held_at hd) h (AllReadyH.cons (held_at hd2) h2 (AllReadyH.cons (held_at hd3) h3 AllReadyH.nil)))
end Go.Proofs.Ytjobgnioehkomaa
