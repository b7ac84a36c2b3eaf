/-
  DERIVED: THE SHELF's CONTRACTS AT THIS DUMP, IN PLAIN WORDS (tools/lay-plain.mjs out of 'TryShelf.lean', which tools/lay-shelf.mjs wrote): THE SAME DECLARATIONS UNDER THE SAME NAMES: 'import', 'namespace', 'open', 'def', 'theorem' AND NOTHING ELSE: no command of the shelf's: FOR A HAND-IN. Each laying: the table of numbers ('.._ren') and one theorem, a field a fact of the dump's own or the kernel's comparison; each contract: ONE APPLICATION.
-/
import Derived.Shelf.Sort.Plain
import Derived.Shelf.Slices.CompactS
import Derived.Shelf.Slices.In.SortNone
import Derived.Test.YtkjhfblipmagoaaProg
namespace Go.Proofs
open Go.Shelf
def Try.lays190_ren : Go.Shelf.Ren := ⟨fun | 190 => 130 | 125 => 143 | 258 => 142 | 128 => 156 | 129 => 157 | 302 => 147 | 303 => 148 | 304 => 149 | 305 => 150 | 306 => 151 | 307 => 152 | 308 => 153 | 309 => 154 | 310 => 155 | 333 => 160 | 329 => 161 | 330 => 162 | 334 => 163 | 335 => 164 | 336 => 123 | 344 => 166 | n => n, fun | 31 => 56 | 9 => 9 | 3 => 3 | 46 => 152 | 0 => 0 | 51 => 165 | 53 => 167 | 4 => 4 | 183 => 158 | 182 => 157 | 131 => 66 | 5 => 5 | 218 => 170 | 222 => 174 | 228 => 176 | 229 => 177 | n => n, fun | n => n⟩
theorem Try.lays190 : Go.Proofs.Lays.n190 Try.prog Try.lays190_ren := {
  mixed := by kernel_rfl
  f125 := Try.func143.trans (congrArg some (by kernel_rfl))
  f128 := Try.func156.trans (congrArg some (by kernel_rfl))
  f129 := Try.func157.trans (congrArg some (by kernel_rfl))
  f190 := Try.func130.trans (congrArg some (by kernel_rfl))
  f258 := Try.func142.trans (congrArg some (by kernel_rfl))
  f302 := Try.func147.trans (congrArg some (by kernel_rfl))
  f303 := Try.func148.trans (congrArg some (by kernel_rfl))
  f304 := Try.func149.trans (congrArg some (by kernel_rfl))
  f305 := Try.func150.trans (congrArg some (by kernel_rfl))
  f306 := Try.func151.trans (congrArg some (by kernel_rfl))
  f307 := Try.func152.trans (congrArg some (by kernel_rfl))
  f308 := Try.func153.trans (congrArg some (by kernel_rfl))
  f309 := Try.func154.trans (congrArg some (by kernel_rfl))
  f310 := Try.func155.trans (congrArg some (by kernel_rfl))
  f329 := Try.func161.trans (congrArg some (by kernel_rfl))
  f330 := Try.func162.trans (congrArg some (by kernel_rfl))
  f333 := Try.func160.trans (congrArg some (by kernel_rfl))
  f334 := Try.func163.trans (congrArg some (by kernel_rfl))
  f335 := Try.func164.trans (congrArg some (by kernel_rfl))
  f336 := Try.func123.trans (congrArg some (by kernel_rfl))
  f344 := Try.func166.trans (congrArg some (by kernel_rfl))
  t0 := Try.underlying0
  a0 := Try.isAgg0
  z0 := Try.sizeOf0
  v0 := Try.zeroValue0
  t3 := Try.underlying3
  a3 := Try.isAgg3
  z3 := Try.sizeOf3
  v3 := Try.zeroValue3
  t4 := Try.underlying4
  a4 := Try.isAgg4
  z4 := Try.sizeOf4
  v4 := Try.zeroValue4
  t5 := Try.underlying5
  a5 := Try.isAgg5
  z5 := Try.sizeOf5
  v5 := Try.zeroValue5
  t9 := Try.underlying9
  a9 := Try.isAgg9
  z9 := Try.sizeOf9
  v9 := Try.zeroValue9
  t31 := Try.underlying56
  a31 := Try.isAgg56
  z31 := Try.sizeOf56
  v31 := Try.zeroValue56
  t46 := Try.underlying152
  a46 := Try.isAgg152
  z46 := Try.sizeOf152
  v46 := Try.zeroValue152
  t51 := Try.underlying165
  a51 := Try.isAgg165
  z51 := Try.sizeOf165
  v51 := Try.zeroValue165
  t53 := Try.underlying167
  a53 := Try.isAgg167
  z53 := Try.sizeOf167
  v53 := Try.zeroValue167
  t131 := Try.underlying66
  a131 := Try.isAgg66
  z131 := Try.sizeOf66
  v131 := Try.zeroValue66
  t182 := Try.underlying157
  a182 := Try.isAgg157
  z182 := Try.sizeOf157
  v182 := Try.zeroValue157
  t183 := Try.underlying158
  a183 := Try.isAgg158
  z183 := Try.sizeOf158
  v183 := Try.zeroValue158
  t218 := Try.underlying170
  a218 := Try.isAgg170
  z218 := Try.sizeOf170
  v218 := Try.zeroValue170
  t222 := Try.underlying174
  a222 := Try.isAgg174
  z222 := Try.sizeOf174
  v222 := Try.zeroValue174
  t228 := Try.underlying176
  a228 := Try.isAgg176
  z228 := Try.sizeOf176
  v228 := Try.zeroValue176
  t229 := Try.underlying177
  a229 := Try.isAgg177
  z229 := Try.sizeOf177
  v229 := Try.zeroValue177 }
open Go.Sort Go.RowKit in
theorem Try.slices_Sort_string (blk off cap : Nat) (ss : List (List UInt8)) (w : World) (hH : Holds encStr w blk off ss.toArray) (hblk : blk < w.heap.size) (hsz : ss.length < 4611686018427387904) :
    Calls Try.prog 130 #[.slice (some ⟨blk, off, none⟩) ss.length cap] w fun e w' =>
      e = .returned (.tuple #[]) ∧ ∃ n os, w' = grow (putRow encStr (Sort.ahead w n) blk off (ss.mergeSort fun x y => decide (x ≤ y)).toArray) os := Any.slices_Sort_string Try.lays190 blk off cap ss w hH hblk hsz
def Try.lays194_ren : Go.Shelf.Ren := ⟨fun | 194 => 131 | n => n, fun | 31 => 56 | 9 => 9 | 3 => 3 | 4 => 4 | 0 => 0 | n => n, fun | n => n⟩
theorem Try.lays194 : Go.Proofs.Lays.n194 Try.prog Try.lays194_ren := {
  mixed := by kernel_rfl
  f194 := Try.func131.trans (congrArg some (by kernel_rfl))
  t0 := Try.underlying0
  a0 := Try.isAgg0
  z0 := Try.sizeOf0
  v0 := Try.zeroValue0
  t3 := Try.underlying3
  a3 := Try.isAgg3
  z3 := Try.sizeOf3
  v3 := Try.zeroValue3
  t4 := Try.underlying4
  a4 := Try.isAgg4
  z4 := Try.sizeOf4
  v4 := Try.zeroValue4
  t9 := Try.underlying9
  a9 := Try.isAgg9
  z9 := Try.sizeOf9
  v9 := Try.zeroValue9
  t31 := Try.underlying56
  a31 := Try.isAgg56
  z31 := Try.sizeOf56
  v31 := Try.zeroValue56 }
open Go.RowKit Go.Lib Go.Sort in
/-- slices.Compact at []string, over an array: the library's two loops are walked. (LAID: no walk: one application.) -/
theorem Try.slices_Compact_string_arr (blk off cap : Nat) (d : Array (List UInt8)) (w : World) (hH : Holds encStr w blk off d) (hsz : d.size ≤ 9223372036854775807) (hcap : d.size ≤ cap) :
    Calls Try.prog 131 #[.slice (some ⟨blk, off, none⟩) d.size cap] w fun e w' => e = .returned (.slice (some ⟨blk, off, none⟩) (compactUpTo d d.size).length cap) ∧ ∃ q, w' = putRow encStr (Sort.ahead w q) blk off (compactUpTo d d.size ++ List.replicate (d.size - (compactUpTo d d.size).length) []).toArray := Any.slices_Compact_string_arr Try.lays194 blk off cap d w hH hsz hcap
open Go.RowKit Go.Lib Go.Sort in
/-- slices.Compact at []string: "Compact replaces consecutive runs of equal elements with a single copy. This is like the uniq command found on Unix. Compact modifies the contents of the slice s and returns the modified slice, which may have a smaller length. Compact zeroes the elements between the new length and the original length. The result preserves the nilness of s.": IT RETURNS THE SLICE CUT TO 'Lib.compact zs'; ITS CELLS HOLD 'Lib.compact zs', THEN ZERO VALUES up to the old length; all else is as it was, but for the count of draws. IN THE WORDS OF slices.Sort's CONTRACT ('Holds', 'putRow'): so the everyday 'slices.Sort(xs); xs = slices.Compact(xs)' goes from the one contract to the other. It asks 'zs.length ≤ cap' (every slice's: the reslicing 's[:k]' looks at it). Length 0, nil: '.._empty'. (LAID: no walk: one application.) -/
theorem Try.slices_Compact_string (blk off cap : Nat) (zs : List (List UInt8)) (w : World) (hH : Holds encStr w blk off zs.toArray) (hsz : zs.length ≤ 9223372036854775807) (hcap : zs.length ≤ cap) :
    Calls Try.prog 131 #[.slice (some ⟨blk, off, none⟩) zs.length cap] w fun e w' => e = .returned (.slice (some ⟨blk, off, none⟩) (Lib.compact zs).length cap) ∧ ∃ q, w' = putRow encStr (Sort.ahead w q) blk off (Lib.compact zs ++ List.replicate (zs.length - (Lib.compact zs).length) []).toArray := Any.slices_Compact_string Try.lays194 blk off cap zs w hH hsz hcap
open Go.RowKit Go.Lib Go.Sort in
/-- The same at a slice of length 0, a nil one too: it comes back as it is. (LAID: no walk: one application.) -/
theorem Try.slices_Compact_string_empty (a : Option Addr) (cap : Nat) (w : World) :
    Calls Try.prog 131 #[.slice a 0 cap] w fun e w' => e = .returned (.slice a 0 cap) ∧ w' = w := Any.slices_Compact_string_empty Try.lays194 a cap w
open Go.RowKit Go.Sort in
/-- .. and plain. (LAID: no walk: one application.) -/
theorem Try.slices_Sort_string_none (p : Option Addr) (cap : Nat) (w : World) :
    Calls Try.prog 130 #[.slice p 0 cap] w fun e w' => e = .returned (.tuple #[]) ∧ w' = w := Any.slices_Sort_string_none Try.lays190 p cap w
end Go.Proofs
