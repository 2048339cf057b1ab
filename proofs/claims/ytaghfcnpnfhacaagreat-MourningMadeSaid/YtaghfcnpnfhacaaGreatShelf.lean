/-
  DERIVED: THE SHELF's CONTRACTS AT THIS DUMP, IN PLAIN WORDS (tools/lay-plain.mjs out of 'YtaghfcnpnfhacaaGreatShelf0.lean', which tools/lay-shelf.mjs wrote): THE SAME DECLARATIONS UNDER THE SAME NAMES: 'import', 'namespace', 'open', 'def', 'theorem' AND NOTHING ELSE: no command of the shelf's: FOR A HAND-IN. Each laying: the table of numbers ('.._ren') and one theorem, a field a fact of the dump's own or the kernel's comparison; each contract: ONE APPLICATION.
-/
import Derived.Shelf.Small.Strs
import Derived.Shelf.Small.Wraps
import Derived.Shelf.Sort.Plain
import Derived.Shelf.Slices.Turned
import Derived.Shelf.Slices.Clone
import Derived.Shelf.Slices.CompactI
import Derived.Shelf.Slices.In.SortNone
import Derived.Shelf.SlicesE.Clone
import Derived.Test.YtaghfcnpnfhacaaGreatProg
namespace Go.Proofs
open Go.Shelf
def Tryz.lays189_ren : Go.Shelf.Ren := ⟨fun | 189 => 147 | 125 => 182 | 257 => 221 | 128 => 254 | 129 => 255 | 294 => 290 | 295 => 291 | 296 => 292 | 297 => 293 | 298 => 294 | 299 => 295 | 216 => 296 | 300 => 297 | 301 => 298 | 328 => 329 | 329 => 311 | 330 => 312 | 331 => 330 | 332 => 331 | 215 => 220 | 343 => 352 | n => n, fun | 28 => 22 | 3 => 3 | 46 => 205 | 0 => 0 | 51 => 235 | 53 => 237 | 4 => 4 | 183 => 263 | 182 => 262 | 131 => 174 | 5 => 5 | 9 => 9 | 218 => 314 | 222 => 318 | 228 => 331 | 229 => 332 | n => n, fun | n => n⟩
theorem Tryz.lays189 : Go.Proofs.Lays.n189 Tryz.prog Tryz.lays189_ren := {
  mixed := by kernel_rfl
  f125 := Tryz.func182.trans (congrArg some (by kernel_rfl))
  f128 := Tryz.func254.trans (congrArg some (by kernel_rfl))
  f129 := Tryz.func255.trans (congrArg some (by kernel_rfl))
  f189 := Tryz.func147.trans (congrArg some (by kernel_rfl))
  f215 := Tryz.func220.trans (congrArg some (by kernel_rfl))
  f216 := Tryz.func296.trans (congrArg some (by kernel_rfl))
  f257 := Tryz.func221.trans (congrArg some (by kernel_rfl))
  f294 := Tryz.func290.trans (congrArg some (by kernel_rfl))
  f295 := Tryz.func291.trans (congrArg some (by kernel_rfl))
  f296 := Tryz.func292.trans (congrArg some (by kernel_rfl))
  f297 := Tryz.func293.trans (congrArg some (by kernel_rfl))
  f298 := Tryz.func294.trans (congrArg some (by kernel_rfl))
  f299 := Tryz.func295.trans (congrArg some (by kernel_rfl))
  f300 := Tryz.func297.trans (congrArg some (by kernel_rfl))
  f301 := Tryz.func298.trans (congrArg some (by kernel_rfl))
  f328 := Tryz.func329.trans (congrArg some (by kernel_rfl))
  f329 := Tryz.func311.trans (congrArg some (by kernel_rfl))
  f330 := Tryz.func312.trans (congrArg some (by kernel_rfl))
  f331 := Tryz.func330.trans (congrArg some (by kernel_rfl))
  f332 := Tryz.func331.trans (congrArg some (by kernel_rfl))
  f343 := Tryz.func352.trans (congrArg some (by kernel_rfl))
  t0 := Tryz.underlying0
  a0 := Tryz.isAgg0
  z0 := Tryz.sizeOf0
  v0 := Tryz.zeroValue0
  t3 := Tryz.underlying3
  a3 := Tryz.isAgg3
  z3 := Tryz.sizeOf3
  v3 := Tryz.zeroValue3
  t4 := Tryz.underlying4
  a4 := Tryz.isAgg4
  z4 := Tryz.sizeOf4
  v4 := Tryz.zeroValue4
  t5 := Tryz.underlying5
  a5 := Tryz.isAgg5
  z5 := Tryz.sizeOf5
  v5 := Tryz.zeroValue5
  t9 := Tryz.underlying9
  a9 := Tryz.isAgg9
  z9 := Tryz.sizeOf9
  v9 := Tryz.zeroValue9
  t28 := Tryz.underlying22
  a28 := Tryz.isAgg22
  z28 := Tryz.sizeOf22
  v28 := Tryz.zeroValue22
  t46 := Tryz.underlying205
  a46 := Tryz.isAgg205
  z46 := Tryz.sizeOf205
  v46 := Tryz.zeroValue205
  t51 := Tryz.underlying235
  a51 := Tryz.isAgg235
  z51 := Tryz.sizeOf235
  v51 := Tryz.zeroValue235
  t53 := Tryz.underlying237
  a53 := Tryz.isAgg237
  z53 := Tryz.sizeOf237
  v53 := Tryz.zeroValue237
  t131 := Tryz.underlying174
  a131 := Tryz.isAgg174
  z131 := Tryz.sizeOf174
  v131 := Tryz.zeroValue174
  t182 := Tryz.underlying262
  a182 := Tryz.isAgg262
  z182 := Tryz.sizeOf262
  v182 := Tryz.zeroValue262
  t183 := Tryz.underlying263
  a183 := Tryz.isAgg263
  z183 := Tryz.sizeOf263
  v183 := Tryz.zeroValue263
  t218 := Tryz.underlying314
  a218 := Tryz.isAgg314
  z218 := Tryz.sizeOf314
  v218 := Tryz.zeroValue314
  t222 := Tryz.underlying318
  a222 := Tryz.isAgg318
  z222 := Tryz.sizeOf318
  v222 := Tryz.zeroValue318
  t228 := Tryz.underlying331
  a228 := Tryz.isAgg331
  z228 := Tryz.sizeOf331
  v228 := Tryz.zeroValue331
  t229 := Tryz.underlying332
  a229 := Tryz.isAgg332
  z229 := Tryz.sizeOf332
  v229 := Tryz.zeroValue332 }
def Tryz.laysNm220_ren : Go.Shelf.Ren := ⟨fun | 20 => 124 | n => n, fun | 22 => 22 | 3 => 3 | 4 => 4 | 0 => 0 | n => n, fun | n => n⟩
theorem Tryz.laysNm220 : Go.Proofs.Lays2.n20 Tryz.prog Tryz.laysNm220_ren := {
  mixed := by kernel_rfl
  f20 := Tryz.func124.trans (congrArg some (by kernel_rfl))
  t0 := Tryz.underlying0
  a0 := Tryz.isAgg0
  z0 := Tryz.sizeOf0
  v0 := Tryz.zeroValue0
  t3 := Tryz.underlying3
  a3 := Tryz.isAgg3
  z3 := Tryz.sizeOf3
  v3 := Tryz.zeroValue3
  t4 := Tryz.underlying4
  a4 := Tryz.isAgg4
  z4 := Tryz.sizeOf4
  v4 := Tryz.zeroValue4
  t22 := Tryz.underlying22
  a22 := Tryz.isAgg22
  z22 := Tryz.sizeOf22
  v22 := Tryz.zeroValue22
  i3 := by kernel_rfl }
open Go.Sort Go.RowKit in
theorem Tryz.slices_Sort_int (blk off cap : Nat) (zs : List Int) (w : World) (hH : Holds (Value.int .i64) w blk off zs.toArray) (hblk : blk < w.heap.size) (hsz : zs.length < 4611686018427387904) :
    Calls Tryz.prog 147 #[.slice (some ⟨blk, off, none⟩) zs.length cap] w fun e w' =>
      e = .returned (.tuple #[]) ∧ ∃ n os, w' = grow (putRow (Value.int .i64) (Sort.ahead w n) blk off (zs.mergeSort fun x y => decide (x ≤ y)).toArray) os := Any.slices_Sort_int Tryz.lays189 blk off cap zs w hH hblk hsz
open Go.Lib in
open Go.Lib in
open Go.Lib in
open Go.Lib in
open Go.RowKit Go.Lib Go.Sort in
/-- slices.Compact at []int: "Compact replaces consecutive runs of equal elements with a single copy. This is like the uniq command found on Unix. Compact modifies the contents of the slice s and returns the modified slice, which may have a smaller length. Compact zeroes the elements between the new length and the original length. The result preserves the nilness of s.": IT RETURNS THE SLICE CUT TO 'Lib.compact zs'; ITS CELLS HOLD 'Lib.compact zs', THEN ZERO VALUES up to the old length; all else is as it was, but for the count of draws. IN THE WORDS OF slices.Sort's CONTRACT ('Holds', 'putRow'): so the everyday 'slices.Sort(xs); xs = slices.Compact(xs)' goes from the one contract to the other. It asks 'zs.length ≤ cap' (every slice's: the reslicing 's[:k]' looks at it). Length 0, nil: '.._empty'. (LAID: no walk: one application.) -/
theorem Tryz.slices_Compact_int (blk off cap : Nat) (zs : List Int) (w : World) (hH : Holds (Value.int .i64) w blk off zs.toArray) (hsz : zs.length ≤ 9223372036854775807) (hcap : zs.length ≤ cap) :
    Calls Tryz.prog 124 #[.slice (some ⟨blk, off, none⟩) zs.length cap] w fun e w' => e = .returned (.slice (some ⟨blk, off, none⟩) (Lib.compact zs).length cap) ∧ ∃ q, w' = putRow (Value.int .i64) (Sort.ahead w q) blk off (Lib.compact zs ++ List.replicate (zs.length - (Lib.compact zs).length) 0).toArray := Any.slices_Compact_int Tryz.laysNm220 blk off cap zs w hH hsz hcap
open Go.RowKit Go.Lib Go.Sort in
/-- The same at a slice of length 0, a nil one too: it comes back as it is. (LAID: no walk: one application.) -/
theorem Tryz.slices_Compact_int_empty (a : Option Addr) (cap : Nat) (w : World) :
    Calls Tryz.prog 124 #[.slice a 0 cap] w fun e w' => e = .returned (.slice a 0 cap) ∧ w' = w := Any.slices_Compact_int_empty Tryz.laysNm220 a cap w
open Go.RowKit Go.Sort in
/-- .. and plain. (LAID: no walk: one application.) -/
theorem Tryz.slices_Sort_int_none (p : Option Addr) (cap : Nat) (w : World) :
    Calls Tryz.prog 147 #[.slice p 0 cap] w fun e w' => e = .returned (.tuple #[]) ∧ w' = w := Any.slices_Sort_int_none Tryz.lays189 p cap w
end Go.Proofs
