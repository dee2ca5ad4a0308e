/- Contracts of Go's library -/
import Derived.Shelf.Strings.OnBuilder
import Derived.Shelf.Sort.Plain
import Derived.Shelf.Slices.Turned
import Derived.Shelf.Slices.CompactS
import Derived.Shelf.Slices.Cells
import Derived.Shelf.Slices.In.SortNone
import Derived.Ground.Names2Prog
import Derived.Shelf.LaysM
import Derived.Test.YtapilekangmcoaaGreatDoorProg
set_option linter.unusedVariables false
set_option linter.unusedSimpArgs false
set_option maxHeartbeats 8000000
set_option maxRecDepth 100000
namespace Go.Proofs
open Go.Shelf
def Tryz.lays190_ren : Go.Shelf.Ren := ⟨fun | 190 => 37 | 125 => 67 | 258 => 66 | 128 => 103 | 129 => 104 | 302 => 94 | 303 => 95 | 304 => 96 | 305 => 97 | 306 => 98 | 307 => 99 | 308 => 100 | 309 => 101 | 310 => 102 | 333 => 138 | 329 => 139 | 330 => 140 | 334 => 141 | 335 => 142 | 336 => 143 | 344 => 171 | n => n, fun | 31 => 29 | 9 => 9 | 3 => 3 | 46 => 94 | 0 => 0 | 51 => 134 | 53 => 136 | 4 => 4 | 183 => 127 | 182 => 126 | 131 => 68 | 5 => 5 | 218 => 170 | 222 => 80 | 228 => 216 | 229 => 217 | n => n, fun | n => n⟩
theorem Tryz.lays190 : Go.Proofs.Lays.n190 Tryz.prog Tryz.lays190_ren := {
 mixed := by kernel_rfl
 f125 := Tryz.func67.trans (congrArg some (by kernel_rfl))
 f128 := Tryz.func103.trans (congrArg some (by kernel_rfl))
 f129 := Tryz.func104.trans (congrArg some (by kernel_rfl))
 f190 := Tryz.func37.trans (congrArg some (by kernel_rfl))
 f258 := Tryz.func66.trans (congrArg some (by kernel_rfl))
 f302 := Tryz.func94.trans (congrArg some (by kernel_rfl))
 f303 := Tryz.func95.trans (congrArg some (by kernel_rfl))
 f304 := Tryz.func96.trans (congrArg some (by kernel_rfl))
 f305 := Tryz.func97.trans (congrArg some (by kernel_rfl))
 f306 := Tryz.func98.trans (congrArg some (by kernel_rfl))
 f307 := Tryz.func99.trans (congrArg some (by kernel_rfl))
 f308 := Tryz.func100.trans (congrArg some (by kernel_rfl))
 f309 := Tryz.func101.trans (congrArg some (by kernel_rfl))
 f310 := Tryz.func102.trans (congrArg some (by kernel_rfl))
 f329 := Tryz.func139.trans (congrArg some (by kernel_rfl))
 f330 := Tryz.func140.trans (congrArg some (by kernel_rfl))
 f333 := Tryz.func138.trans (congrArg some (by kernel_rfl))
 f334 := Tryz.func141.trans (congrArg some (by kernel_rfl))
 f335 := Tryz.func142.trans (congrArg some (by kernel_rfl))
 f336 := Tryz.func143.trans (congrArg some (by kernel_rfl))
 f344 := Tryz.func171.trans (congrArg some (by kernel_rfl))
 t0 := Tryz.underlying0
 a0 := Tryz.isAgg0
 z0 := Tryz.sizeOf0
 v0 := Tryz.zeroValue0
 t3 := Tryz.underlying3
 a3 := Tryz.isAgg3
 z3 := Tryz.sizeOf3
 v3 := Tryz.zeroValue3
 t4 := Tryz.underlying4
 a4 := Tryz.isAgg4
 z4 := Tryz.sizeOf4
 v4 := Tryz.zeroValue4
 t5 := Tryz.underlying5
 a5 := Tryz.isAgg5
 z5 := Tryz.sizeOf5
 v5 := Tryz.zeroValue5
 t9 := Tryz.underlying9
 a9 := Tryz.isAgg9
 z9 := Tryz.sizeOf9
 v9 := Tryz.zeroValue9
 t31 := Tryz.underlying29
 a31 := Tryz.isAgg29
 z31 := Tryz.sizeOf29
 v31 := Tryz.zeroValue29
 t46 := Tryz.underlying94
 a46 := Tryz.isAgg94
 z46 := Tryz.sizeOf94
 v46 := Tryz.zeroValue94
 t51 := Tryz.underlying134
 a51 := Tryz.isAgg134
 z51 := Tryz.sizeOf134
 v51 := Tryz.zeroValue134
 t53 := Tryz.underlying136
 a53 := Tryz.isAgg136
 z53 := Tryz.sizeOf136
 v53 := Tryz.zeroValue136
 t131 := Tryz.underlying68
 a131 := Tryz.isAgg68
 z131 := Tryz.sizeOf68
 v131 := Tryz.zeroValue68
 t182 := Tryz.underlying126
 a182 := Tryz.isAgg126
 z182 := Tryz.sizeOf126
 v182 := Tryz.zeroValue126
 t183 := Tryz.underlying127
 a183 := Tryz.isAgg127
 z183 := Tryz.sizeOf127
 v183 := Tryz.zeroValue127
 t218 := Tryz.underlying170
 a218 := Tryz.isAgg170
 z218 := Tryz.sizeOf170
 v218 := Tryz.zeroValue170
 t222 := Tryz.underlying80
 a222 := Tryz.isAgg80
 z222 := Tryz.sizeOf80
 v222 := Tryz.zeroValue80
 t228 := Tryz.underlying216
 a228 := Tryz.isAgg216
 z228 := Tryz.sizeOf216
 v228 := Tryz.zeroValue216
 t229 := Tryz.underlying217
 a229 := Tryz.isAgg217
 z229 := Tryz.sizeOf217
 v229 := Tryz.zeroValue217 }
open Go.Sort Go.RowKit in
theorem Tryz.slices_Sort_string (blk off cap : Nat) (ss : List (List UInt8)) (w : World) (hH : Holds encStr w blk off ss.toArray) (hblk : blk < w.heap.size) (hsz : ss.length < 4611686018427387904) :
   Calls Tryz.prog 37 #[.slice (some ⟨blk, off, none⟩) ss.length cap] w fun e w' =>
     e = .returned (.tuple #[]) ∧ ∃ n os, w' = grow (putRow encStr (Sort.ahead w n) blk off (ss.mergeSort fun x y => decide (x ≤ y)).toArray) os := Any.slices_Sort_string Tryz.lays190 blk off cap ss w hH hblk hsz
def Tryz.lays108_ren : Go.Shelf.Ren := ⟨fun | 108 => 93 | n => n, fun | 28 => 107 | 3 => 3 | 0 => 0 | 4 => 4 | n => n, fun | n => n⟩
theorem Tryz.lays108 : Go.Proofs.Lays.n108 Tryz.prog Tryz.lays108_ren := {
 mixed := by kernel_rfl
 f108 := Tryz.func93.trans (congrArg some (by kernel_rfl))
 t0 := Tryz.underlying0
 a0 := Tryz.isAgg0
 z0 := Tryz.sizeOf0
 v0 := Tryz.zeroValue0
 t3 := Tryz.underlying3
 a3 := Tryz.isAgg3
 z3 := Tryz.sizeOf3
 v3 := Tryz.zeroValue3
 t4 := Tryz.underlying4
 a4 := Tryz.isAgg4
 z4 := Tryz.sizeOf4
 v4 := Tryz.zeroValue4
 t28 := Tryz.underlying107
 a28 := Tryz.isAgg107
 z28 := Tryz.sizeOf107
 v28 := Tryz.zeroValue107 }
open Go.Lib in
theorem Tryz.slices_Index_int (b off n c : Nat) (zs : List Int) (x : Int) (w : World) (hz : n ≤ zs.length) (hbig : n ≤ 9223372036854775807) (hc : ∀ j, j < zs.length → w.cell? ⟨b, off + j, none⟩ = some (.int .i64 (zs.getD j 0))) :
   Calls Tryz.prog 93 #[.slice (some ⟨b, off, none⟩) n c, .int .i64 x] w fun e w' => e = .returned (.int .i64 (Lib.idxOf (zs.take n) x)) ∧ w' = w := Any.slices_Index_int Tryz.lays108 b off n c zs x w hz hbig hc
def Tryz.lays194_ren : Go.Shelf.Ren := ⟨fun | 194 => 39 | n => n, fun | 31 => 29 | 9 => 9 | 3 => 3 | 4 => 4 | 0 => 0 | n => n, fun | n => n⟩
theorem Tryz.lays194 : Go.Proofs.Lays.n194 Tryz.prog Tryz.lays194_ren := {
 mixed := by kernel_rfl
 f194 := Tryz.func39.trans (congrArg some (by kernel_rfl))
 t0 := Tryz.underlying0
 a0 := Tryz.isAgg0
 z0 := Tryz.sizeOf0
 v0 := Tryz.zeroValue0
 t3 := Tryz.underlying3
 a3 := Tryz.isAgg3
 z3 := Tryz.sizeOf3
 v3 := Tryz.zeroValue3
 t4 := Tryz.underlying4
 a4 := Tryz.isAgg4
 z4 := Tryz.sizeOf4
 v4 := Tryz.zeroValue4
 t9 := Tryz.underlying9
 a9 := Tryz.isAgg9
 z9 := Tryz.sizeOf9
 v9 := Tryz.zeroValue9
 t31 := Tryz.underlying29
 a31 := Tryz.isAgg29
 z31 := Tryz.sizeOf29
 v31 := Tryz.zeroValue29 }
open Go.RowKit Go.Lib Go.Sort in
theorem Tryz.slices_Compact_string (blk off cap : Nat) (zs : List (List UInt8)) (w : World) (hH : Holds encStr w blk off zs.toArray) (hsz : zs.length ≤ 9223372036854775807) (hcap : zs.length ≤ cap) :
   Calls Tryz.prog 39 #[.slice (some ⟨blk, off, none⟩) zs.length cap] w fun e w' => e = .returned (.slice (some ⟨blk, off, none⟩) (Lib.compact zs).length cap) ∧ ∃ q, w' = putRow encStr (Sort.ahead w q) blk off (Lib.compact zs ++ List.replicate (zs.length - (Lib.compact zs).length) []).toArray := Any.slices_Compact_string Tryz.lays194 blk off cap zs w hH hsz hcap
open Go.RowKit Go.Lib Go.Sort in
theorem Tryz.slices_Compact_string_empty (a : Option Addr) (cap : Nat) (w : World) :
   Calls Tryz.prog 39 #[.slice a 0 cap] w fun e w' => e = .returned (.slice a 0 cap) ∧ w' = w := Any.slices_Compact_string_empty Tryz.lays194 a cap w
open Go.RowKit Go.Sort in
theorem Tryz.slices_Sort_string_none (p : Option Addr) (cap : Nat) (w : World) :
   Calls Tryz.prog 37 #[.slice p 0 cap] w fun e w' => e = .returned (.tuple #[]) ∧ w' = w := Any.slices_Sort_string_none Tryz.lays190 p cap w
end Go.Proofs
