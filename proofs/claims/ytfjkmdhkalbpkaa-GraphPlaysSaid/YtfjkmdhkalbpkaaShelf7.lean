/- The contracts of the sort and of the copy of a slice of numbers at this seat's program (seat l07 alone: the numbers are its own; printed by the shelf's lay-shelf and lay-plain). -/
import Derived.Shelf.Sort.Plain
import Derived.Ground.Names2Prog
import Derived.Shelf.Slices.Clone
import Derived.Shelf.Slices.In.SortNone
import Derived.Test.YtfjkmdhkalbpkaaProg
namespace Go.Proofs
open Go.Shelf
def Try.lays189_ren : Go.Shelf.Ren := ⟨fun | 189 => 32 | 125 => 44 | 257 => 43 | 128 => 54 | 129 => 55 | 294 => 45 | 295 => 46 | 296 => 47 | 297 => 48 | 298 => 49 | 299 => 50 | 216 => 51 | 300 => 52 | 301 => 53 | 328 => 56 | 329 => 57 | 330 => 58 | 331 => 59 | 332 => 60 | 215 => 61 | 343 => 62 | n => n, fun | 28 => 30 | 3 => 3 | 46 => 75 | 0 => 0 | 51 => 84 | 53 => 86 | 4 => 4 | 183 => 78 | 182 => 77 | 131 => 26 | 5 => 5 | 9 => 9 | 218 => 87 | 222 => 71 | 228 => 92 | 229 => 93 | n => n, fun | n => n⟩
theorem Try.lays189 : Go.Proofs.Lays.n189 Try.prog Try.lays189_ren := {
  mixed := by kernel_rfl
  f125 := Try.func44.trans (congrArg some (by kernel_rfl))
  f128 := Try.func54.trans (congrArg some (by kernel_rfl))
  f129 := Try.func55.trans (congrArg some (by kernel_rfl))
  f189 := Try.func32.trans (congrArg some (by kernel_rfl))
  f215 := Try.func61.trans (congrArg some (by kernel_rfl))
  f216 := Try.func51.trans (congrArg some (by kernel_rfl))
  f257 := Try.func43.trans (congrArg some (by kernel_rfl))
  f294 := Try.func45.trans (congrArg some (by kernel_rfl))
  f295 := Try.func46.trans (congrArg some (by kernel_rfl))
  f296 := Try.func47.trans (congrArg some (by kernel_rfl))
  f297 := Try.func48.trans (congrArg some (by kernel_rfl))
  f298 := Try.func49.trans (congrArg some (by kernel_rfl))
  f299 := Try.func50.trans (congrArg some (by kernel_rfl))
  f300 := Try.func52.trans (congrArg some (by kernel_rfl))
  f301 := Try.func53.trans (congrArg some (by kernel_rfl))
  f328 := Try.func56.trans (congrArg some (by kernel_rfl))
  f329 := Try.func57.trans (congrArg some (by kernel_rfl))
  f330 := Try.func58.trans (congrArg some (by kernel_rfl))
  f331 := Try.func59.trans (congrArg some (by kernel_rfl))
  f332 := Try.func60.trans (congrArg some (by kernel_rfl))
  f343 := Try.func62.trans (congrArg some (by kernel_rfl))
  t0 := Try.underlying0
  a0 := Try.isAgg0
  z0 := Try.sizeOf0
  v0 := Try.zeroValue0
  t3 := Try.underlying3
  a3 := Try.isAgg3
  z3 := Try.sizeOf3
  v3 := Try.zeroValue3
  t4 := Try.underlying4
  a4 := Try.isAgg4
  z4 := Try.sizeOf4
  v4 := Try.zeroValue4
  t5 := Try.underlying5
  a5 := Try.isAgg5
  z5 := Try.sizeOf5
  v5 := Try.zeroValue5
  t9 := Try.underlying9
  a9 := Try.isAgg9
  z9 := Try.sizeOf9
  v9 := Try.zeroValue9
  t28 := Try.underlying30
  a28 := Try.isAgg30
  z28 := Try.sizeOf30
  v28 := Try.zeroValue30
  t46 := Try.underlying75
  a46 := Try.isAgg75
  z46 := Try.sizeOf75
  v46 := Try.zeroValue75
  t51 := Try.underlying84
  a51 := Try.isAgg84
  z51 := Try.sizeOf84
  v51 := Try.zeroValue84
  t53 := Try.underlying86
  a53 := Try.isAgg86
  z53 := Try.sizeOf86
  v53 := Try.zeroValue86
  t131 := Try.underlying26
  a131 := Try.isAgg26
  z131 := Try.sizeOf26
  v131 := Try.zeroValue26
  t182 := Try.underlying77
  a182 := Try.isAgg77
  z182 := Try.sizeOf77
  v182 := Try.zeroValue77
  t183 := Try.underlying78
  a183 := Try.isAgg78
  z183 := Try.sizeOf78
  v183 := Try.zeroValue78
  t218 := Try.underlying87
  a218 := Try.isAgg87
  z218 := Try.sizeOf87
  v218 := Try.zeroValue87
  t222 := Try.underlying71
  a222 := Try.isAgg71
  z222 := Try.sizeOf71
  v222 := Try.zeroValue71
  t228 := Try.underlying92
  a228 := Try.isAgg92
  z228 := Try.sizeOf92
  v228 := Try.zeroValue92
  t229 := Try.underlying93
  a229 := Try.isAgg93
  z229 := Try.sizeOf93
  v229 := Try.zeroValue93 }
open Go.Sort Go.RowKit in
theorem Try.slices_Sort_int (blk off cap : Nat) (zs : List Int) (w : World) (hH : Holds (Value.int .i64) w blk off zs.toArray) (hblk : blk < w.heap.size) (hsz : zs.length < 4611686018427387904) :
    Calls Try.prog 32 #[.slice (some ⟨blk, off, none⟩) zs.length cap] w fun e w' =>
      e = .returned (.tuple #[]) ∧ ∃ n os, w' = grow (putRow (Value.int .i64) (Sort.ahead w n) blk off (zs.mergeSort fun x y => decide (x ≤ y)).toArray) os := Any.slices_Sort_int Try.lays189 blk off cap zs w hH hblk hsz
def Try.laysNm215_ren : Go.Shelf.Ren := ⟨fun | 15 => 40 | n => n, fun | 22 => 30 | 3 => 3 | 4 => 4 | n => n, fun | n => n⟩
theorem Try.laysNm215 : Go.Proofs.Lays2.n15 Try.prog Try.laysNm215_ren := {
  mixed := by kernel_rfl
  f15 := Try.func40.trans (congrArg some (by kernel_rfl))
  t3 := Try.underlying3
  a3 := Try.isAgg3
  z3 := Try.sizeOf3
  v3 := Try.zeroValue3
  t4 := Try.underlying4
  a4 := Try.isAgg4
  z4 := Try.sizeOf4
  v4 := Try.zeroValue4
  t22 := Try.underlying30
  a22 := Try.isAgg30
  z22 := Try.sizeOf30
  v22 := Try.zeroValue30
  i3 := by kernel_rfl }
open Go.RowKit Go.Lib in
theorem Try.slices_Clone_int (b off n c : Nat) (zs : List Int) (w : World) (hz : n ≤ zs.length) (hbig : n * 8 ≤ 140737488355328) (hc : ∀ j, j < zs.length → w.cell? ⟨b, off + j, none⟩ = some (.int .i64 (zs.getD j 0))) :
    Calls Try.prog 40 #[.slice (some ⟨b, off, none⟩) n c] w fun e w' => ∃ v', e = .returned v' ∧ w'.ownsRow w.heap.size 3 1 v' n ((zs.take n).map (Value.int .i64)) ∧ v' ≠ .slice none 0 0 ∧ Below w.heap.size w w' := Any.slices_Clone_int Try.laysNm215 b off n c zs w hz hbig hc
open Go.RowKit Go.Lib in
theorem Try.slices_Clone_int_nil (n c : Nat) (w : World) :
    Calls Try.prog 40 #[.slice none n c] w fun e w' => e = .returned (.slice none 0 0) ∧ w' = w := Any.slices_Clone_int_nil Try.laysNm215 n c w
open Go.RowKit Go.Lib in
theorem Try.slices_Clone_int_zero (a : Addr) (c : Nat) (w : World) :
    Calls Try.prog 40 #[.slice (some a) 0 c] w fun e w' => ∃ v', e = .returned v' ∧ w'.ownsRow w.heap.size 3 1 v' 0 [] ∧ v' ≠ .slice none 0 0 ∧ Below w.heap.size w w' := Any.slices_Clone_int_zero Try.laysNm215 a c w
open Go.RowKit Go.Sort in
theorem Try.slices_Sort_int_none (p : Option Addr) (cap : Nat) (w : World) :
    Calls Try.prog 32 #[.slice p 0 cap] w fun e w' => e = .returned (.tuple #[]) ∧ w' = w := Any.slices_Sort_int_none Try.lays189 p cap w
end Go.Proofs
namespace Go.Proofs.Ytfjkmdhkalbpkaa
end Go.Proofs.Ytfjkmdhkalbpkaa
