/- The shelf's slices.Sort and slices.Compact at []int, laid at this program. No condition. -/
import Derived.Test.YthoejimgdhfmiaaProg
import Derived.Shelf.Sort.Plain
import Derived.Shelf.Slices.CompactI
import Derived.Shelf.Slices.In.SortNone
namespace Go.Proofs.Ythoejimgdhfmiaa.H
open Go.Shelf
def lays189_ren : Go.Shelf.Ren := ⟨fun | 189 => 31 | 125 => 39 | 257 => 38 | 128 => 50 | 129 => 51 | 294 => 41 | 295 => 42 | 296 => 43 | 297 => 44 | 298 => 45 | 299 => 46 | 216 => 47 | 300 => 48 | 301 => 49 | 328 => 53 | 329 => 54 | 330 => 55 | 331 => 56 | 332 => 57 | 215 => 58 | 343 => 59 | n => n, fun | 28 => 40 | 3 => 3 | 46 => 69 | 0 => 0 | 51 => 84 | 53 => 46 | 4 => 4 | 183 => 76 | 182 => 75 | 131 => 81 | 5 => 5 | 9 => 9 | 218 => 86 | 222 => 90 | 228 => 92 | 229 => 49 | n => n, fun | n => n⟩
theorem lays189 : Go.Proofs.Lays.n189 Try.prog lays189_ren := {
  mixed := by kernel_rfl,
  f125 := Try.func39.trans (congrArg some (by kernel_rfl)),
  f128 := Try.func50.trans (congrArg some (by kernel_rfl)),
  f129 := Try.func51.trans (congrArg some (by kernel_rfl)),
  f189 := Try.func31.trans (congrArg some (by kernel_rfl)),
  f215 := Try.func58.trans (congrArg some (by kernel_rfl)),
  f216 := Try.func47.trans (congrArg some (by kernel_rfl)),
  f257 := Try.func38.trans (congrArg some (by kernel_rfl)),
  f294 := Try.func41.trans (congrArg some (by kernel_rfl)),
  f295 := Try.func42.trans (congrArg some (by kernel_rfl)),
  f296 := Try.func43.trans (congrArg some (by kernel_rfl)),
  f297 := Try.func44.trans (congrArg some (by kernel_rfl)),
  f298 := Try.func45.trans (congrArg some (by kernel_rfl)),
  f299 := Try.func46.trans (congrArg some (by kernel_rfl)),
  f300 := Try.func48.trans (congrArg some (by kernel_rfl)),
  f301 := Try.func49.trans (congrArg some (by kernel_rfl)),
  f328 := Try.func53.trans (congrArg some (by kernel_rfl)),
  f329 := Try.func54.trans (congrArg some (by kernel_rfl)),
  f330 := Try.func55.trans (congrArg some (by kernel_rfl)),
  f331 := Try.func56.trans (congrArg some (by kernel_rfl)),
  f332 := Try.func57.trans (congrArg some (by kernel_rfl)),
  f343 := Try.func59.trans (congrArg some (by kernel_rfl)),
  t0 := Try.underlying0,
  a0 := Try.isAgg0,
  z0 := Try.sizeOf0,
  v0 := Try.zeroValue0,
  t3 := Try.underlying3,
  a3 := Try.isAgg3,
  z3 := Try.sizeOf3,
  v3 := Try.zeroValue3,
  t4 := Try.underlying4,
  a4 := Try.isAgg4,
  z4 := Try.sizeOf4,
  v4 := Try.zeroValue4,
  t5 := Try.underlying5,
  a5 := Try.isAgg5,
  z5 := Try.sizeOf5,
  v5 := Try.zeroValue5,
  t9 := Try.underlying9,
  a9 := Try.isAgg9,
  z9 := Try.sizeOf9,
  v9 := Try.zeroValue9,
  t28 := Try.underlying40,
  a28 := Try.isAgg40,
  z28 := Try.sizeOf40,
  v28 := Try.zeroValue40,
  t46 := Try.underlying69,
  a46 := Try.isAgg69,
  z46 := Try.sizeOf69,
  v46 := Try.zeroValue69,
  t51 := Try.underlying84,
  a51 := Try.isAgg84,
  z51 := Try.sizeOf84,
  v51 := Try.zeroValue84,
  t53 := Try.underlying46,
  a53 := Try.isAgg46,
  z53 := Try.sizeOf46,
  v53 := Try.zeroValue46,
  t131 := Try.underlying81,
  a131 := Try.isAgg81,
  z131 := Try.sizeOf81,
  v131 := Try.zeroValue81,
  t182 := Try.underlying75,
  a182 := Try.isAgg75,
  z182 := Try.sizeOf75,
  v182 := Try.zeroValue75,
  t183 := Try.underlying76,
  a183 := Try.isAgg76,
  z183 := Try.sizeOf76,
  v183 := Try.zeroValue76,
  t218 := Try.underlying86,
  a218 := Try.isAgg86,
  z218 := Try.sizeOf86,
  v218 := Try.zeroValue86,
  t222 := Try.underlying90,
  a222 := Try.isAgg90,
  z222 := Try.sizeOf90,
  v222 := Try.zeroValue90,
  t228 := Try.underlying92,
  a228 := Try.isAgg92,
  z228 := Try.sizeOf92,
  v228 := Try.zeroValue92,
  t229 := Try.underlying49,
  a229 := Try.isAgg49,
  z229 := Try.sizeOf49,
  v229 := Try.zeroValue49
}
def lays20_ren : Go.Shelf.Ren := ⟨fun | 20 => 32 | n => n, fun | 22 => 40 | 3 => 3 | 4 => 4 | 0 => 0 | n => n, fun | n => n⟩
theorem lays20 : Go.Proofs.Lays2.n20 Try.prog lays20_ren := {
  mixed := by kernel_rfl,
  f20 := Try.func32.trans (congrArg some (by kernel_rfl)),
  t0 := Try.underlying0,
  a0 := Try.isAgg0,
  z0 := Try.sizeOf0,
  v0 := Try.zeroValue0,
  t3 := Try.underlying3,
  a3 := Try.isAgg3,
  z3 := Try.sizeOf3,
  v3 := Try.zeroValue3,
  t4 := Try.underlying4,
  a4 := Try.isAgg4,
  z4 := Try.sizeOf4,
  v4 := Try.zeroValue4,
  t22 := Try.underlying40,
  a22 := Try.isAgg40,
  z22 := Try.sizeOf40,
  v22 := Try.zeroValue40,
  i3 := by kernel_rfl
}
theorem sort_int {w : World} (g c : Nat) (zs : List Int) (hH : Sort.Holds (Value.int .i64) w g 0 zs.toArray) (hg : g < w.heap.size) (hz : zs.length < 1000) :
    Calls Try.prog 31 #[.slice (some ⟨g, 0, none⟩) zs.length c] w fun e w' => e = .returned (.tuple #[]) ∧ ∃ n os, w' = Sort.grow (Sort.putRow (Value.int .i64) (Sort.ahead w n) g 0 (zs.mergeSort fun x y => decide (x ≤ y)).toArray) os :=
  Any.slices_Sort_int lays189 g 0 c zs w hH hg (by omega)
theorem sort_none {w : World} (p : Option Addr) (c : Nat) : Calls Try.prog 31 #[.slice p 0 c] w fun e w' => e = .returned (.tuple #[]) ∧ w' = w :=
  Any.slices_Sort_int_none lays189 p c w
theorem compact_int {w : World} (g c : Nat) (zs : List Int) (hH : Sort.Holds (Value.int .i64) w g 0 zs.toArray) (hz : zs.length < 1000) (hc : zs.length ≤ c) :
    Calls Try.prog 32 #[.slice (some ⟨g, 0, none⟩) zs.length c] w fun e w' => e = .returned (.slice (some ⟨g, 0, none⟩) (Lib.compact zs).length c) ∧ ∃ q, w' = Sort.putRow (Value.int .i64) (Sort.ahead w q) g 0 (Lib.compact zs ++ List.replicate (zs.length - (Lib.compact zs).length) 0).toArray :=
  Any.slices_Compact_int lays20 g 0 c zs w hH (by omega) hc
theorem compact_none {w : World} (p : Option Addr) (c : Nat) : Calls Try.prog 32 #[.slice p 0 c] w fun e w' => e = .returned (.slice p 0 c) ∧ w' = w :=
  Any.slices_Compact_int_empty lays20 p c w
end Go.Proofs.Ythoejimgdhfmiaa.H
