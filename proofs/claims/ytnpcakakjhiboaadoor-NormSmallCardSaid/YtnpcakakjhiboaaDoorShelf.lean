/- The library's sort at this program, laid by the kit's lay-plain.mjs. No condition. -/
import Derived.Shelf.Sort.Plain
import Derived.Shelf.Slices.In.SortNone
import Derived.Test.YtnpcakakjhiboaaDoorProg
namespace Go.Proofs
open Go.Shelf
def Tryd.lays190_ren : Go.Shelf.Ren := ⟨fun | 190 => 85 | 125 => 131 | 258 => 130 | 128 => 162 | 129 => 163 | 302 => 153 | 303 => 154 | 304 => 155 | 305 => 156 | 306 => 157 | 307 => 158 | 308 => 159 | 309 => 160 | 310 => 161 | 333 => 170 | 329 => 171 | 330 => 172 | 334 => 173 | 335 => 174 | 336 => 175 | 344 => 178 | n => n, fun | 31 => 52 | 9 => 9 | 3 => 3 | 46 => 148 | 0 => 0 | 51 => 163 | 53 => 165 | 4 => 4 | 183 => 156 | 182 => 155 | 131 => 117 | 5 => 5 | 218 => 171 | 222 => 175 | 228 => 177 | 229 => 178 | n => n, fun | n => n⟩
theorem Tryd.lays190 : Go.Proofs.Lays.n190 Tryd.prog Tryd.lays190_ren := {
  mixed := by kernel_rfl
  f125 := Tryd.func131.trans (congrArg some (by kernel_rfl))
  f128 := Tryd.func162.trans (congrArg some (by kernel_rfl))
  f129 := Tryd.func163.trans (congrArg some (by kernel_rfl))
  f190 := Tryd.func85.trans (congrArg some (by kernel_rfl))
  f258 := Tryd.func130.trans (congrArg some (by kernel_rfl))
  f302 := Tryd.func153.trans (congrArg some (by kernel_rfl))
  f303 := Tryd.func154.trans (congrArg some (by kernel_rfl))
  f304 := Tryd.func155.trans (congrArg some (by kernel_rfl))
  f305 := Tryd.func156.trans (congrArg some (by kernel_rfl))
  f306 := Tryd.func157.trans (congrArg some (by kernel_rfl))
  f307 := Tryd.func158.trans (congrArg some (by kernel_rfl))
  f308 := Tryd.func159.trans (congrArg some (by kernel_rfl))
  f309 := Tryd.func160.trans (congrArg some (by kernel_rfl))
  f310 := Tryd.func161.trans (congrArg some (by kernel_rfl))
  f329 := Tryd.func171.trans (congrArg some (by kernel_rfl))
  f330 := Tryd.func172.trans (congrArg some (by kernel_rfl))
  f333 := Tryd.func170.trans (congrArg some (by kernel_rfl))
  f334 := Tryd.func173.trans (congrArg some (by kernel_rfl))
  f335 := Tryd.func174.trans (congrArg some (by kernel_rfl))
  f336 := Tryd.func175.trans (congrArg some (by kernel_rfl))
  f344 := Tryd.func178.trans (congrArg some (by kernel_rfl))
  t0 := Tryd.underlying0
  a0 := Tryd.isAgg0
  z0 := Tryd.sizeOf0
  v0 := Tryd.zeroValue0
  t3 := Tryd.underlying3
  a3 := Tryd.isAgg3
  z3 := Tryd.sizeOf3
  v3 := Tryd.zeroValue3
  t4 := Tryd.underlying4
  a4 := Tryd.isAgg4
  z4 := Tryd.sizeOf4
  v4 := Tryd.zeroValue4
  t5 := Tryd.underlying5
  a5 := Tryd.isAgg5
  z5 := Tryd.sizeOf5
  v5 := Tryd.zeroValue5
  t9 := Tryd.underlying9
  a9 := Tryd.isAgg9
  z9 := Tryd.sizeOf9
  v9 := Tryd.zeroValue9
  t31 := Tryd.underlying52
  a31 := Tryd.isAgg52
  z31 := Tryd.sizeOf52
  v31 := Tryd.zeroValue52
  t46 := Tryd.underlying148
  a46 := Tryd.isAgg148
  z46 := Tryd.sizeOf148
  v46 := Tryd.zeroValue148
  t51 := Tryd.underlying163
  a51 := Tryd.isAgg163
  z51 := Tryd.sizeOf163
  v51 := Tryd.zeroValue163
  t53 := Tryd.underlying165
  a53 := Tryd.isAgg165
  z53 := Tryd.sizeOf165
  v53 := Tryd.zeroValue165
  t131 := Tryd.underlying117
  a131 := Tryd.isAgg117
  z131 := Tryd.sizeOf117
  v131 := Tryd.zeroValue117
  t182 := Tryd.underlying155
  a182 := Tryd.isAgg155
  z182 := Tryd.sizeOf155
  v182 := Tryd.zeroValue155
  t183 := Tryd.underlying156
  a183 := Tryd.isAgg156
  z183 := Tryd.sizeOf156
  v183 := Tryd.zeroValue156
  t218 := Tryd.underlying171
  a218 := Tryd.isAgg171
  z218 := Tryd.sizeOf171
  v218 := Tryd.zeroValue171
  t222 := Tryd.underlying175
  a222 := Tryd.isAgg175
  z222 := Tryd.sizeOf175
  v222 := Tryd.zeroValue175
  t228 := Tryd.underlying177
  a228 := Tryd.isAgg177
  z228 := Tryd.sizeOf177
  v228 := Tryd.zeroValue177
  t229 := Tryd.underlying178
  a229 := Tryd.isAgg178
  z229 := Tryd.sizeOf178
  v229 := Tryd.zeroValue178 }
open Go.Sort Go.RowKit in
theorem Tryd.slices_Sort_string (blk off cap : Nat) (ss : List (List UInt8)) (w : World) (hH : Holds encStr w blk off ss.toArray) (hblk : blk < w.heap.size) (hsz : ss.length < 4611686018427387904) :
    Calls Tryd.prog 85 #[.slice (some ⟨blk, off, none⟩) ss.length cap] w fun e w' =>
      e = .returned (.tuple #[]) ∧ ∃ n os, w' = grow (putRow encStr (Sort.ahead w n) blk off (ss.mergeSort fun x y => decide (x ≤ y)).toArray) os := Any.slices_Sort_string Tryd.lays190 blk off cap ss w hH hblk hsz
open Go.RowKit Go.Sort in
/-- .. and plain. (LAID: no walk: one application.) -/
theorem Tryd.slices_Sort_string_none (p : Option Addr) (cap : Nat) (w : World) :
    Calls Tryd.prog 85 #[.slice p 0 cap] w fun e w' => e = .returned (.tuple #[]) ∧ w' = w := Any.slices_Sort_string_none Tryd.lays190 p cap w
end Go.Proofs
