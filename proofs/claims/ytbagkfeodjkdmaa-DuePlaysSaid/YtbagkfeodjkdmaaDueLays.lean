/- SlLaysF.n6, laid at this program (by the shelf's own command, its text written out). -/
import Derived.Test.YtbagkfeodjkdmaaProg
import Derived.Shelf.SlLaysF
namespace Go.Proofs
open Go.Shelf
def Try.dueSort_ren : Go.Shelf.Ren := ⟨fun
 
 
  | 6 => 78
 
  | 15 => 134
 
  | 14 => 133
 
  | 28 => 167
 
  | 29 => 148
 
  | 20 => 159
 
  | 21 => 160
 
  | 22 => 161
 
  | 23 => 162
 
  | 24 => 163
 
  | 25 => 164
 
  | 26 => 165
 
  | 27 => 166
 
  | 46 => 182
 
  | 47 => 183
 
  | 48 => 184
 
  | 49 => 185
 
  | 50 => 186
 
  | 57 => 210
 
  | n => n, fun
 
  | 22 => 22
 
  | 24 => 23
 
  | 25 => 147
 
  | 3 => 3
 
  | 39 => 178
 
  | 0 => 0
 
  | 53 => 77
 
  | 55 => 23
 
  | 4 => 4
 
  | 46 => 236
 
  | 45 => 235
 
  | 50 => 190
 
  | 5 => 5
 
  | 9 => 9
 
  | 66 => 256
 
  | 70 => 259
 
  | 76 => 281
 
  | 77 => 282
 
  | n => n, fun
 
  | n => n⟩
theorem Try.dueSort : SlLaysF.n6 Try.prog Try.dueSort_ren := {
  mixed := by kernel_rfl
  f6 := ⟨Try.f78.name, by decide, Try.func78.trans (congrArg some (by kernel_rfl))⟩
  f14 := ⟨Try.f133.name, by decide, Try.func133.trans (congrArg some (by kernel_rfl))⟩
  f15 := Try.func134.trans (congrArg some (by kernel_rfl))
  f20 := ⟨Try.f159.name, by decide, Try.func159.trans (congrArg some (by kernel_rfl))⟩
  f21 := ⟨Try.f160.name, by decide, Try.func160.trans (congrArg some (by kernel_rfl))⟩
  f22 := ⟨Try.f161.name, by decide, Try.func161.trans (congrArg some (by kernel_rfl))⟩
  f23 := ⟨Try.f162.name, by decide, Try.func162.trans (congrArg some (by kernel_rfl))⟩
  f24 := ⟨Try.f163.name, by decide, Try.func163.trans (congrArg some (by kernel_rfl))⟩
  f25 := ⟨Try.f164.name, by decide, Try.func164.trans (congrArg some (by kernel_rfl))⟩
  f26 := ⟨Try.f165.name, by decide, Try.func165.trans (congrArg some (by kernel_rfl))⟩
  f27 := ⟨Try.f166.name, by decide, Try.func166.trans (congrArg some (by kernel_rfl))⟩
  f28 := Try.func167.trans (congrArg some (by kernel_rfl))
  f29 := Try.func148.trans (congrArg some (by kernel_rfl))
  f46 := ⟨Try.f182.name, by decide, Try.func182.trans (congrArg some (by kernel_rfl))⟩
  f47 := Try.func183.trans (congrArg some (by kernel_rfl))
  f48 := Try.func184.trans (congrArg some (by kernel_rfl))
  f49 := ⟨Try.f185.name, by decide, Try.func185.trans (congrArg some (by kernel_rfl))⟩
  f50 := ⟨Try.f186.name, by decide, Try.func186.trans (congrArg some (by kernel_rfl))⟩
  f57 := ⟨Try.f210.name, by decide, Try.func210.trans (congrArg some (by kernel_rfl))⟩
  t0 := Try.underlying0
  a0 := Try.isAgg0
  z0 := Try.sizeOf0
  v0 := Try.zeroValue0
  t3 := Try.underlying3
  a3 := Try.isAgg3
  z3 := Try.sizeOf3
  v3 := Try.zeroValue3
  t4 := Try.underlying4
  a4 := Try.isAgg4
  z4 := Try.sizeOf4
  v4 := Try.zeroValue4
  t5 := Try.underlying5
  a5 := Try.isAgg5
  z5 := Try.sizeOf5
  v5 := Try.zeroValue5
  t9 := Try.underlying9
  a9 := Try.isAgg9
  z9 := Try.sizeOf9
  v9 := Try.zeroValue9
  t22 := Try.underlying22
  a22 := Try.isAgg22
  z22 := Try.sizeOf22
  v22 := Try.zeroValue22
  a24 := Try.isAgg23
  z24 := Try.sizeOf23
  t25 := Try.underlying147
  a25 := Try.isAgg147
  z25 := Try.sizeOf147
  v25 := Try.zeroValue147
  t39 := Try.underlying178
  a39 := Try.isAgg178
  z39 := Try.sizeOf178
  v39 := Try.zeroValue178
  t45 := Try.underlying235
  a45 := Try.isAgg235
  z45 := Try.sizeOf235
  v45 := Try.zeroValue235
  t46 := Try.underlying236
  a46 := Try.isAgg236
  z46 := Try.sizeOf236
  v46 := Try.zeroValue236
  t50 := Try.underlying190
  a50 := Try.isAgg190
  z50 := Try.sizeOf190
  v50 := Try.zeroValue190
  t53 := Try.underlying77
  a53 := Try.isAgg77
  z53 := Try.sizeOf77
  v53 := Try.zeroValue77
  t55 := Try.underlying23
  a55 := Try.isAgg23
  z55 := Try.sizeOf23
  v55 := Try.zeroValue23
  t66 := Try.underlying256
  a66 := Try.isAgg256
  z66 := Try.sizeOf256
  v66 := Try.zeroValue256
  t70 := Try.underlying259
  a70 := Try.isAgg259
  z70 := Try.sizeOf259
  v70 := Try.zeroValue259
  t76 := Try.underlying281
  a76 := Try.isAgg281
  z76 := Try.sizeOf281
  v76 := Try.zeroValue281
  t77 := Try.underlying282
  a77 := Try.isAgg282
  z77 := Try.sizeOf282
  v77 := Try.zeroValue282 }
end Go.Proofs
