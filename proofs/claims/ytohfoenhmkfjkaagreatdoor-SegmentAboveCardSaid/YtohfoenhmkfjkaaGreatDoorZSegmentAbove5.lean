/- What the law 'SegmentAbove' needs of walks and plain Lean, part 5: nothing is assumed beyond the texts that it imports. -/
import Derived.Ground.GgzProg
import Derived.Ground.SlgmProg
import Derived.KernelRfl
import Derived.Shelf.SlGeneric
import Derived.Shelf.SlIter.Nil
import Derived.Shelf.SlIterI.Nil
import Derived.Shelf.SortM.Plain
import Derived.Shelf.SortM.SortNone
import Derived.Test.YtohfoenhmkfjkaaGreatDoorProg
import Derived.Test.YtohfoenhmkfjkaaGreatDoorZSegmentAbove1
import Derived.Test.YtohfoenhmkfjkaaGreatDoorZSegmentAbove2
import Derived.Test.YtohfoenhmkfjkaaGreatDoorZSegmentAbove3
import Derived.Test.YtohfoenhmkfjkaaGreatDoorZSegmentAbove4
namespace Go.Proofs
open Go.Shelf
def Tryz.keysI_ren : Go.Shelf.Ren := ⟨fun | 7 => 62 | 10 => 114 | n => n, fun | 23 => 100 | 26 => 3 | 3 => 109 | 28 => 116 | 0 => 0 | 27 => 115 | 33 => 158 | 4 => 4 | n => n, fun | n => n⟩
theorem Tryz.keysI : Go.Proofs.SlLaysZI.n7 Tryz.prog Tryz.keysI_ren := {
  mixed := by kernel_rfl
  f7 := ⟨Tryz.f62.name, by decide, Tryz.func62.trans (congrArg some (by kernel_rfl))⟩
  f10 := ⟨Tryz.f114.name, by decide, Tryz.func114.trans (congrArg some (by kernel_rfl))⟩
  t0 := Tryz.underlying0
  a0 := Tryz.isAgg0
  z0 := Tryz.sizeOf0
  v0 := Tryz.zeroValue0
  t4 := Tryz.underlying4
  a4 := Tryz.isAgg4
  z4 := Tryz.sizeOf4
  v4 := Tryz.zeroValue4
  t23 := Tryz.underlying100
  a23 := Tryz.isAgg100
  z23 := Tryz.sizeOf100
  v23 := Tryz.zeroValue100
  t26 := Tryz.underlying3
  a26 := Tryz.isAgg3
  z26 := Tryz.sizeOf3
  v26 := Tryz.zeroValue3
  t27 := Tryz.underlying115
  a27 := Tryz.isAgg115
  z27 := Tryz.sizeOf115
  v27 := Tryz.zeroValue115
  t28 := Tryz.underlying116
  a28 := Tryz.isAgg116
  z28 := Tryz.sizeOf116
  v28 := Tryz.zeroValue116
  t33 := Tryz.underlying158
  a33 := Tryz.isAgg158
  z33 := Tryz.sizeOf158
  v33 := Tryz.zeroValue158 }
def Tryz.sortedI_ren : Go.Shelf.Ren := ⟨fun | 6 => 61 | 8 => 71 | 9 => 113 | 11 => 121 | 13 => 166 | 12 => 165 | 23 => 210 | 24 => 211 | 14 => 202 | 15 => 203 | 16 => 204 | 17 => 205 | 18 => 206 | 19 => 207 | 20 => 118 | 21 => 208 | 22 => 209 | 25 => 245 | 26 => 246 | 27 => 247 | 28 => 248 | 29 => 249 | 30 => 168 | 31 => 273 | n => n, fun | 26 => 3 | 28 => 116 | 24 => 32 | 0 => 0 | 3 => 3 | 37 => 183 | 48 => 273 | 50 => 165 | 4 => 4 | 40 => 267 | 39 => 266 | 45 => 121 | 5 => 5 | 9 => 9 | 51 => 295 | 55 => 299 | 57 => 327 | 58 => 305 | 33 => 158 | n => n, fun | n => n⟩
theorem Tryz.sortedI : Go.Proofs.SlLaysZI.n6 Tryz.prog Tryz.sortedI_ren := {
  mixed := by kernel_rfl
  f6 := ⟨Tryz.f61.name, by decide, Tryz.func61.trans (congrArg some (by kernel_rfl))⟩
  f8 := ⟨Tryz.f71.name, by decide, Tryz.func71.trans (congrArg some (by kernel_rfl))⟩
  f11 := ⟨Tryz.f121.name, by decide, Tryz.func121.trans (congrArg some (by kernel_rfl))⟩
  t0 := Tryz.underlying0
  a0 := Tryz.isAgg0
  z0 := Tryz.sizeOf0
  v0 := Tryz.zeroValue0
  t24 := Tryz.underlying32
  a24 := Tryz.isAgg32
  z24 := Tryz.sizeOf32
  v24 := Tryz.zeroValue32
  t26 := Tryz.underlying3
  a26 := Tryz.isAgg3
  z26 := Tryz.sizeOf3
  v26 := Tryz.zeroValue3
  t28 := Tryz.underlying116
  a28 := Tryz.isAgg116
  z28 := Tryz.sizeOf116
  v28 := Tryz.zeroValue116
  i26 := by kernel_rfl }
def Tryz.sortI_ren : Go.Shelf.Ren := ⟨fun | 5 => 113 | 8 => 166 | 7 => 165 | 19 => 210 | 20 => 211 | 10 => 202 | 11 => 203 | 12 => 204 | 13 => 205 | 14 => 206 | 15 => 207 | 16 => 118 | 17 => 208 | 18 => 209 | 30 => 245 | 31 => 246 | 32 => 247 | 33 => 248 | 34 => 249 | 35 => 168 | 40 => 273 | n => n, fun | 23 => 32 | 25 => 3 | 3 => 3 | 32 => 183 | 22 => 32 | 0 => 0 | 44 => 273 | 46 => 165 | 4 => 4 | 36 => 267 | 35 => 266 | 41 => 121 | 5 => 5 | 9 => 9 | 53 => 295 | 57 => 299 | 63 => 327 | 64 => 305 | n => n, fun | n => n⟩
theorem Tryz.sortI : Go.Proofs.SlLaysM.n5 Tryz.prog Tryz.sortI_ren := {
  mixed := by kernel_rfl
  f5 := ⟨Tryz.f113.name, by decide, Tryz.func113.trans (congrArg some (by kernel_rfl))⟩
  f7 := ⟨Tryz.f165.name, by decide, Tryz.func165.trans (congrArg some (by kernel_rfl))⟩
  f8 := Tryz.func166.trans (congrArg some (by kernel_rfl))
  f10 := ⟨Tryz.f202.name, by decide, Tryz.func202.trans (congrArg some (by kernel_rfl))⟩
  f11 := ⟨Tryz.f203.name, by decide, Tryz.func203.trans (congrArg some (by kernel_rfl))⟩
  f12 := ⟨Tryz.f204.name, by decide, Tryz.func204.trans (congrArg some (by kernel_rfl))⟩
  f13 := ⟨Tryz.f205.name, by decide, Tryz.func205.trans (congrArg some (by kernel_rfl))⟩
  f14 := ⟨Tryz.f206.name, by decide, Tryz.func206.trans (congrArg some (by kernel_rfl))⟩
  f15 := ⟨Tryz.f207.name, by decide, Tryz.func207.trans (congrArg some (by kernel_rfl))⟩
  f16 := ⟨Tryz.f118.name, by decide, Tryz.func118.trans (congrArg some (by kernel_rfl))⟩
  f17 := ⟨Tryz.f208.name, by decide, Tryz.func208.trans (congrArg some (by kernel_rfl))⟩
  f18 := ⟨Tryz.f209.name, by decide, Tryz.func209.trans (congrArg some (by kernel_rfl))⟩
  f19 := Tryz.func210.trans (congrArg some (by kernel_rfl))
  f20 := Tryz.func211.trans (congrArg some (by kernel_rfl))
  f30 := ⟨Tryz.f245.name, by decide, Tryz.func245.trans (congrArg some (by kernel_rfl))⟩
  f31 := Tryz.func246.trans (congrArg some (by kernel_rfl))
  f32 := Tryz.func247.trans (congrArg some (by kernel_rfl))
  f33 := ⟨Tryz.f248.name, by decide, Tryz.func248.trans (congrArg some (by kernel_rfl))⟩
  f34 := ⟨Tryz.f249.name, by decide, Tryz.func249.trans (congrArg some (by kernel_rfl))⟩
  f35 := ⟨Tryz.f168.name, by decide, Tryz.func168.trans (congrArg some (by kernel_rfl))⟩
  f40 := ⟨Tryz.f273.name, by decide, Tryz.func273.trans (congrArg some (by kernel_rfl))⟩
  t0 := Tryz.underlying0
  a0 := Tryz.isAgg0
  z0 := Tryz.sizeOf0
  v0 := Tryz.zeroValue0
  t3 := Tryz.underlying3
  a3 := Tryz.isAgg3
  z3 := Tryz.sizeOf3
  v3 := Tryz.zeroValue3
  t4 := Tryz.underlying4
  a4 := Tryz.isAgg4
  z4 := Tryz.sizeOf4
  v4 := Tryz.zeroValue4
  t5 := Tryz.underlying5
  a5 := Tryz.isAgg5
  z5 := Tryz.sizeOf5
  v5 := Tryz.zeroValue5
  t9 := Tryz.underlying9
  a9 := Tryz.isAgg9
  z9 := Tryz.sizeOf9
  v9 := Tryz.zeroValue9
  t22 := Tryz.underlying32
  a22 := Tryz.isAgg32
  z22 := Tryz.sizeOf32
  v22 := Tryz.zeroValue32
  t23 := Tryz.underlying32
  a23 := Tryz.isAgg32
  z23 := Tryz.sizeOf32
  v23 := Tryz.zeroValue32
  t25 := Tryz.underlying3
  a25 := Tryz.isAgg3
  z25 := Tryz.sizeOf3
  v25 := Tryz.zeroValue3
  t32 := Tryz.underlying183
  a32 := Tryz.isAgg183
  z32 := Tryz.sizeOf183
  v32 := Tryz.zeroValue183
  t35 := Tryz.underlying266
  a35 := Tryz.isAgg266
  z35 := Tryz.sizeOf266
  v35 := Tryz.zeroValue266
  t36 := Tryz.underlying267
  a36 := Tryz.isAgg267
  z36 := Tryz.sizeOf267
  v36 := Tryz.zeroValue267
  t41 := Tryz.underlying121
  a41 := Tryz.isAgg121
  z41 := Tryz.sizeOf121
  v41 := Tryz.zeroValue121
  t44 := Tryz.underlying273
  a44 := Tryz.isAgg273
  z44 := Tryz.sizeOf273
  v44 := Tryz.zeroValue273
  t46 := Tryz.underlying165
  a46 := Tryz.isAgg165
  z46 := Tryz.sizeOf165
  v46 := Tryz.zeroValue165
  t53 := Tryz.underlying295
  a53 := Tryz.isAgg295
  z53 := Tryz.sizeOf295
  v53 := Tryz.zeroValue295
  t57 := Tryz.underlying299
  a57 := Tryz.isAgg299
  z57 := Tryz.sizeOf299
  v57 := Tryz.zeroValue299
  t63 := Tryz.underlying327
  a63 := Tryz.isAgg327
  z63 := Tryz.sizeOf327
  v63 := Tryz.zeroValue327
  t64 := Tryz.underlying305
  a64 := Tryz.isAgg305
  z64 := Tryz.sizeOf305
  v64 := Tryz.zeroValue305 }
def Tryz.keysS_ren : Go.Shelf.Ren := ⟨fun | 7 => 112 | 10 => 164 | n => n, fun | 23 => 167 | 26 => 9 | 3 => 107 | 28 => 178 | 0 => 0 | 27 => 177 | 33 => 182 | 4 => 4 | n => n, fun | n => n⟩
theorem Tryz.keysS : Go.Proofs.SlLaysZ.n7 Tryz.prog Tryz.keysS_ren := {
  mixed := by kernel_rfl
  f7 := ⟨Tryz.f112.name, by decide, Tryz.func112.trans (congrArg some (by kernel_rfl))⟩
  f10 := ⟨Tryz.f164.name, by decide, Tryz.func164.trans (congrArg some (by kernel_rfl))⟩
  t0 := Tryz.underlying0
  a0 := Tryz.isAgg0
  z0 := Tryz.sizeOf0
  v0 := Tryz.zeroValue0
  t4 := Tryz.underlying4
  a4 := Tryz.isAgg4
  z4 := Tryz.sizeOf4
  v4 := Tryz.zeroValue4
  t23 := Tryz.underlying167
  a23 := Tryz.isAgg167
  z23 := Tryz.sizeOf167
  v23 := Tryz.zeroValue167
  t26 := Tryz.underlying9
  a26 := Tryz.isAgg9
  z26 := Tryz.sizeOf9
  v26 := Tryz.zeroValue9
  t27 := Tryz.underlying177
  a27 := Tryz.isAgg177
  z27 := Tryz.sizeOf177
  v27 := Tryz.zeroValue177
  t28 := Tryz.underlying178
  a28 := Tryz.isAgg178
  z28 := Tryz.sizeOf178
  v28 := Tryz.zeroValue178
  t33 := Tryz.underlying182
  a33 := Tryz.isAgg182
  z33 := Tryz.sizeOf182
  v33 := Tryz.zeroValue182 }
def Tryz.sortedS_ren : Go.Shelf.Ren := ⟨fun | 6 => 111 | 8 => 162 | 9 => 163 | 11 => 200 | 13 => 166 | 12 => 201 | 23 => 210 | 24 => 211 | 14 => 236 | 15 => 237 | 16 => 238 | 17 => 239 | 18 => 240 | 19 => 241 | 20 => 242 | 21 => 243 | 22 => 244 | 25 => 269 | 26 => 246 | 27 => 247 | 28 => 270 | 29 => 271 | 30 => 272 | 31 => 284 | n => n, fun | 26 => 9 | 28 => 178 | 24 => 55 | 0 => 0 | 3 => 3 | 37 => 183 | 48 => 273 | 50 => 165 | 4 => 4 | 40 => 267 | 39 => 266 | 45 => 121 | 5 => 5 | 9 => 9 | 51 => 295 | 55 => 299 | 57 => 327 | 58 => 305 | 33 => 182 | n => n, fun | n => n⟩
theorem Tryz.sortedS : Go.Proofs.SlLaysZ.n6 Tryz.prog Tryz.sortedS_ren := {
  mixed := by kernel_rfl
  f6 := ⟨Tryz.f111.name, by decide, Tryz.func111.trans (congrArg some (by kernel_rfl))⟩
  f8 := ⟨Tryz.f162.name, by decide, Tryz.func162.trans (congrArg some (by kernel_rfl))⟩
  f11 := ⟨Tryz.f200.name, by decide, Tryz.func200.trans (congrArg some (by kernel_rfl))⟩
  t0 := Tryz.underlying0
  a0 := Tryz.isAgg0
  z0 := Tryz.sizeOf0
  v0 := Tryz.zeroValue0
  t24 := Tryz.underlying55
  a24 := Tryz.isAgg55
  z24 := Tryz.sizeOf55
  v24 := Tryz.zeroValue55
  t26 := Tryz.underlying9
  a26 := Tryz.isAgg9
  z26 := Tryz.sizeOf9
  v26 := Tryz.zeroValue9
  t28 := Tryz.underlying178
  a28 := Tryz.isAgg178
  z28 := Tryz.sizeOf178
  v28 := Tryz.zeroValue178
  i26 := by kernel_rfl }
def Tryz.sortS_ren : Go.Shelf.Ren := ⟨fun | 6 => 163 | 8 => 166 | 9 => 201 | 19 => 210 | 20 => 211 | 21 => 236 | 22 => 237 | 23 => 238 | 24 => 239 | 25 => 240 | 26 => 241 | 27 => 242 | 28 => 243 | 29 => 244 | 36 => 269 | 31 => 246 | 32 => 247 | 37 => 270 | 38 => 271 | 39 => 272 | 41 => 284 | n => n, fun | 27 => 55 | 29 => 9 | 3 => 3 | 32 => 183 | 26 => 55 | 0 => 0 | 44 => 273 | 46 => 165 | 4 => 4 | 36 => 267 | 35 => 266 | 41 => 121 | 5 => 5 | 9 => 9 | 53 => 295 | 57 => 299 | 63 => 327 | 64 => 305 | n => n, fun | n => n⟩
theorem Tryz.sortS : Go.Proofs.SlLaysM.n6 Tryz.prog Tryz.sortS_ren := {
  mixed := by kernel_rfl
  f6 := ⟨Tryz.f163.name, by decide, Tryz.func163.trans (congrArg some (by kernel_rfl))⟩
  f8 := Tryz.func166.trans (congrArg some (by kernel_rfl))
  f9 := ⟨Tryz.f201.name, by decide, Tryz.func201.trans (congrArg some (by kernel_rfl))⟩
  f19 := Tryz.func210.trans (congrArg some (by kernel_rfl))
  f20 := Tryz.func211.trans (congrArg some (by kernel_rfl))
  f21 := ⟨Tryz.f236.name, by decide, Tryz.func236.trans (congrArg some (by kernel_rfl))⟩
  f22 := ⟨Tryz.f237.name, by decide, Tryz.func237.trans (congrArg some (by kernel_rfl))⟩
  f23 := ⟨Tryz.f238.name, by decide, Tryz.func238.trans (congrArg some (by kernel_rfl))⟩
  f24 := ⟨Tryz.f239.name, by decide, Tryz.func239.trans (congrArg some (by kernel_rfl))⟩
  f25 := ⟨Tryz.f240.name, by decide, Tryz.func240.trans (congrArg some (by kernel_rfl))⟩
  f26 := ⟨Tryz.f241.name, by decide, Tryz.func241.trans (congrArg some (by kernel_rfl))⟩
  f27 := ⟨Tryz.f242.name, by decide, Tryz.func242.trans (congrArg some (by kernel_rfl))⟩
  f28 := ⟨Tryz.f243.name, by decide, Tryz.func243.trans (congrArg some (by kernel_rfl))⟩
  f29 := ⟨Tryz.f244.name, by decide, Tryz.func244.trans (congrArg some (by kernel_rfl))⟩
  f31 := Tryz.func246.trans (congrArg some (by kernel_rfl))
  f32 := Tryz.func247.trans (congrArg some (by kernel_rfl))
  f36 := ⟨Tryz.f269.name, by decide, Tryz.func269.trans (congrArg some (by kernel_rfl))⟩
  f37 := ⟨Tryz.f270.name, by decide, Tryz.func270.trans (congrArg some (by kernel_rfl))⟩
  f38 := ⟨Tryz.f271.name, by decide, Tryz.func271.trans (congrArg some (by kernel_rfl))⟩
  f39 := ⟨Tryz.f272.name, by decide, Tryz.func272.trans (congrArg some (by kernel_rfl))⟩
  f41 := ⟨Tryz.f284.name, by decide, Tryz.func284.trans (congrArg some (by kernel_rfl))⟩
  t0 := Tryz.underlying0
  a0 := Tryz.isAgg0
  z0 := Tryz.sizeOf0
  v0 := Tryz.zeroValue0
  t3 := Tryz.underlying3
  a3 := Tryz.isAgg3
  z3 := Tryz.sizeOf3
  v3 := Tryz.zeroValue3
  t4 := Tryz.underlying4
  a4 := Tryz.isAgg4
  z4 := Tryz.sizeOf4
  v4 := Tryz.zeroValue4
  t5 := Tryz.underlying5
  a5 := Tryz.isAgg5
  z5 := Tryz.sizeOf5
  v5 := Tryz.zeroValue5
  t9 := Tryz.underlying9
  a9 := Tryz.isAgg9
  z9 := Tryz.sizeOf9
  v9 := Tryz.zeroValue9
  t26 := Tryz.underlying55
  a26 := Tryz.isAgg55
  z26 := Tryz.sizeOf55
  v26 := Tryz.zeroValue55
  t27 := Tryz.underlying55
  a27 := Tryz.isAgg55
  z27 := Tryz.sizeOf55
  v27 := Tryz.zeroValue55
  t29 := Tryz.underlying9
  a29 := Tryz.isAgg9
  z29 := Tryz.sizeOf9
  v29 := Tryz.zeroValue9
  t32 := Tryz.underlying183
  a32 := Tryz.isAgg183
  z32 := Tryz.sizeOf183
  v32 := Tryz.zeroValue183
  t35 := Tryz.underlying266
  a35 := Tryz.isAgg266
  z35 := Tryz.sizeOf266
  v35 := Tryz.zeroValue266
  t36 := Tryz.underlying267
  a36 := Tryz.isAgg267
  z36 := Tryz.sizeOf267
  v36 := Tryz.zeroValue267
  t41 := Tryz.underlying121
  a41 := Tryz.isAgg121
  z41 := Tryz.sizeOf121
  v41 := Tryz.zeroValue121
  t44 := Tryz.underlying273
  a44 := Tryz.isAgg273
  z44 := Tryz.sizeOf273
  v44 := Tryz.zeroValue273
  t46 := Tryz.underlying165
  a46 := Tryz.isAgg165
  z46 := Tryz.sizeOf165
  v46 := Tryz.zeroValue165
  t53 := Tryz.underlying295
  a53 := Tryz.isAgg295
  z53 := Tryz.sizeOf295
  v53 := Tryz.zeroValue295
  t57 := Tryz.underlying299
  a57 := Tryz.isAgg299
  z57 := Tryz.sizeOf299
  v57 := Tryz.zeroValue299
  t63 := Tryz.underlying327
  a63 := Tryz.isAgg327
  z63 := Tryz.sizeOf327
  v63 := Tryz.zeroValue327
  t64 := Tryz.underlying305
  a64 := Tryz.isAgg305
  z64 := Tryz.sizeOf305
  v64 := Tryz.zeroValue305 }
end Go.Proofs
namespace Go.K
open Go.Proofs
set_option linter.unusedVariables false
set_option linter.unusedSimpArgs false
set_option maxRecDepth 10000
open Go.RowKit Go.Maps Go.Sort Go.Shelf
theorem sortsI (m : Nat) : AnyZI.SortsIn Tryz.prog Tryz.sortedI_ren Fence.wide m :=
  ⟨fun blk off cap ss W hH hblk hsz => callsIn_wide.2 (AnyM.slices_Sort_int Tryz.sortI blk off cap ss W hH hblk hsz),
   fun p cap W => callsIn_wide.2 (AnyM.slices_Sort_int_none Tryz.sortI p cap W)⟩
theorem sortedI_spec {R : Value → Option (DU × List MemPlace)} {M : PSet} {w : World} {b bb : Nat} {m : List (Lit × DU)} (h : MapO Tryz.prog 3 R M w b m) (hbb : w.cell? ⟨bb, 0, none⟩ = some (.map (some b))) (hl : m.length ≤ 1099511627776) :
    Spec Tryz.prog 61 #[.func (.func 114) #[] #[.pointer (some ⟨bb, 0, none⟩)]] w (fun v w' => (∃ ss : List Int, ss.Perm (intKeys (DataW.map m)) ∧ w'.ownsRow w.heap.size 3 1 v ss.length ((ss.mergeSort (fun x y => decide (x ≤ y))).map encZ) ∧ (v = .slice none 0 0 ↔ ss = [])) ∧ Step M w M w' none') := by
  have hseq : SeqGives Fence.wide 2 Tryz.prog 114 #[.pointer (some ⟨bb, 0, none⟩)] encZ (fun ss => ss.Perm (intKeys (DataW.map m))) (Maps.size (DataW.map m)) w :=
    AnyZI.keys_gives (ρ := Tryz.keysI_ren) { Tryz.keysI with } Fence.wide _ trivial rfl (by omega) bb b m.length (DataW.map m) _ (World.block_lt_of_cell? w _ hbb) hbb h.own
  have hsz : Maps.size (DataW.map m) = m.length := rfl
  have cS := AnyZI.sorted_in Tryz.sortedI Fence.wide 5 trivial trivial trivial trivial rfl (by omega) (sortsI _) (enters_of Tryz.func113 (by kernel_rfl) rfl) 114 #[.pointer (some ⟨bb, 0, none⟩)] trivial (enters_of Tryz.func114 (by kernel_rfl) rfl) _ _ (by rw [hsz]; unfold maxLen; omega) (by rw [hsz]; omega) _ hseq
  exact (callsIn_wide (n := 5)).1 (cS.mono fun e w' ⟨v, ss, h1, h2, h3, h4, h5⟩ => ⟨v, h1, ⟨ss, h2, h3, h4⟩, .below' h5 M⟩)
theorem sortsS (m : Nat) : AnyZ.SortsIn Tryz.prog Tryz.sortedS_ren Fence.wide m :=
  ⟨fun blk off cap ss W hH hblk hsz => callsIn_wide.2 (AnyM.slices_Sort_string Tryz.sortS blk off cap ss W hH hblk hsz),
   fun p cap W => callsIn_wide.2 (AnyM.slices_Sort_string_none Tryz.sortS p cap W)⟩
theorem keysS_spec (mb : Option Nat) (w : World) : Spec Tryz.prog 112 #[.map mb] w (fun v w' => v = .func (.func 164) #[] #[.pointer (some ⟨w.heap.size, 0, none⟩)] ∧ w' = w.alloc (.cells #[.map mb] 167)) :=
  (callsIn_wide (n := 5)).1 ((AnyZ.keys_in Tryz.keysS Fence.wide 5 trivial rfl mb w).mono fun e w' ⟨h1, h2⟩ => ⟨_, h1, rfl, h2⟩)
theorem sortedS_spec {R : Value → Option (DU × List MemPlace)} {M : PSet} {w : World} {b bb : Nat} {m : List (Lit × DU)} (h : MapO Tryz.prog 9 R M w b m) (hbb : w.cell? ⟨bb, 0, none⟩ = some (.map (some b))) (hl : m.length ≤ 1099511627776) :
    Spec Tryz.prog 111 #[.func (.func 164) #[] #[.pointer (some ⟨bb, 0, none⟩)]] w (fun v w' => (∃ ss : List (List UInt8), ss.Perm (strKeys (DataW.map m)) ∧ w'.ownsRow w.heap.size 9 1 v ss.length ((ss.mergeSort (fun x y => decide (x ≤ y))).map encStr) ∧ (v = .slice none 0 0 ↔ ss = [])) ∧ Step M w M w' none') := by
  have hseq : SeqGives Fence.wide 2 Tryz.prog 164 #[.pointer (some ⟨bb, 0, none⟩)] encStr (fun ss => ss.Perm (strKeys (DataW.map m))) (Maps.size (DataW.map m)) w :=
    AnyZ.keys_gives (ρ := Tryz.keysS_ren) { Tryz.keysS with } Fence.wide _ trivial rfl (by omega) bb b m.length (DataW.map m) _ (World.block_lt_of_cell? w _ hbb) hbb h.own
  have hsz : Maps.size (DataW.map m) = m.length := rfl
  have cS := AnyZ.sorted_in Tryz.sortedS Fence.wide 5 trivial trivial trivial trivial rfl (by omega) (sortsS _) (enters_of Tryz.func163 (by kernel_rfl) rfl) 164 #[.pointer (some ⟨bb, 0, none⟩)] trivial (enters_of Tryz.func164 (by kernel_rfl) rfl) _ _ (by rw [hsz]; unfold maxLen; omega) (by rw [hsz]; omega) _ hseq
  exact (callsIn_wide (n := 5)).1 (cS.mono fun e w' ⟨v, ss, h1, h2, h3, h4, h5⟩ => ⟨v, h1, ⟨ss, h2, h3, h4⟩, .below' h5 M⟩)
/-- a word's bytes, of a map's keys -/
theorem cell_of_alloc {w w' : World} {v : Value} {t : TypeId} (h : w' = w.alloc (.cells #[v] t)) : w'.cell? ⟨w.heap.size, 0, none⟩ = some v := by
  subst h; exact cell_at (heap_alloc_at w _) rfl
end Go.K
namespace Go.K
open Go.Proofs
namespace TKBldA
theorem E160 : Enters Tryz.prog 160 := enters Tryz.func160 rfl (by decide) -- concordance/doc.Clone
end TKBldA
open TKBldA
set_option linter.unusedVariables false
set_option linter.unusedSimpArgs false
set_option maxRecDepth 10000
/-- 'slices.Clone[[]concordance/api.Field,concordance/api.Field]' -/
theorem cloneFd {M : PSet} {w0 : World} {v : Value} {b : List Fd} (hM : Lt M w0) (hv : (RT.fd.sl).V M w0 b v) (hbl : b.length ≤ 1099511627776) :
    Spec Tryz.prog 199 #[v] w0 (fun v' w' => (RT.fd.sl).V M w' b v' ∧ Step M w0 M w' none') := by
  obtain ⟨a, cap, hva, hc, hl, hs⟩ := V_sl.1 hv
  refine spec_of (args := [_]) (fn := Tryz.f199) Tryz.func199 rfl (n := 8) Tryz.ntmps199 ?_
  refine T.seq ?_
  refine T.region ?_ -- region 0
  refine Rg.assign rfl rfl ?_
  refine Rg.nil ?_
  refine T.seq ?_
  refine T.seq ?_
  refine T.region ?_ -- region 1
  refine Rg.move rfl rfl ?_
  refine Rg.eqv (v' := .slice a b.length cap) hva ?_
  refine Rg.sleqnil Tryz.underlying39 rfl rfl rfl ?_
  refine Rg.nil ?_
  refine T.ifp rfl (fun c1 => ?_) (fun c1 => ?_)
  · -- c1 True
    refine T.seq ?_
    refine T.region ?_ -- region 2
    refine Rg.assign rfl rfl ?_
    refine Rg.nil ?_
    refine T.ret ?_
    have hb : b = [] := by
      rcases hs with h | ⟨_, _, h, _⟩
      · exact h
      · rw [c1] at h; cases h
    exact Kret1 rfl rfl ⟨by rw [hb]; exact V_nil, Step.refl _ _⟩
  · -- c1 False
    refine T.skip ?_
    refine T.seq ?_
    refine T.region ?_ -- region 3
    refine Rg.sl0 Tryz.underlying39 I127 M rfl (fun a0 w1 s1 => ?_)
    refine Rg.move rfl rfl ?_
    refine Rg.appendnew (A := RT.fd) (hn := by decide) (M := M) Tryz.underlying39 I127 rfl rfl rfl rfl hv s1.le (s1.lt hM) (by omega) (fun u2 w2 hu2 s2 => ?_)
    refine Rg.assign rfl rfl ?_
    refine Rg.nil ?_
    refine T.ret ?_
    exact Kret1 rfl rfl ⟨hu2, s1.trans0 s2⟩
/-- 'slices.Clone[[]int,int]' -/
theorem cloneInt {M : PSet} {w0 : World} {v : Value} {b : List Int} (hM : Lt M w0) (hv : ((RT.int .i64).sl).V M w0 b v) (hbl : b.length ≤ 1099511627776) :
    Spec Tryz.prog 63 #[v] w0 (fun v' w' => ((RT.int .i64).sl).V M w' b v' ∧ Step M w0 M w' none') := by
  obtain ⟨a, cap, hva, hc, hl, hs⟩ := V_sl.1 hv
  refine spec_of (args := [_]) (fn := Tryz.f63) Tryz.func63 rfl (n := 8) Tryz.ntmps63 ?_
  refine T.seq ?_
  refine T.region ?_ -- region 0
  refine Rg.assign rfl rfl ?_
  refine Rg.nil ?_
  refine T.seq ?_
  refine T.seq ?_
  refine T.region ?_ -- region 1
  refine Rg.move rfl rfl ?_
  refine Rg.eqv (v' := .slice a b.length cap) hva ?_
  refine Rg.sleqnil Tryz.underlying32 rfl rfl rfl ?_
  refine Rg.nil ?_
  refine T.ifp rfl (fun c1 => ?_) (fun c1 => ?_)
  · -- c1 True
    refine T.seq ?_
    refine T.region ?_ -- region 2
    refine Rg.assign rfl rfl ?_
    refine Rg.nil ?_
    refine T.ret ?_
    have hb : b = [] := by
      rcases hs with h | ⟨_, _, h, _⟩
      · exact h
      · rw [c1] at h; cases h
    exact Kret1 rfl rfl ⟨by rw [hb]; exact V_nil, Step.refl _ _⟩
  · -- c1 False
    refine T.skip ?_
    refine T.seq ?_
    refine T.region ?_ -- region 3
    refine Rg.sl0 Tryz.underlying32 I3 M rfl (fun a0 w1 s1 => ?_)
    refine Rg.move rfl rfl ?_
    refine Rg.appendnew (A := (RT.int .i64)) (hn := by decide) (M := M) Tryz.underlying32 I3 rfl rfl rfl rfl hv s1.le (s1.lt hM) (by omega) (fun u2 w2 hu2 s2 => ?_)
    refine Rg.assign rfl rfl ?_
    refine Rg.nil ?_
    refine T.ret ?_
    exact Kret1 rfl rfl ⟨hu2, s1.trans0 s2⟩
/-- 'slices.Clone[[]string,string]' -/
theorem cloneStr {M : PSet} {w0 : World} {v : Value} {b : List (List UInt8)} (hM : Lt M w0) (hv : (RT.str.sl).V M w0 b v) (hbl : b.length ≤ 1099511627776) :
    Spec Tryz.prog 177 #[v] w0 (fun v' w' => (RT.str.sl).V M w' b v' ∧ Step M w0 M w' none') := by
  obtain ⟨a, cap, hva, hc, hl, hs⟩ := V_sl.1 hv
  refine spec_of (args := [_]) (fn := Tryz.f177) Tryz.func177 rfl (n := 8) Tryz.ntmps177 ?_
  refine T.seq ?_
  refine T.region ?_ -- region 0
  refine Rg.assign rfl rfl ?_
  refine Rg.nil ?_
  refine T.seq ?_
  refine T.seq ?_
  refine T.region ?_ -- region 1
  refine Rg.move rfl rfl ?_
  refine Rg.eqv (v' := .slice a b.length cap) hva ?_
  refine Rg.sleqnil Tryz.underlying55 rfl rfl rfl ?_
  refine Rg.nil ?_
  refine T.ifp rfl (fun c1 => ?_) (fun c1 => ?_)
  · -- c1 True
    refine T.seq ?_
    refine T.region ?_ -- region 2
    refine Rg.assign rfl rfl ?_
    refine Rg.nil ?_
    refine T.ret ?_
    have hb : b = [] := by
      rcases hs with h | ⟨_, _, h, _⟩
      · exact h
      · rw [c1] at h; cases h
    exact Kret1 rfl rfl ⟨by rw [hb]; exact V_nil, Step.refl _ _⟩
  · -- c1 False
    refine T.skip ?_
    refine T.seq ?_
    refine T.region ?_ -- region 3
    refine Rg.sl0 Tryz.underlying55 I9 M rfl (fun a0 w1 s1 => ?_)
    refine Rg.move rfl rfl ?_
    refine Rg.appendnew (A := RT.str) (hn := by decide) (M := M) Tryz.underlying55 I9 rfl rfl rfl rfl hv s1.le (s1.lt hM) (by omega) (fun u2 w2 hu2 s2 => ?_)
    refine Rg.assign rfl rfl ?_
    refine Rg.nil ?_
    refine T.ret ?_
    exact Kret1 rfl rfl ⟨hu2, s1.trans0 s2⟩
/-- 'slices.Clone[[]*concordance/posting.List,*concordance/posting.List]' -/
theorem cloneLi {M : PSet} {w0 : World} {v : Value} {b : List Li} (hM : Lt M w0) (hv : (((RT.li).ptr).sl).V M w0 b v) (hbl : b.length ≤ 1099511627776) :
    Spec Tryz.prog 178 #[v] w0 (fun v' w' => (((RT.li).ptr).sl).V M w' b v' ∧ Step M w0 M w' none') := by
  obtain ⟨a, cap, hva, hc, hl, hs⟩ := V_sl.1 hv
  refine spec_of (args := [_]) (fn := Tryz.f178) Tryz.func178 rfl (n := 8) Tryz.ntmps178 ?_
  refine T.seq ?_
  refine T.region ?_ -- region 0
  refine Rg.assign rfl rfl ?_
  refine Rg.nil ?_
  refine T.seq ?_
  refine T.seq ?_
  refine T.region ?_ -- region 1
  refine Rg.move rfl rfl ?_
  refine Rg.eqv (v' := .slice a b.length cap) hva ?_
  refine Rg.sleqnil Tryz.underlying188 rfl rfl rfl ?_
  refine Rg.nil ?_
  refine T.ifp rfl (fun c1 => ?_) (fun c1 => ?_)
  · -- c1 True
    refine T.seq ?_
    refine T.region ?_ -- region 2
    refine Rg.assign rfl rfl ?_
    refine Rg.nil ?_
    refine T.ret ?_
    have hb : b = [] := by
      rcases hs with h | ⟨_, _, h, _⟩
      · exact h
      · rw [c1] at h; cases h
    exact Kret1 rfl rfl ⟨by rw [hb]; exact V_nil, Step.refl _ _⟩
  · -- c1 False
    refine T.skip ?_
    refine T.seq ?_
    refine T.region ?_ -- region 3
    refine Rg.sl0 Tryz.underlying188 I129 M rfl (fun a0 w1 s1 => ?_)
    refine Rg.move rfl rfl ?_
    refine Rg.appendnew (A := ((RT.li).ptr)) (hn := by decide) (M := M) Tryz.underlying188 I129 rfl rfl rfl rfl hv s1.le (s1.lt hM) (by omega) (fun u2 w2 hu2 s2 => ?_)
    refine Rg.assign rfl rfl ?_
    refine Rg.nil ?_
    refine T.ret ?_
    exact Kret1 rfl rfl ⟨hu2, s1.trans0 s2⟩
/-- 'concordance/doc.Clone' -/
theorem dclone_spec {M : PSet} {d : Dc} {v0 : Value} (w0 : World) (hM : Lt M w0) (hv : RT.dc.V M w0 d v0) (hl : d.2.length ≤ 1099511627776) :
    Spec Tryz.prog 160 #[v0] w0 (fun v w => RT.dc.V M w d v ∧ Step M w0 M w none') := by
  have hM0 := hM
  refine spec_of (args := [_]) (fn := Tryz.f160) Tryz.func160 rfl (n := 9) Tryz.ntmps160 ?_
  have S : Step M w0 M w0 none' := (Step.refl _ _).widen (fun _ h => h.elim) (fun _ h => h.elim)
  refine T.seq ?_
  refine T.region ?_ -- region 0
  refine Rg.boxp (A := RT.dc) rfl rfl hM hv rfl (fun u0 w1 hu0 s0 _ => ?_) --@step s0
  --@vf hu0*
  --@ptr RT.dc ;; d
  replace hM := s0.lt hM
  have := S.size
  replace S := S.trans0 s0
  refine Rg.alloc M I41 rfl (fun b0_1 w0_1 p0_1 q0_1 g0_1 s0_1 => ?_)
  obtain ⟨M_0_1, eM_0_1⟩ : ∃ M', M' = ins M b0_1 := ⟨_, rfl⟩
  rw [← eM_0_1] at s0_1
  have m_g0_1 : M_0_1 b0_1 := by rw [eM_0_1]; exact .inl rfl
  change w0_1.heap[b0_1]? = some (.cells #[.int .i64 0, .slice none 0 0] _ _) at g0_1
  replace hu0 := hu0.le (by decide) s0_1.le
  replace hM := s0_1.lt hM
  have := S.size
  replace S := S.trans0 s0_1
  refine Rg.nil ?_
  refine T.seq ?_
  apply T.drawF 4 [0, 1] 1 none' mixed rfl rfl rfl rfl -- region 1
  intro wD1 sA1
  have sD1 := sA1 M_0_1
  have := lt_of_get g0_1
  replace m_g0_1 := (sD1.mem _ this).2 m_g0_1
  replace g0_1 := sD1.same0 g0_1
  replace hu0 := hu0.le (by decide) sD1.le
  replace hM := sD1.lt hM
  have := S.size
  replace S := S.trans0 sD1
  refine Rg.fieldAddr (M := M_0_1) (A := RT.dc) (B := RT.int .i64) Tryz.underlying41 rfl rfl I3 (by decide) (dc0) rfl rfl (by decide) (by assumption) (by repeat (first | exact Le.refl _ _ | refine Le.trans (Step.le (by assumption)) ?_)) (fun u1_0 hu1_0 => ?_)
  refine Rg.nil ⟨rfl, rfl, rfl, ?_⟩
  refine Rg.loadi64 (M := M_0_1) Tryz.underlying3 rfl rfl (by assumption) (by repeat (first | exact Le.refl _ _ | refine Le.trans (Step.le (by assumption)) ?_)) (fun in1_1 => ?_)
  refine Rg.nil ⟨rfl, rfl, rfl, ?_⟩
  refine Rg.fieldAddr (M := M_0_1) (A := RT.dc) (B := (RT.fd).sl) Tryz.underlying41 rfl rfl I39 (by decide) (dc1) rfl rfl (by decide) (by assumption) (by repeat (first | exact Le.refl _ _ | refine Le.trans (Step.le (by assumption)) ?_)) (fun u1_2 hu1_2 => ?_)
  refine Rg.nil ⟨rfl, rfl, rfl, ?_⟩
  refine Rg.load (M := M_0_1) Tryz.underlying39 rfl rfl rfl rfl rfl (by assumption) (by repeat (first | exact Le.refl _ _ | refine Le.trans (Step.le (by assumption)) ?_)) (fun v1_3 hv1_3 => ?_)
  refine Rg.nil ⟨rfl, rfl, rfl, ?_⟩
  refine QRg.nil ?_
  obtain ⟨bb, oo, cs, ee, fr, rfl, hcell, _⟩ := hu1_0.float
  refine ⟨Floats.all ⟨FloatOk.field Tryz.underlying41 rfl I3 (by decide), ⟨FloatOk.load rfl hcell (fun h => h), trivial⟩⟩, ?_⟩
  have kp := Keep.refl none' wD1
  refine Rg.call rfl rfl E199 (cloneFd hM hv1_3 hl) (fun v4 w4 hc => ?_)
  obtain ⟨hv4, s4⟩ := hc --@step s4
  --@vf hv4
  have := lt_of_get g0_1
  replace m_g0_1 := (s4.mem _ this).2 m_g0_1
  replace g0_1 := s4.same0 g0_1
  replace hu0 := hu0.le (by decide) s4.le
  replace hM := s4.lt hM
  have := S.size
  replace S := S.trans0 s4
  refine (fun (kp : Keep _ _ _) => Rg.nil ⟨rfl, rfl, fun _ => kp, ?_⟩) (by first | exact kp | exact kp.go0 (by assumption) | exact kp.goN (by assumption) | exact kp.go (by assumption) (fun _ _ h => by first | exact h | exact h.elim))
  refine Rg.build (places := [(0, 1), (1, 1)]) Tryz.underlying41 I41 B41 rfl ⟨_, _, rfl, rfl, _, _, rfl, rfl, rfl⟩ (out := [_, _]) ⟨0, [_], rfl, rfl, by simp [Value.cells], 1, [_], rfl, V_cells hv4, by simp [Value.cells], rfl⟩ ?_
  refine Rg.nil ⟨rfl, rfl, fun h => absurd rfl h, ?_⟩
  have hd : RT.dc.V M_0_1 w4 d (.agg [.int .i64 d.1, v4].toArray) := V_pair_mk (V_i64 in1_1) hv4 rfl rfl rfl rfl
  refine Rg.storeaggc (M := M_0_1) (vs := [.int .i64 d.1, v4]) I41 rfl rfl (V_ones rfl hd) rfl rfl g0_1 m_g0_1 (fun w6 g6 s6 => ?_) --@vf hd
  --@wrote s6 g0_1 g6
  have := lt_of_get g0_1
  replace m_g0_1 := (s6.mem _ this).2 m_g0_1
  replace hu0 := hu0.le (by decide) s6.le
  replace hv4 := hv4.le s6.le
  replace hd := hd.le s6.le
  replace hM := s6.lt hM
  have := S.size
  replace S := S.trans s6 (fun k hk h => by have h : _ = _ := h; subst h; first | (exfalso; omega) | (show _ ≤ _; omega) | exact ⟨by omega, (S.mem _ hk).1 ((s6.mem _ (lt_of_get g0_1)).1 m_g0_1)⟩ | exact .inl rfl | exact .inr rfl | exact .inr (.inl rfl) | exact .inr (.inr rfl) | exact rfl)
  have g0_1_ := g6
  clear g0_1
  have g0_1 := g0_1_
  clear g0_1_
  refine Rg.nil ⟨rfl, rfl, fun h => absurd rfl h, ?_⟩
  refine TRg.nil ?_
  refine T.ret ?_
  exact KretC1 (vs := [.int .i64 d.1, v4]) rfl rfl Tryz.underlying41 rfl I41 rfl g0_1 ⟨hd.le (Le.close hM0 S), S.back⟩
/-- 'concordance/buffer.own' -/
theorem own_spec {M : PSet} {e : En} {v0 : Value} (w0 : World) (hM : Lt M w0) (hv : RT.en.V M w0 e v0) (hl : e.1.2.length ≤ 1099511627776) :
    Spec Tryz.prog 109 #[v0] w0 (fun v w => RT.en.V M w e v ∧ Step M w0 M w none') := by
  have hM0 := hM
  refine spec_of (args := [_]) (fn := Tryz.f109) Tryz.func109 rfl (n := 9) Tryz.ntmps109 ?_
  have S : Step M w0 M w0 none' := (Step.refl _ _).widen (fun _ h => h.elim) (fun _ h => h.elim)
  refine T.seq ?_
  refine T.region ?_ -- region 0
  refine Rg.boxp (A := RT.en) rfl rfl hM hv rfl (fun u0 w1 hu0 s0 _ => ?_) --@step s0
  --@vf hu0*
  --@ptr RT.en ;; (e.1, e.2)
  replace hM := s0.lt hM
  have := S.size
  replace S := S.trans0 s0
  refine Rg.alloc M I43 rfl (fun b0_1 w0_1 p0_1 q0_1 g0_1 s0_1 => ?_)
  obtain ⟨M_0_1, eM_0_1⟩ : ∃ M', M' = ins M b0_1 := ⟨_, rfl⟩
  rw [← eM_0_1] at s0_1
  have m_g0_1 : M_0_1 b0_1 := by rw [eM_0_1]; exact .inl rfl
  change w0_1.heap[b0_1]? = some (.cells #[.int .i64 0, .slice none 0 0, .int .i64 0] _ _) at g0_1
  replace hu0 := hu0.le (by decide) s0_1.le
  replace hM := s0_1.lt hM
  have := S.size
  replace S := S.trans0 s0_1
  refine Rg.nil ?_
  refine T.seq ?_
  apply T.drawP [0, 1, 3, 4, 2, 5, 6] 4 [2, 3] 1 none' mixed -- region 1
  · simp +decide only [ren, renO, List.map_cons, List.map_nil, List.getD_cons_zero, List.getD_cons_succ, List.map_toArray, Option.map_some, Option.map_none, List.idxOf_cons, cond_true, cond_false, Nat.reduceBEq, Nat.reduceAdd, beq_self_eq_true]; rfl
  · rfl
  · rfl
  · rfl
  · rfl
  · rfl
  · rfl
  intro wD1 sA1
  have sD1 := sA1 M_0_1
  have := lt_of_get g0_1
  replace m_g0_1 := (sD1.mem _ this).2 m_g0_1
  replace g0_1 := sD1.same0 g0_1
  replace hu0 := hu0.le (by decide) sD1.le
  replace hM := sD1.lt hM
  have := S.size
  replace S := S.trans0 sD1
  refine Rg.fieldAddr (M := M_0_1) (A := RT.en) (B := RT.dc) Tryz.underlying43 rfl rfl I41 (by decide) en0 rfl rfl (by decide) hu0 (Le.refl _ _) (fun u1_0 hu1_0 => ?_) --@ptr RT.dc ;; e.1
  refine Rg.nil ⟨rfl, rfl, rfl, ?_⟩
  refine Rg.loadagg (M := M_0_1) (A := RT.dc) Tryz.underlying41 rfl I41 (by decide) rfl rfl rfl hu1_0 (Le.refl _ _) (fun v1_1 hv1_1 => ?_)
  refine Rg.nil ⟨rfl, rfl, rfl, ?_⟩
  refine Rg.fieldAddr (M := M_0_1) (A := RT.en) (B := RT.int .i64) Tryz.underlying43 rfl rfl I3 (by decide) en1 rfl rfl (by decide) hu0 (Le.refl _ _) (fun u1_2 hu1_2 => ?_) --@ptr RT.int .i64 ;; e.2
  refine Rg.nil ⟨rfl, rfl, rfl, ?_⟩
  refine Rg.loadi64 (M := M_0_1) Tryz.underlying3 rfl rfl (by assumption) (by repeat (first | exact Le.refl _ _ | refine Le.trans (Step.le (by assumption)) ?_)) (fun in1_3 => ?_)
  refine Rg.eqv (v' := .int .i64 (e.2)) rfl ?_
  replace in1_3 : -9223372036854775808 ≤ (e.2 : Int) ∧ e.2 ≤ 9223372036854775807 := in1_3
  refine Rg.nil ⟨rfl, rfl, rfl, ?_⟩
  refine QRg.nil ?_
  obtain ⟨bb, oo, cs, ee, fr, rfl, hcell, _⟩ := hu1_2.float
  refine ⟨Floats.all ⟨FloatOk.field Tryz.underlying43 rfl I3 (by decide), ⟨FloatOk.load rfl hcell (fun h => h), trivial⟩⟩, ?_⟩
  have kp := Keep.refl none' wD1
  refine Rg.call rfl rfl E160 (dclone_spec _ hM hv1_1 hl) (fun v4 w4 hc => ?_)
  obtain ⟨hv4, s4⟩ := hc 
  obtain ⟨uf, rfl⟩ := dc_val hv4
  --@step s4
  --@vf hv4
  have := lt_of_get g0_1
  replace m_g0_1 := (s4.mem _ this).2 m_g0_1
  replace g0_1 := s4.same0 g0_1
  replace hu0 := hu0.le (by decide) s4.le
  replace hM := s4.lt hM
  have := S.size
  replace S := S.trans0 s4
  refine (fun (kp : Keep _ _ _) => Rg.nil ⟨rfl, rfl, fun _ => kp, ?_⟩) (by first | exact kp | exact kp.go0 (by assumption) | exact kp.goN (by assumption) | exact kp.go (by assumption) (fun _ _ h => by first | exact h | exact h.elim))
  refine Rg.build (places := [(0, 2), (2, 1)]) Tryz.underlying43 I43 B43 rfl ⟨_, _, rfl, rfl, _, _, rfl, rfl, rfl⟩ (out := [_, _, _]) ⟨0, [_, _], rfl, rfl, by simp [Value.cells], 2, [_], rfl, rfl, by simp [Value.cells], rfl⟩ ?_
  refine Rg.nil ⟨rfl, rfl, fun h => absurd rfl h, ?_⟩
  have hd : RT.en.V M_0_1 w4 e (.agg [.int .i64 e.1.1, uf, .int .i64 e.2].toArray) := en_mk (p := e.1) hv4 in1_3
  refine Rg.storeaggc (M := M_0_1) (vs := [.int .i64 e.1.1, uf, .int .i64 e.2]) I43 rfl rfl (V_ones rfl hd) rfl rfl g0_1 m_g0_1 (fun w6 g6 s6 => ?_) --@vf hd
  --@wrote s6 g0_1 g6
  have := lt_of_get g0_1
  replace m_g0_1 := (s6.mem _ this).2 m_g0_1
  replace hu0 := hu0.le (by decide) s6.le
  replace hv4 := hv4.le s6.le
  replace hd := hd.le s6.le
  replace hM := s6.lt hM
  have := S.size
  replace S := S.trans s6 (fun k hk h => by have h : _ = _ := h; subst h; first | (exfalso; omega) | (show _ ≤ _; omega) | exact ⟨by omega, (S.mem _ hk).1 ((s6.mem _ (lt_of_get g0_1)).1 m_g0_1)⟩ | exact .inl rfl | exact .inr rfl | exact .inr (.inl rfl) | exact .inr (.inr rfl) | exact rfl)
  have g0_1_ := g6
  clear g0_1
  have g0_1 := g0_1_
  clear g0_1_
  refine Rg.nil ⟨rfl, rfl, fun h => absurd rfl h, ?_⟩
  refine TRg.nil ?_
  refine T.ret ?_
  exact KretC1 (vs := [.int .i64 e.1.1, uf, .int .i64 e.2]) rfl rfl Tryz.underlying43 rfl I43 rfl g0_1 ⟨hd.le (Le.close hM0 S), S.back⟩
end Go.K
namespace Go.K
open Go.Proofs
namespace TKBldB
theorem I227 : TI Tryz.prog 227 (.map none) 1 8 := by unfold TI; kernel_rfl -- map[api.Term][]int
theorem E155 : Enters Tryz.prog 155 := enters Tryz.func155 rfl (by decide) -- concordance/doc.Invert$1
theorem E156 : Enters Tryz.prog 156 := enters Tryz.func156 rfl (by decide) -- slices.SortedFunc[concordance/api.Term]
theorem E157 : Enters Tryz.prog 157 := enters Tryz.func157 rfl (by decide) -- maps.Keys[map[concordance/api.Term][]int,concordance/api.Term,[]int]
end TKBldB
open TKBldB
set_option linter.unusedVariables false
set_option linter.unusedSimpArgs false
set_option maxRecDepth 10000
theorem IJ.step0 {bt mb B : Nat} {ts : List (Fd × Nat)} {M M' : PSet} {w w' : World} (h : IJ bt mb B ts M w) (s : Step M w M' w' none') : IJ bt mb B ts M' w' := by
  obtain ⟨gb, m_gb, m_mb, hB, hBm, es, clock, hW, hI⟩ := h
  exact ⟨s.same0 gb, (s.mem _ (lt_of_get gb)).2 m_gb, (s.mem _ (lt_of_get hW.at_)).2 m_mb, hB, hBm, es, clock, hW.step0 s, hI.step0 s⟩
theorem inv_tell {bt mb B : Nat} : Tell Tryz.prog 155 [.pointer (some ⟨bt, 0, none⟩)] B (IJ bt mb B) :=
  ⟨E155, fun ts M w M' w' h s => h.step0 s, fun ts M w t i hJ hM h1 h2 hi h4 => inv1_spec w hM h1 h2 hi h4 hJ⟩
theorem invS_nil (M : PSet) (w : World) (B : Nat) : InvS M w B [] [] where
  o t v hv := by
    rcases hv with ⟨e, he, _⟩ | ⟨_, rfl⟩
    · cases he
    · exact Own.nil _ _ _ _ _
  a t t' v v' _ hv _ := by
    rcases hv with ⟨e, he, _⟩ | ⟨_, rfl⟩
    · cases he
    · exact (Apart.nil v').symm
  k := rfl
theorem seen_len : ∀ (ts : List (Fd × Nat)) (l : List Fd), (ts.foldl (fun l p => if p.1 ∈ l then l else l ++ [p.1]) l).length ≤ l.length + ts.length
  | [], l => by simp
  | p :: ts, l => by
    rw [List.foldl_cons, List.length_cons]
    refine Nat.le_trans (seen_len ts _) ?_
    split
    · omega
    · rw [List.length_append]; simp; omega
theorem fd_free (M : PSet) (w : World) (M' : PSet) (w' : World) (x : Fd) (vs : List Value) (h : RT.fd.R M w x vs) : RT.fd.R M' w' x vs := h
/-- 'concordance/doc.Invert' -/
theorem invert_spec {M : PSet} {d : Dc} {v0 : Value} (w0 : World) (hM : Lt M w0) (hv : RT.dc.V M w0 d v0) (hF : Fine d) (hl : ∀ f ∈ d.2, f.1.length ≤ 900000 ∧ f.2.length ≤ 900000) :
    Spec Tryz.prog 108 #[v0] w0 (fun v w => ∃ a b, v = .tuple #[a, b] ∧ (RT.fd.sl).V M w (termsOf (tellsL d.2)) a ∧ (((RT.int .i64).sl).sl).V M w ((termsOf (tellsL d.2)).map (posOf (tellsL d.2))) b ∧ Step M w0 M w none') := by
  have hM0 := hM
  have hmany := hF.many
  refine spec_of (args := [_]) (fn := Tryz.f108) Tryz.func108 rfl (n := 31) Tryz.ntmps108 ?_
  have S : Step M w0 M w0 none' := (Step.refl _ _).widen (fun _ h => h.elim) (fun _ h => h.elim)
  refine T.seq ?_
  refine T.region ?_ -- region 0
  refine Rg.boxp (A := RT.dc) rfl rfl hM hv rfl (fun u0 w1 hu0 s0 _ => ?_) --@step s0
  --@vf hu0*
  --@ptr RT.dc ;; d
  replace hM := s0.lt hM
  have := S.size
  replace S := S.trans0 s0
  refine Rg.assign rfl rfl ?_
  refine Rg.assign rfl rfl ?_
  refine Rg.nil ?_
  refine T.seq ?_
  refine T.region ?_ -- region 1
  refine Rg.makeMapW M Tryz.underlying227 rfl (fun mb w1m p1 q1 gW s1 => ?_)
  --@newM mb s1 gW
  --@step s1
  --@fact2 m_gW ;; (@s.mem _ (lt_of_get gW.at_)).2 m_gW ;; (@s.mem _ (lt_of_get gW.at_)).2 m_gW
  --@fact2 gW ;; gW.step0 @s ;; gW.step @s (by show ¬ (_ = _); omega)
  obtain ⟨M_W, eM_W⟩ : ∃ M', M' = ins M mb := ⟨_, rfl⟩
  rw [← eM_W] at s1
  have m_gW : M_W mb := by rw [eM_W]; exact .inl rfl
  replace hu0 := hu0.le (by decide) s1.le
  replace hM := s1.lt hM
  have := S.size
  replace S := S.trans0 s1
  refine Rg.alloc M_W I227 rfl (fun b1_1 w1_1 p1_1 q1_1 g1_1 s1_1 => ?_)
  obtain ⟨M_1_1, eM_1_1⟩ : ∃ M', M' = ins M_W b1_1 := ⟨_, rfl⟩
  rw [← eM_1_1] at s1_1
  have m_g1_1 : M_1_1 b1_1 := by rw [eM_1_1]; exact .inl rfl
  change w1_1.heap[b1_1]? = some (.cells #[.map none] _ _) at g1_1
  replace hu0 := hu0.le (by decide) s1_1.le
  replace m_gW := (s1_1.mem _ (lt_of_get gW.at_)).2 m_gW
  replace gW := gW.step0 s1_1
  replace hM := s1_1.lt hM
  have := S.size
  replace S := S.trans0 s1_1
  refine Rg.storec (M := M_1_1) I227 rfl rfl g1_1 rfl (rfl) m_g1_1 (fun w1_2 g1_2 s1_2 => ?_)
  try simp only [List.setIfInBounds_toArray, List.set_cons_zero, List.set_cons_succ] at g1_2
  have := lt_of_get g1_1
  replace m_g1_1 := (s1_2.mem _ this).2 m_g1_1
  replace hu0 := hu0.le (by decide) s1_2.le
  replace m_gW := (s1_2.mem _ (lt_of_get gW.at_)).2 m_gW
  replace gW := gW.step s1_2 (by show ¬ (_ = _); omega)
  replace hM := s1_2.lt hM
  have := S.size
  replace S := S.trans s1_2 (fun k hk h => by have h : _ = _ := h; subst h; first | (exfalso; omega) | (show _ ≤ _; omega) | exact ⟨by omega, (S.mem _ hk).1 ((s1_2.mem _ (lt_of_get g1_1)).1 m_g1_1)⟩ | exact .inl rfl | exact .inr rfl | exact .inr (.inl rfl) | exact .inr (.inr rfl) | exact rfl)
  have g1_1_ := g1_2
  clear g1_1
  have g1_1 := g1_1_
  clear g1_1_
  refine Rg.nil ?_
  refine T.seq ?_
  refine T.region ?_ -- region 2
  refine Rg.loadagg (M := M_1_1) (A := RT.dc) Tryz.underlying41 rfl I41 (by decide) rfl rfl rfl (by assumption) (by repeat (first | exact Le.refl _ _ | refine Le.trans (Step.le (by assumption)) ?_)) (fun v2_0 hv2_0 => ?_)
  refine Rg.makeFunc (xs := []) (ys := [.tmp 4]) rfl rfl rfl ?_
  refine Rg.call rfl rfl E154 (each_spec (cap := [.pointer (some ⟨b1_1, 0, none⟩)]) (B := w0.heap.size) _ hM hv2_0 hl hF.few (inv_tell (mb := mb)) ⟨g1_1, m_g1_1, m_gW, by omega, by omega, [], 0, gW, invS_nil _ _ _⟩) (fun r2 w2 hc => ?_)
  obtain ⟨M2, hM2, ⟨gb, _, _, _, _, es, clock, hW, hI⟩, s2⟩ := hc
  replace S := S.transOwn s2 (Nat.le_refl _)
  have hrow : ∀ t v, ValAt nilS es (kv t) v → (((RT.int .i64).sl)).V M w2 (posOf (tellsL d.2) t) v := fun t v h => (hI.o t v h).close hM0 S (by have := posOf_len (tellsL d.2) t; omega)
  replace S := S.back
  replace hM := S.lt hM0
  have hkin : ∀ e ∈ es, ∃ t ∈ seen (tellsL d.2), e.key = kv t := fun e he => by
    have : e.key ∈ (seen (tellsL d.2)).map kv := by rw [← hI.k]; exact List.mem_map_of_mem he
    obtain ⟨t, h1, h2⟩ := List.mem_map.1 this
    exact ⟨t, h1, h2.symm⟩
  have hsm : ∀ t ∈ seen (tellsL d.2), NoZ t ∧ t.1.length ≤ 12 ∧ t.2.length ≤ 30 := fun t ht => by
    obtain ⟨p, hp, rfl⟩ := List.mem_map.1 (seen_mem.1 ht)
    exact ⟨hF.noz p hp, hF.small p hp⟩
  have hsl : (seen (tellsL d.2)).length ≤ 500 := Nat.le_trans (seen_len _ _) (by simp; omega)
  have hel : es.length ≤ 500 := by have := congrArg List.length hI.k; simp at this; omega
  --@M M
  --@drop g1_1 hu0 m_gW gW
  --@fact2 hW ;; hW.step0 @s ;; hW.step @s (fun h => ho.notMap hW.at_ h)
  --@fact2 gb ;; @s.same0 gb ;; @s.keep gb (fun h => ho.neT gb (by decide) h)
  --@fact2 hrow ;; fun t v h => (hrow t v h).le @s.le ;; fun t v h => (hrow t v h).le @s.le
  refine Rg.nil ?_
  refine T.seq ?_
  refine T.region ?_ -- region 3
  refine Rg.loadc Tryz.underlying227 rfl rfl rfl gb rfl ?_
  refine Rg.call rfl rfl E157 (mkeys_spec _) (fun r3 w3 hc => ?_)
  obtain ⟨bs, rfl, gbs, _, s3⟩ := hc
  replace s3 := s3.toAny M --@step s3
  replace hW := hW.step0 s3
  replace gb := s3.same0 gb
  replace hrow := fun t v h => (hrow t v h).le s3.le
  replace hM := s3.lt hM
  have := S.size
  replace S := S.trans0 s3
  refine Rg.call rfl rfl E156 (sorted_spec _ (fun e he => by
    obtain ⟨t, h1, h2⟩ := hkin e he
    exact ⟨t, h2, by have := (hsm t h1).2; omega, by have := (hsm t h1).2; omega⟩) (fun e he t ht => by
    obtain ⟨t', h1, h2⟩ := hkin e he
    obtain rfl := kv_inj (ht.symm.trans h2)
    exact ⟨(hsm _ h1).1, by have := (hsm _ h1).2; omega, by have := (hsm _ h1).2; omega⟩) (by omega) (fun ts hnd hin => by
    have := hnd.length_le_of_subset (l₂ := seen (tellsL d.2)) (fun t ht => (seen_has hI.k).1 (hin t ht))
    omega) gbs hW) (fun r4 w4 hc => ?_)
  obtain ⟨us, hnd, hin, hby, hou, s4⟩ := hc
  obtain rfl := byKey_terms hF.noz hnd (fun t => (hin t).trans (seen_has hI.k)) hby
  have hul : (termsOf (tellsL d.2)).length ≤ 500 := Nat.le_trans (hnd.length_le_of_subset (l₂ := seen (tellsL d.2)) (fun t ht => seen_mem.2 ((terms_mem hF.noz).1 ht))) hsl
  replace s4 := s4.toAny M
  have hus : (RT.fd.sl).V M w4 (termsOf (tellsL d.2)) r4 := hou.tell fd_free (fun b hb h => by have := (hou.base b hb).1; have := hM b h; omega) (by omega)
  clear hou --@step s4
  --@vf hus
  replace hW := hW.step0 s4
  replace gb := s4.same0 gb
  replace hrow := fun t v h => (hrow t v h).le s4.le
  replace hM := s4.lt hM
  have := S.size
  replace S := S.trans0 s4
  refine Rg.assign rfl rfl ?_
  refine Rg.nil ?_
  refine T.seq ?_
  refine T.region ?_ -- region 4
  refine Rg.assign rfl rfl ?_
  refine Rg.nil ?_
  refine T.seq ?_
  refine T.seq ?_
  refine T.region ?_ -- region 5
  refine Rg.move rfl rfl ?_
  refine Rg.lensl Tryz.underlying98 rfl hus rfl ?_
  refine Rg.move rfl rfl ?_
  refine Rg.nil ?_
  refine T.block ?_
  refine T.loop (σ := Nat × Value) (fun q => [(4, .pointer (some ⟨b1_1, 0, none⟩)), (5, r4), (6, q.2), (16, r4), (17, .int .i64 ((termsOf (tellsL d.2)).length : Int)), (18, .int .i64 (q.1 : Int))]) (fun q w => ∃ M', Lt M' w ∧ Step M w0 M' w none' ∧ Own ((RT.int .i64).sl) 32 M' w w0.heap.size q.2 (((termsOf (tellsL d.2)).take q.1).map (posOf (tellsL d.2))) ∧ (RT.fd.sl).V M' w (termsOf (tellsL d.2)) r4 ∧ MapW Tryz.prog 47 w mb es clock ∧ w.heap[b1_1]? = some (.cells #[.map (some mb)] 227 (0, 0)) ∧ (∀ t v, ValAt nilS es (kv t) v → (((RT.int .i64).sl)).V M' w (posOf (tellsL d.2) t) v) ∧ q.1 ≤ (termsOf (tellsL d.2)).length) (fun q => (termsOf (tellsL d.2)).length - q.1) (0, .slice none 0 0) (.cons rfl (.cons rfl (.cons rfl (.cons rfl (.cons rfl (.cons rfl .nil)))))) ?_ ?_ -- loop 0
  · exact ⟨M, hM, S, Own.nil _ _ _ _ _, hus, hW, gb, hrow, Nat.zero_le _⟩
  · clear hM hus hW gb hrow S
    rintro ⟨i, u⟩ w ⟨M1, hM, S, ho, hus, hW, gb, hrow, hi⟩
    dsimp only at ho hi ⊢
    refine T.seq ?_
    refine T.region ?_ -- region 6
    refine Rg.ilt rfl rfl rfl ?_
    refine Rg.nil ?_
    refine T.seq ?_
    refine T.ifp rfl (fun c6 => ?_) (fun c6 => ?_)
    · -- c6 True
      refine T.skip ?_
      refine T.seq ?_
      refine T.block ?_
      refine T.seq ?_
      refine T.region ?_ -- region 7
      refine Rg.idx (M := M1) Tryz.underlying98 I47 rfl rfl rfl hus (Le.refl _ _) (by omega) (fun u7_0 t hg7 hu7_0 => ?_)
      rw [Int.toNat_natCast] at hg7
      have htm := List.mem_of_getElem? hg7
      have hts := hsm t (seen_mem.2 ((terms_mem hF.noz).1 htm)) --@ptr RT.fd ;; t
      refine Rg.loadagg (M := M1) (A := RT.fd) Tryz.underlying47 rfl I47 (by decide) rfl rfl rfl hu7_0 (Le.refl _ _) (fun v7_1 hv7_1 => ?_)
      refine Rg.newagg (A := RT.fd) (M := M1) I47 rfl rfl rfl rfl rfl (by assumption) (Le.refl _ _) hM (fun u7_2 w7_2 hu7_2 s7_2 z7_2 => ?_)
      replace hus := hus.le s7_2.le
      replace ho := ho.step0 s7_2
      replace hW := hW.step0 s7_2
      replace gb := s7_2.same0 gb
      replace hrow := fun t v h => (hrow t v h).le s7_2.le
      replace hM := s7_2.lt hM
      have := S.size
      replace S := S.trans0 s7_2
      refine Rg.nil ?_
      refine T.region ?_ -- region 8
      refine Rg.move rfl rfl ?_
      refine Rg.loadc Tryz.underlying227 rfl rfl rfl gb rfl ?_
      refine Rg.loadagg (M := M1) (A := RT.fd) Tryz.underlying47 rfl I47 (by decide) rfl rfl rfl hu7_2 (Le.refl _ _) (fun v8_2 hv8_2 => ?_)
      obtain rfl := fd_val hv8_2
      obtain ⟨kl, hkl⟩ := kv_key t (by omega) (by omega)
      refine Rg.lookupW Tryz.underlying227 termKeyed I32 rfl rfl rfl hkl hW (fun v8 hva => ?_)
      have hv8 := hrow _ _ hva
      clear hva
      refine Rg.sl1 (A := ((RT.int .i64).sl)) (hn := by decide) (M := M1) Tryz.underlying171 I32 (by decide) rfl rfl hM (hv8) (.inr ⟨rfl, rfl⟩) (fun u8_4 w8_4 hu8_4 s8_4 => ?_)
      replace hus := hus.le s8_4.le
      replace hu7_2 := hu7_2.le (by decide) s8_4.le
      replace ho := ho.step0 s8_4
      replace hW := hW.step0 s8_4
      replace gb := s8_4.same0 gb
      replace hrow := fun t v h => (hrow t v h).le s8_4.le
      replace hM := s8_4.lt hM
      have := S.size
      replace S := S.trans0 s8_4
      refine Rg.append (M := M1) (base := w0.heap.size) Tryz.underlying171 I32 rfl rfl rfl rfl ho hu8_4 (Le.refl _ _) (by simp; omega) (by simp; omega) (S.size) (fun u8_5 M8_5 w8_5 ho8_5 s8_5 => ?_)
      replace hus := hus.le s8_5.le
      replace hu7_2 := hu7_2.le (by decide) s8_5.le
      replace hu8_4 := hu8_4.le s8_5.le
      replace hW := hW.step s8_5 (fun h => ho.notMap hW.at_ h)
      replace gb := s8_5.keep gb (fun h => ho.neT gb (by decide) h)
      replace hrow := fun t v h => (hrow t v h).le s8_5.le
      replace hM := s8_5.lt hM
      have := S.size
      replace S := S.transBlk s8_5 ho (Nat.le_refl _)
      replace ho := ho8_5
      refine Rg.assign rfl rfl ?_
      refine Rg.nil ?_
      refine T.region ?_ -- region 9
      refine Rg.iadd rfl rfl rfl (by omega) ?_
      refine Rg.move rfl rfl ?_
      refine Rg.nil ?_
      refine ⟨rfl, (i + 1, u8_5), (.cons rfl (.cons rfl (.cons rfl (.cons rfl (.cons rfl (.cons rfl .nil)))))), ?_, ?_⟩
      · exact ⟨M8_5, hM, S, by rw [List.take_add_one, hg7, Option.toList_some, List.map_append]; exact ho, hus, hW, gb, hrow, by dsimp only; omega⟩
      · dsimp only; omega
    · -- c6 False
      refine T.exit ?_
      refine T.seq ?_
      refine T.region ?_ -- region 10
      refine Rg.move rfl rfl ?_
      refine Rg.move rfl rfl ?_
      refine Rg.assign rfl rfl ?_
      refine Rg.assign rfl rfl ?_
      refine Rg.nil ?_
      refine T.ret ?_
      have e : (termsOf (tellsL d.2)).take i = termsOf (tellsL d.2) := List.take_of_length_le (by omega)
      rw [e] at ho
      exact Kret2 rfl rfl rfl ⟨_, _, rfl, hus.le (Le.close hM0 S), ho.close hM0 S (by simp; omega), S.back⟩
end Go.K
namespace Go.K
set_option linter.unusedVariables false
set_option linter.unusedSimpArgs false
/-- an address of cells that stand for x, in a block that may be written -/
def PtrIn {α : Type} (A : RT α) (M : PSet) (w : World) (v : Value) (x : α) : Prop := ∃ b o vs, v = .pointer (some ⟨b, o, none⟩) ∧ A.R M w x vs ∧ w.rangeAt b o vs
theorem Own.elem {α : Type} {A : RT α} {e : TypeId} {M : PSet} {w : World} {base : Nat} {v : Value} {xs : List α} (h : Own A e M w base v xs) (hA : 0 < A.n) {i : Nat} {x : α} (hx : xs[i]? = some x) :
    ∃ g cap vs, v = .slice (some ⟨g, 0, none⟩) xs.length cap ∧ M g ∧ A.R M w x vs ∧ w.rangeAt g (i * A.n) vs := by
  obtain ⟨⟨C, hr, ha⟩, hm⟩ := h
  rcases hr.2 with ⟨h1, h2⟩ | ⟨g, cap, cur, h1, h2, h3, h4, h5, h6, h7⟩
  · have : xs = [] := List.eq_nil_of_length_eq_zero h2
    subst this; simp at hx
  · obtain ⟨vs, hv, hj⟩ := ha.at_ i x hx
    refine ⟨g, cap, vs, h1, hm g (by rw [h1]; rfl), hv, fun j u hu => ?_⟩
    have h8 := hj j u hu
    rw [← h7, List.getElem?_take] at h8
    split at h8
    · simp only [World.cell?, h3]; simpa using h8
    · cases h8
section
variable {P : Program} {r : Option Nat} {n : Nat} {L : Sl} {ds : List Deferred} {w : World} {K : Kt} {ops : Array Oper} {rest : List Oper} {d : Nat} {x y : Operand} {ty : TypeId} {pos : String} {af : Array Edge} {α : Type} {A : RT α}
theorem Rg.idxO {t e e' : TypeId} {i : Operand} {κ : IntKind} {j : Int} {M : PSet} {base : Nat} {xs : List α} {v zv : Value} {bytes : Nat} (ht : P.underlying t = some (.slice e)) (hi : TI P e zv A.n bytes) (hA : 0 < A.n)
    (hx : ev L x = some v) (hix : ev L i = some (.int κ j)) (hd : Nat.blt d n = true) (ho : Own A e' M w base v xs) (hj : 0 ≤ j ∧ j < xs.length)
    (k : ∀ u a, xs[j.toNat]? = some a → PtrIn A M w u a → Rg P r n ops rest ((d, u) :: L) ds w K) :
    Rg P r n ops ({ dst := some d, op := .indexAddr t x i, type := ty, pos, after := af, guard := none } :: rest) L ds w K := by
  have hlt : j.toNat < xs.length := by omega
  obtain ⟨g, cap, vs, rfl, hm, h1, h2⟩ := ho.elem hA (List.getElem?_eq_getElem hlt)
  refine .op (fun _ h => by cases h) rfl rfl hd (.pointer (some ⟨g, 0 + j.toNat * A.n, none⟩)) w (fun ρ h => ?_) (k _ xs[j.toNat] (List.getElem?_eq_getElem hlt) ⟨g, _, vs, rfl, h1, by rw [Nat.zero_add]; exact h2⟩)
  simp only [execOp, h x _ hx, h i _ hix]
  simp [Instr.indexAt, run_underlying ht, asIntOf, hj, hi.sizeOf, Addr.add_mid]
theorem Rg.loadaggO {t : TypeId} {fs : TypeDesc} {zv : Value} {bytes : Nat} {M : PSet} {p : Value} {a : α} (hu : P.underlying t = some fs) (hf : fs.isRow = true) (hi : TI P t zv A.n bytes) (hg : A.agg = true)
    (hx : ev L x = some p) (hd : Nat.blt d n = true) (hp : PtrIn A M w p a) (k : ∀ v, A.V M w a v → Rg P r n ops rest ((d, v) :: L) ds w K) :
    Rg P r n ops ({ dst := some d, op := .load t x, type := ty, pos, after := af, guard := none } :: rest) L ds w K := by
  obtain ⟨b, o, vs, rfl, h1, h2⟩ := hp
  refine .op (fun _ h => by cases h) rfl rfl hd (.agg vs.toArray) w (fun ρ h => ?_) (k _ ⟨vs, h1, by simp [RT.val, hg]⟩)
  simp only [execOp, h x _ hx]
  obtain ⟨i, hi1, _, hi2, _⟩ := hi.get
  have := run_loadAt_mid (P := P) w b o t vs fs h2 hu hf (by simp [hi1, hi2, A.len h1])
  simp [this]
end
end Go.K
namespace Go.K
open Go.Proofs
namespace TKBldC
theorem I169 : TI Tryz.prog 169 (.agg #[(.slice none 0 0), (.map none), (.int .i64 0), (.int .i64 0)]) 4 48 := by unfold TI; kernel_rfl -- buffer.Buffer
theorem B169 : placesOf Tryz.prog 169 = [(0, 1), (1, 1), (2, 1), (3, 1)].map some := by kernel_rfl
end TKBldC
open TKBldC
set_option linter.unusedVariables false
set_option linter.unusedSimpArgs false
set_option maxRecDepth 10000
open Go.Maps (Keyed)
theorem strKeyed : Keyed Tryz.prog 9 := Go.Maps.string_keyed Tryz.underlying9
theorem sv_key (k : List UInt8) (h : k.length ≤ 140737488355328) : ∃ l, keyOf Tryz.prog 9 (sv k) = some l := by
  have e1 : (⟨k.toArray⟩ : ByteArray).size = k.length := by simp [ByteArray.size]
  exact ⟨_, Go.WideMaps.keyOf_string_mk Tryz.underlying9 (by rw [e1]; unfold maxLen; omega)⟩
/-- the rows of a map of postings: what each tells, each apart from the others, which keys there are -/
structure PoS (Z : PSet) (M : PSet) (w : World) (B : Nat) (f : List UInt8 → List Po) (K : List UInt8 → Prop) (es : List MapEntry) : Prop where
  o : ∀ k v, ValAt nilS es (sv k) v → Own RT.po 153 M w B v (f k)
  a : ∀ k k' v v', k ≠ k' → ValAt nilS es (sv k) v → ValAt nilS es (sv k') v' → Apart v v'
  k : ∀ x, (∃ e ∈ es, e.key = sv x) ↔ K x
  z : ∀ k v c, ValAt nilS es (sv k) v → v.ownBlock = some c → Z c
theorem PoS.step {Z M M' N : PSet} {w w' : World} {B : Nat} {f : List UInt8 → List Po} {K : List UInt8 → Prop} {es : List MapEntry} (h : PoS Z M w B f K es) (s : Step M w M' w' N) (hn : ∀ k v b, ValAt nilS es (sv k) v → v.ownBlock = some b → ¬ N b) : PoS Z M' w' B f K es :=
  ⟨fun k v hv => (h.o k v hv).step s fun b hb => hn k v b hv hb, h.a, h.k, h.z⟩
theorem PoS.step0 {Z M M' : PSet} {w w' : World} {B : Nat} {f : List UInt8 → List Po} {K : List UInt8 → Prop} {es : List MapEntry} (h : PoS Z M w B f K es) (s : Step M w M' w' none') : PoS Z M' w' B f K es := h.step s fun _ _ _ _ _ h => h
theorem PoS.congr {Z M : PSet} {w : World} {B : Nat} {f f' : List UInt8 → List Po} {K K' : List UInt8 → Prop} {es : List MapEntry} (h : PoS Z M w B f K es) (hf : ∀ k, f' k = f k) (hK : ∀ k, K' k ↔ K k) : PoS Z M w B f' K' es :=
  ⟨fun k v hv => by rw [hf]; exact h.o k v hv, h.a, fun x => (h.k x).trans (hK x).symm, h.z⟩
theorem PoS.zone {Z Z' M : PSet} {w : World} {B : Nat} {f : List UInt8 → List Po} {K : List UInt8 → Prop} {es : List MapEntry} (h : PoS Z M w B f K es) (hz : ∀ c, Z c → c < w.heap.size → Z' c) : PoS Z' M w B f K es :=
  ⟨h.o, h.a, h.k, fun k v c hv hc => hz c (h.z k v c hv hc) ((h.o k v hv).base c hc).2⟩
theorem PoS.put {Z M M2 : PSet} {w w1 w2 : World} {B mb c : Nat} {mes : Array MapEntry} {f : List UInt8 → List Po} {K : List UInt8 → Prop} {es es2 : List MapEntry} {k0 : List UInt8} {v0 v1 : Value} {ps : List Po} (h : PoS Z M w B f K es) (hZ : ∀ c, w.heap.size ≤ c → Z c) (hv0 : ValAt nilS es (sv k0) v0)
    (ho1 : Own RT.po 153 (insV M v1) w1 B v1 (f k0 ++ ps)) (s1 : Step M w (insV M v1) w1 (blk v0)) (hF : ∀ b, v1.ownBlock = some b → w.heap.size ≤ b ∨ v0.ownBlock = some b) (hmb : w1.heap[mb]? = some (.map mes c)) (s2 : Step (insV M v1) w1 M2 w2 (fun k => k = mb))
    (hval : ∀ zv key' v', ValAt zv es2 key' v' ↔ (key' = sv k0 ∧ v' = v1) ∨ (key' ≠ sv k0 ∧ ValAt zv es key' v')) (hkeys : (es2.map (·.key) = es.map (·.key) ∧ ∃ e ∈ es, e.key = sv k0) ∨ (es2.map (·.key) = es.map (·.key) ++ [sv k0] ∧ ∀ e ∈ es, e.key ≠ sv k0)) :
    PoS Z M2 w2 B (fun k => if k = k0 then f k0 ++ ps else f k) (fun x => K x ∨ x = k0) es2 := by
  have hcase : ∀ k v, ValAt nilS es2 (sv k) v → (k = k0 ∧ v = v1) ∨ (k ≠ k0 ∧ ValAt nilS es (sv k) v) := fun k v hv => by
    rcases (hval nilS (sv k) v).1 hv with ⟨h3, h4⟩ | ⟨h3, h4⟩
    · exact .inl ⟨sv_inj h3, h4⟩
    · exact .inr ⟨fun e => h3 (by rw [e]), h4⟩
  have hap : ∀ k v, k ≠ k0 → ValAt nilS es (sv k) v → Apart v1 v := fun k v hne hv => (h.a k k0 v v0 hne hv hv0).symm.grown hF (fun b hb => ((h.o k v hv).base b hb).2)
  have hoth : ∀ k v, k ≠ k0 → ValAt nilS es (sv k) v → Own RT.po 153 (insV M v1) w1 B v (f k) := fun k v hne hv => (h.o k v hv).step s1 (fun b hb hk => h.a k k0 v v0 hne hv hv0 b hb hk)
  have hnm : ∀ {v : Value} {xs : List Po}, Own RT.po 153 (insV M v1) w1 B v xs → ∀ b, v.ownBlock = some b → ¬ b = mb := fun ho b hb e => ho.notMap hmb (by rw [← e]; exact hb)
  refine ⟨fun k v hv => ?_, fun k k' v v' hne hv hv' => ?_, fun x => ?_, fun k v c hv hc => ?_⟩
  · rcases hcase k v hv with ⟨rfl, rfl⟩ | ⟨h3, h4⟩
    · rw [if_pos rfl]; exact ho1.step s2 (hnm ho1)
    · rw [if_neg h3]; exact (hoth k v h3 h4).step s2 (hnm (hoth k v h3 h4))
  · rcases hcase k v hv with ⟨rfl, rfl⟩ | ⟨h3, h4⟩
    · rcases hcase k' v' hv' with ⟨rfl, _⟩ | ⟨h5, h6⟩
      · exact absurd rfl hne
      · exact hap k' v' h5 h6
    · rcases hcase k' v' hv' with ⟨rfl, rfl⟩ | ⟨h5, h6⟩
      · exact (hap k v h3 h4).symm
      · exact h.a k k' v v' hne h4 h6
  · have hin : (∃ e ∈ es2, e.key = sv x) ↔ sv x ∈ es2.map (·.key) := by simp
    have hin' : (∃ e ∈ es, e.key = sv x) ↔ sv x ∈ es.map (·.key) := by simp
    rw [hin, ← h.k x, hin']
    rcases hkeys with ⟨h3, e, he, hk⟩ | ⟨h3, _⟩
    · rw [h3]
      constructor
      · exact .inl
      · rintro (h4 | rfl)
        · exact h4
        · rw [← hk]; exact List.mem_map_of_mem he
    · rw [h3, List.mem_append, List.mem_singleton]
      constructor
      · rintro (h4 | h4)
        · exact .inl h4
        · exact .inr (sv_inj h4)
      · rintro (h4 | rfl)
        · exact .inl h4
        · exact .inr rfl
  · rcases hcase k v hv with ⟨rfl, rfl⟩ | ⟨h3, h4⟩
    · rcases hF c hc with h5 | h5
      · exact hZ c h5
      · exact h.z _ _ c hv0 h5
    · exact h.z k v c h4 hc
theorem poS_nil (Z M : PSet) (w : World) (B : Nat) : PoS Z M w B (pk []) (fun x => x ∈ keysL []) [] where
  o k v hv := by
    rcases hv with ⟨e, he, _⟩ | ⟨_, rfl⟩
    · cases he
    · exact Own.nil _ _ _ _ _
  a k k' v v' _ hv _ := by
    rcases hv with ⟨e, he, _⟩ | ⟨_, rfl⟩
    · cases he
    · exact (Apart.nil v').symm
  k x := by simp [keysL]
  z k v c hv hc := by
    rcases hv with ⟨e, he, _⟩ | ⟨_, rfl⟩
    · cases he
    · cases hc
/-- a buffer: its entries' row, its map -/
structure Buf (Z M : PSet) (w : World) (B b mb : Nat) (vl : Value) (L : List En) (words last : Int) (f : List UInt8 → List Po) (K : List UInt8 → Prop) (es : List MapEntry) (clock : Nat) : Prop where
  at_ : w.heap[b]? = some (.cells #[vl, .map (some mb), .int .i64 words, .int .i64 last] 169 (0, 0))
  m : M b
  mm : M mb
  hb : Z b
  hmb : Z mb
  l : Own RT.en 43 M w B vl L
  map : MapW Tryz.prog 9 w mb es clock
  rows : PoS Z M w B f K es
  zl : ∀ c, vl.ownBlock = some c → Z c
def BufE (Z M : PSet) (w : World) (B b : Nat) (L : List En) (words last : Int) : Prop := ∃ mb vl es clock, Buf Z M w B b mb vl L words last (pk L) (fun x => x ∈ keysL L) es clock
theorem BufE.step0 {Z M M' : PSet} {w w' : World} {B b : Nat} {L : List En} {words last : Int} (h : BufE Z M w B b L words last) (s : Step M w M' w' none') : BufE Z M' w' B b L words last := by
  obtain ⟨mb, vl, es, clock, h1, h2, h3, h4, h5, h6, h7, h8, h9⟩ := h
  exact ⟨mb, vl, es, clock, s.same0 h1, (s.mem _ (lt_of_get h1)).2 h2, (s.mem _ (lt_of_get h7.at_)).2 h3, h4, h5, h6.step0 s, h7.step0 s, h8.step0 s, h9⟩
theorem BufE.zone {Z Z' M : PSet} {w : World} {B b : Nat} {L : List En} {words last : Int} (h : BufE Z M w B b L words last) (hz : ∀ c, Z c → c < w.heap.size → Z' c) : BufE Z' M w B b L words last := by
  obtain ⟨mb, vl, es, clock, h1, h2, h3, h4, h5, h6, h7, h8, h9⟩ := h
  exact ⟨mb, vl, es, clock, h1, h2, h3, hz _ h4 (lt_of_get h1), hz _ h5 (lt_of_get h7.at_), h6, h7, h8.zone hz, fun c hc => hz c (h9 c hc) (h6.base c hc).2⟩
/-- a step that writes no block of the buffer's zone -/
theorem BufE.step {Z M M' N : PSet} {w w' : World} {B b : Nat} {L : List En} {words last : Int} (h : BufE Z M w B b L words last) (s : Step M w M' w' N) (hn : ∀ k, N k → ¬ Z k) : BufE Z M' w' B b L words last := by
  obtain ⟨mb, vl, es, clock, h1, h2, h3, h4, h5, h6, h7, h8, h9⟩ := h
  exact ⟨mb, vl, es, clock, s.keep h1 (fun hk => hn _ hk h4), (s.mem _ (lt_of_get h1)).2 h2, (s.mem _ (lt_of_get h7.at_)).2 h3, h4, h5, h6.step s (fun c hc hk => hn _ hk (h9 c hc)), h7.step s (fun hk => hn _ hk h5), h8.step s (fun k v c hv hc hk => hn _ hk (h8.z k v c hv hc)), h9⟩
theorem BufE.stepT {Z M M' N : PSet} {w w' : World} {B b : Nat} {L : List En} {words last : Int} (h : BufE Z M w B b L words last) (s : Step M w M' w' N) (hn : ∀ k, N k → ∃ cs t, w.heap[k]? = some (.cells cs t (0, 0)) ∧ t ≠ 169 ∧ t ≠ 43 ∧ t ≠ 153) : BufE Z M' w' B b L words last := by
  obtain ⟨mb, vl, es, clock, h1, h2, h3, h4, h5, h6, h7, h8, hz⟩ := h
  refine ⟨mb, vl, es, clock, s.keep h1 (fun hk => ?_), (s.mem _ (lt_of_get h1)).2 h2, (s.mem _ (lt_of_get h7.at_)).2 h3, h4, h5, h6.step s (fun c hc hk => ?_), h7.step s (fun hk => ?_), h8.step s (fun k v c hv hc hk => ?_), hz⟩
  · obtain ⟨cs, t, h9, h10, _⟩ := hn _ hk
    rw [h1] at h9; simp at h9; exact h10 h9.2.symm
  · obtain ⟨cs, t, h9, _, h10, _⟩ := hn _ hk
    exact h6.neT h9 h10 hc
  · obtain ⟨cs, t, h9, _⟩ := hn _ hk
    rw [h7.at_] at h9; cases h9
  · obtain ⟨cs, t, h9, _, _, h10⟩ := hn _ hk
    exact (h8.o k v hv).neT h9 h10 hc
def mineZ (M Z : PSet) : PSet := fun k => Z k ∧ M k
theorem ValAt.ex (zv : Value) (es : List MapEntry) (key : Value) : ∃ v, ValAt zv es key v := by
  by_cases h : ∃ e ∈ es, e.key = key
  · obtain ⟨e, he, hk⟩ := h
    exact ⟨e.val, .inl ⟨e, he, hk, rfl⟩⟩
  · exact ⟨zv, .inr ⟨fun e he hk => h ⟨e, he, hk⟩, rfl⟩⟩
def addE (last : Int) (e : En) : Int := if mayD e.1 ≠ 0 then mayD e.1 else if e.2 ≤ last then 12 else 0
/-- the postings of a key, where so many of an entry's terms have been taken in -/
def pkT (L : List En) (tl : List (Fd × Nat)) (i : Nat) (k : List UInt8) : List Po := pk L k ++ (((termsOf tl).take i).filter fun t => decide (keyE t = k)).map fun t => ((L.length : Int), posOf tl t)
theorem pkT_zero (L : List En) (tl : List (Fd × Nat)) (k : List UInt8) : pkT L tl 0 k = pk L k := by simp [pkT]
theorem pkT_succ {L : List En} {tl : List (Fd × Nat)} {i : Nat} {t : Fd} (h : (termsOf tl)[i]? = some t) (k : List UInt8) : pkT L tl (i + 1) k = if k = keyE t then pkT L tl i (keyE t) ++ [((L.length : Int), posOf tl t)] else pkT L tl i k := by
  unfold pkT
  rw [List.take_add_one, h, Option.toList_some, List.filter_append, List.map_append]
  split
  · rename_i e; subst e; simp
  · rename_i e
    have : ¬ keyE t = k := fun h => e h.symm
    simp [this]
theorem pkT_all {L : List En} {e : En} {i : Nat} (h : (termsOf (tlE e)).length ≤ i) (k : List UInt8) : pkT L (tlE e) i k = pk (L ++ [e]) k := by
  unfold pkT; rw [pk_snoc, List.take_of_length_le h]; rfl
theorem pkT_len {L : List En} (hF : ∀ x ∈ L, Fine x.1) (tl : List (Fd × Nat)) (i : Nat) (k : List UInt8) : (pkT L tl i k).length ≤ L.length + (termsOf tl).length := by
  unfold pkT
  have h1 := (pkF_at k L 0 hF).1
  have h2 := List.length_filter_le (fun t => decide (keyE t = k)) ((termsOf tl).take i)
  have h3 := List.length_take_le i (termsOf tl)
  have h4 : (pk L k).length ≤ L.length := h1
  simp only [List.length_append, List.length_map, List.length_take] at *; omega
theorem terms_len {d : Dc} (hF : Fine d) : (termsOf (tellsL d.2)).length ≤ 500 := by
  have h1 := (terms_up hF.noz).nodup.length_le_of_subset (l₂ := (tellsL d.2).map (·.1)) (fun t ht => (terms_mem hF.noz).1 ht)
  have := hF.many
  simp at h1; omega
theorem Fine.term {d : Dc} (hF : Fine d) {t : Fd} (h : t ∈ termsOf (tellsL d.2)) : t.1.length ≤ 12 ∧ t.2.length ≤ 30 := by
  obtain ⟨p, hp, rfl⟩ := List.mem_map.1 ((terms_mem hF.noz).1 h)
  exact hF.small p hp
/-- 'concordance/buffer.New' -/
theorem new_spec {Z M : PSet} {B : Nat} (w0 : World) (hM : Lt M w0) (hB : B ≤ w0.heap.size) (hZ : ∀ k, w0.heap.size ≤ k → Z k) :
    Spec Tryz.prog 56 #[] w0 (fun v w => ∃ M' b, v = .pointer (some ⟨b, 0, none⟩) ∧ Lt M' w ∧ BufE Z M' w B b [] 0 (-1) ∧ Step M w0 M' w none') := by
  refine spec_of (args := []) (fn := Tryz.f56) Tryz.func56 rfl (n := 4) Tryz.ntmps56 ?_
  have S : Step M w0 M w0 none' := (Step.refl _ _).widen (fun _ h => h.elim) (fun _ h => h.elim)
  refine T.seq ?_
  refine T.region ?_ -- region 0
  refine Rg.assign rfl rfl ?_
  refine Rg.nil ?_
  refine T.seq ?_
  refine T.region ?_ -- region 1
  refine Rg.makeMapW M Tryz.underlying167 rfl (fun mb w1m p1 q1 gW s1 => ?_)
  --@newM mb s1 gW
  --@step s1
  --@fact2 m_gW ;; (@s.mem _ (lt_of_get gW.at_)).2 m_gW ;; (@s.mem _ (lt_of_get gW.at_)).2 m_gW
  --@fact2 gW ;; gW.step0 @s ;; gW.step @s (by show ¬ (_ = _); omega)
  obtain ⟨M_W, eM_W⟩ : ∃ M', M' = ins M mb := ⟨_, rfl⟩
  rw [← eM_W] at s1
  have m_gW : M_W mb := by rw [eM_W]; exact .inl rfl
  replace hM := s1.lt hM
  have := S.size
  replace S := S.trans0 s1
  refine Rg.build (places := [(0, 1), (1, 1), (2, 1), (3, 1)]) Tryz.underlying169 I169 B169 rfl ⟨_, _, rfl, rfl, _, _, rfl, rfl, rfl⟩ (out := [.slice none 0 0, _, .int .i64 0, _]) ⟨1, [_], rfl, rfl, by simp [Value.cells], 3, [_], rfl, rfl, by simp [Value.cells], rfl⟩ ?_
  refine Rg.box M_W rfl rfl (fun b1_2 w1_2 p1_2 q1_2 g1_2 s1_2 => ?_)
  obtain ⟨M_1_2, eM_1_2⟩ : ∃ M', M' = ins M_W b1_2 := ⟨_, rfl⟩
  rw [← eM_1_2] at s1_2
  have m_g1_2 : M_1_2 b1_2 := by rw [eM_1_2]; exact .inl rfl
  change w1_2.heap[b1_2]? = some (.cells #[.slice none 0 0, .map (some mb), .int .i64 0, .int .i64 (-1)] _ _) at g1_2
  replace m_gW := (s1_2.mem _ (lt_of_get gW.at_)).2 m_gW
  replace gW := gW.step0 s1_2
  replace hM := s1_2.lt hM
  have := S.size
  replace S := S.trans0 s1_2
  refine Rg.assign rfl rfl ?_
  refine Rg.nil ?_
  refine T.ret ?_
  exact Kret1 rfl rfl ⟨_, _, rfl, hM, ⟨mb, _, [], 0, g1_2, m_g1_2, m_gW, hZ _ (by omega), hZ _ (by omega), Own.nil _ _ _ _ _, gW, poS_nil _ _ _ _, fun c hc => by cases hc⟩, S⟩
end Go.K
namespace Go.K
open Go.Proofs
namespace TKBldD
theorem I37 : TI Tryz.prog 37 (.slice none 0 0) 1 24 := by unfold TI; kernel_rfl -- []api.Entry
theorem I107 : TI Tryz.prog 107 (.slice none 0 0) 1 24 := by unfold TI; kernel_rfl -- []api.Posting
theorem I167 : TI Tryz.prog 167 (.map none) 1 8 := by unfold TI; kernel_rfl -- map[string][]api.Posting
theorem E107 : Enters Tryz.prog 107 := enters Tryz.func107 rfl (by decide) -- concordance/doc.May
theorem E108 : Enters Tryz.prog 108 := enters Tryz.func108 rfl (by decide) -- concordance/doc.Invert
theorem E109 : Enters Tryz.prog 109 := enters Tryz.func109 rfl (by decide) -- concordance/buffer.own
theorem E110 : Enters Tryz.prog 110 := enters Tryz.func110 rfl (by decide) -- concordance/doc.Weight
end TKBldD
open TKBldD
set_option linter.unusedVariables false
set_option linter.unusedSimpArgs false
set_option maxRecDepth 10000
set_option maxHeartbeats 4000000 in
/-- '(*concordance/buffer.Buffer).Add' -/
theorem add_spec {Z M : PSet} {B b : Nat} {L : List En} {words last : Int} {e : En} {v0 : Value} (w0 : World) (hM : Lt M w0) (hZ : ∀ k, w0.heap.size ≤ k → Z k) (hb : BufE Z M w0 B b L words last) (hBw : B ≤ w0.heap.size) (hv : RT.en.V M w0 e v0) (hl : ∀ f ∈ e.1.2, f.1.length ≤ 900000 ∧ f.2.length ≤ 900000) (hLF : ∀ x ∈ L, Fine x.1) (hLn : L.length ≤ 1000000) (hw : 0 ≤ words ∧ words ≤ 1000000000) :
    Spec Tryz.prog 57 #[.pointer (some ⟨b, 0, none⟩), v0] w0 (fun v w => ∃ M', Lt M' w ∧ Step M w0 M' w (mineZ M Z) ∧ v = .int .i64 (addE last e) ∧ (addE last e ≠ 0 → BufE Z M' w B b L words last) ∧ (addE last e = 0 → BufE Z M' w B b (L ++ [e]) (words + ((tlE e).length : Int)) e.2)) := by
  obtain ⟨mb, vl, es, clock, gb, m_gb, m_mb, hB, hBm, ho, hW, hR, zl⟩ := hb
  have nbm : b ≠ mb := fun h => by have := hW.at_; rw [← h, gb] at this; cases this
  refine spec_of (args := [_, _]) (fn := Tryz.f57) Tryz.func57 rfl (n := 89) Tryz.ntmps57 ?_
  have S : Step M w0 M w0 (mineZ M Z) := (Step.refl _ _).widen (fun _ h => h.elim) (fun _ h => h.2)
  refine T.seq ?_
  refine T.region ?_ -- region 0
  refine Rg.boxp (A := RT.en) rfl rfl hM hv rfl (fun u0 w1 hu0 s0 _ => ?_) --@step s0
  --@vf hu0*
  --@ptr RT.en ;; (e.1, e.2)
  have := lt_of_get gb
  replace m_gb := (s0.mem _ this).2 m_gb
  replace gb := s0.same0 gb
  replace ho := ho.step0 s0
  replace m_mb := (s0.mem _ (lt_of_get hW.at_)).2 m_mb
  replace hW := hW.step0 s0
  replace hR := hR.step0 s0
  replace hM := s0.lt hM
  have := S.size
  replace S := S.trans0 s0
  refine Rg.assign rfl rfl ?_
  refine Rg.nil ?_
  refine T.seq ?_
  refine T.seq ?_
  refine T.region ?_ -- region 1
  refine Rg.fieldAddr (M := M) (A := RT.en) (B := RT.dc) Tryz.underlying43 rfl rfl I41 (by decide) en0 rfl rfl (by decide) hu0 (Le.refl _ _) (fun u1_0 hu1_0 => ?_) --@ptr RT.dc ;; e.1
  refine Rg.loadagg (M := M) (A := RT.dc) Tryz.underlying41 rfl I41 (by decide) rfl rfl rfl hu1_0 (Le.refl _ _) (fun v1_1 hv1_1 => ?_)
  refine Rg.call rfl rfl E107 (may_spec _ hM hv1_1 hl) (fun r2 w2 hc => ?_)
  obtain ⟨rfl, s2⟩ := hc --@step s2
  have := lt_of_get gb
  replace m_gb := (s2.mem _ this).2 m_gb
  replace gb := s2.same0 gb
  replace hu0 := hu0.le (by decide) s2.le
  replace ho := ho.step0 s2
  replace m_mb := (s2.mem _ (lt_of_get hW.at_)).2 m_mb
  replace hW := hW.step0 s2
  replace hR := hR.step0 s2
  replace hM := s2.lt hM
  have := S.size
  replace S := S.trans0 s2
  refine Rg.assign rfl rfl ?_
  refine Rg.nil ?_
  refine T.seq ?_
  refine T.region ?_ -- region 2
  refine Rg.move rfl rfl ?_
  refine Rg.ine rfl rfl rfl ?_
  refine Rg.nil ?_
  refine T.ifp rfl (fun c2 => ?_) (fun c2 => ?_)
  · -- c2 True
    refine T.seq ?_
    refine T.region ?_ -- region 3
    refine Rg.move rfl rfl ?_
    refine Rg.assign rfl rfl ?_
    refine Rg.nil ?_
    refine T.ret ?_
    have ea : addE last e = mayD e.1 := if_pos c2
    exact Kret1 rfl rfl ⟨_, hM, S, by rw [ea], fun _ => ⟨mb, vl, es, clock, gb, m_gb, m_mb, hB, hBm, ho, hW, hR, zl⟩, fun h => absurd (ea ▸ h) c2⟩
  · -- c2 False
    have hF : Fine e.1 := fine_of (by simpa using c2)
    refine T.skip ?_
    refine T.seq ?_
    refine T.seq ?_
    apply T.drawQ0 mixed rfl rfl -- region 4
    intro wD4 sA4
    have sD4 := sA4 M
    have := lt_of_get gb
    replace m_gb := (sD4.mem _ this).2 m_gb
    replace gb := sD4.same0 gb
    replace hu0 := hu0.le (by decide) sD4.le
    replace ho := ho.step0 sD4
    replace m_mb := (sD4.mem _ (lt_of_get hW.at_)).2 m_mb
    replace hW := hW.step0 sD4
    replace hR := hR.step0 sD4
    replace hM := sD4.lt hM
    have := S.size
    replace S := S.trans0 sD4
    refine Rg.fieldAddr (M := M) (A := RT.en) (B := RT.int .i64) Tryz.underlying43 rfl rfl I3 (by decide) en1 rfl rfl (by decide) hu0 (Le.refl _ _) (fun u4_0 hu4_0 => ?_) --@ptr RT.int .i64 ;; e.2
    refine Rg.nil ⟨rfl, rfl, rfl, ?_⟩
    refine Rg.loadi64 (M := M) Tryz.underlying3 rfl rfl (by assumption) (by repeat (first | exact Le.refl _ _ | refine Le.trans (Step.le (by assumption)) ?_)) (fun in4_1 => ?_)
    refine Rg.eqv (v' := .int .i64 (e.2)) rfl ?_
    replace in4_1 : -9223372036854775808 ≤ (e.2 : Int) ∧ e.2 ≤ 9223372036854775807 := in4_1
    refine Rg.nil ⟨rfl, rfl, rfl, ?_⟩
    refine Rg.move rfl rfl ?_
    refine Rg.nil ⟨rfl, rfl, rfl, ?_⟩
    refine Rg.nilCheck rfl ⟨_, rfl⟩ rfl ?_
    refine Rg.nil ⟨rfl, rfl, rfl, ?_⟩
    refine Rg.fieldc (o' := 3) Tryz.underlying169 rfl rfl I3 (by decide) rfl rfl ?_
    refine Rg.nil ⟨rfl, rfl, rfl, ?_⟩
    refine Rg.loadc Tryz.underlying3 rfl rfl rfl (by first | assumption | exact Step.same0 sD4 (by assumption)) rfl ?_
    refine Rg.nil ⟨rfl, rfl, rfl, ?_⟩
    refine Rg.ile rfl rfl rfl ?_
    refine Rg.nil ⟨rfl, rfl, rfl, ?_⟩
    refine QRg.nil ?_
    refine T.ifp rfl (fun c4 => ?_) (fun c4 => ?_)
    · -- c4 True
      refine T.seq ?_
      refine T.region ?_ -- region 5
      refine Rg.assign rfl rfl ?_
      refine Rg.nil ?_
      refine T.ret ?_
      have ea : addE last e = 12 := by unfold addE; rw [if_neg (fun h => h (by simpa using c2)), if_pos c4]
      exact Kret1 rfl rfl ⟨_, hM, S, by rw [ea], fun _ => ⟨mb, vl, es, clock, gb, m_gb, m_mb, hB, hBm, ho, hW, hR, zl⟩, fun h => absurd (ea ▸ h) (by decide)⟩
    · -- c4 False
      refine T.skip ?_
      refine T.seq ?_
      refine T.region ?_ -- region 6
      refine Rg.fieldAddr (M := M) (A := RT.en) (B := RT.dc) Tryz.underlying43 rfl rfl I41 (by decide) en0 rfl rfl (by decide) hu0 (Le.refl _ _) (fun u6_0 hu6_0 => ?_) --@ptr RT.dc ;; e.1
      refine Rg.loadagg (M := M) (A := RT.dc) Tryz.underlying41 rfl I41 (by decide) rfl rfl rfl hu6_0 (Le.refl _ _) (fun v6_1 hv6_1 => ?_)
      refine Rg.call rfl rfl E108 (invert_spec _ hM hv6_1 hF hl) (fun r6 w6 hc => ?_)
      obtain ⟨a6, b6, rfl, ha, hb6, s6⟩ := hc --@step s6
      --@vf ha hb6
      have := lt_of_get gb
      replace m_gb := (s6.mem _ this).2 m_gb
      replace gb := s6.same0 gb
      replace hu0 := hu0.le (by decide) s6.le
      replace ho := ho.step0 s6
      replace m_mb := (s6.mem _ (lt_of_get hW.at_)).2 m_mb
      replace hW := hW.step0 s6
      replace hR := hR.step0 s6
      replace hM := s6.lt hM
      have := S.size
      replace S := S.trans0 s6
      refine Rg.move rfl rfl ?_
      refine Rg.extract rfl rfl rfl ?_
      refine Rg.extract rfl rfl rfl ?_
      refine Rg.assign rfl rfl ?_
      refine Rg.assign rfl rfl ?_
      refine Rg.nil ?_
      refine T.seq ?_
      refine T.seq ?_
      refine T.region ?_ -- region 7
      refine Rg.move rfl rfl ?_
      refine Rg.lensl Tryz.underlying98 rfl ha rfl ?_
      refine Rg.move rfl rfl ?_
      refine Rg.nil ?_
      refine T.block ?_
      refine T.loop (σ := Nat) (fun q => [(0, .pointer (some ⟨b, 0, none⟩)), (3, u0), (7, b6), (30, a6), (31, .int .i64 ((termsOf (tlE e)).length : Int)), (32, .int .i64 (q : Int))]) (fun q w => ∃ M' es clock, Lt M' w ∧ Step M w0 M' w (mineZ M Z) ∧ PtrTo RT.en M' w u0 e ∧ (RT.fd.sl).V M' w (termsOf (tlE e)) a6 ∧ (((RT.int .i64).sl).sl).V M' w ((termsOf (tlE e)).map (posOf (tlE e))) b6 ∧ Buf Z M' w B b mb vl L words last (pkT L (tlE e) q) (fun x => x ∈ keysL L ∨ x ∈ ((termsOf (tlE e)).take q).map keyE) es clock ∧ q ≤ (termsOf (tlE e)).length) (fun q => (termsOf (tlE e)).length - q) 0 (.cons rfl (.cons rfl (.cons rfl (.cons rfl (.cons rfl (.cons rfl .nil)))))) ?_ ?_ -- loop 0
      · exact ⟨_, es, clock, hM, S, hu0, ha, hb6, ⟨gb, m_gb, m_mb, hB, hBm, ho, hW, hR.congr (fun k => pkT_zero _ _ _) (fun k => by simp), zl⟩, Nat.zero_le _⟩
      · clear hM S hu0 ha hb6 gb m_gb m_mb ho hW hR
        rintro i w ⟨M1, es, clock, hM, S, hu0, ha, hb6, ⟨gb, m_gb, m_mb, _, _, ho, hW, hR, _⟩, hi⟩
        refine T.seq ?_
        refine T.region ?_ -- region 8
        refine Rg.ilt rfl rfl rfl ?_
        refine Rg.nil ?_
        refine T.seq ?_
        refine T.ifp rfl (fun c8 => ?_) (fun c8 => ?_)
        · -- c8 True
          refine T.skip ?_
          refine T.seq ?_
          refine T.block ?_
          refine T.seq ?_
          refine T.region ?_ -- region 9
          refine Rg.move rfl rfl ?_
          refine Rg.idx (M := M1) Tryz.underlying98 I47 rfl rfl rfl ha (Le.refl _ _) (by omega) (fun u9_1 t hg9 hu9_1 => ?_)
          rw [Int.toNat_natCast] at hg9
          have htm := List.mem_of_getElem? hg9
          have hts := hF.term htm --@ptr RT.fd ;; t
          refine Rg.loadagg (M := M1) (A := RT.fd) Tryz.underlying47 rfl I47 (by decide) rfl rfl rfl hu9_1 (Le.refl _ _) (fun v9_2 hv9_2 => ?_)
          obtain rfl := fd_val hv9_2
          refine Rg.alloc M1 I47 rfl (fun b9_3 w9_3 p9_3 q9_3 g9_3 s9_3 => ?_)
          obtain ⟨M_9_3, eM_9_3⟩ : ∃ M', M' = ins M1 b9_3 := ⟨_, rfl⟩
          rw [← eM_9_3] at s9_3
          have m_g9_3 : M_9_3 b9_3 := by rw [eM_9_3]; exact .inl rfl
          change w9_3.heap[b9_3]? = some (.cells #[.string ⟨#[]⟩, .string ⟨#[]⟩] _ _) at g9_3
          have := lt_of_get gb
          replace m_gb := (s9_3.mem _ this).2 m_gb
          replace gb := s9_3.same0 gb
          replace hu0 := hu0.le (by decide) s9_3.le
          replace ha := ha.le s9_3.le
          replace hb6 := hb6.le s9_3.le
          replace ho := ho.step0 s9_3
          replace m_mb := (s9_3.mem _ (lt_of_get hW.at_)).2 m_mb
          replace hW := hW.step0 s9_3
          replace hR := hR.step0 s9_3
          replace hM := s9_3.lt hM
          have := S.size
          replace S := S.trans0 s9_3
          refine Rg.assign rfl rfl ?_
          refine Rg.storeaggc (M := M_9_3) (vs := [.string ⟨t.1.toArray⟩, .string ⟨t.2.toArray⟩]) I47 rfl rfl (V_ones rfl hv9_2) rfl rfl g9_3 m_g9_3 (fun w9 g9 s9 => ?_) --@wrote s9 g9_3 g9
          have := lt_of_get gb
          replace m_gb := (s9.mem _ this).2 m_gb
          replace gb := s9.keep gb (fun hk => by have hk : _ = _ := hk; omega)
          have := lt_of_get g9_3
          replace m_g9_3 := (s9.mem _ this).2 m_g9_3
          replace hu0 := hu0.le (by decide) s9.le
          replace ha := ha.le s9.le
          replace hb6 := hb6.le s9.le
          replace ho := ho.step s9 (fun c hc (h : _ = _) => by first | exact ho.neT gb (by decide) (h ▸ hc) | exact ho.neT g9_3 (by decide) (h ▸ hc))
          replace m_mb := (s9.mem _ (lt_of_get hW.at_)).2 m_mb
          replace hW := hW.step s9 (by first | exact fun h => ho.notMap hW.at_ h | exact fun (h : mb = b) => nbm h.symm | exact fun (h : mb = b9_3) => by have h9 := hW.at_; rw [h, g9_3] at h9; cases h9)
          replace hR := hR.step s9 (by first | exact fun k v c hv hc h => (hR.o k v hv).apartT ho (by decide) hc h | exact fun k v c hv hc (h : c = b) => (hR.o k v hv).neT gb (by decide) (h ▸ hc) | exact fun k v c hv hc (h : c = b9_3) => (hR.o k v hv).neT g9_3 (by decide) (h ▸ hc))
          replace hM := s9.lt hM
          have := S.size
          replace S := S.trans s9 (fun k hk h => by have h : _ = _ := h; subst h; first | (exfalso; omega) | (show _ ≤ _; omega) | exact ⟨by first | omega | assumption, (S.mem _ hk).1 ((s9.mem _ (lt_of_get g9_3)).1 m_g9_3)⟩ | exact .inl rfl | exact .inr rfl | exact .inr (.inl rfl) | exact .inr (.inr rfl) | exact rfl)
          have g9_3_ := g9
          clear g9_3
          have g9_3 := g9_3_
          clear g9_3_
          refine Rg.nil ?_
          refine T.seq ?_
          refine T.region ?_ -- region 10
          refine Rg.loadaggc (vs := [.string ⟨t.1.toArray⟩, .string ⟨t.2.toArray⟩]) Tryz.underlying47 rfl I47 rfl rfl rfl g9_3 ?_ --@drop g9_3
          refine Rg.call rfl rfl E74 (key_spec (t := t) _ hM (by omega) (by omega)) (fun r10 w10 hc => ?_)
          obtain ⟨rfl, s10⟩ := hc --@step s10
          have := lt_of_get gb
          replace m_gb := (s10.mem _ this).2 m_gb
          replace gb := s10.same0 gb
          replace hu0 := hu0.le (by decide) s10.le
          replace ha := ha.le s10.le
          replace hb6 := hb6.le s10.le
          replace ho := ho.step0 s10
          replace m_mb := (s10.mem _ (lt_of_get hW.at_)).2 m_mb
          replace hW := hW.step0 s10
          replace hR := hR.step0 s10
          replace hM := s10.lt hM
          have := S.size
          replace S := S.trans0 s10
          refine Rg.assign rfl rfl ?_
          refine Rg.nil ?_
          obtain ⟨v10, hva⟩ := ValAt.ex nilS es (sv (keyE t))
          apply T.drawF 21 [0, 1, 2, 3, 4, 5, 6, 7, 8, 9, 10] 2 (blk v10) mixed rfl rfl rfl rfl -- region 11
          intro wD11 sA11
          have sD11 := sA11 M_9_3
          have := lt_of_get gb
          replace m_gb := (sD11.mem _ this).2 m_gb
          replace gb := sD11.same0 gb
          replace hu0 := hu0.le (by decide) sD11.le
          replace ha := ha.le sD11.le
          replace hb6 := hb6.le sD11.le
          replace ho := ho.step0 sD11
          replace m_mb := (sD11.mem _ (lt_of_get hW.at_)).2 m_mb
          replace hW := hW.step0 sD11
          replace hR := hR.step0 sD11
          replace hM := sD11.lt hM
          have := S.size
          replace S := S.trans0 sD11
          refine Rg.move rfl rfl ?_
          refine Rg.nil ⟨rfl, rfl, rfl, ?_⟩
          refine Rg.nilCheck rfl ⟨_, rfl⟩ rfl ?_
          refine Rg.nil ⟨rfl, rfl, rfl, ?_⟩
          refine Rg.fieldc (o' := 1) Tryz.underlying169 rfl rfl I167 (by decide) rfl rfl ?_
          refine Rg.nil ⟨rfl, rfl, rfl, ?_⟩
          refine Rg.loadc Tryz.underlying167 rfl rfl rfl (by first | assumption | exact Step.same0 sD11 (by assumption)) rfl ?_
          refine Rg.nil ⟨rfl, rfl, rfl, ?_⟩
          refine Rg.move rfl rfl ?_
          refine Rg.nil ⟨rfl, rfl, rfl, ?_⟩
          refine Rg.move rfl rfl ?_
          refine Rg.nil ⟨rfl, rfl, rfl, ?_⟩
          refine Rg.nilCheck rfl ⟨_, rfl⟩ rfl ?_
          refine Rg.nil ⟨rfl, rfl, rfl, ?_⟩
          refine Rg.fieldc (o' := 1) Tryz.underlying169 rfl rfl I167 (by decide) rfl rfl ?_
          refine Rg.nil ⟨rfl, rfl, rfl, ?_⟩
          refine Rg.loadc Tryz.underlying167 rfl rfl rfl (by first | assumption | exact Step.same0 sD11 (by assumption)) rfl ?_
          refine Rg.nil ⟨rfl, rfl, rfl, ?_⟩
          refine Rg.move rfl rfl ?_
          refine Rg.nil ⟨rfl, rfl, rfl, ?_⟩
          obtain ⟨kl, hkl⟩ := sv_key (keyE t) (by unfold keyE; simp; omega)
          refine Rg.lookupW Tryz.underlying167 strKeyed I107 rfl rfl rfl hkl hW (fun v10' hva' => ?_)
          obtain rfl : v10 = v10' := hW.val_one hva hva'
          have hpl := pkT_len hLF (tlE e) i (keyE t)
          have htl : (termsOf (tlE e)).length ≤ 500 := terms_len hF
          refine Rg.nil ⟨rfl, rfl, rfl, ?_⟩
          refine Rg.move rfl rfl ?_
          refine Rg.nil ⟨rfl, rfl, rfl, ?_⟩
          refine Rg.nilCheck rfl ⟨_, rfl⟩ rfl ?_
          refine Rg.nil ⟨rfl, rfl, rfl, ?_⟩
          refine Rg.fieldc (o' := 0) Tryz.underlying169 rfl rfl I37 (by decide) rfl rfl ?_
          refine Rg.nil ⟨rfl, rfl, rfl, ?_⟩
          refine Rg.loadc Tryz.underlying37 rfl rfl rfl (by first | assumption | exact Step.same0 sD11 (by assumption)) rfl ?_
          refine Rg.nil ⟨rfl, rfl, rfl, ?_⟩
          refine Rg.lenown Tryz.underlying37 rfl ho rfl ?_
          refine Rg.nil ⟨rfl, rfl, rfl, ?_⟩
          refine Rg.move rfl rfl ?_
          refine Rg.nil ⟨rfl, rfl, rfl, ?_⟩
          refine Rg.move rfl rfl ?_
          refine Rg.nil ⟨rfl, rfl, rfl, ?_⟩
          refine Rg.idx (M := M_9_3) Tryz.underlying171 I32 rfl rfl rfl hb6 (Le.refl _ _) (by simp; omega) (fun u18 ps hg18 hu18 => ?_)
          rw [Int.toNat_natCast, List.getElem?_map, hg9] at hg18
          obtain rfl := Option.some.inj hg18 --@ptr ((RT.int .i64).sl) ;; posOf (tlE e) t
          refine Rg.nil ⟨rfl, rfl, rfl, ?_⟩
          refine Rg.load (M := M_9_3) Tryz.underlying32 rfl rfl rfl rfl rfl hu18 (Le.refl _ _) (fun v19 hv19 => ?_)
          refine Rg.nil ⟨rfl, rfl, rfl, ?_⟩
          refine Rg.build (places := [(0, 1), (1, 1)]) Tryz.underlying153 I153 B153 rfl ⟨_, _, rfl, rfl, _, _, rfl, rfl, rfl⟩ (out := [_, _]) ⟨0, [_], rfl, rfl, by simp [Value.cells], 1, [_], rfl, V_cells hv19, by simp [Value.cells], rfl⟩ ?_
          have hpo : RT.po.V M_9_3 _ ((L.length : Int), posOf (tlE e) t) _ := V_pair_mk (V_i64 (by omega)) hv19 rfl rfl rfl rfl
          refine Rg.nil ⟨rfl, rfl, rfl, ?_⟩
          refine QRg.nil ?_
          have hov := hR.o _ _ hva
          refine ⟨Floats.all ⟨FloatOk.move, ⟨FloatOk.nilCheck rfl, ⟨FloatOk.field Tryz.underlying169 rfl I167 (by decide), ⟨FloatOk.load rfl gb (fun h => hov.neT gb (by decide) h), ⟨FloatOk.move, ⟨FloatOk.move, ⟨FloatOk.nilCheck rfl, ⟨FloatOk.field Tryz.underlying169 rfl I167 (by decide), ⟨FloatOk.load rfl gb (fun h => hov.neT gb (by decide) h), ⟨FloatOk.move, ⟨FloatOk.lookupW Tryz.underlying167 strKeyed I107 rfl rfl hkl hW (fun h => hov.notMap hW.at_ h), trivial⟩⟩⟩⟩⟩⟩⟩⟩⟩⟩⟩, ?_⟩
          have kp := Keep.refl (blk v10) wD11
          refine Rg.sl1 (A := RT.po) (hn := by decide) (M := M_9_3) Tryz.underlying107 I153 (by decide) rfl rfl hM (hpo) (.inl rfl) (fun u11_21 w11_21 hu11_21 s11_21 => ?_)
          have := lt_of_get gb
          replace m_gb := (s11_21.mem _ this).2 m_gb
          replace gb := s11_21.same0 gb
          replace hu0 := hu0.le (by decide) s11_21.le
          replace ha := ha.le s11_21.le
          replace hb6 := hb6.le s11_21.le
          replace ho := ho.step0 s11_21
          replace m_mb := (s11_21.mem _ (lt_of_get hW.at_)).2 m_mb
          replace hW := hW.step0 s11_21
          replace hR := hR.step0 s11_21
          replace hM := s11_21.lt hM
          have := S.size
          replace S := S.trans0 s11_21
          refine (fun (kp : Keep _ _ _) => Rg.nil ⟨rfl, rfl, fun _ => kp, ?_⟩) (by first | exact kp | exact kp.go0 (by assumption) | exact kp.goN (by assumption) | exact kp.go (by assumption) (fun _ _ h => by first | exact h | exact h.elim))
          refine Rg.appendF (M := M_9_3) (base := B) Tryz.underlying107 I153 rfl rfl rfl rfl (hR.o _ _ hva) hu11_21 (Le.refl _ _) (by simp; omega) (by simp; omega) (by have := S.size; omega) (fun v22 w22 ho22 s22 hF22 => ?_)
          have hov := hR.o _ _ hva
          have hat22 := hW.at_
          have hmapb : v10.ownBlock ≠ some mb := hov.notMap hW.at_
          have ho22' := ho.step s22 (fun c hc h => ho.apartT hov (by decide) hc h)
          have m_mb22 := (s22.mem _ (lt_of_get hW.at_)).2 m_mb
          have hW22 := hW.step s22 hmapb
          have gb22 := s22.keep gb (fun h => hov.neT gb (by decide) h)
          have m_gb22 := (s22.mem _ (lt_of_get gb)).2 m_gb
          have S22 := S.trans s22 (fun k hk h => ⟨hR.z _ _ k hva h, (S.mem k hk).1 (hov.mut_ k h)⟩)
          have hM22 := s22.lt hM
          replace hu0 := hu0.le (by decide) s22.le
          replace ha := ha.le s22.le
          replace hb6 := hb6.le s22.le
          refine (fun (kp : Keep _ _ _) => Rg.nil ⟨rfl, rfl, fun _ => kp, ?_⟩) (by first | exact kp | exact kp.go0 (by assumption) | exact kp.goN (by assumption) | exact kp.go (by assumption) (fun _ _ h => by first | exact h | exact h.elim))
          refine Rg.updateW Tryz.underlying167 strKeyed rfl rfl rfl hkl hW22 m_mb22 (fun w23 es23 cl23 hW23 hk23 hval23 s23 => ?_)
          have hR23 := hR.put (fun c hc => hZ c (by have := S.size; omega)) hva ho22 s22 hF22 hW22.at_ s23 hval23 hk23
          replace hu0 := hu0.le (by decide) s23.le
          replace ha := ha.le s23.le
          replace hb6 := hb6.le s23.le
          have ho23 := ho22'.step s23 (fun c hc (h : c = mb) => ho22'.notMap hW22.at_ (h ▸ hc))
          have gb23 := s23.keep gb22 nbm
          have m_gb23 := (s23.mem _ (lt_of_get gb22)).2 m_gb22
          have m_mb23 := (s23.mem _ (lt_of_get hW22.at_)).2 m_mb22
          have hM23 := s23.lt hM22
          have S23 := S22.trans s23 (fun k hk (h : k = mb) => ⟨by rw [h]; exact hBm, (S22.mem k hk).1 (by rw [h]; exact m_mb22)⟩)
          refine Rg.nil ⟨rfl, rfl, fun h => absurd rfl h, ?_⟩
          refine TRg.nil ?_
          refine T.region ?_ -- region 12
          refine Rg.iadd rfl rfl rfl (by omega) ?_
          refine Rg.move rfl rfl ?_
          refine Rg.nil ?_
          refine ⟨rfl, i + 1, (.cons rfl (.cons rfl (.cons rfl (.cons rfl (.cons rfl (.cons rfl .nil)))))), ?_, ?_⟩
          · exact ⟨_, es23, cl23, hM23, S23, hu0, ha, hb6, ⟨gb23, m_gb23, m_mb23, hB, hBm, ho23, hW23, hR23.congr (fun k => pkT_succ hg9 k) (fun k => by rw [List.take_add_one, hg9, Option.toList_some, List.map_append, List.mem_append, or_assoc]; simp), zl⟩, by omega⟩
          · omega
        · -- c8 False
          refine T.exit ?_
          refine T.seq ?_
          apply T.drawF 6 [0, 1, 2, 3, 4] 3 (blk vl) mixed rfl rfl rfl rfl -- region 13
          intro wD13 sA13
          have sD13 := sA13 M1
          have := lt_of_get gb
          replace m_gb := (sD13.mem _ this).2 m_gb
          replace gb := sD13.same0 gb
          replace hu0 := hu0.le (by decide) sD13.le
          replace ha := ha.le sD13.le
          replace hb6 := hb6.le sD13.le
          replace ho := ho.step0 sD13
          replace m_mb := (sD13.mem _ (lt_of_get hW.at_)).2 m_mb
          replace hW := hW.step0 sD13
          replace hR := hR.step0 sD13
          replace hM := sD13.lt hM
          have := S.size
          replace S := S.trans0 sD13
          refine Rg.move rfl rfl ?_
          refine Rg.nil ⟨rfl, rfl, rfl, ?_⟩
          refine Rg.move rfl rfl ?_
          refine Rg.nil ⟨rfl, rfl, rfl, ?_⟩
          refine Rg.nilCheck rfl ⟨_, rfl⟩ rfl ?_
          refine Rg.nil ⟨rfl, rfl, rfl, ?_⟩
          refine Rg.fieldc (o' := 0) Tryz.underlying169 rfl rfl I37 (by decide) rfl rfl ?_
          refine Rg.nil ⟨rfl, rfl, rfl, ?_⟩
          refine Rg.loadc Tryz.underlying37 rfl rfl rfl gb rfl ?_
          refine Rg.eqv (v' := vl) rfl ?_
          refine Rg.nil ⟨rfl, rfl, rfl, ?_⟩
          refine Rg.loadagg (M := M1) (A := RT.en) Tryz.underlying43 rfl I43 (by decide) rfl rfl rfl hu0 (Le.refl _ _) (fun v13_5 hv13_5 => ?_)
          refine Rg.nil ⟨rfl, rfl, rfl, ?_⟩
          refine QRg.nil ?_
          refine ⟨Floats.all ⟨FloatOk.move, ⟨FloatOk.move, ⟨FloatOk.nilCheck rfl, ⟨FloatOk.field Tryz.underlying169 rfl I37 (by decide), ⟨FloatOk.load rfl gb (fun h => ho.neT gb (by decide) h), trivial⟩⟩⟩⟩⟩, ?_⟩
          have kp := Keep.refl (blk vl) wD13
          refine Rg.call rfl rfl E109 (own_spec _ hM hv13_5 (by have := hF.few; omega)) (fun v13_6 w13 hc => ?_)
          obtain ⟨hv13_6, s13⟩ := hc --@step s13
          --@vf hv13_6
          have := lt_of_get gb
          replace m_gb := (s13.mem _ this).2 m_gb
          replace gb := s13.same0 gb
          replace hu0 := hu0.le (by decide) s13.le
          replace ha := ha.le s13.le
          replace hb6 := hb6.le s13.le
          replace ho := ho.step0 s13
          replace m_mb := (s13.mem _ (lt_of_get hW.at_)).2 m_mb
          replace hW := hW.step0 s13
          replace hR := hR.step0 s13
          replace hM := s13.lt hM
          have := S.size
          replace S := S.trans0 s13
          refine (fun (kp : Keep _ _ _) => Rg.nil ⟨rfl, rfl, fun _ => kp, ?_⟩) (by first | exact kp | exact kp.go0 (by assumption) | exact kp.goN (by assumption) | exact kp.go (by assumption) (fun _ _ h => by first | exact h | exact h.elim))
          refine Rg.sl1 (A := RT.en) (hn := by decide) (M := M1) Tryz.underlying37 I43 (by decide) rfl rfl hM (hv13_6) (.inl rfl) (fun u13_7 w13_7 hu13_7 s13_7 => ?_)
          have := lt_of_get gb
          replace m_gb := (s13_7.mem _ this).2 m_gb
          replace gb := s13_7.same0 gb
          replace hu0 := hu0.le (by decide) s13_7.le
          replace ha := ha.le s13_7.le
          replace hb6 := hb6.le s13_7.le
          replace hv13_6 := hv13_6.le s13_7.le
          replace ho := ho.step0 s13_7
          replace m_mb := (s13_7.mem _ (lt_of_get hW.at_)).2 m_mb
          replace hW := hW.step0 s13_7
          replace hR := hR.step0 s13_7
          replace hM := s13_7.lt hM
          have := S.size
          replace S := S.trans0 s13_7
          refine (fun (kp : Keep _ _ _) => Rg.nil ⟨rfl, rfl, fun _ => kp, ?_⟩) (by first | exact kp | exact kp.go0 (by assumption) | exact kp.goN (by assumption) | exact kp.go (by assumption) (fun _ _ h => by first | exact h | exact h.elim))
          refine Rg.appendF (M := M1) (base := B) Tryz.underlying37 I43 rfl rfl rfl rfl ho hu13_7 (Le.refl _ _) (by simp; omega) (by simp; omega) (by have := S.size; omega) (fun u13_8 w13_8 ho13_8 s13_8 hF13 => ?_)
          replace m_gb := (s13_8.mem _ (lt_of_get gb)).2 m_gb
          have zl' : ∀ c, u13_8.ownBlock = some c → Z c := fun c hc => by
            rcases hF13 c hc with h | h
            · exact hZ c (by have := S.size; omega)
            · exact zl c h
          replace hR := hR.step s13_8 (fun k v c hv hc h => (hR.o k v hv).apartT ho (by decide) hc h)
          replace m_mb := (s13_8.mem _ (lt_of_get hW.at_)).2 m_mb
          replace hW := hW.step s13_8 (fun h => ho.notMap hW.at_ h)
          replace gb := s13_8.keep gb (fun h => ho.neT gb (by decide) h)
          replace hu0 := hu0.le (by decide) s13_8.le
          replace S := S.trans s13_8 (fun k hk h => ⟨zl k h, (S.mem k hk).1 (ho.mut_ k h)⟩)
          replace hM := s13_8.lt hM
          replace ho := ho13_8
          obtain ⟨M13, eM13⟩ : ∃ M', M' = insV M1 u13_8 := ⟨_, rfl⟩
          rw [← eM13] at hR m_mb hu0 S hM ho m_gb
          --@M M13
          --@drop ha hb6 hv13_6 hu13_7
          refine (fun (kp : Keep _ _ _) => Rg.nil ⟨rfl, rfl, fun _ => kp, ?_⟩) (by first | exact kp | exact kp.go0 (by assumption) | exact kp.goN (by assumption) | exact kp.go (by assumption) (fun _ _ h => by first | exact h | exact h.elim))
          refine Rg.nilCheck rfl ⟨_, rfl⟩ rfl ?_
          refine Rg.nil ⟨rfl, rfl, fun h => absurd rfl h, ?_⟩
          refine Rg.fieldc (o' := 0) Tryz.underlying169 rfl rfl I37 (by decide) rfl rfl ?_
          refine Rg.nil ⟨rfl, rfl, fun h => absurd rfl h, ?_⟩
          refine Rg.storec (M := M13) I37 rfl rfl gb rfl (by obtain ⟨_, _, he, _⟩ := ho.isSlice; rw [he]; rfl) m_gb (fun w13_11 g13_11 s13_11 => ?_)
          change w13_11.heap[_]? = some (Obj.cells #[u13_8, .map (some mb), .int .i64 words, .int .i64 last] _ _) at g13_11
          have := lt_of_get gb
          replace m_gb := (s13_11.mem _ this).2 m_gb
          replace hu0 := hu0.le (by decide) s13_11.le
          replace ho := ho.step s13_11 (fun c hc (h : _ = _) => by first | exact ho.neT gb (by decide) (h ▸ hc) | exact ho.neT g9_3 (by decide) (h ▸ hc))
          replace m_mb := (s13_11.mem _ (lt_of_get hW.at_)).2 m_mb
          replace hW := hW.step s13_11 (by first | exact fun h => ho.notMap hW.at_ h | exact fun (h : mb = b) => nbm h.symm | exact fun (h : mb = b9_3) => by have h9 := hW.at_; rw [h, g9_3] at h9; cases h9)
          replace hR := hR.step s13_11 (by first | exact fun k v c hv hc h => (hR.o k v hv).apartT ho (by decide) hc h | exact fun k v c hv hc (h : c = b) => (hR.o k v hv).neT gb (by decide) (h ▸ hc) | exact fun k v c hv hc (h : c = b9_3) => (hR.o k v hv).neT g9_3 (by decide) (h ▸ hc))
          replace hM := s13_11.lt hM
          have := S.size
          replace S := S.trans s13_11 (fun k hk h => by have h : _ = _ := h; subst h; first | (exfalso; omega) | (show _ ≤ _; omega) | exact ⟨by first | omega | assumption, (S.mem _ hk).1 ((s13_11.mem _ (lt_of_get gb)).1 m_gb)⟩ | exact .inl rfl | exact .inr rfl | exact .inr (.inl rfl) | exact .inr (.inr rfl) | exact rfl)
          have gb_ := g13_11
          clear gb
          have gb := gb_
          clear gb_
          refine Rg.nil ⟨rfl, rfl, fun h => absurd rfl h, ?_⟩
          refine TRg.nil ?_
          refine T.seq ?_
          apply T.drawF 6 [0, 1, 2, 3] 1 none' mixed rfl rfl rfl rfl -- region 14
          intro wD14 sA14
          have sD14 := sA14 M13
          have := lt_of_get gb
          replace m_gb := (sD14.mem _ this).2 m_gb
          replace gb := sD14.same0 gb
          replace hu0 := hu0.le (by decide) sD14.le
          replace ho := ho.step0 sD14
          replace m_mb := (sD14.mem _ (lt_of_get hW.at_)).2 m_mb
          replace hW := hW.step0 sD14
          replace hR := hR.step0 sD14
          replace hM := sD14.lt hM
          have := S.size
          replace S := S.trans0 sD14
          refine Rg.move rfl rfl ?_
          refine Rg.nil ⟨rfl, rfl, rfl, ?_⟩
          refine Rg.nilCheck rfl ⟨_, rfl⟩ rfl ?_
          refine Rg.nil ⟨rfl, rfl, rfl, ?_⟩
          refine Rg.fieldc (o' := 2) Tryz.underlying169 rfl rfl I3 (by decide) rfl rfl ?_
          refine Rg.nil ⟨rfl, rfl, rfl, ?_⟩
          refine Rg.loadc Tryz.underlying3 rfl rfl rfl (by first | assumption | exact Step.same0 sD14 (by assumption)) rfl ?_
          refine Rg.nil ⟨rfl, rfl, rfl, ?_⟩
          refine Rg.fieldAddr (M := M13) (A := RT.en) (B := RT.dc) Tryz.underlying43 rfl rfl I41 (by decide) en0 rfl rfl (by decide) hu0 (Le.refl _ _) (fun u14_4 hu14_4 => ?_) --@ptr RT.dc ;; e.1
          refine Rg.nil ⟨rfl, rfl, rfl, ?_⟩
          refine Rg.loadagg (M := M13) (A := RT.dc) Tryz.underlying41 rfl I41 (by decide) rfl rfl rfl hu14_4 (Le.refl _ _) (fun v14_5 hv14_5 => ?_)
          refine Rg.nil ⟨rfl, rfl, rfl, ?_⟩
          refine QRg.nil ?_
          refine ⟨Floats.all ⟨FloatOk.move, ⟨FloatOk.nilCheck rfl, ⟨FloatOk.field Tryz.underlying169 rfl I3 (by decide), ⟨FloatOk.load rfl gb (fun h => h), trivial⟩⟩⟩⟩, ?_⟩
          have kp := Keep.refl none' wD14
          refine Rg.call rfl rfl E110 (weight_spec _ hM hv14_5 hl hF.few) (fun r14 w14 hc => ?_)
          obtain ⟨rfl, s14⟩ := hc --@step s14
          have := lt_of_get gb
          replace m_gb := (s14.mem _ this).2 m_gb
          replace gb := s14.same0 gb
          replace hu0 := hu0.le (by decide) s14.le
          replace ho := ho.step0 s14
          replace m_mb := (s14.mem _ (lt_of_get hW.at_)).2 m_mb
          replace hW := hW.step0 s14
          replace hR := hR.step0 s14
          replace hM := s14.lt hM
          have := S.size
          replace S := S.trans0 s14
          refine (fun (kp : Keep _ _ _) => Rg.nil ⟨rfl, rfl, fun _ => kp, ?_⟩) (by first | exact kp | exact kp.go0 (by assumption) | exact kp.goN (by assumption) | exact kp.go (by assumption) (fun _ _ h => by first | exact h | exact h.elim))
          have := hF.many
          refine Rg.iadd rfl rfl rfl (by omega) ?_
          refine Rg.nil ⟨rfl, rfl, fun h => absurd rfl h, ?_⟩
          refine Rg.nilCheck rfl ⟨_, rfl⟩ rfl ?_
          refine Rg.nil ⟨rfl, rfl, fun h => absurd rfl h, ?_⟩
          refine Rg.fieldc (o' := 2) Tryz.underlying169 rfl rfl I3 (by decide) rfl rfl ?_
          refine Rg.nil ⟨rfl, rfl, fun h => absurd rfl h, ?_⟩
          refine Rg.storec (M := M13) I3 rfl rfl gb rfl (rfl) m_gb (fun w14_10 g14_10 s14_10 => ?_)
          change w14_10.heap[_]? = some (Obj.cells #[u13_8, .map (some mb), .int .i64 (words + ((tlE e).length : Int)), .int .i64 last] _ _) at g14_10
          have := lt_of_get gb
          replace m_gb := (s14_10.mem _ this).2 m_gb
          replace hu0 := hu0.le (by decide) s14_10.le
          replace ho := ho.step s14_10 (fun c hc (h : _ = _) => by first | exact ho.neT gb (by decide) (h ▸ hc) | exact ho.neT g9_3 (by decide) (h ▸ hc))
          replace m_mb := (s14_10.mem _ (lt_of_get hW.at_)).2 m_mb
          replace hW := hW.step s14_10 (by first | exact fun h => ho.notMap hW.at_ h | exact fun (h : mb = b) => nbm h.symm | exact fun (h : mb = b9_3) => by have h9 := hW.at_; rw [h, g9_3] at h9; cases h9)
          replace hR := hR.step s14_10 (by first | exact fun k v c hv hc h => (hR.o k v hv).apartT ho (by decide) hc h | exact fun k v c hv hc (h : c = b) => (hR.o k v hv).neT gb (by decide) (h ▸ hc) | exact fun k v c hv hc (h : c = b9_3) => (hR.o k v hv).neT g9_3 (by decide) (h ▸ hc))
          replace hM := s14_10.lt hM
          have := S.size
          replace S := S.trans s14_10 (fun k hk h => by have h : _ = _ := h; subst h; first | (exfalso; omega) | (show _ ≤ _; omega) | exact ⟨by first | omega | assumption, (S.mem _ hk).1 ((s14_10.mem _ (lt_of_get gb)).1 m_gb)⟩ | exact .inl rfl | exact .inr rfl | exact .inr (.inl rfl) | exact .inr (.inr rfl) | exact rfl)
          have gb_ := g14_10
          clear gb
          have gb := gb_
          clear gb_
          refine Rg.nil ⟨rfl, rfl, fun h => absurd rfl h, ?_⟩
          refine TRg.nil ?_
          refine T.seq ?_
          refine T.region ?_ -- region 15
          refine Rg.move rfl rfl ?_
          refine Rg.fieldAddr (M := M13) (A := RT.en) (B := RT.int .i64) Tryz.underlying43 rfl rfl I3 (by decide) en1 rfl rfl (by decide) hu0 (Le.refl _ _) (fun u15_1 hu15_1 => ?_) --@ptr RT.int .i64 ;; e.2
          refine Rg.loadi64 (M := M13) Tryz.underlying3 rfl rfl (by assumption) (by repeat (first | exact Le.refl _ _ | refine Le.trans (Step.le (by assumption)) ?_)) (fun in15_2 => ?_)
          refine Rg.eqv (v' := .int .i64 (e.2)) rfl ?_
          replace in15_2 : -9223372036854775808 ≤ (e.2 : Int) ∧ e.2 ≤ 9223372036854775807 := in15_2
          refine Rg.nilCheck rfl ⟨_, rfl⟩ rfl ?_
          refine Rg.fieldc (o' := 3) Tryz.underlying169 rfl rfl I3 (by decide) rfl rfl ?_
          refine Rg.storec (M := M13) I3 rfl rfl gb rfl (rfl) m_gb (fun w15_5 g15_5 s15_5 => ?_)
          change w15_5.heap[_]? = some (Obj.cells #[u13_8, .map (some mb), .int .i64 (words + ((tlE e).length : Int)), .int .i64 e.2] _ _) at g15_5
          have := lt_of_get gb
          replace m_gb := (s15_5.mem _ this).2 m_gb
          replace hu0 := hu0.le (by decide) s15_5.le
          replace ho := ho.step s15_5 (fun c hc (h : _ = _) => by first | exact ho.neT gb (by decide) (h ▸ hc) | exact ho.neT g9_3 (by decide) (h ▸ hc))
          replace m_mb := (s15_5.mem _ (lt_of_get hW.at_)).2 m_mb
          replace hW := hW.step s15_5 (by first | exact fun h => ho.notMap hW.at_ h | exact fun (h : mb = b) => nbm h.symm | exact fun (h : mb = b9_3) => by have h9 := hW.at_; rw [h, g9_3] at h9; cases h9)
          replace hR := hR.step s15_5 (by first | exact fun k v c hv hc h => (hR.o k v hv).apartT ho (by decide) hc h | exact fun k v c hv hc (h : c = b) => (hR.o k v hv).neT gb (by decide) (h ▸ hc) | exact fun k v c hv hc (h : c = b9_3) => (hR.o k v hv).neT g9_3 (by decide) (h ▸ hc))
          replace hM := s15_5.lt hM
          have := S.size
          replace S := S.trans s15_5 (fun k hk h => by have h : _ = _ := h; subst h; first | (exfalso; omega) | (show _ ≤ _; omega) | exact ⟨by first | omega | assumption, (S.mem _ hk).1 ((s15_5.mem _ (lt_of_get gb)).1 m_gb)⟩ | exact .inl rfl | exact .inr rfl | exact .inr (.inl rfl) | exact .inr (.inr rfl) | exact rfl)
          have gb_ := g15_5
          clear gb
          have gb := gb_
          clear gb_
          refine Rg.nil ?_
          refine T.seq ?_
          refine T.region ?_ -- region 16
          refine Rg.assign rfl rfl ?_
          refine Rg.nil ?_
          refine T.ret ?_
          have ea : addE last e = 0 := by unfold addE; rw [if_neg (fun h => h (by simpa using c2)), if_neg c4]
          exact Kret1 rfl rfl ⟨_, hM, S, by rw [ea], fun h => absurd ea h, fun _ => ⟨mb, _, es, clock, gb, m_gb, m_mb, hB, hBm, ho, hW, hR.congr (fun k => (pkT_all (by omega) k).symm) (fun k => by rw [keysL_snoc, List.mem_append, List.take_of_length_le (by omega)]), zl'⟩⟩
end Go.K
namespace Go.K
open Go.Proofs
namespace TKBldE
theorem I107 : TI Tryz.prog 107 (.slice none 0 0) 1 24 := by unfold TI; kernel_rfl -- []api.Posting
theorem I167 : TI Tryz.prog 167 (.map none) 1 8 := by unfold TI; kernel_rfl -- map[string][]api.Posting
theorem E63 : Enters Tryz.prog 63 := enters Tryz.func63 rfl (by decide) -- slices.Clone[[]int,int]
theorem E111 : Enters Tryz.prog 111 := enters Tryz.func111 rfl (by decide) -- slices.Sorted[string]
theorem E112 : Enters Tryz.prog 112 := enters Tryz.func112 rfl (by decide) -- maps.Keys[map[string][]concordance/api.Posting,string,[]concordance/api.Posting]
end TKBldE
open TKBldE
set_option linter.unusedVariables false
set_option linter.unusedSimpArgs false
set_option maxRecDepth 10000
theorem MapW.keysS {P : Program} {kt : TypeId} {w : World} {b clock : Nat} {es : List MapEntry} (hk : P.underlying kt = some .string) (h : MapW P kt w b es clock) : ∃ ks : List (List UInt8), es.map (·.key) = ks.map sv ∧ ks.Nodup := by
  have key : ∀ es : List MapEntry, (∀ e ∈ es, ∃ l, keyOf P kt e.key = some l) → ∃ ks : List (List UInt8), es.map (·.key) = ks.map sv := by
    intro es
    induction es with
    | nil => exact fun _ => ⟨[], rfl⟩
    | cons e es ih =>
      intro h
      obtain ⟨ks, h1⟩ := ih fun x hx => h x (List.mem_cons_of_mem _ hx)
      obtain ⟨l, hl⟩ := h e (List.mem_cons_self ..)
      obtain ⟨x, h3, _, h4⟩ := Maps.keyOf_str hk hl
      exact ⟨x :: ks, by simp only [List.map_cons, h1, h3]⟩
  obtain ⟨ks, h1⟩ := key es h.ok
  refine ⟨ks, h1, ?_⟩
  have h3 := List.pairwise_map.2 h.keys
  rw [h1] at h3
  exact (List.pairwise_map.1 h3).imp fun h e => h (by rw [e])
theorem allR_str {M : PSet} {w : World} : ∀ {l : List (List UInt8)}, (∀ x ∈ l, x.length ≤ 140737488355328) → AllR RT.str M w l (l.map Go.Proofs.encStr)
  | [], _ => rfl
  | x :: l, h => ⟨[.string ⟨x.toArray⟩], _, rfl, ⟨rfl, h x (List.mem_cons_self ..)⟩, allR_str fun y hy => h y (List.mem_cons_of_mem _ hy)⟩
theorem str_free (M : PSet) (w : World) (M' : PSet) (w' : World) (x : List UInt8) (vs : List Value) (h : RT.str.R M w x vs) : RT.str.R M' w' x vs := h
theorem keysL_small {L : List En} (hF : ∀ x ∈ L, Fine x.1) : ∀ k ∈ keysL L, k.length ≤ 43 := fun k hk => by
  obtain ⟨e, he, h1⟩ := List.mem_flatMap.1 hk
  obtain ⟨t, ht, rfl⟩ := List.mem_map.1 h1
  have := (hF e he).term ht
  unfold keyE; simp; omega
theorem keysL_len {L : List En} (hF : ∀ x ∈ L, Fine x.1) : (keysL L).length ≤ 500 * L.length := by
  induction L with
  | nil => simp [keysL]
  | cons e L ih =>
    have h1 := ih fun x hx => hF x (List.mem_cons_of_mem _ hx)
    have h2 := terms_len (hF e (List.mem_cons_self ..))
    show ((termsOf (tlE e)).map keyE ++ keysL L).length ≤ _
    rw [List.length_append, List.length_map, List.length_cons]
    have h2 : (termsOf (tlE e)).length ≤ 500 := h2
    omega
/-- '(*concordance/buffer.Buffer).Keys' -/
theorem bkeys_spec {Z M : PSet} {B b : Nat} {L : List En} {words last : Int} (w0 : World) (hM : Lt M w0) (hb : BufE Z M w0 B b L words last) (hF : ∀ x ∈ L, Fine x.1) (hLn : L.length ≤ 1000000) :
    Spec Tryz.prog 58 #[.pointer (some ⟨b, 0, none⟩)] w0 (fun v w => (RT.str.sl).V M w (keysOf L) v ∧ Step M w0 M w none') := by
  obtain ⟨mb, vl, es, clock, gb, m_gb, m_mb, hB, hBm, ho, hW, hR, zl⟩ := hb
  obtain ⟨ks, hks, hnd⟩ := hW.keysS Tryz.underlying9
  have hmem : ∀ x, x ∈ ks ↔ x ∈ keysL L := fun x => by
    rw [← hR.k x]
    constructor
    · intro hx
      have : sv x ∈ es.map (·.key) := by rw [hks]; exact List.mem_map_of_mem hx
      obtain ⟨e, he, h⟩ := List.mem_map.1 this
      exact ⟨e, he, h⟩
    · rintro ⟨e, he, h⟩
      have : sv x ∈ ks.map sv := by rw [← hks, ← h]; exact List.mem_map_of_mem he
      obtain ⟨y, hy, h1⟩ := List.mem_map.1 this
      rw [← sv_inj h1]; exact hy
  have hkn : ks.length ≤ 500000000 := by
    have h1 := hnd.length_le_of_subset (l₂ := keysL L) (fun x hx => (hmem x).1 hx)
    have h2 := keysL_len hF
    omega
  have hen : es.length = ks.length := by have := congrArg List.length hks; simpa using this
  refine spec_of (args := [_]) (fn := Tryz.f58) Tryz.func58 rfl (n := 9) Tryz.ntmps58 ?_
  have S : Step M w0 M w0 none' := (Step.refl _ _).widen (fun _ h => h.elim) (fun _ h => h.elim)
  refine T.seq ?_
  refine T.region ?_ -- region 0
  refine Rg.assign rfl rfl ?_
  refine Rg.nil ?_
  refine T.seq ?_
  refine T.region ?_ -- region 1
  refine Rg.move rfl rfl ?_
  refine Rg.nilCheck rfl ⟨_, rfl⟩ rfl ?_
  refine Rg.fieldc (o' := 1) Tryz.underlying169 rfl rfl I167 (by decide) rfl rfl ?_
  refine Rg.loadc Tryz.underlying167 rfl rfl rfl gb rfl ?_
  refine Rg.eqv (v' := .map (some mb)) rfl ?_
  refine Rg.call rfl rfl E112 (keysS_spec _ _) (fun r w1 hc => ?_)
  obtain ⟨rfl, hw1⟩ := hc 
  have s1 : Step M w0 M w1 none' := by rw [hw1]; exact step_alloc _ w0 _
  have hbb := cell_of_alloc hw1 --@step s1
  have := lt_of_get gb
  replace m_gb := (s1.mem _ this).2 m_gb
  replace gb := s1.same0 gb
  replace m_mb := (s1.mem _ (lt_of_get hW.at_)).2 m_mb
  replace hW := hW.step0 s1
  replace hM := s1.lt hM
  have := S.size
  replace S := S.trans0 s1
  obtain ⟨m, hO, hperm, hml⟩ := hW.mapO Tryz.underlying9 m_mb (by unfold maxLen; omega) ks hks
  refine Rg.call rfl rfl E111 (sortedS_spec hO hbb (by omega)) (fun r2 w2 hc => ?_)
  obtain ⟨⟨ss, hss, hrow, _⟩, s2⟩ := hc 
  have hsp : ss.Perm ks := hss.trans hperm
  have hmp := List.mergeSort_perm ss fun x y => decide (x ≤ y)
  have hkeys : (ss.mergeSort fun x y => decide (x ≤ y)) = keysOf L := up_one (up_sorted (hsp.nodup_iff.2 hnd)) (keys_up L) fun x => by rw [hmp.mem_iff, hsp.mem_iff, hmem, keys_mem]
  have hlen : ss.length = (keysOf L).length := by rw [← hkeys, List.length_mergeSort]
  rw [hkeys, hlen] at hrow
  have hkl2 : ∀ x ∈ keysOf L, x.length ≤ 140737488355328 := fun x hx => by have := keysL_small hF x (keys_mem.1 hx); omega
  have hown : Own RT.str 9 (blkM r2) w2 w1.heap.size r2 (keysOf L) := ⟨⟨_, hrow, allR_str hkl2⟩, fun b hb => hb⟩
  have hv2 : (RT.str.sl).V M w2 (keysOf L) r2 := hown.tell str_free (fun b hb h => by have := (hown.base b hb).1; have := hM b h; omega) (by have := hsp.length_eq; omega) --@step s2
  have := lt_of_get gb
  replace m_gb := (s2.mem _ this).2 m_gb
  replace gb := s2.same0 gb
  replace m_mb := (s2.mem _ (lt_of_get hW.at_)).2 m_mb
  replace hW := hW.step0 s2
  replace hM := s2.lt hM
  have := S.size
  replace S := S.trans0 s2
  refine Rg.assign rfl rfl ?_
  refine Rg.nil ?_
  refine T.ret ?_
  exact Kret1 rfl rfl ⟨hv2, S⟩
/-- '(*concordance/buffer.Buffer).Postings' -/
theorem bpost_spec {Z M : PSet} {B b : Nat} {L : List En} {words last : Int} {k : List UInt8} (w0 : World) (hM : Lt M w0) (hb : BufE Z M w0 B b L words last) (hF : ∀ x ∈ L, Fine x.1) (hLn : L.length ≤ 1000000) (hkl : k.length ≤ 140737488355328) :
    Spec Tryz.prog 59 #[.pointer (some ⟨b, 0, none⟩), sv k] w0 (fun v w => (RT.po.sl).V M w (pk L k) v ∧ Step M w0 M w none') := by
  have hM0 := hM
  obtain ⟨mb, vl, es, clock, gb, m_gb, m_mb, hB, hBm, ho, hW, hR, zl⟩ := hb
  obtain ⟨kl, hkk⟩ := sv_key k hkl
  obtain ⟨hpl, hpa⟩ := pkF_at k L 0 hF
  replace hpl : (pk L k).length ≤ L.length := hpl
  replace hpa : ∀ p ∈ pk L k, _ := hpa
  refine spec_of (args := [_, _]) (fn := Tryz.f59) Tryz.func59 rfl (n := 30) Tryz.ntmps59 ?_
  have S : Step M w0 M w0 none' := (Step.refl _ _).widen (fun _ h => h.elim) (fun _ h => h.elim)
  refine T.seq ?_
  refine T.region ?_ -- region 0
  refine Rg.assign rfl rfl ?_
  refine Rg.nil ?_
  refine T.seq ?_
  refine T.region ?_ -- region 1
  refine Rg.assign rfl rfl ?_
  refine Rg.nil ?_
  refine T.seq ?_
  refine T.seq ?_
  refine T.region ?_ -- region 2
  refine Rg.move rfl rfl ?_
  refine Rg.nilCheck rfl ⟨_, rfl⟩ rfl ?_
  refine Rg.fieldc (o' := 1) Tryz.underlying169 rfl rfl I167 (by decide) rfl rfl ?_
  refine Rg.loadc Tryz.underlying167 rfl rfl rfl gb rfl ?_
  refine Rg.eqv (v' := .map (some mb)) rfl ?_
  refine Rg.move rfl rfl ?_
  refine Rg.lookupW Tryz.underlying167 strKeyed I107 rfl rfl rfl hkk hW (fun v13 hva => ?_)
  have hov := hR.o _ _ hva
  have hvb : ∀ c, v13.ownBlock = some c → c < w0.heap.size := fun c hc => (hov.base c hc).2
  clear hR hW ho --@fact2 hov ;; hov.step0 @s ;; hov.step @s (fun c hc h => by have := hvb c hc; have := (hu.base c h).1; omega)
  --@drop gb
  refine Rg.lenown Tryz.underlying107 rfl hov rfl ?_
  refine Rg.move rfl rfl ?_
  refine Rg.nil ?_
  refine T.block ?_
  refine T.loop (σ := Nat × Value) (fun q => [(5, q.2), (13, v13), (14, .int .i64 ((pk L k).length : Int)), (15, .int .i64 (q.1 : Int))]) (fun q w => ∃ M', Lt M' w ∧ Step M w0 M' w none' ∧ Own RT.po 153 M' w w0.heap.size q.2 ((pk L k).take q.1) ∧ Own RT.po 153 M' w B v13 (pk L k) ∧ q.1 ≤ (pk L k).length) (fun q => (pk L k).length - q.1) (0, .slice none 0 0) (.cons rfl (.cons rfl (.cons rfl (.cons rfl .nil)))) ?_ ?_ -- loop 0
  · exact ⟨M, hM, S, Own.nil _ _ _ _ _, hov, Nat.zero_le _⟩
  · clear hM S hov
    rintro ⟨i, u⟩ w ⟨M1, hM, S, hu, hov, hi⟩
    dsimp only at hu hi ⊢
    refine T.seq ?_
    refine T.region ?_ -- region 3
    refine Rg.ilt rfl rfl rfl ?_
    refine Rg.nil ?_
    refine T.seq ?_
    refine T.ifp rfl (fun c3 => ?_) (fun c3 => ?_)
    · -- c3 True
      refine T.skip ?_
      refine T.seq ?_
      refine T.block ?_
      refine T.seq ?_
      refine T.region ?_ -- region 4
      refine Rg.idxO Tryz.underlying107 I153 (by decide) rfl rfl rfl hov (by omega) (fun u4 p hg4 hu4 => ?_)
      rw [Int.toNat_natCast] at hg4
      have hp := hpa p (List.mem_of_getElem? hg4)
      refine Rg.loadaggO (A := RT.po) Tryz.underlying153 rfl I153 rfl rfl rfl hu4 (fun v4 hv4 => ?_)
      refine Rg.newagg (A := RT.po) (M := M1) I153 rfl rfl rfl rfl rfl (by assumption) (Le.refl _ _) hM (fun u4_2 w4_2 hu4_2 s4_2 z4_2 => ?_)
      replace hu := hu.step0 s4_2
      replace hov := hov.step0 s4_2
      replace hM := s4_2.lt hM
      have := S.size
      replace S := S.trans0 s4_2
      refine Rg.nil ?_
      apply T.drawF 5 [0, 1, 2] 3 none' mixed rfl rfl rfl rfl -- region 5
      intro wD5 sA5
      have sD5 := sA5 M1
      replace hu4_2 := hu4_2.le (by decide) sD5.le
      replace hu := hu.step0 sD5
      replace hov := hov.step0 sD5
      replace hM := sD5.lt hM
      have := S.size
      replace S := S.trans0 sD5
      refine Rg.move rfl rfl ?_
      refine Rg.nil ⟨rfl, rfl, rfl, ?_⟩
      refine Rg.fieldAddr (M := M1) (A := RT.po) (B := RT.int .i64) Tryz.underlying153 rfl rfl I3 (by decide) (po0) rfl rfl (by decide) (by assumption) (by repeat (first | exact Le.refl _ _ | refine Le.trans (Step.le (by assumption)) ?_)) (fun u5_1 hu5_1 => ?_)
      refine Rg.nil ⟨rfl, rfl, rfl, ?_⟩
      refine Rg.loadi64 (M := M1) Tryz.underlying3 rfl rfl (by assumption) (by repeat (first | exact Le.refl _ _ | refine Le.trans (Step.le (by assumption)) ?_)) (fun in5_2 => ?_)
      refine Rg.nil ⟨rfl, rfl, rfl, ?_⟩
      refine Rg.fieldAddr (M := M1) (A := RT.po) (B := (RT.int .i64).sl) Tryz.underlying153 rfl rfl I32 (by decide) (po1) rfl rfl (by decide) (by assumption) (by repeat (first | exact Le.refl _ _ | refine Le.trans (Step.le (by assumption)) ?_)) (fun u5_3 hu5_3 => ?_)
      refine Rg.nil ⟨rfl, rfl, rfl, ?_⟩
      refine Rg.load (M := M1) Tryz.underlying32 rfl rfl rfl rfl rfl (by assumption) (by repeat (first | exact Le.refl _ _ | refine Le.trans (Step.le (by assumption)) ?_)) (fun v5_4 hv5_4 => ?_)
      refine Rg.nil ⟨rfl, rfl, rfl, ?_⟩
      refine QRg.nil ?_
      obtain ⟨bb, oo, cs, ee, fr, rfl, hcell, _⟩ := hu5_1.float
      refine ⟨Floats.all ⟨FloatOk.move, ⟨FloatOk.field Tryz.underlying153 rfl I3 (by decide), ⟨FloatOk.load rfl hcell (fun h => h), trivial⟩⟩⟩, ?_⟩
      have kp := Keep.refl none' wD5
      refine Rg.call rfl rfl E63 (cloneInt hM hv5_4 (by omega)) (fun v5 w5 hc => ?_)
      obtain ⟨hv5, s5⟩ := hc --@step s5
      --@vf hv5
      replace hu4_2 := hu4_2.le (by decide) s5.le
      replace hu := hu.step0 s5
      replace hov := hov.step0 s5
      replace hM := s5.lt hM
      have := S.size
      replace S := S.trans0 s5
      refine (fun (kp : Keep _ _ _) => Rg.nil ⟨rfl, rfl, fun _ => kp, ?_⟩) (by first | exact kp | exact kp.go0 (by assumption) | exact kp.goN (by assumption) | exact kp.go (by assumption) (fun _ _ h => by first | exact h | exact h.elim))
      refine Rg.build (places := [(0, 1), (1, 1)]) Tryz.underlying153 I153 B153 rfl ⟨_, _, rfl, rfl, _, _, rfl, rfl, rfl⟩ (out := [_, _]) ⟨0, [_], rfl, rfl, by simp [Value.cells], 1, [_], rfl, V_cells hv5, by simp [Value.cells], rfl⟩ ?_
      have hpo : RT.po.V M1 _ p _ := V_pair_mk (V_i64 in5_2) hv5 rfl rfl rfl rfl
      refine (fun (kp : Keep _ _ _) => Rg.nil ⟨rfl, rfl, fun _ => kp, ?_⟩) (by first | exact kp | exact kp.go0 (by assumption) | exact kp.goN (by assumption) | exact kp.go (by assumption) (fun _ _ h => by first | exact h | exact h.elim))
      refine Rg.sl1 (A := RT.po) (hn := by decide) (M := M1) Tryz.underlying107 I153 (by decide) rfl rfl hM (hpo) (.inl rfl) (fun u5_7 w5_7 hu5_7 s5_7 => ?_)
      replace hu4_2 := hu4_2.le (by decide) s5_7.le
      replace hv5 := hv5.le s5_7.le
      replace hu := hu.step0 s5_7
      replace hov := hov.step0 s5_7
      replace hM := s5_7.lt hM
      have := S.size
      replace S := S.trans0 s5_7
      refine (fun (kp : Keep _ _ _) => Rg.nil ⟨rfl, rfl, fun _ => kp, ?_⟩) (by first | exact kp | exact kp.go0 (by assumption) | exact kp.goN (by assumption) | exact kp.go (by assumption) (fun _ _ h => by first | exact h | exact h.elim))
      refine Rg.append (M := M1) (base := w0.heap.size) Tryz.underlying107 I153 rfl rfl rfl rfl hu hu5_7 (Le.refl _ _) (by simp; omega) (by simp; omega) (S.size) (fun u5_8 M5_8 w5_8 ho5_8 s5_8 => ?_)
      replace hu4_2 := hu4_2.le (by decide) s5_8.le
      replace hv5 := hv5.le s5_8.le
      replace hu5_7 := hu5_7.le s5_8.le
      replace hov := hov.step s5_8 (fun c hc h => by have := hvb c hc; have := (hu.base c h).1; omega)
      replace hM := s5_8.lt hM
      have := S.size
      replace S := S.transBlk s5_8 hu (Nat.le_refl _)
      replace hu := ho5_8
      refine Rg.nil ⟨rfl, rfl, fun h => absurd rfl h, ?_⟩
      refine Rg.assign rfl rfl ?_
      refine Rg.nil ⟨rfl, rfl, fun h => absurd rfl h, ?_⟩
      refine TRg.nil ?_
      refine T.region ?_ -- region 6
      refine Rg.iadd rfl rfl rfl (by omega) ?_
      refine Rg.move rfl rfl ?_
      refine Rg.nil ?_
      refine ⟨rfl, (i + 1, u5_8), (.cons rfl (.cons rfl (.cons rfl (.cons rfl .nil)))), ?_, ?_⟩
      · exact ⟨M5_8, hM, S, by rw [List.take_add_one, hg4, Option.toList_some]; exact hu, hov, by dsimp only; omega⟩
      · dsimp only; omega
    · -- c3 False
      refine T.exit ?_
      refine T.seq ?_
      refine T.region ?_ -- region 7
      refine Rg.move rfl rfl ?_
      refine Rg.assign rfl rfl ?_
      refine Rg.nil ?_
      refine T.ret ?_
      rw [List.take_of_length_le (by omega)] at hu
      exact Kret1 rfl rfl ⟨hu.close hM0 S (by omega), S.back⟩
end Go.K
namespace Go.K
open Go.Proofs
namespace TKBldF
theorem I190 : TI Tryz.prog 190 (.agg #[(.slice none 0 0), (.slice none 0 0)]) 2 48 := by unfold TI; kernel_rfl -- dict.Dict[*concordance/posting.List]
theorem B190 : placesOf Tryz.prog 190 = [(0, 1), (1, 1)].map some := by kernel_rfl
theorem E176 : Enters Tryz.prog 176 := enters Tryz.func176 rfl (by decide) -- concordance/dict.rises
theorem E177 : Enters Tryz.prog 177 := enters Tryz.func177 rfl (by decide) -- slices.Clone[[]string,string]
theorem E178 : Enters Tryz.prog 178 := enters Tryz.func178 rfl (by decide) -- slices.Clone[[]*concordance/posting.List,*concordance/posting.List]
end TKBldF
open TKBldF
set_option linter.unusedVariables false
set_option linter.unusedSimpArgs false
set_option maxRecDepth 10000
/-- do texts rise, behind one that there may be? -/
def upB : Option (List UInt8) → List (List UInt8) → Bool
  | _, [] => true
  | o, x :: l => (match o with | none => true | some a => decide (a < x)) && upB (some x) l
theorem upB_drop {l : List (List UInt8)} {k : Nat} {x : List UInt8} (h : l[k]? = some x) (o : Option (List UInt8)) : upB o (l.drop k) = ((match o with | none => true | some a => decide (a < x)) && upB (some x) (l.drop (k + 1))) := by
  obtain ⟨hlt, he⟩ := List.getElem?_eq_some_iff.1 h
  rw [List.drop_eq_getElem_cons hlt, he]; rfl
theorem upB_some {a : List UInt8} : ∀ {l : List (List UInt8)}, UpT (a :: l) → upB (some a) l = true
  | [], _ => rfl
  | x :: l, h => by
    have h' := List.pairwise_cons.1 h
    simp only [upB, Bool.and_eq_true, decide_eq_true_eq]
    exact ⟨h'.1 x (List.mem_cons_self ..), upB_some h'.2⟩
theorem upB_up : ∀ {l : List (List UInt8)}, UpT l → upB none l = true
  | [], _ => rfl
  | x :: l, h => by simp only [upB, Bool.true_and]; exact upB_some h
/-- 'concordance/segment.rise' -/
theorem rise_spec {M : PSet} {v : Value} {l : List Int} (w0 : World) (hv : ((RT.int .i64).sl).V M w0 l v) :
    Spec Tryz.prog 124 #[v] w0 (fun v' w' => v' = .bool (rises (-1) l) ∧ w' = w0) := by
  have hlen := V_sl_len hv
  refine spec_of (args := [_]) (fn := Tryz.f124) Tryz.func124 rfl (n := 28) Tryz.ntmps124 ?_
  refine T.seq ?_
  refine T.region ?_ -- region 0
  refine Rg.assign rfl rfl ?_
  refine Rg.nil ?_
  refine T.seq ?_
  refine T.seq ?_
  refine T.region ?_ -- region 1
  refine Rg.move rfl rfl ?_
  refine Rg.lensl Tryz.underlying32 rfl hv rfl ?_
  refine Rg.move rfl rfl ?_
  refine Rg.nil ?_
  refine T.block ?_
  refine T.loop (σ := Nat × Int) (fun s => [(0, v), (5, v), (6, .int .i64 l.length), (7, .int .i64 s.1)]) (fun s w => w = w0 ∧ s.1 ≤ l.length ∧ rises (-1) l = rises s.2 (l.drop s.1) ∧ -1 ≤ s.2 ∧ (s.1 = 0 → s.2 = -1) ∧ (0 < s.1 → l[s.1 - 1]? = some s.2)) (fun s => l.length - s.1) (0, -1) (.cons rfl (.cons rfl (.cons rfl (.cons rfl .nil)))) ?_ ?_ -- loop 0
  · exact ⟨rfl, Nat.zero_le _, rfl, by decide, fun _ => rfl, fun h => absurd h (Nat.lt_irrefl 0)⟩
  · rintro ⟨k, last⟩ w1 ⟨rfl, hk, hr, hl0, h0, h1⟩
    dsimp only at hk hr hl0 h0 h1 ⊢
    refine T.seq ?_
    refine T.region ?_ -- region 2
    refine Rg.ilt rfl rfl rfl ?_
    refine Rg.nil ?_
    refine T.seq ?_
    refine T.ifp rfl (fun c2 => ?_) (fun c2 => ?_)
    · -- c2 True
      refine T.skip ?_
      refine T.seq ?_
      refine T.block ?_
      refine T.seq ?_
      refine T.region ?_ -- region 3
      refine Rg.move rfl rfl ?_
      obtain ⟨x, hx⟩ : ∃ x, l[k]? = some x := ⟨_, List.getElem?_eq_getElem (by omega)⟩
      refine Rg.idx (M := M) Tryz.underlying32 I3 rfl rfl rfl hv (Le.refl _ _) (by omega) (fun u a hg hu => ?_)
      obtain rfl : x = a := Eq.symm (Option.some.inj (hg.symm.trans (by simpa using hx)))
      refine Rg.loadi64 (M := M) Tryz.underlying3 rfl rfl hu (Le.refl _ _) (fun inx => ?_)
      refine Rg.assign rfl rfl ?_
      refine Rg.assign rfl rfl ?_
      refine Rg.nil ?_
      refine T.seq ?_
      refine T.region ?_ -- region 4
      refine Rg.move rfl rfl ?_
      refine Rg.ilt rfl rfl rfl ?_
      refine Rg.move rfl rfl ?_
      refine Rg.gsplitp (g := 14) rfl (fun g4_2 => ?_) (fun g4_2 => ?_)
      · -- g4_2 True
        refine Rg.gno rfl rfl rfl rfl ?_
        refine Rg.gno rfl rfl rfl rfl ?_
        refine Rg.gno rfl rfl rfl rfl ?_
        refine Rg.gnox rfl rfl rfl ?_
        refine Rg.gnox rfl rfl rfl ?_
        refine Rg.gnox rfl rfl rfl ?_
        refine Rg.gnox rfl rfl rfl ?_
        refine Rg.gnox rfl rfl rfl ?_
        refine Rg.gnox rfl rfl rfl ?_
        refine Rg.gnox rfl rfl rfl ?_
        refine Rg.gno rfl rfl rfl rfl ?_
        refine Rg.pickt rfl rfl rfl ?_
        refine Rg.nil ?_
        refine T.ift rfl ?_
        refine T.seq ?_
        refine T.region ?_ -- region 5
        refine Rg.assign rfl rfl ?_
        refine Rg.nil ?_
        refine T.ret ?_
        refine Kret1 rfl rfl ⟨congrArg Value.bool (Eq.symm ?_), rfl⟩
        rw [hr, rises_drop hx, decide_eq_false (show ¬ last < x by omega), Bool.false_and]
      · -- g4_2 False
        refine Rg.gyes rfl rfl ?_
        refine Rg.move rfl rfl ?_
        refine Rg.gyes rfl rfl ?_
        refine Rg.igt rfl rfl rfl ?_
        refine Rg.gyes rfl rfl ?_
        refine Rg.move rfl rfl ?_
        refine Rg.gsplitp (g := 17) rfl (fun g4_5 => ?_) (fun g4_5 => ?_)
        · -- g4_5 True
          refine Rg.gyes rfl rfl ?_
          refine Rg.move rfl rfl ?_
          refine Rg.gyes rfl rfl ?_
          refine Rg.move rfl rfl ?_
          refine Rg.gyes rfl rfl ?_
          refine Rg.move rfl rfl ?_
          refine Rg.gyes rfl rfl ?_
          refine Rg.isub rfl rfl rfl (by omega) ?_
          refine Rg.gyes rfl rfl ?_
          refine Rg.idx (M := M) Tryz.underlying32 I3 rfl rfl rfl hv (Le.refl _ _) (by omega) (fun u2 a hg hu2 => ?_)
          obtain rfl : last = a := Eq.symm (Option.some.inj (hg.symm.trans (by rw [show ((k : Int) - 1).toNat = k - 1 from by omega]; exact h1 (by omega))))
          refine Rg.gyes rfl rfl ?_
          refine Rg.loadi64 (M := M) Tryz.underlying3 rfl rfl hu2 (Le.refl _ _) (fun inl => ?_)
          refine Rg.gyes rfl rfl ?_
          refine Rg.ile rfl rfl rfl ?_
          refine Rg.gyes rfl rfl ?_
          refine Rg.pickt rfl rfl rfl ?_
          refine Rg.pickf rfl rfl rfl ?_
          refine Rg.nil ?_
          refine T.ifp rfl (fun c4 => ?_) (fun c4 => ?_)
          · -- c4 True
            refine T.seq ?_
            refine T.region ?_ -- region 5
            refine Rg.assign rfl rfl ?_
            refine Rg.nil ?_
            refine T.ret ?_
            refine Kret1 rfl rfl ⟨congrArg Value.bool (Eq.symm ?_), rfl⟩
            rw [hr, rises_drop hx, decide_eq_false (show ¬ last < x by omega), Bool.false_and]
          · -- c4 False
            refine T.skip ?_
            refine T.region ?_ -- region 6
            refine Rg.iadd rfl rfl rfl (by omega) ?_
            refine Rg.move rfl rfl ?_
            refine Rg.nil ?_
            refine ⟨rfl, (k + 1, x), (.cons rfl (.cons rfl (.cons rfl (.cons rfl .nil)))), ?_, ?_⟩
            · refine ⟨rfl, by simp only; omega, ?_, by simp only; omega, fun h => by simp at h, fun _ => by simpa using hx⟩
              rw [hr, rises_drop hx, decide_eq_true (show last < x by omega), Bool.true_and]
            · simp only; omega
        · -- g4_5 False
          refine Rg.gno rfl rfl rfl rfl ?_
          refine Rg.gno rfl rfl rfl rfl ?_
          refine Rg.gno rfl rfl rfl rfl ?_
          refine Rg.gno rfl rfl rfl rfl ?_
          refine Rg.gno rfl rfl rfl rfl ?_
          refine Rg.gno rfl rfl rfl rfl ?_
          refine Rg.gno rfl rfl rfl rfl ?_
          refine Rg.gyes rfl rfl ?_
          refine Rg.pickf rfl rfl rfl ?_
          refine Rg.pickf rfl rfl rfl ?_
          refine Rg.nil ?_
          refine T.iff rfl ?_
          refine T.skip ?_
          refine T.region ?_ -- region 6
          refine Rg.iadd rfl rfl rfl (by omega) ?_
          refine Rg.move rfl rfl ?_
          refine Rg.nil ?_
          refine ⟨rfl, (k + 1, x), (.cons rfl (.cons rfl (.cons rfl (.cons rfl .nil)))), ?_, ?_⟩
          · refine ⟨rfl, by simp only; omega, ?_, by simp only; omega, fun h => by simp at h, fun _ => by simpa using hx⟩
            rw [hr, rises_drop hx, decide_eq_true (show last < x by omega), Bool.true_and]
          · simp only; omega
    · -- c2 False
      refine T.exit ?_
      refine T.seq ?_
      refine T.region ?_ -- region 7
      refine Rg.assign rfl rfl ?_
      refine Rg.nil ?_
      refine T.ret ?_
      refine Kret1 rfl rfl ⟨congrArg Value.bool (Eq.symm ?_), rfl⟩
      rw [hr, List.drop_eq_nil_of_le (by omega)]; rfl
/-- 'concordance/dict.rises' -/
theorem drises_spec {M : PSet} {v : Value} {l : List (List UInt8)} (w0 : World) (hv : (RT.str.sl).V M w0 l v) :
    Spec Tryz.prog 176 #[v] w0 (fun v' w' => v' = .bool (upB none l) ∧ w' = w0) := by
  have hlen := V_sl_len hv
  refine spec_of (args := [_]) (fn := Tryz.f176) Tryz.func176 rfl (n := 24) Tryz.ntmps176 ?_
  refine T.seq ?_
  refine T.region ?_ -- region 0
  refine Rg.assign rfl rfl ?_
  refine Rg.nil ?_
  refine T.seq ?_
  refine T.seq ?_
  refine T.region ?_ -- region 1
  refine Rg.move rfl rfl ?_
  refine Rg.lensl Tryz.underlying55 rfl hv rfl ?_
  refine Rg.move rfl rfl ?_
  refine Rg.nil ?_
  refine T.block ?_
  refine T.loop (σ := Nat × Option (List UInt8)) (fun s => [(0, v), (5, v), (6, .int .i64 l.length), (7, .int .i64 s.1)]) (fun s w => w = w0 ∧ s.1 ≤ l.length ∧ upB none l = upB s.2 (l.drop s.1) ∧ (s.1 = 0 → s.2 = none) ∧ (0 < s.1 → ∃ a, s.2 = some a ∧ l[s.1 - 1]? = some a)) (fun s => l.length - s.1) (0, none) (.cons rfl (.cons rfl (.cons rfl (.cons rfl .nil)))) ?_ ?_ -- loop 0
  · exact ⟨rfl, Nat.zero_le _, rfl, fun _ => rfl, fun h => absurd h (Nat.lt_irrefl 0)⟩
  · rintro ⟨k, o⟩ w1 ⟨rfl, hk, hr, h0, h1⟩
    dsimp only at hk hr h0 h1 ⊢
    refine T.seq ?_
    refine T.region ?_ -- region 2
    refine Rg.ilt rfl rfl rfl ?_
    refine Rg.nil ?_
    refine T.seq ?_
    refine T.ifp rfl (fun c2 => ?_) (fun c2 => ?_)
    · -- c2 True
      refine T.skip ?_
      refine T.seq ?_
      refine T.block ?_
      refine T.seq ?_
      refine T.region ?_ -- region 3
      refine Rg.move rfl rfl ?_
      obtain ⟨x, hx⟩ : ∃ x, l[k]? = some x := ⟨_, List.getElem?_eq_getElem (by omega)⟩
      refine Rg.idx (M := M) Tryz.underlying55 I9 rfl rfl rfl hv (Le.refl _ _) (by omega) (fun u a hg hu => ?_)
      obtain rfl : x = a := Eq.symm (Option.some.inj (hg.symm.trans (by simpa using hx)))
      refine Rg.load (M := M) Tryz.underlying9 rfl rfl rfl rfl rfl hu (Le.refl _ _) (fun vx hvx => ?_)
      obtain rfl := V_strE hvx
      refine Rg.assign rfl rfl ?_
      refine Rg.assign rfl rfl ?_
      refine Rg.nil ?_
      refine T.seq ?_
      refine T.region ?_ -- region 4
      refine Rg.move rfl rfl ?_
      refine Rg.igt rfl rfl rfl ?_
      refine Rg.move rfl rfl ?_
      refine Rg.gsplitp (g := 14) rfl (fun g4_2 => ?_) (fun g4_2 => ?_)
      · -- g4_2 True
        refine Rg.gyes rfl rfl ?_
        refine Rg.move rfl rfl ?_
        refine Rg.gyes rfl rfl ?_
        refine Rg.move rfl rfl ?_
        refine Rg.gyes rfl rfl ?_
        refine Rg.move rfl rfl ?_
        refine Rg.gyes rfl rfl ?_
        refine Rg.isub rfl rfl rfl (by omega) ?_
        refine Rg.gyes rfl rfl ?_
        obtain ⟨last, rfl, hlast⟩ := h1 (by omega)
        refine Rg.idx (M := M) Tryz.underlying55 I9 rfl rfl rfl hv (Le.refl _ _) (by omega) (fun u2 a hg hu2 => ?_)
        obtain rfl : last = a := Eq.symm (Option.some.inj (hg.symm.trans (by rw [show ((k : Int) - 1).toNat = k - 1 from by omega]; exact hlast)))
        refine Rg.gyes rfl rfl ?_
        refine Rg.load (M := M) Tryz.underlying9 rfl rfl rfl rfl rfl hu2 (Le.refl _ _) (fun vl hvl => ?_)
        obtain rfl := V_strE hvl
        refine Rg.gyes rfl rfl ?_
        refine Rg.strleq rfl rfl rfl ?_
        refine Rg.pickt rfl rfl rfl ?_
        refine Rg.nil ?_
        refine T.ifp rfl (fun c4 => ?_) (fun c4 => ?_)
        · -- c4 True
          refine T.seq ?_
          refine T.region ?_ -- region 5
          refine Rg.assign rfl rfl ?_
          refine Rg.nil ?_
          refine T.ret ?_
          refine Kret1 rfl rfl ⟨congrArg Value.bool (Eq.symm ?_), rfl⟩
          rw [hr, upB_drop hx]
          simp [c4]
        · -- c4 False
          refine T.skip ?_
          refine T.region ?_ -- region 6
          refine Rg.iadd rfl rfl rfl (by omega) ?_
          refine Rg.move rfl rfl ?_
          refine Rg.nil ?_
          refine ⟨rfl, (k + 1, some x), (.cons rfl (.cons rfl (.cons rfl (.cons rfl .nil)))), ?_, ?_⟩
          · refine ⟨rfl, by simp only; omega, ?_, fun h => by simp at h, fun _ => ⟨x, rfl, by simpa using hx⟩⟩
            rw [hr, upB_drop hx]
            first
            | (rw [h0 (by omega)]; simp; done)
            | (have c4' := Decidable.not_not.1 c4; simp [c4']; done)
          · simp only; omega
      · -- g4_2 False
        refine Rg.gno rfl rfl rfl rfl ?_
        refine Rg.gno rfl rfl rfl rfl ?_
        refine Rg.gno rfl rfl rfl rfl ?_
        refine Rg.gno rfl rfl rfl rfl ?_
        refine Rg.gno rfl rfl rfl rfl ?_
        refine Rg.gno rfl rfl rfl rfl ?_
        refine Rg.gno rfl rfl rfl rfl ?_
        refine Rg.pickf rfl rfl rfl ?_
        refine Rg.nil ?_
        refine T.iff rfl ?_
        refine T.skip ?_
        refine T.region ?_ -- region 6
        refine Rg.iadd rfl rfl rfl (by omega) ?_
        refine Rg.move rfl rfl ?_
        refine Rg.nil ?_
        refine ⟨rfl, (k + 1, some x), (.cons rfl (.cons rfl (.cons rfl (.cons rfl .nil)))), ?_, ?_⟩
        · refine ⟨rfl, by simp only; omega, ?_, fun h => by simp at h, fun _ => ⟨x, rfl, by simpa using hx⟩⟩
          rw [hr, upB_drop hx]
          first
          | (rw [h0 (by omega)]; simp; done)
          | (have c4' := Decidable.not_not.1 c4; simp [c4']; done)
        · simp only; omega
    · -- c2 False
      refine T.exit ?_
      refine T.seq ?_
      refine T.region ?_ -- region 7
      refine Rg.assign rfl rfl ?_
      refine Rg.nil ?_
      refine T.ret ?_
      refine Kret1 rfl rfl ⟨congrArg Value.bool (Eq.symm ?_), rfl⟩
      rw [hr, List.drop_eq_nil_of_le (by omega)]; rfl
theorem ptr_cells {α : Type} {A : RT α} {M : PSet} {w : World} {v : Value} {x : α} (h : PtrTo A M w v x) : v.cells = #[v] := by
  obtain ⟨b, o, vs, rfl, _⟩ := h; rfl
/-- 'concordance/dict.Make[*concordance/posting.List]' -/
theorem dmake_spec {M : PSet} {v0 v1 : Value} {ns : List (List UInt8)} {ts : List Li} (w0 : World) (hM : Lt M w0) (hn : (RT.str.sl).V M w0 ns v0) (ht : (((RT.li).ptr).sl).V M w0 ts v1) (hl : ns.length ≤ 1099511627776) (hl2 : ts.length ≤ 1099511627776) :
    Spec Tryz.prog 128 #[v0, v1] w0 (fun v w => ∃ p, v = .tuple #[p, .int .i64 (if ns.length = ts.length ∧ upB none ns = true then 0 else 1)] ∧ (ns.length = ts.length → upB none ns = true → PtrTo RT.di M w p (ns, ts)) ∧ Step M w0 M w none') := by
  refine spec_of (args := [_, _]) (fn := Tryz.f128) Tryz.func128 rfl (n := 22) Tryz.ntmps128 ?_
  have S : Step M w0 M w0 none' := (Step.refl _ _).widen (fun _ h => h.elim) (fun _ h => h.elim)
  refine T.seq ?_
  refine T.region ?_ -- region 0
  refine Rg.assign rfl rfl ?_
  refine Rg.assign rfl rfl ?_
  refine Rg.nil ?_
  refine T.seq ?_
  refine T.seq ?_
  refine T.region ?_ -- region 1
  refine Rg.move rfl rfl ?_
  refine Rg.lensl Tryz.underlying55 rfl hn rfl ?_
  refine Rg.move rfl rfl ?_
  refine Rg.lensl Tryz.underlying188 rfl ht rfl ?_
  refine Rg.ine rfl rfl rfl ?_
  refine Rg.move rfl rfl ?_
  refine Rg.gsplitp (g := 11) rfl (fun g1_5 => ?_) (fun g1_5 => ?_)
  · -- g1_5 True
    refine Rg.gno rfl rfl rfl rfl ?_
    refine Rg.gno rfl rfl rfl rfl ?_
    refine Rg.gno rfl rfl rfl rfl ?_
    refine Rg.pickt rfl rfl rfl ?_
    refine Rg.nil ?_
    refine T.ift rfl ?_
    refine T.seq ?_
    refine T.region ?_ -- region 2
    refine Rg.assign rfl rfl ?_
    refine Rg.assign rfl rfl ?_
    refine Rg.nil ?_
    refine T.ret ?_
    first
    | exact Kret2 rfl rfl rfl ⟨_, by rw [if_neg (fun h => g1_5 (by omega))], fun h => absurd (by omega) g1_5, S⟩
    | exact Kret2 rfl rfl rfl ⟨_, by rw [if_neg (fun h => c1 h.2)], fun _ h => absurd h c1, S⟩
  · -- g1_5 False
    refine Rg.gyes rfl rfl ?_
    refine Rg.move rfl rfl ?_
    refine Rg.gyes rfl rfl ?_
    refine Rg.call rfl rfl E176 (drises_spec _ hn) (fun r wc hc => ?_)
    obtain ⟨rfl, rfl⟩ := hc 
    refine Rg.gyes rfl rfl ?_
    refine Rg.not rfl rfl ?_
    refine Rg.eqv (v' := .bool (decide (¬ upB none ns = true))) (by simp) ?_
    refine Rg.pickf rfl rfl rfl ?_
    refine Rg.nil ?_
    refine T.ifp rfl (fun c1 => ?_) (fun c1 => ?_)
    · -- c1 True
      refine T.seq ?_
      refine T.region ?_ -- region 2
      refine Rg.assign rfl rfl ?_
      refine Rg.assign rfl rfl ?_
      refine Rg.nil ?_
      refine T.ret ?_
      first
      | exact Kret2 rfl rfl rfl ⟨_, by rw [if_neg (fun h => g1_5 (by omega))], fun h => absurd (by omega) g1_5, S⟩
      | exact Kret2 rfl rfl rfl ⟨_, by rw [if_neg (fun h => c1 h.2)], fun _ h => absurd h c1, S⟩
    · -- c1 False
      refine T.skip ?_
      refine T.seq ?_
      refine T.region ?_ -- region 3
      refine Rg.move rfl rfl ?_
      refine Rg.call rfl rfl E177 (cloneStr hM hn hl) (fun v3 w3 hc => ?_)
      obtain ⟨hv3, s3⟩ := hc --@step s3
      --@vf hv3
      replace hn := hn.le s3.le
      replace ht := ht.le s3.le
      replace hM := s3.lt hM
      have := S.size
      replace S := S.trans0 s3
      refine Rg.move rfl rfl ?_
      refine Rg.call rfl rfl E178 (cloneLi hM ht hl2) (fun v4 w4 hc => ?_)
      obtain ⟨hv4, s4⟩ := hc --@step s4
      --@vf hv4
      replace hn := hn.le s4.le
      replace ht := ht.le s4.le
      replace hv3 := hv3.le s4.le
      replace hM := s4.lt hM
      have := S.size
      replace S := S.trans0 s4
      refine Rg.build (places := [(0, 1), (1, 1)]) Tryz.underlying190 I190 B190 rfl ⟨_, _, rfl, rfl, _, _, rfl, rfl, rfl⟩ (out := [_, _]) ⟨0, [_], rfl, V_cells hv3, by simp [Value.cells], 1, [_], rfl, V_cells hv4, by simp [Value.cells], rfl⟩ ?_
      refine Rg.boxp (A := RT.di) (a := (ns, ts)) rfl rfl hM (V_pair_mk hv3 hv4 rfl rfl rfl rfl) rfl (fun u5 w5 hu5 s5 _ => ?_) --@step s5
      replace hn := hn.le s5.le
      replace ht := ht.le s5.le
      replace hv3 := hv3.le s5.le
      replace hv4 := hv4.le s5.le
      replace hM := s5.lt hM
      have := S.size
      replace S := S.trans0 s5
      refine Rg.assign rfl rfl ?_
      refine Rg.assign rfl rfl ?_
      refine Rg.nil ?_
      refine T.ret ?_
      exact Kret2 rfl rfl rfl ⟨_, by rw [if_pos ⟨by omega, Decidable.not_not.1 c1⟩], fun _ _ => hu5, S⟩
end Go.K
namespace Go.K
set_option linter.unusedVariables false
set_option linter.unusedSimpArgs false
theorem byte_small (n : Nat) : IntKind.u8.wrap (n : Int) = ((UInt8.ofNat n).toNat : Int) := by
  rw [IntKind.wrap_u8]; simp [UInt8.toNat_ofNat]
theorem or128 : ∀ m : Nat, m < 256 → (BitVec.ofInt 8 (m : Int) ||| BitVec.ofInt 8 128).toNat = 128 + m % 128 := by decide +kernel
theorem byte_or (n : Nat) : IntKind.u8.wrap ((BitVec.ofInt IntKind.u8.bits (IntKind.u8.wrap (n : Int)) ||| BitVec.ofInt IntKind.u8.bits 128).toNat : Int) = ((UInt8.ofNat (128 + n % 128)).toNat : Int) := by
  have h1 : IntKind.u8.wrap (n : Int) = ((n % 256 : Nat) : Int) := by rw [IntKind.wrap_u8]; omega
  rw [h1]
  show IntKind.u8.wrap ((BitVec.ofInt 8 ((n % 256 : Nat) : Int) ||| BitVec.ofInt 8 128).toNat : Int) = _
  rw [or128 (n % 256) (by omega), IntKind.wrap_u8, show n % 256 % 128 = n % 128 from by omega]
  simp [UInt8.toNat_ofNat]
theorem shr7 (n : Nat) : ((n : Int)).fdiv (2 ^ min (Int.toNat 7) IntKind.i64.bits) = ((n / 128 : Nat) : Int) := by
  show ((n : Int)).fdiv 128 = _
  rw [Int.fdiv_eq_ediv_of_nonneg _ (by decide)]; rfl
end Go.K
namespace Go.K
open Go.Proofs
set_option linter.unusedVariables false
set_option linter.unusedSimpArgs false
set_option maxRecDepth 10000
/-- 'concordance/vint.Put' -/
theorem Put_own {M : PSet} {w0 : World} {v : Value} {b : List UInt8} {n : Nat} (hM : Lt M w0) (hv : (RT.u8.sl).V M w0 b v) (hb : b.length ≤ 70368744177664) (hn : n ≤ 9223372036854775807) :
    Spec Tryz.prog 173 #[v, .int .i64 n] w0 (fun v' w' => ∃ M', Step M w0 M' w' none' ∧ Own RT.u8 5 M' w' w0.heap.size v' (b ++ put n)) := by
  have h9 := put_len9 hn
  refine spec_of (args := [_, _]) (fn := Tryz.f173) Tryz.func173 rfl (n := 26) Tryz.ntmps173 ?_
  refine T.seq ?_
  refine T.region ?_ -- region 0
  refine Rg.assign rfl rfl ?_
  refine Rg.nil ?_
  refine T.seq ?_
  refine T.region ?_ -- region 1
  refine Rg.move rfl rfl ?_
  refine Rg.move rfl rfl ?_
  first | refine Rg.lensl Tryz.underlying147 rfl (by assumption) rfl ?_ | refine Rg.lenown Tryz.underlying147 rfl (by assumption) rfl ?_
  refine Rg.move rfl rfl ?_
  first | refine Rg.lensl Tryz.underlying147 rfl (by assumption) rfl ?_ | refine Rg.lenown Tryz.underlying147 rfl (by assumption) rfl ?_
  refine Rg.slice_clip Tryz.underlying147 I5 rfl rfl rfl rfl hv ⟨rfl, rfl⟩ (fun a hva hnone => ?_)
  refine Rg.assign rfl rfl ?_
  refine Rg.nil ?_
  refine T.seq ?_
  refine T.block ?_
  refine T.loop (σ := Nat × Value × List UInt8) (fun s => [(0, s.2.1), (1, .int .i64 s.1)]) (fun s w => s.2.2 ++ put s.1 = b ++ put n ∧ ∃ M1, Lt M1 w ∧ Step M w0 M1 w none' ∧ Grow RT.u8 (by decide) 5 M1 w w0.heap.size s.2.1 s.2.2) (fun s => s.1) (n, _, b) (.cons rfl (.cons rfl .nil)) ?_ ?_ -- loop 0
  · exact ⟨rfl, M, hM, Step.refl _ _, .inr ⟨a, rfl, hnone, hva⟩⟩
  · rintro ⟨k, u0, acc⟩ w1 ⟨hacc, M1, hM1, s1, hg⟩
    dsimp only at hacc hg ⊢
    have hlen := congrArg List.length hacc
    have hpos := put_pos k
    simp only [List.length_append] at hlen
    refine T.seq ?_
    refine T.seq ?_
    refine T.region ?_ -- region 2
    refine Rg.move rfl rfl ?_
    refine Rg.ige rfl rfl rfl ?_
    refine Rg.nil ?_
    refine T.ifp rfl (fun c2 => ?_) (fun c2 => ?_)
    · -- c2 True
      refine T.skip ?_
      refine T.block ?_
      refine T.seq ?_
      refine T.region ?_ -- region 3
      refine Rg.move rfl rfl ?_
      refine Rg.move rfl rfl ?_
      refine Rg.conv Tryz.underlying3 Tryz.underlying5 rfl rfl ?_
      refine Rg.or rfl rfl rfl ?_
      refine Rg.eqv (congrArg _ (byte_or _)) ?_
      refine Rg.sl1 (A := RT.u8) (hn := by decide) (M := M1) Tryz.underlying147 I5 (by decide) rfl rfl hM1 (V_u8.2 rfl) (.inr ⟨rfl, rfl⟩) (fun u w2 hu s2 => ?_)
      refine Rg.appendg (M := M1) (base := w0.heap.size) Tryz.underlying147 I5 rfl rfl rfl rfl (hg.le s2) hu (Le.refl _ _) (by simp) (by simp; omega) (by simp; omega) (Nat.le_trans s1.size s2.size) (fun v3 M3 w3 ho3 s3 => ?_)
      refine Rg.assign rfl rfl ?_
      refine Rg.nil ?_
      refine T.region ?_ -- region 4
      refine Rg.move rfl rfl ?_
      refine Rg.shr rfl rfl rfl (by omega) ?_
      refine Rg.eqv (congrArg _ (shr7 _)) ?_
      refine Rg.assign rfl rfl ?_
      refine Rg.nil ?_
      refine ⟨rfl, (k / 128, v3, acc ++ [UInt8.ofNat (128 + k % 128)]), (.cons rfl (.cons rfl .nil)), ?_, ?_⟩
      · exact ⟨by rw [← hacc, put_ge (n := k) (by omega)]; simp, M3, s3.lt (s2.lt hM1), (s1.trans0 s2).transOwn s3 (Nat.le_refl _), .inl ho3⟩
      · show k / 128 < k; omega
    · -- c2 False
      refine T.exit ?_
      refine T.seq ?_
      refine T.region ?_ -- region 5
      refine Rg.move rfl rfl ?_
      refine Rg.move rfl rfl ?_
      refine Rg.conv Tryz.underlying3 Tryz.underlying5 rfl rfl ?_
      refine Rg.eqv (congrArg _ (byte_small _)) ?_
      refine Rg.sl1 (A := RT.u8) (hn := by decide) (M := M1) Tryz.underlying147 I5 (by decide) rfl rfl hM1 (V_u8.2 rfl) (.inr ⟨rfl, rfl⟩) (fun u w2 hu s2 => ?_)
      refine Rg.appendg (M := M1) (base := w0.heap.size) Tryz.underlying147 I5 rfl rfl rfl rfl (hg.le s2) hu (Le.refl _ _) (by simp) (by simp; omega) (by simp; omega) (Nat.le_trans s1.size s2.size) (fun v3 M3 w3 ho3 s3 => ?_)
      refine Rg.assign rfl rfl ?_
      refine Rg.nil ?_
      refine T.ret ?_
      refine Kret1 rfl rfl ⟨M3, (s1.trans0 s2).transOwn s3 (Nat.le_refl _), ?_⟩
      rw [← hacc, put_lt (n := k) (by omega)]
      exact ho3
theorem Put_spec {M : PSet} {w0 : World} {v : Value} {b : List UInt8} {n : Nat} (hM : Lt M w0) (hv : (RT.u8.sl).V M w0 b v) (hb : b.length ≤ 70368744177664) (hn : n ≤ 9223372036854775807) :
    Spec Tryz.prog 173 #[v, .int .i64 n] w0 (fun v' w' => Step M w0 M w' none' ∧ (RT.u8.sl).V M w' (b ++ put n) v') :=
  (Put_own hM hv hb hn).mono fun _ _ ⟨_, s, ho⟩ => ⟨s.back, Own.close hM s ho (by have := put_len9 hn; simp; omega)⟩
/-- 'concordance/vint.PutRising' -/
theorem PutRising_own {M : PSet} {w0 : World} {v u : Value} {b : List UInt8} {l : List Int} (hM : Lt M w0) (hv : (RT.u8.sl).V M w0 b v) (hu : ((RT.int .i64).sl).V M w0 l u) (hb : b.length + 9 * (l.length + 1) ≤ 70368744177664) :
    Spec Tryz.prog 174 #[v, u] w0 (fun v' w' => ∃ M' x, Step M w0 M' w' none' ∧ v' = .tuple #[x, .int .i64 (if rises (-1) l then 0 else 1)] ∧ Own RT.u8 5 M' w' w0.heap.size x (if rises (-1) l then b ++ putRising l else [])) := by
  have hpl := put_len9 (n := l.length) (by omega)
  refine spec_of (args := [_, _]) (fn := Tryz.f174) Tryz.func174 rfl (n := 31) Tryz.ntmps174 ?_
  refine T.seq ?_
  refine T.region ?_ -- region 0
  refine Rg.assign rfl rfl ?_
  refine Rg.assign rfl rfl ?_
  refine Rg.nil ?_
  refine T.seq ?_
  refine T.region ?_ -- region 1
  refine Rg.move rfl rfl ?_
  refine Rg.move rfl rfl ?_
  refine Rg.lensl Tryz.underlying32 rfl hu rfl ?_
  refine Rg.call rfl rfl E173 (Put_own (M := M) hM hv (by omega) (by omega)) (fun ub wb hb2 => ?_)
  obtain ⟨Mb, sb, hob⟩ := hb2
  refine Rg.assign rfl rfl ?_
  refine Rg.nil ?_
  refine T.seq ?_
  refine T.region ?_ -- region 2
  refine Rg.assign rfl rfl ?_
  refine Rg.nil ?_
  refine T.seq ?_
  refine T.seq ?_
  refine T.region ?_ -- region 3
  refine Rg.move rfl rfl ?_
  refine Rg.lensl Tryz.underlying32 rfl hu rfl ?_
  refine Rg.move rfl rfl ?_
  refine Rg.nil ?_
  refine T.block ?_
  refine T.loop (σ := Nat × Int × Value × List UInt8) (fun s => [(0, s.2.2.1), (6, .int .i64 s.2.1), (13, u), (14, .int .i64 l.length), (15, .int .i64 s.1)]) (fun s w => rises (-1) l = rises s.2.1 (l.drop s.1) ∧ (rises (-1) l = true → s.2.2.2 ++ putR s.2.1 (l.drop s.1) = b ++ putRising l) ∧ s.1 ≤ l.length ∧ -1 ≤ s.2.1 ∧ s.2.2.2.length ≤ b.length + 9 * (s.1 + 1) ∧ ∃ M1, Lt M1 w ∧ Step M w0 M1 w none' ∧ Own RT.u8 5 M1 w w0.heap.size s.2.2.1 s.2.2.2) (fun s => l.length - s.1) (0, -1, _, b ++ put l.length) (.cons rfl (.cons rfl (.cons rfl (.cons rfl (.cons rfl .nil))))) ?_ ?_ -- loop 0
  · exact ⟨rfl, fun _ => by simp [putRising], Nat.zero_le _, by simp only; omega, by simp; omega, Mb, sb.lt hM, sb, hob⟩
  · rintro ⟨k, last, u0, acc⟩ w1 ⟨hr, hacc, hk, hl0, hal, M1, hM1, s1, ho⟩
    dsimp only at hr hacc hk hl0 hal ho ⊢
    refine T.seq ?_
    refine T.region ?_ -- region 4
    refine Rg.ilt rfl rfl rfl ?_
    refine Rg.nil ?_
    refine T.seq ?_
    refine T.ifp rfl (fun c4 => ?_) (fun c4 => ?_)
    · -- c4 True
      refine T.skip ?_
      refine T.seq ?_
      refine T.block ?_
      refine T.seq ?_
      refine T.region ?_ -- region 5
      obtain ⟨x, hx⟩ : ∃ x, l[k]? = some x := ⟨_, List.getElem?_eq_getElem (by omega)⟩
      have hxr := i64_of hu hx
      refine Rg.idx (M := M) Tryz.underlying32 I3 rfl rfl rfl (hu.le (s1.back).le) (Le.refl _ _) (by omega) (fun u5_0 a5_0 hg5_0 hu5_0 => ?_)
      obtain rfl : a5_0 = x := Option.some.inj (hg5_0.symm.trans (by simpa using hx))
      refine Rg.loadi64 (M := M) Tryz.underlying3 rfl rfl hu5_0 (Le.refl _ _) (fun _ => ?_)
      refine Rg.assign rfl rfl ?_
      refine Rg.nil ?_
      refine T.seq ?_
      refine T.seq ?_
      refine T.region ?_ -- region 6
      refine Rg.move rfl rfl ?_
      refine Rg.move rfl rfl ?_
      refine Rg.ile rfl rfl rfl ?_
      refine Rg.nil ?_
      refine T.ifp rfl (fun c6 => ?_) (fun c6 => ?_)
      · -- c6 True
        refine T.seq ?_
        refine T.region ?_ -- region 7
        refine Rg.assign rfl rfl ?_
        refine Rg.assign rfl rfl ?_
        refine Rg.nil ?_
        refine T.ret ?_
        have hrf : rises (-1) l = false := by rw [hr, rises_drop hx, decide_eq_false (by omega), Bool.false_and]
        exact Kret2 rfl rfl rfl ⟨M1, _, s1, by rw [hrf]; rfl, by rw [hrf]; exact Own.nil _ _ _ _ _⟩
      · -- c6 False
        refine T.skip ?_
        refine T.seq ?_
        refine T.region ?_ -- region 8
        refine Rg.move rfl rfl ?_
        refine Rg.move rfl rfl ?_
        refine Rg.move rfl rfl ?_
        refine Rg.subw rfl rfl rfl ?_
        refine Rg.subw rfl rfl rfl ?_
        have hpx := put_len9 (n := (a5_0 - last - 1).toNat) (by omega)
        refine Rg.eqv (v' := .int .i64 (((a5_0 - last - 1).toNat : Nat) : Int)) (by rw [IntKind.wrap_i64, IntKind.wrap_i64]; congr 1; omega) ?_
        have hfz := s1.freeze (v := u0) (fun b hb => (ho.base b hb).1)
        refine Rg.call rfl rfl E173 (Put_own (M := rm M1 u0) (hM1.rm u0) (ho.view (by omega)) (by omega) (by omega)) (fun ub wb hb2 => ?_)
        obtain ⟨Mb2, sb2, hob2⟩ := hb2
        refine Rg.assign rfl rfl ?_
        refine Rg.nil ?_
        refine T.region ?_ -- region 9
        refine Rg.move rfl rfl ?_
        refine Rg.assign rfl rfl ?_
        refine Rg.nil ?_
        refine T.region ?_ -- region 10
        refine Rg.iadd rfl rfl rfl (by omega) ?_
        refine Rg.move rfl rfl ?_
        refine Rg.nil ?_
        refine ⟨rfl, (k + 1, a5_0, ub, acc ++ put (a5_0 - last - 1).toNat), (.cons rfl (.cons rfl (.cons rfl (.cons rfl (.cons rfl .nil))))), ?_, ?_⟩
        · refine ⟨?_, fun h => ?_, by simp only; omega, by simp only; omega, by simp only [List.length_append]; omega, Mb2, sb2.lt (hM1.rm u0), hfz.trans0 sb2, hob2.rebase s1.size⟩
          · rw [hr, rises_drop hx, decide_eq_true (by omega), Bool.true_and]
          · rw [← hacc h, putR_drop hx]; simp
        · simp only; omega
    · -- c4 False
      refine T.exit ?_
      refine T.seq ?_
      refine T.region ?_ -- region 11
      refine Rg.move rfl rfl ?_
      refine Rg.assign rfl rfl ?_
      refine Rg.assign rfl rfl ?_
      refine Rg.nil ?_
      refine T.ret ?_
      have hrt : rises (-1) l = true := by rw [hr, List.drop_eq_nil_of_le (by omega)]; rfl
      have ha := hacc hrt
      rw [List.drop_eq_nil_of_le (by omega), putR, List.append_nil] at ha
      exact Kret2 rfl rfl rfl ⟨M1, _, s1, by rw [hrt]; rfl, by rw [hrt, ← ha]; exact ho⟩
theorem PutRising_spec {M : PSet} {w0 : World} {v u : Value} {b : List UInt8} {l : List Int} (hM : Lt M w0) (hv : (RT.u8.sl).V M w0 b v) (hu : ((RT.int .i64).sl).V M w0 l u) (hb : b.length + 9 * (l.length + 1) ≤ 70368744177664) :
    Spec Tryz.prog 174 #[v, u] w0 (fun v' w' => ∃ x, Step M w0 M w' none' ∧ v' = .tuple #[x, .int .i64 (if rises (-1) l then 0 else 1)] ∧ (RT.u8.sl).V M w' (if rises (-1) l then b ++ putRising l else []) x) :=
  (PutRising_own hM hv hu hb).mono fun _ _ ⟨_, x, s, h, ho⟩ => ⟨x, s.back, h, Own.close hM s ho (by
    split
    next hr =>
      have hpl := put_len9 (n := l.length) (by omega)
      have hall : ∀ x ∈ l, x ≤ 9223372036854775807 := fun x hx => by obtain ⟨i, hi⟩ := List.mem_iff_getElem?.1 hx; exact (i64_of hu hi).2
      have := putR_len l (-1) (by decide) hall hr
      simp only [putRising, List.length_append]; omega
    next => simp)⟩
end Go.K
namespace Go.K
open Go.Proofs
set_option linter.unusedVariables false
set_option linter.unusedSimpArgs false
set_option maxRecDepth 10000
/-- '(*concordance/posting.List).Len' -/
theorem Len_spec {M : PSet} {w0 : World} {v : Value} {x : Li} (hv : PtrTo RT.li M w0 v x) (hM : Lt M w0) (hm : ∀ b ∈ x.2.1, 0 ≤ b.2.2.2 ∧ b.2.2.2 ≤ 8) :
    Spec Tryz.prog 75 #[v] w0 (fun v' w' => v' = .int .i64 (sumN x.2.1) ∧ Step M w0 M w' none') := by
  refine spec_of (args := [_]) (fn := Tryz.f75) Tryz.func75 rfl (n := 21) Tryz.ntmps75 ?_
  refine T.seq ?_
  refine T.region ?_ -- region 0
  refine Rg.assign rfl rfl ?_
  refine Rg.nil ?_
  refine T.seq ?_
  refine T.region ?_ -- region 1
  refine Rg.assign rfl rfl ?_
  refine Rg.nil ?_
  refine T.seq ?_
  refine T.seq ?_
  refine T.region ?_ -- region 2
  refine Rg.move rfl rfl ?_
  refine Rg.nilCheck rfl (PtrTo.isPtr (by assumption)) rfl ?_
  refine Rg.fieldAddr (M := M) (A := RT.li) (B := (RT.bl).sl) Tryz.underlying193 rfl rfl I191 (by decide) (li1) rfl rfl (by decide) (by assumption) (by repeat (first | exact Le.refl _ _ | refine Le.trans (Step.le (by assumption)) ?_)) (fun u2_2 hu2_2 => ?_)
  refine Rg.load (M := M) Tryz.underlying191 rfl rfl rfl rfl rfl (by assumption) (Le.refl _ _) (fun vb hvb => ?_)
  have hbl := V_sl_len hvb
  first | refine Rg.lensl Tryz.underlying191 rfl (by assumption) rfl ?_ | refine Rg.lenown Tryz.underlying191 rfl (by assumption) rfl ?_
  refine Rg.move rfl rfl ?_
  refine Rg.nil ?_
  refine T.block ?_
  refine T.loop (σ := Nat) (fun s => [(3, .int .i64 (sumN (x.2.1.take s))), (9, vb), (10, .int .i64 x.2.1.length), (11, .int .i64 s)]) (fun s w => s ≤ x.2.1.length ∧ Step M w0 M w none') (fun s => x.2.1.length - s) 0 (.cons rfl (.cons rfl (.cons rfl (.cons rfl .nil)))) ?_ ?_ -- loop 0
  · exact ⟨Nat.zero_le _, Step.refl _ _⟩
  · rintro k w1 ⟨hk, S⟩
    have hMw := S.lt hM
    refine T.seq ?_
    refine T.region ?_ -- region 3
    refine Rg.ilt rfl rfl rfl ?_
    refine Rg.nil ?_
    refine T.seq ?_
    refine T.ifp rfl (fun c3 => ?_) (fun c3 => ?_)
    · -- c3 True
      refine T.skip ?_
      refine T.seq ?_
      refine T.block ?_
      refine T.seq ?_
      refine T.region ?_ -- region 4
      obtain ⟨b, hb⟩ : ∃ b, x.2.1[k]? = some b := ⟨_, List.getElem?_eq_getElem (by omega)⟩
      have hbm := hm b (List.mem_of_getElem? hb)
      have hsl := sumN_le (x.2.1.take k) fun c hc => hm c (List.mem_of_mem_take hc)
      rw [List.length_take, Nat.min_eq_left hk] at hsl
      refine Rg.idx (M := M) Tryz.underlying191 I195 rfl rfl rfl (hvb.le S.le) (Le.refl _ _) (by omega) (fun u4_0 a4_0 hg4_0 hu4_0 => ?_)
      obtain rfl : a4_0 = b := Option.some.inj (hg4_0.symm.trans (by simpa using hb))
      refine Rg.loadagg (M := M) (A := RT.bl) Tryz.underlying195 rfl I195 (by decide) rfl rfl rfl (by assumption) (by repeat (first | exact Le.refl _ _ | refine Le.trans (Step.le (by assumption)) ?_)) (fun v4_1 hv4_1 => ?_)
      refine Rg.newagg (A := RT.bl) (M := M) I195 rfl rfl rfl rfl rfl (by assumption) (by repeat (first | exact Le.refl _ _ | refine Le.trans (Step.le (by assumption)) ?_)) (by first | assumption | exact Step.lt (by assumption) (by assumption) | exact Step.lt (by assumption) (Step.lt (by assumption) (by assumption))) (fun u4_2 w4_2 hu4_2 s4_2 z4_2 => ?_)
      refine Rg.nil ?_
      refine T.region ?_ -- region 5
      refine Rg.move rfl rfl ?_
      refine Rg.fieldAddr (M := M) (A := RT.bl) (B := RT.int .i64) Tryz.underlying195 rfl rfl I3 (by decide) (bl3) rfl rfl (by decide) (by assumption) (by repeat (first | exact Le.refl _ _ | refine Le.trans (Step.le (by assumption)) ?_)) (fun u5_1 hu5_1 => ?_)
      refine Rg.loadi64 (M := M) Tryz.underlying3 rfl rfl (by assumption) (by repeat (first | exact Le.refl _ _ | refine Le.trans (Step.le (by assumption)) ?_)) (fun in5_2 => ?_)
      refine Rg.iadd rfl rfl rfl (by omega) ?_
      refine Rg.assign rfl rfl ?_
      refine Rg.nil ?_
      refine T.region ?_ -- region 6
      refine Rg.iadd rfl rfl rfl (by omega) ?_
      refine Rg.move rfl rfl ?_
      refine Rg.nil ?_
      refine ⟨rfl, k + 1, (.cons (by rw [sumN_take hb]; rfl) (.cons rfl (.cons rfl (.cons rfl .nil)))), ?_, ?_⟩
      · exact ⟨by omega, S.trans0 s4_2⟩
      · show _ - (k + 1) < _ - k; omega
    · -- c3 False
      refine T.exit ?_
      refine T.seq ?_
      refine T.region ?_ -- region 7
      refine Rg.move rfl rfl ?_
      refine Rg.assign rfl rfl ?_
      refine Rg.nil ?_
      refine T.ret ?_
      refine Kret1 rfl rfl ⟨?_, S⟩
      rw [List.take_of_length_le (by omega)]
end Go.K
namespace Go.K
open Go.Proofs
set_option linter.unusedVariables false
set_option linter.unusedSimpArgs false
set_option maxRecDepth 10000
/-- 'concordance/posting.rises' -/
theorem prises_spec {M : PSet} {w0 : World} {v : Value} {l : List Int} (hv : ((RT.int .i64).sl).V M w0 l v) :
    Spec Tryz.prog 212 #[v] w0 (fun v' w' => v' = .bool (risesB l) ∧ w0 = w') := by
  have hlen := V_sl_len hv
  refine spec_of (args := [_]) (fn := Tryz.f212) Tryz.func212 rfl (n := 32) Tryz.ntmps212 ?_
  refine T.seq ?_
  refine T.region ?_ -- region 0
  refine Rg.assign rfl rfl ?_
  refine Rg.nil ?_
  refine T.seq ?_
  refine T.seq ?_
  refine T.region ?_ -- region 1
  refine Rg.move rfl rfl ?_
  first | refine Rg.lensl Tryz.underlying32 rfl (by assumption) rfl ?_ | refine Rg.lenown Tryz.underlying32 rfl (by assumption) rfl ?_
  refine Rg.move rfl rfl ?_
  refine Rg.nil ?_
  refine T.block ?_
  refine T.loop (σ := Nat × Int) (fun s => [(0, v), (5, v), (6, .int .i64 l.length), (7, .int .i64 s.1)]) (fun s w => w0 = w ∧ s.1 ≤ l.length ∧ risesB l = (rises s.2 (l.drop s.1) && (l.drop s.1).all (fun n => decide (n < 2147483648))) ∧ -1 ≤ s.2 ∧ (s.1 = 0 → s.2 = -1) ∧ (0 < s.1 → l[s.1 - 1]? = some s.2)) (fun s => l.length - s.1) (0, -1) (.cons rfl (.cons rfl (.cons rfl (.cons rfl .nil)))) ?_ ?_ -- loop 0
  · exact ⟨rfl, Nat.zero_le _, rfl, by decide, fun _ => rfl, fun h => absurd h (Nat.lt_irrefl 0)⟩
  · rintro ⟨k, last⟩ w1 ⟨rfl, hk, hr, hl0, h0, h1⟩
    dsimp only at hk hr hl0 h0 h1 ⊢
    refine T.seq ?_
    refine T.region ?_ -- region 2
    refine Rg.ilt rfl rfl rfl ?_
    refine Rg.nil ?_
    refine T.seq ?_
    refine T.ifp rfl (fun c2 => ?_) (fun c2 => ?_)
    · -- c2 True
      refine T.skip ?_
      refine T.seq ?_
      refine T.block ?_
      refine T.seq ?_
      refine T.region ?_ -- region 3
      refine Rg.move rfl rfl ?_
      obtain ⟨x, hx⟩ : ∃ x, l[k]? = some x := ⟨_, List.getElem?_eq_getElem (by omega)⟩
      refine Rg.idx (M := M) Tryz.underlying32 I3 rfl rfl rfl hv (Le.refl _ _) (by omega) (fun u3_1 a3_1 hg3_1 hu3_1 => ?_)
      obtain rfl : x = a3_1 := Eq.symm (Option.some.inj (hg3_1.symm.trans (by simpa using hx)))
      refine Rg.loadi64 (M := M) Tryz.underlying3 rfl rfl (by assumption) (by repeat (first | exact Le.refl _ _ | refine Le.trans (Step.le (by assumption)) ?_)) (fun in3_2 => ?_)
      refine Rg.assign rfl rfl ?_
      refine Rg.assign rfl rfl ?_
      refine Rg.nil ?_
      refine T.seq ?_
      refine T.region ?_ -- region 4
      refine Rg.move rfl rfl ?_
      refine Rg.ilt rfl rfl rfl ?_
      refine Rg.move rfl rfl ?_
      refine Rg.gsplitp (g := 14) rfl (fun g4_2 => ?_) (fun g4_2 => ?_)
      · -- g4_2 True
        refine Rg.gno rfl rfl rfl rfl ?_
        refine Rg.gno rfl rfl rfl rfl ?_
        refine Rg.pickt rfl rfl rfl ?_
        refine Rg.move rfl rfl ?_
        refine Rg.gno rfl rfl rfl rfl ?_
        refine Rg.gno rfl rfl rfl rfl ?_
        refine Rg.gno rfl rfl rfl rfl ?_
        refine Rg.gnox rfl rfl rfl ?_
        refine Rg.gnox rfl rfl rfl ?_
        refine Rg.gnox rfl rfl rfl ?_
        refine Rg.gnox rfl rfl rfl ?_
        refine Rg.gnox rfl rfl rfl ?_
        refine Rg.gnox rfl rfl rfl ?_
        refine Rg.gnox rfl rfl rfl ?_
        refine Rg.gno rfl rfl rfl rfl ?_
        refine Rg.pickt rfl rfl rfl ?_
        refine Rg.nil ?_
        refine T.ift rfl ?_
        refine T.seq ?_
        refine T.region ?_ -- region 5
        refine Rg.assign rfl rfl ?_
        refine Rg.nil ?_
        refine T.ret ?_
        refine Kret1 rfl rfl ⟨congrArg Value.bool (Eq.symm ?_), rfl⟩
        rw [hr, rises_drop hx, all_drop _ hx]
        by_cases h7 : last < x
        · have h2 : ¬ x < 2147483648 := by omega
          simp [h2]
        · simp [h7]
      · -- g4_2 False
        refine Rg.gyes rfl rfl ?_
        refine Rg.move rfl rfl ?_
        refine Rg.gyes rfl rfl ?_
        refine Rg.ige rfl rfl rfl ?_
        refine Rg.pickf rfl rfl rfl ?_
        refine Rg.move rfl rfl ?_
        refine Rg.gsplitp (g := 18) rfl (fun g4_6 => ?_) (fun g4_6 => ?_)
        · -- g4_6 True
          refine Rg.gno rfl rfl rfl rfl ?_
          refine Rg.gno rfl rfl rfl rfl ?_
          refine Rg.gno rfl rfl rfl rfl ?_
          refine Rg.gnox rfl rfl rfl ?_
          refine Rg.gnox rfl rfl rfl ?_
          refine Rg.gnox rfl rfl rfl ?_
          refine Rg.gnox rfl rfl rfl ?_
          refine Rg.gnox rfl rfl rfl ?_
          refine Rg.gnox rfl rfl rfl ?_
          refine Rg.gnox rfl rfl rfl ?_
          refine Rg.gno rfl rfl rfl rfl ?_
          refine Rg.pickt rfl rfl rfl ?_
          refine Rg.nil ?_
          refine T.ift rfl ?_
          refine T.seq ?_
          refine T.region ?_ -- region 5
          refine Rg.assign rfl rfl ?_
          refine Rg.nil ?_
          refine T.ret ?_
          refine Kret1 rfl rfl ⟨congrArg Value.bool (Eq.symm ?_), rfl⟩
          rw [hr, rises_drop hx, all_drop _ hx]
          by_cases h7 : last < x
          · have h2 : ¬ x < 2147483648 := by omega
            simp [h2]
          · simp [h7]
        · -- g4_6 False
          refine Rg.gyes rfl rfl ?_
          refine Rg.move rfl rfl ?_
          refine Rg.gyes rfl rfl ?_
          refine Rg.igt rfl rfl rfl ?_
          refine Rg.gyes rfl rfl ?_
          refine Rg.move rfl rfl ?_
          refine Rg.gsplitp (g := 21) rfl (fun g4_9 => ?_) (fun g4_9 => ?_)
          · -- g4_9 True
            refine Rg.gyes rfl rfl ?_
            refine Rg.move rfl rfl ?_
            refine Rg.gyes rfl rfl ?_
            refine Rg.move rfl rfl ?_
            refine Rg.gyes rfl rfl ?_
            refine Rg.move rfl rfl ?_
            refine Rg.gyes rfl rfl ?_
            refine Rg.isub rfl rfl rfl (by omega) ?_
            refine Rg.gyes rfl rfl ?_
            refine Rg.idx (M := M) Tryz.underlying32 I3 rfl rfl rfl hv (Le.refl _ _) (by omega) (fun u4_14 a4_14 hg4_14 hu4_14 => ?_)
            obtain rfl : last = a4_14 := Eq.symm (Option.some.inj (hg4_14.symm.trans (by rw [show ((k : Int) - 1).toNat = k - 1 from by omega]; exact h1 (by omega))))
            refine Rg.gyes rfl rfl ?_
            refine Rg.loadi64 (M := M) Tryz.underlying3 rfl rfl (by assumption) (by repeat (first | exact Le.refl _ _ | refine Le.trans (Step.le (by assumption)) ?_)) (fun in4_15 => ?_)
            refine Rg.gyes rfl rfl ?_
            refine Rg.ile rfl rfl rfl ?_
            refine Rg.gyes rfl rfl ?_
            refine Rg.pickt rfl rfl rfl ?_
            refine Rg.pickf rfl rfl rfl ?_
            refine Rg.nil ?_
            refine T.ifp rfl (fun c4 => ?_) (fun c4 => ?_)
            · -- c4 True
              refine T.seq ?_
              refine T.region ?_ -- region 5
              refine Rg.assign rfl rfl ?_
              refine Rg.nil ?_
              refine T.ret ?_
              refine Kret1 rfl rfl ⟨congrArg Value.bool (Eq.symm ?_), rfl⟩
              rw [hr, rises_drop hx, all_drop _ hx]
              by_cases h7 : last < x
              · have h2 : ¬ x < 2147483648 := by omega
                simp [h2]
              · simp [h7]
            · -- c4 False
              refine T.skip ?_
              refine T.region ?_ -- region 6
              refine Rg.iadd rfl rfl rfl (by omega) ?_
              refine Rg.move rfl rfl ?_
              refine Rg.nil ?_
              refine ⟨rfl, (k + 1, x), (.cons rfl (.cons rfl (.cons rfl (.cons rfl .nil)))), ?_, ?_⟩
              · refine ⟨rfl, by simp only; omega, ?_, by simp only; omega, fun h => by simp at h, fun _ => by simpa using hx⟩
                rw [hr, rises_drop hx, all_drop _ hx, decide_eq_true (show last < x by omega), decide_eq_true (show x < 2147483648 by omega), Bool.true_and, Bool.true_and]
              · simp only; omega
          · -- g4_9 False
            refine Rg.gno rfl rfl rfl rfl ?_
            refine Rg.gno rfl rfl rfl rfl ?_
            refine Rg.gno rfl rfl rfl rfl ?_
            refine Rg.gno rfl rfl rfl rfl ?_
            refine Rg.gno rfl rfl rfl rfl ?_
            refine Rg.gno rfl rfl rfl rfl ?_
            refine Rg.gno rfl rfl rfl rfl ?_
            refine Rg.gyes rfl rfl ?_
            refine Rg.pickf rfl rfl rfl ?_
            refine Rg.pickf rfl rfl rfl ?_
            refine Rg.nil ?_
            refine T.iff rfl ?_
            refine T.skip ?_
            refine T.region ?_ -- region 6
            refine Rg.iadd rfl rfl rfl (by omega) ?_
            refine Rg.move rfl rfl ?_
            refine Rg.nil ?_
            refine ⟨rfl, (k + 1, x), (.cons rfl (.cons rfl (.cons rfl (.cons rfl .nil)))), ?_, ?_⟩
            · refine ⟨rfl, by simp only; omega, ?_, by simp only; omega, fun h => by simp at h, fun _ => by simpa using hx⟩
              rw [hr, rises_drop hx, all_drop _ hx, decide_eq_true (show last < x by omega), decide_eq_true (show x < 2147483648 by omega), Bool.true_and, Bool.true_and]
            · simp only; omega
    · -- c2 False
      refine T.exit ?_
      refine T.seq ?_
      refine T.region ?_ -- region 7
      refine Rg.assign rfl rfl ?_
      refine Rg.nil ?_
      refine T.ret ?_
      refine Kret1 rfl rfl ⟨congrArg Value.bool (Eq.symm ?_), rfl⟩
      rw [hr, List.drop_eq_nil_of_le (by omega)]; rfl
/-- 'concordance/posting.May' -/
theorem pMay_spec {M : PSet} {w0 : World} {v : Value} {l : List Po} (hM : Lt M w0) (hv : ((RT.po).sl).V M w0 l v) :
    Spec Tryz.prog 171 #[v] w0 (fun v' w' => v' = .bool (mayPo (-1) l) ∧ Step M w0 M w' none') := by
  have hlen := V_sl_len hv
  refine spec_of (args := [_]) (fn := Tryz.f171) Tryz.func171 rfl (n := 36) Tryz.ntmps171 ?_
  refine T.seq ?_
  refine T.region ?_ -- region 0
  refine Rg.assign rfl rfl ?_
  refine Rg.nil ?_
  refine T.seq ?_
  refine T.region ?_ -- region 1
  refine Rg.assign rfl rfl ?_
  refine Rg.nil ?_
  refine T.seq ?_
  refine T.seq ?_
  refine T.region ?_ -- region 2
  refine Rg.move rfl rfl ?_
  first | refine Rg.lensl Tryz.underlying107 rfl (by assumption) rfl ?_ | refine Rg.lenown Tryz.underlying107 rfl (by assumption) rfl ?_
  refine Rg.move rfl rfl ?_
  refine Rg.nil ?_
  refine T.block ?_
  refine T.loop (σ := Nat × Int) (fun s => [(6, v), (7, .int .i64 l.length), (8, .int .i64 s.1), (3, .int .i64 s.2)]) (fun s w => Step M w0 M w none' ∧ s.1 ≤ l.length ∧ mayPo (-1) l = mayPo s.2 (l.drop s.1)) (fun s => l.length - s.1) (0, -1) (.cons rfl (.cons rfl (.cons rfl (.cons rfl .nil)))) ?_ ?_ -- loop 0
  · exact ⟨Step.refl _ _, Nat.zero_le _, rfl⟩
  · rintro ⟨k, last⟩ w1 ⟨S, hk, hr⟩
    dsimp only at hk hr ⊢
    have hMw := S.lt hM
    refine T.seq ?_
    refine T.region ?_ -- region 3
    refine Rg.ilt rfl rfl rfl ?_
    refine Rg.nil ?_
    refine T.seq ?_
    refine T.ifp rfl (fun c3 => ?_) (fun c3 => ?_)
    · -- c3 True
      refine T.skip ?_
      refine T.seq ?_
      refine T.block ?_
      refine T.seq ?_
      refine T.region ?_ -- region 4
      obtain ⟨⟨d, ps⟩, hx⟩ : ∃ x, l[k]? = some x := ⟨_, List.getElem?_eq_getElem (by omega)⟩
      refine Rg.idx (M := M) Tryz.underlying107 I153 rfl rfl rfl (hv.le S.le) (Le.refl _ _) (by omega) (fun u4_0 a4_0 hg4_0 hu4_0 => ?_)
      obtain rfl : a4_0 = (d, ps) := Option.some.inj (hg4_0.symm.trans (by simpa using hx))
      refine Rg.loadagg (M := M) (A := RT.po) Tryz.underlying153 rfl I153 (by decide) rfl rfl rfl (by assumption) (by repeat (first | exact Le.refl _ _ | refine Le.trans (Step.le (by assumption)) ?_)) (fun v4_1 hv4_1 => ?_)
      refine Rg.newagg (A := RT.po) (M := M) I153 rfl rfl rfl rfl rfl (by assumption) (by repeat (first | exact Le.refl _ _ | refine Le.trans (Step.le (by assumption)) ?_)) (by first | assumption | exact Step.lt (by assumption) (by assumption) | exact Step.lt (by assumption) (Step.lt (by assumption) (by assumption))) (fun u4_2 w4_2 hu4_2 s4_2 z4_2 => ?_)
      refine Rg.nil ?_
      refine T.seq ?_
      refine T.seq ?_
      refine T.region ?_ -- region 5
      refine Rg.fieldAddr (M := M) (A := RT.po) (B := RT.int .i64) Tryz.underlying153 rfl rfl I3 (by decide) (po0) rfl rfl (by decide) (by assumption) (by repeat (first | exact Le.refl _ _ | refine Le.trans (Step.le (by assumption)) ?_)) (fun u5_0 hu5_0 => ?_)
      refine Rg.loadi64 (M := M) Tryz.underlying3 rfl rfl hu5_0 (Le.refl _ _) (fun in5_1 => ?_)
      refine Rg.eqv (v' := .int .i64 d) rfl ?_
      simp only at in5_1
      refine Rg.move rfl rfl ?_
      refine Rg.ile rfl rfl rfl ?_
      refine Rg.move rfl rfl ?_
      refine Rg.gsplitp (g := 16) rfl (fun g5_4 => ?_) (fun g5_4 => ?_)
      · -- g5_4 True
        refine Rg.gno rfl rfl rfl rfl ?_
        refine Rg.gno rfl rfl rfl rfl ?_
        refine Rg.gno rfl rfl rfl rfl ?_
        refine Rg.pickt rfl rfl rfl ?_
        refine Rg.move rfl rfl ?_
        refine Rg.gno rfl rfl rfl rfl ?_
        refine Rg.gno rfl rfl rfl rfl ?_
        refine Rg.gno rfl rfl rfl rfl ?_
        refine Rg.gno rfl rfl rfl rfl ?_
        refine Rg.pickt rfl rfl rfl ?_
        refine Rg.move rfl rfl ?_
        refine Rg.gno rfl rfl rfl rfl ?_
        refine Rg.gno rfl rfl rfl rfl ?_
        refine Rg.gno rfl rfl rfl rfl ?_
        refine Rg.gno rfl rfl rfl rfl ?_
        refine Rg.pickt rfl rfl rfl ?_
        refine Rg.nil ?_
        refine T.ift rfl ?_
        refine T.seq ?_
        refine T.region ?_ -- region 6
        refine Rg.assign rfl rfl ?_
        refine Rg.nil ?_
        refine T.ret ?_
        refine Kret1 rfl rfl ⟨congrArg Value.bool (Eq.symm ?_), S.trans0 s4_2⟩
        rw [hr, mayPo_drop hx]
        first
        | (rw [decide_eq_false (show ¬ last < d by omega)]; simp; done)
        | (rw [decide_eq_false (show ¬ d < 2147483648 by omega)]; simp; done)
        | (rw [show ps = [] from List.length_eq_zero_iff.1 (by omega)]; simp; done)
        | (simp [c5]; done)
      · -- g5_4 False
        refine Rg.gyes rfl rfl ?_
        refine Rg.fieldAddr (M := M) (A := RT.po) (B := RT.int .i64) Tryz.underlying153 rfl rfl I3 (by decide) (po0) rfl rfl (by decide) (by assumption) (by repeat (first | exact Le.refl _ _ | refine Le.trans (Step.le (by assumption)) ?_)) (fun u5_5 hu5_5 => ?_)
        refine Rg.gyes rfl rfl ?_
        refine Rg.loadi64 (M := M) Tryz.underlying3 rfl rfl hu5_5 (Le.refl _ _) (fun in5_6 => ?_)
        refine Rg.eqv (v' := .int .i64 d) rfl ?_
        refine Rg.gyes rfl rfl ?_
        refine Rg.ige rfl rfl rfl ?_
        refine Rg.pickf rfl rfl rfl ?_
        refine Rg.move rfl rfl ?_
        refine Rg.gsplitp (g := 21) rfl (fun g5_9 => ?_) (fun g5_9 => ?_)
        · -- g5_9 True
          refine Rg.gno rfl rfl rfl rfl ?_
          refine Rg.gno rfl rfl rfl rfl ?_
          refine Rg.gno rfl rfl rfl rfl ?_
          refine Rg.gno rfl rfl rfl rfl ?_
          refine Rg.pickt rfl rfl rfl ?_
          refine Rg.move rfl rfl ?_
          refine Rg.gno rfl rfl rfl rfl ?_
          refine Rg.gno rfl rfl rfl rfl ?_
          refine Rg.gno rfl rfl rfl rfl ?_
          refine Rg.gno rfl rfl rfl rfl ?_
          refine Rg.pickt rfl rfl rfl ?_
          refine Rg.nil ?_
          refine T.ift rfl ?_
          refine T.seq ?_
          refine T.region ?_ -- region 6
          refine Rg.assign rfl rfl ?_
          refine Rg.nil ?_
          refine T.ret ?_
          refine Kret1 rfl rfl ⟨congrArg Value.bool (Eq.symm ?_), S.trans0 s4_2⟩
          rw [hr, mayPo_drop hx]
          first
          | (rw [decide_eq_false (show ¬ last < d by omega)]; simp; done)
          | (rw [decide_eq_false (show ¬ d < 2147483648 by omega)]; simp; done)
          | (rw [show ps = [] from List.length_eq_zero_iff.1 (by omega)]; simp; done)
          | (simp [c5]; done)
        · -- g5_9 False
          refine Rg.gyes rfl rfl ?_
          refine Rg.fieldAddr (M := M) (A := RT.po) (B := (RT.int .i64).sl) Tryz.underlying153 rfl rfl I32 (by decide) (po1) rfl rfl (by decide) (by assumption) (by repeat (first | exact Le.refl _ _ | refine Le.trans (Step.le (by assumption)) ?_)) (fun u5_10 hu5_10 => ?_)
          refine Rg.gyes rfl rfl ?_
          refine Rg.load (M := M) Tryz.underlying32 rfl rfl rfl rfl rfl (by assumption) (by repeat (first | exact Le.refl _ _ | refine Le.trans (Step.le (by assumption)) ?_)) (fun v5_11 hv5_11 => ?_)
          refine Rg.gyes rfl rfl ?_
          refine Rg.lensl Tryz.underlying32 rfl hv5_11 rfl ?_
          refine Rg.eqv (v' := .int .i64 ps.length) rfl ?_
          refine Rg.gyes rfl rfl ?_
          refine Rg.ieq rfl rfl rfl ?_
          refine Rg.pickf rfl rfl rfl ?_
          refine Rg.move rfl rfl ?_
          refine Rg.gsplitp (g := 27) rfl (fun g5_15 => ?_) (fun g5_15 => ?_)
          · -- g5_15 True
            refine Rg.gno rfl rfl rfl rfl ?_
            refine Rg.gno rfl rfl rfl rfl ?_
            refine Rg.gno rfl rfl rfl rfl ?_
            refine Rg.gno rfl rfl rfl rfl ?_
            refine Rg.pickt rfl rfl rfl ?_
            refine Rg.nil ?_
            refine T.ift rfl ?_
            refine T.seq ?_
            refine T.region ?_ -- region 6
            refine Rg.assign rfl rfl ?_
            refine Rg.nil ?_
            refine T.ret ?_
            refine Kret1 rfl rfl ⟨congrArg Value.bool (Eq.symm ?_), S.trans0 s4_2⟩
            rw [hr, mayPo_drop hx]
            first
            | (rw [decide_eq_false (show ¬ last < d by omega)]; simp; done)
            | (rw [decide_eq_false (show ¬ d < 2147483648 by omega)]; simp; done)
            | (rw [show ps = [] from List.length_eq_zero_iff.1 (by omega)]; simp; done)
            | (simp [c5]; done)
          · -- g5_15 False
            refine Rg.gyes rfl rfl ?_
            refine Rg.fieldAddr (M := M) (A := RT.po) (B := (RT.int .i64).sl) Tryz.underlying153 rfl rfl I32 (by decide) (po1) rfl rfl (by decide) (by assumption) (by repeat (first | exact Le.refl _ _ | refine Le.trans (Step.le (by assumption)) ?_)) (fun u5_16 hu5_16 => ?_)
            refine Rg.gyes rfl rfl ?_
            refine Rg.load (M := M) Tryz.underlying32 rfl rfl rfl rfl rfl (by assumption) (by repeat (first | exact Le.refl _ _ | refine Le.trans (Step.le (by assumption)) ?_)) (fun v5_17 hv5_17 => ?_)
            refine Rg.gyes rfl rfl ?_
            refine Rg.call rfl rfl E212 (prises_spec hv5_17) (fun r5 w5 h5 => ?_)
            obtain ⟨rfl, rfl⟩ := h5
            refine Rg.gyes rfl rfl ?_
            refine Rg.not rfl rfl ?_
            refine Rg.eqv (v' := .bool (decide (¬ risesB ps = true))) (by simp) ?_
            refine Rg.pickf rfl rfl rfl ?_
            refine Rg.nil ?_
            refine T.ifp rfl (fun c5 => ?_) (fun c5 => ?_)
            · -- c5 True
              refine T.seq ?_
              refine T.region ?_ -- region 6
              refine Rg.assign rfl rfl ?_
              refine Rg.nil ?_
              refine T.ret ?_
              refine Kret1 rfl rfl ⟨congrArg Value.bool (Eq.symm ?_), S.trans0 s4_2⟩
              rw [hr, mayPo_drop hx]
              first
              | (rw [decide_eq_false (show ¬ last < d by omega)]; simp; done)
              | (rw [decide_eq_false (show ¬ d < 2147483648 by omega)]; simp; done)
              | (rw [show ps = [] from List.length_eq_zero_iff.1 (by omega)]; simp; done)
              | (simp [c5]; done)
            · -- c5 False
              refine T.skip ?_
              refine T.region ?_ -- region 7
              refine Rg.fieldAddr (M := M) (A := RT.po) (B := RT.int .i64) Tryz.underlying153 rfl rfl I3 (by decide) (po0) rfl rfl (by decide) (by assumption) (by repeat (first | exact Le.refl _ _ | refine Le.trans (Step.le (by assumption)) ?_)) (fun u7_0 hu7_0 => ?_)
              refine Rg.loadi64 (M := M) Tryz.underlying3 rfl rfl hu7_0 (Le.refl _ _) (fun in7_1 => ?_)
              refine Rg.eqv (v' := .int .i64 d) rfl ?_
              refine Rg.assign rfl rfl ?_
              refine Rg.nil ?_
              refine T.region ?_ -- region 8
              refine Rg.iadd rfl rfl rfl (by omega) ?_
              refine Rg.move rfl rfl ?_
              refine Rg.nil ?_
              refine ⟨rfl, (k + 1, d), (.cons rfl (.cons rfl (.cons rfl (.cons rfl .nil)))), ?_, ?_⟩
              · refine ⟨S.trans0 s4_2, by simp only; omega, ?_⟩
                have hne : ps.isEmpty = false := by cases ps with
                  | nil => simp at g5_15
                  | cons a t => rfl
                rw [hr, mayPo_drop hx, decide_eq_true (show last < d by omega), decide_eq_true (show d < 2147483648 by omega), hne, Decidable.not_not.1 c5]; rfl
              · simp only; omega
    · -- c3 False
      refine T.exit ?_
      refine T.seq ?_
      refine T.region ?_ -- region 9
      refine Rg.assign rfl rfl ?_
      refine Rg.nil ?_
      refine T.ret ?_
      refine Kret1 rfl rfl ⟨congrArg Value.bool (Eq.symm ?_), S⟩
      rw [hr, List.drop_eq_nil_of_le (by omega)]; rfl
/-- 'slices.Chunk[[]concordance/api.Posting,concordance/api.Posting]' -/
theorem Chunk_spec {M : PSet} {w0 : World} {v : Value} {l : List Po} (hM : Lt M w0) (hv : ((RT.po).sl).V M w0 l v) :
    Spec Tryz.prog 172 #[v, .int .i64 8] w0 (fun v' w' => ∃ bs bn, v' = .func (.func 213) [].toArray [.pointer (some ⟨bs, 0, none⟩), .pointer (some ⟨bn, 0, none⟩)].toArray ∧ w'.heap[bs]? = some (.cells #[v] 107 (0, 0)) ∧ w'.heap[bn]? = some (.cells #[.int .i64 8] 3 (0, 0)) ∧ w0.heap.size ≤ bs ∧ w0.heap.size ≤ bn ∧ Step M w0 M w' none') := by
  refine spec_of (args := [_, _]) (fn := Tryz.f172) Tryz.func172 rfl (n := 9) Tryz.ntmps172 ?_
  refine T.seq ?_
  refine T.region ?_ -- region 0
  refine Rg.box M rfl rfl (fun bs w1 h1 h1' hS s1 => ?_)
  rw [V_cells hv] at hS
  refine Rg.box (ins M bs) rfl rfl (fun bn w2 h2 h2' hN s2 => ?_)
  have hS2 := s2.same0 hS
  have hz1 := s1.size
  refine Rg.assign rfl rfl ?_
  refine Rg.nil ?_
  refine T.seq ?_
  refine T.seq ?_
  refine T.region ?_ -- region 1
  refine Rg.loadc Tryz.underlying3 rfl rfl rfl hN rfl ?_
  refine Rg.ilt rfl rfl rfl ?_
  refine Rg.nil ?_
  refine T.iffp rfl ((by decide)) ?_
  refine T.skip ?_
  refine T.seq ?_
  refine T.region ?_ -- region 3
  refine Rg.makeFunc (xs := []) (ys := [.tmp 2, .tmp 3]) rfl rfl rfl ?_
  refine Rg.assign rfl rfl ?_
  refine Rg.nil ?_
  refine T.ret ?_
  exact Kret1 rfl rfl ⟨bs, bn, rfl, hS2, hN, h1, by omega, (s1.trans0 s2).back⟩
/-- 'slices.Chunk[[]concordance/api.Posting,concordance/api.Posting]$1' -/
theorem Chunk1_spec {w0 : World} {bs bn yl : Nat} {v : Value} {l : List Po} {M : PSet} {wv : World} {J : Nat → World → Prop} {Jx : World → Prop} (hv : ((RT.po).sl).V M wv l v) (hst : ∀ i w w', J i w → Step none' w none' w' none' → J i w') (hbx : ∀ i w, J i w → w.heap[bs]? = some (.cells #[v] 107 (0, 0)) ∧ w.heap[bn]? = some (.cells #[.int .i64 8] 3 (0, 0))) (hy : ∀ (i : Nat) (w : World) (u : Value), J i w → i < l.length → ((RT.po).sl).V M wv ((l.drop i).take 8) u → Yield Tryz.prog yl [u].toArray w (fun r w' => ∃ b, r = .bool b ∧ (b = true → J (min (i + 8) l.length) w') ∧ (b = false → Jx w'))) (h0 : J 0 w0) :
    Spec Tryz.prog 213 #[.func (.yield yl) #[] #[], .pointer (some ⟨bs, 0, none⟩), .pointer (some ⟨bn, 0, none⟩)] w0 (fun _ w' => J l.length w' ∨ Jx w') := by
  have hlen := V_sl_len hv
  refine spec_of (args := [_, _, _]) (fn := Tryz.f213) Tryz.func213 rfl (n := 31) Tryz.ntmps213 ?_
  refine T.seq ?_
  refine T.region ?_ -- region 0
  refine Rg.assign rfl rfl ?_
  refine Rg.nil ?_
  refine T.block ?_
  refine T.loop (σ := Nat) (fun s => [(0, .func (.yield yl) #[] #[]), (1, .pointer (some ⟨bs, 0, none⟩)), (2, .pointer (some ⟨bn, 0, none⟩)), (4, .int .i64 s)]) (fun s w => J (min s l.length) w ∧ s ≤ l.length + 8) (fun s => l.length + 8 - s) 0 (.cons rfl (.cons rfl (.cons rfl (.cons rfl .nil)))) ?_ ?_ -- loop 0
  · exact ⟨by rw [Nat.zero_min]; exact h0, Nat.zero_le _⟩
  · rintro k w1 ⟨hJ, hk⟩
    obtain ⟨hb1, hb2⟩ := hbx _ _ hJ
    refine T.seq ?_
    refine T.seq ?_
    refine T.region ?_ -- region 1
    refine Rg.move rfl rfl ?_
    refine Rg.loadc Tryz.underlying107 rfl rfl rfl hb1 rfl ?_
    first | refine Rg.lensl Tryz.underlying107 rfl (by assumption) rfl ?_ | refine Rg.lenown Tryz.underlying107 rfl (by assumption) rfl ?_
    refine Rg.ilt rfl rfl rfl ?_
    refine Rg.nil ?_
    refine T.ifp rfl (fun c1 => ?_) (fun c1 => ?_)
    · -- c1 True
      refine T.skip ?_
      refine T.seq ?_
      refine T.block ?_
      refine T.seq ?_
      apply T.draw (M := none') mixed [Asr.eq _, Asr.eq _, Asr.eq _, Asr.pure (fun v => ((RT.po).sl).V M wv (l.drop k) v), Asr.eq _, Asr.eq _, Asr.eq _] -- region 3
      · rfl
      · -- its operations
        refine Obls.cons ?_ ?_
        · intro wD E sD -- 0
          refine Rg.loadc Tryz.underlying3 rfl rfl rfl (Step.same0 sD hb2) rfl ?_
          exact Rg.nil ⟨rfl, rfl, _, rfl, rfl, Step.refl _ _⟩
        refine Obls.cons ?_ ?_
        · intro wD E sD -- 1
          refine Rg.loadc Tryz.underlying107 rfl rfl rfl (Step.same0 sD hb1) rfl ?_
          exact Rg.nil ⟨rfl, rfl, _, rfl, rfl, Step.refl _ _⟩
        refine Obls.cons ?_ ?_
        · intro wD E sD -- 2
          refine Rg.move rfl rfl ?_
          exact Rg.nil ⟨rfl, rfl, _, rfl, rfl, Step.refl _ _⟩
        refine Obls.cons ?_ ?_
        · intro wD E sD -- 3
          intro x_ hx_; have hx_ : x_ = _ := hx_; subst x_
          intro x_ hx_; have hx_ : x_ = _ := hx_; subst x_
          refine Rg.slice_l (A := RT.po) (hn := by decide) Tryz.underlying107 I153 rfl rfl rfl hv (by omega) (fun u hu => ?_)
          rw [Int.toNat_natCast] at hu
          exact Rg.nil ⟨rfl, rfl, _, rfl, hu, Step.refl _ _⟩
        refine Obls.cons ?_ ?_
        · intro wD E sD -- 4
          intro v3 hv3
          have hv3' : ((RT.po).sl).V M wv (l.drop k) v3 := hv3
          refine Rg.lensl Tryz.underlying107 rfl hv3' rfl ?_
          exact Rg.nil ⟨rfl, rfl, _, rfl, rfl, Step.refl _ _⟩
        refine Obls.cons ?_ ?_
        · intro wD E sD -- 5
          intro x_ hx_; have hx_ : x_ = _ := hx_; subst x_
          intro x_ hx_; have hx_ : x_ = _ := hx_; subst x_
          refine Rg.min2 rfl rfl rfl ?_
          exact Rg.nil ⟨rfl, rfl, _, rfl, rfl, Step.refl _ _⟩
        refine Obls.cons ?_ ?_
        · intro wD E sD -- 6
          intro x_ hx_; have hx_ : x_ = _ := hx_; subst x_
          intro x_ hx_; have hx_ : x_ = _ := hx_; subst x_
          intro x_ hx_; have hx_ : x_ = _ := hx_; subst x_
          intro x_ hx_; have hx_ : x_ = _ := hx_; subst x_
          intro v3 hv3
          intro x_ hx_; have hx_ : x_ = _ := hx_; subst x_
          intro x_ hx_; have hx_ : x_ = _ := hx_; subst x_
          refine Rg.assign rfl rfl ?_
          exact Rg.nil ⟨rfl, rfl, _, rfl, rfl, Step.refl _ _⟩
        exact Obls.nil
      · -- behind it
        intro wD3 sD3
        intro x_ hx_; have hx_ : x_ = _ := hx_; subst x_
        intro x_ hx_; have hx_ : x_ = _ := hx_; subst x_
        intro x_ hx_; have hx_ : x_ = _ := hx_; subst x_
        intro v3_3 hv3_3
        intro x_ hx_; have hx_ : x_ = _ := hx_; subst x_
        intro x_ hx_; have hx_ : x_ = _ := hx_; subst x_
        intro x_ hx_; have hx_ : x_ = _ := hx_; subst x_
        rw [show min k l.length = k from by omega] at hJ
        have hJ3 := hst _ _ _ hJ sD3
        obtain ⟨hb3, hb4⟩ := hbx _ _ hJ3
        refine T.seq ?_
        refine T.region ?_ -- region 4
        refine Rg.move rfl rfl ?_
        refine Rg.loadc Tryz.underlying107 rfl rfl rfl hb3 rfl ?_
        refine Rg.move rfl rfl ?_
        refine Rg.move rfl rfl ?_
        refine Rg.move rfl rfl ?_
        refine Rg.iadd rfl rfl rfl (by omega) ?_
        refine Rg.move rfl rfl ?_
        refine Rg.move rfl rfl ?_
        refine Rg.iadd rfl rfl rfl (by omega) ?_
        refine Rg.slice_lhm (A := RT.po) (hn := by decide) Tryz.underlying107 I153 rfl rfl rfl rfl rfl hv (by rw [List.length_drop]; omega) (fun u hu => ?_)
        have he : (l.take ((k : Int) + min 8 ((l.drop k).length : Int)).toNat).drop (k : Int).toNat = (l.drop k).take 8 := by
          rw [Int.toNat_natCast, List.drop_take, List.length_drop, show ((k : Int) + min 8 ((l.length - k : Nat) : Int)).toNat - k = min 8 (l.length - k) from by omega, List.take_eq_take_iff, List.length_drop]; omega
        rw [he] at hu
        refine Rg.yield rfl (vs := [u]) rfl rfl (hy k _ u hJ3 (by omega) hu) (fun r4 w4 h4 => ?_)
        obtain ⟨b, rfl, hb5, hb6⟩ := h4
        refine Rg.not rfl rfl ?_
        refine Rg.eqv (v' := .bool (decide (¬ b = true))) (by simp) ?_
        refine Rg.nil ?_
        refine T.ifp rfl (fun c4 => ?_) (fun c4 => ?_)
        · -- c4 True
          refine T.ret ?_
          exact Kret0 rfl (.inr (hb6 (by simpa using c4)))
        · -- c4 False
          refine T.skip ?_
          refine T.region ?_ -- region 2
          refine Rg.move rfl rfl ?_
          have hJ5 := hb5 (Decidable.not_not.1 c4)
          refine Rg.loadc Tryz.underlying3 rfl rfl rfl (hbx _ _ hJ5).2 rfl ?_
          refine Rg.iadd rfl rfl rfl (by omega) ?_
          refine Rg.assign rfl rfl ?_
          refine Rg.nil ?_
          refine ⟨rfl, k + 8, (.cons rfl (.cons rfl (.cons rfl (.cons rfl .nil)))), ?_, ?_⟩
          · exact ⟨hJ5, by omega⟩
          · show l.length + 8 - (k + 8) < l.length + 8 - k; omega
    · -- c1 False
      refine T.exit ?_
      rw [show min k l.length = l.length from by omega] at hJ
      change Kret Tryz.prog Tryz.f213 (fun _ w' => J l.length w' ∨ Jx w') .normal _ [] _
      exact Kret0n rfl (.inl hJ)
end Go.K
