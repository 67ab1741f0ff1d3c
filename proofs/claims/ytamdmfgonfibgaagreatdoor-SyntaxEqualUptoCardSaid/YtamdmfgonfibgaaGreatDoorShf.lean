/- Contracts of functions of the library of Go, as answers for the evaluator. -/
import Derived.Test.YtamdmfgonfibgaaGreatDoorNodes
import Derived.Shelf.Strings.Split
import Derived.Shelf.Strings.SlTrimAscii
import Derived.Shelf.Unicode.ValidAny
namespace Go.Proofs
def Tryz.lays160_ren : Go.Shelf.Ren := ⟨fun | 160 => 75 | 232 => 89 | 231 => 88 | 227 => 90 | 234 => 92 | 233 => 91 | 236 => 94 | 235 => 93 | 228 => 103 | 271 => 105 | 151 => 104 | 197 => 101 | 120 => 112 | 152 => 111 | 260 => 110 | 137 => 115 | 119 => 116 | 224 => 108 | 225 => 107 | 217 => 106 | 266 => 113 | n => n, fun | 9 => 9 | 4 => 4 | 3 => 3 | 5 => 5 | 117 => 133 | 116 => 132 | 0 => 0 | 124 => 136 | 21 => 21 | 105 => 141 | 46 => 87 | 119 => 78 | 139 => 86 | 138 => 85 | n => n, fun | 3 => 1 | 4 => 2 | n => n⟩
theorem Tryz.lays160 : Go.Proofs.Lays.n160 Tryz.prog Tryz.lays160_ren := {
  mixed := by kernel_rfl
  f119 := Tryz.func116.trans (congrArg some (by kernel_rfl))
  f120 := Tryz.func112.trans (congrArg some (by kernel_rfl))
  f137 := Tryz.func115.trans (congrArg some (by kernel_rfl))
  f151 := Tryz.func104.trans (congrArg some (by kernel_rfl))
  f152 := Tryz.func111.trans (congrArg some (by kernel_rfl))
  f160 := Tryz.func75.trans (congrArg some (by kernel_rfl))
  f197 := Tryz.func101.trans (congrArg some (by kernel_rfl))
  f217 := Tryz.func106.trans (congrArg some (by kernel_rfl))
  f224 := Tryz.func108.trans (congrArg some (by kernel_rfl))
  f225 := Tryz.func107.trans (congrArg some (by kernel_rfl))
  f227 := Tryz.func90.trans (congrArg some (by kernel_rfl))
  f228 := Tryz.func103.trans (congrArg some (by kernel_rfl))
  f231 := Tryz.func88.trans (congrArg some (by kernel_rfl))
  f232 := Tryz.func89.trans (congrArg some (by kernel_rfl))
  f233 := Tryz.func91.trans (congrArg some (by kernel_rfl))
  f234 := Tryz.func92.trans (congrArg some (by kernel_rfl))
  f235 := Tryz.func93.trans (congrArg some (by kernel_rfl))
  f236 := Tryz.func94.trans (congrArg some (by kernel_rfl))
  f260 := Tryz.func110.trans (congrArg some (by kernel_rfl))
  f266 := Tryz.func113.trans (congrArg some (by kernel_rfl))
  f271 := Tryz.func105.trans (congrArg some (by kernel_rfl))
  t0 := Tryz.underlying0
  a0 := Tryz.isAgg0
  z0 := Tryz.sizeOf0
  v0 := Tryz.zeroValue0
  t3 := Tryz.underlying3
  a3 := Tryz.isAgg3
  z3 := Tryz.sizeOf3
  v3 := Tryz.zeroValue3
  t4 := Tryz.underlying4
  a4 := Tryz.isAgg4
  z4 := Tryz.sizeOf4
  v4 := Tryz.zeroValue4
  t5 := Tryz.underlying5
  a5 := Tryz.isAgg5
  z5 := Tryz.sizeOf5
  v5 := Tryz.zeroValue5
  t9 := Tryz.underlying9
  a9 := Tryz.isAgg9
  z9 := Tryz.sizeOf9
  v9 := Tryz.zeroValue9
  t21 := Tryz.underlying21
  a21 := Tryz.isAgg21
  z21 := Tryz.sizeOf21
  v21 := Tryz.zeroValue21
  t46 := Tryz.underlying87
  a46 := Tryz.isAgg87
  z46 := Tryz.sizeOf87
  v46 := Tryz.zeroValue87
  t105 := Tryz.underlying141
  a105 := Tryz.isAgg141
  z105 := Tryz.sizeOf141
  v105 := Tryz.zeroValue141
  t116 := Tryz.underlying132
  a116 := Tryz.isAgg132
  z116 := Tryz.sizeOf132
  t117 := Tryz.underlying133
  a117 := Tryz.isAgg133
  z117 := Tryz.sizeOf133
  v117 := Tryz.zeroValue133
  t119 := Tryz.underlying78
  a119 := Tryz.isAgg78
  z119 := Tryz.sizeOf78
  t124 := Tryz.underlying136
  a124 := Tryz.isAgg136
  z124 := Tryz.sizeOf136
  v124 := Tryz.zeroValue136
  t138 := Tryz.underlying85
  a138 := Tryz.isAgg85
  z138 := Tryz.sizeOf85
  v138 := Tryz.zeroValue85
  t139 := Tryz.underlying86
  a139 := Tryz.isAgg86
  z139 := Tryz.sizeOf86
  v139 := Tryz.zeroValue86
  g3 := by kernel_rfl
  g4 := by kernel_rfl }
def Tryz.lays196_ren : Go.Shelf.Ren := ⟨fun | 196 => 33 | 259 => 59 | n => n, fun | 9 => 9 | 4 => 4 | 3 => 3 | 5 => 5 | 12 => 12 | 119 => 78 | 0 => 0 | 46 => 87 | 139 => 86 | 138 => 85 | 53 => 111 | n => n, fun | 3 => 1 | 4 => 2 | n => n⟩
theorem Tryz.lays196 : Go.Proofs.Lays.n196 Tryz.prog Tryz.lays196_ren := {
  mixed := by kernel_rfl
  f196 := Tryz.func33.trans (congrArg some (by kernel_rfl))
  f259 := Tryz.func59.trans (congrArg some (by kernel_rfl))
  t0 := Tryz.underlying0
  a0 := Tryz.isAgg0
  z0 := Tryz.sizeOf0
  v0 := Tryz.zeroValue0
  t3 := Tryz.underlying3
  a3 := Tryz.isAgg3
  z3 := Tryz.sizeOf3
  v3 := Tryz.zeroValue3
  t4 := Tryz.underlying4
  a4 := Tryz.isAgg4
  z4 := Tryz.sizeOf4
  v4 := Tryz.zeroValue4
  t5 := Tryz.underlying5
  a5 := Tryz.isAgg5
  z5 := Tryz.sizeOf5
  v5 := Tryz.zeroValue5
  t9 := Tryz.underlying9
  a9 := Tryz.isAgg9
  z9 := Tryz.sizeOf9
  v9 := Tryz.zeroValue9
  t12 := Tryz.underlying12
  a12 := Tryz.isAgg12
  z12 := Tryz.sizeOf12
  v12 := Tryz.zeroValue12
  t46 := Tryz.underlying87
  a46 := Tryz.isAgg87
  z46 := Tryz.sizeOf87
  v46 := Tryz.zeroValue87
  t53 := Tryz.underlying111
  a53 := Tryz.isAgg111
  z53 := Tryz.sizeOf111
  v53 := Tryz.zeroValue111
  t119 := Tryz.underlying78
  a119 := Tryz.isAgg78
  z119 := Tryz.sizeOf78
  t138 := Tryz.underlying85
  a138 := Tryz.isAgg85
  z138 := Tryz.sizeOf85
  v138 := Tryz.zeroValue85
  t139 := Tryz.underlying86
  a139 := Tryz.isAgg86
  z139 := Tryz.sizeOf86
  v139 := Tryz.zeroValue86
  g3 := by kernel_rfl
  g4 := by kernel_rfl }
def Tryz.lays221_ren : Go.Shelf.Ren := ⟨fun | 221 => 73 | 268 => 86 | 138 => 87 | 143 => 77 | 195 => 100 | 197 => 101 | 218 => 102 | 219 => 95 | 260 => 110 | 217 => 106 | 225 => 107 | 224 => 108 | 267 => 109 | 266 => 113 | 314 => 114 | n => n, fun | 9 => 9 | 3 => 3 | 31 => 58 | 4 => 4 | 0 => 0 | 105 => 141 | 21 => 21 | 5 => 5 | 46 => 87 | 119 => 78 | 139 => 86 | 138 => 85 | 146 => 147 | 51 => 103 | n => n, fun | 1 => 4 | 3 => 1 | 4 => 2 | n => n⟩
theorem Tryz.lays221 : Go.Proofs.Lays.n221 Tryz.prog Tryz.lays221_ren := {
  mixed := by kernel_rfl
  f138 := Tryz.func87.trans (congrArg some (by kernel_rfl))
  f143 := Tryz.func77.trans (congrArg some (by kernel_rfl))
  f195 := Tryz.func100.trans (congrArg some (by kernel_rfl))
  f197 := Tryz.func101.trans (congrArg some (by kernel_rfl))
  f217 := Tryz.func106.trans (congrArg some (by kernel_rfl))
  f218 := Tryz.func102.trans (congrArg some (by kernel_rfl))
  f219 := Tryz.func95.trans (congrArg some (by kernel_rfl))
  f221 := Tryz.func73.trans (congrArg some (by kernel_rfl))
  f224 := Tryz.func108.trans (congrArg some (by kernel_rfl))
  f225 := Tryz.func107.trans (congrArg some (by kernel_rfl))
  f260 := Tryz.func110.trans (congrArg some (by kernel_rfl))
  f266 := Tryz.func113.trans (congrArg some (by kernel_rfl))
  f267 := Tryz.func109.trans (congrArg some (by kernel_rfl))
  f268 := Tryz.func86.trans (congrArg some (by kernel_rfl))
  f314 := Tryz.func114.trans (congrArg some (by kernel_rfl))
  t0 := Tryz.underlying0
  a0 := Tryz.isAgg0
  z0 := Tryz.sizeOf0
  v0 := Tryz.zeroValue0
  t3 := Tryz.underlying3
  a3 := Tryz.isAgg3
  z3 := Tryz.sizeOf3
  v3 := Tryz.zeroValue3
  t4 := Tryz.underlying4
  a4 := Tryz.isAgg4
  z4 := Tryz.sizeOf4
  v4 := Tryz.zeroValue4
  t5 := Tryz.underlying5
  a5 := Tryz.isAgg5
  z5 := Tryz.sizeOf5
  v5 := Tryz.zeroValue5
  t9 := Tryz.underlying9
  a9 := Tryz.isAgg9
  z9 := Tryz.sizeOf9
  v9 := Tryz.zeroValue9
  t21 := Tryz.underlying21
  a21 := Tryz.isAgg21
  z21 := Tryz.sizeOf21
  v21 := Tryz.zeroValue21
  t31 := Tryz.underlying58
  a31 := Tryz.isAgg58
  z31 := Tryz.sizeOf58
  v31 := Tryz.zeroValue58
  t46 := Tryz.underlying87
  a46 := Tryz.isAgg87
  z46 := Tryz.sizeOf87
  v46 := Tryz.zeroValue87
  t51 := Tryz.underlying103
  a51 := Tryz.isAgg103
  z51 := Tryz.sizeOf103
  v51 := Tryz.zeroValue103
  t105 := Tryz.underlying141
  a105 := Tryz.isAgg141
  z105 := Tryz.sizeOf141
  v105 := Tryz.zeroValue141
  t119 := Tryz.underlying78
  a119 := Tryz.isAgg78
  z119 := Tryz.sizeOf78
  t138 := Tryz.underlying85
  a138 := Tryz.isAgg85
  z138 := Tryz.sizeOf85
  v138 := Tryz.zeroValue85
  t139 := Tryz.underlying86
  a139 := Tryz.isAgg86
  z139 := Tryz.sizeOf86
  v139 := Tryz.zeroValue86
  t146 := Tryz.underlying147
  a146 := Tryz.isAgg147
  z146 := Tryz.sizeOf147
  v146 := Tryz.zeroValue147
  g1 := by kernel_rfl
  g3 := by kernel_rfl
  g4 := by kernel_rfl }
def Tryz.lays143_ren : Go.Shelf.Ren := ⟨fun | 143 => 77 | 219 => 95 | 217 => 106 | 225 => 107 | 224 => 108 | 267 => 109 | 266 => 113 | 314 => 114 | n => n, fun | 9 => 9 | 3 => 3 | 4 => 4 | 5 => 5 | 46 => 87 | 146 => 147 | 51 => 103 | n => n, fun | 1 => 4 | n => n⟩
theorem Tryz.lays143 : Go.Proofs.Lays.n143 Tryz.prog Tryz.lays143_ren := {
  mixed := by kernel_rfl
  f143 := Tryz.func77.trans (congrArg some (by kernel_rfl))
  f217 := Tryz.func106.trans (congrArg some (by kernel_rfl))
  f219 := Tryz.func95.trans (congrArg some (by kernel_rfl))
  f224 := Tryz.func108.trans (congrArg some (by kernel_rfl))
  f225 := Tryz.func107.trans (congrArg some (by kernel_rfl))
  f266 := Tryz.func113.trans (congrArg some (by kernel_rfl))
  f267 := Tryz.func109.trans (congrArg some (by kernel_rfl))
  f314 := Tryz.func114.trans (congrArg some (by kernel_rfl))
  t3 := Tryz.underlying3
  a3 := Tryz.isAgg3
  z3 := Tryz.sizeOf3
  v3 := Tryz.zeroValue3
  t4 := Tryz.underlying4
  a4 := Tryz.isAgg4
  z4 := Tryz.sizeOf4
  v4 := Tryz.zeroValue4
  t5 := Tryz.underlying5
  a5 := Tryz.isAgg5
  z5 := Tryz.sizeOf5
  v5 := Tryz.zeroValue5
  t9 := Tryz.underlying9
  a9 := Tryz.isAgg9
  z9 := Tryz.sizeOf9
  v9 := Tryz.zeroValue9
  t46 := Tryz.underlying87
  a46 := Tryz.isAgg87
  z46 := Tryz.sizeOf87
  v46 := Tryz.zeroValue87
  t51 := Tryz.underlying103
  a51 := Tryz.isAgg103
  z51 := Tryz.sizeOf103
  v51 := Tryz.zeroValue103
  t146 := Tryz.underlying147
  a146 := Tryz.isAgg147
  z146 := Tryz.sizeOf147
  v146 := Tryz.zeroValue147
  g1 := by kernel_rfl }
def Tryz.lays219_ren : Go.Shelf.Ren := ⟨fun | 219 => 95 | 217 => 106 | 225 => 107 | 224 => 108 | 267 => 109 | 266 => 113 | 314 => 114 | n => n, fun | 9 => 9 | 3 => 3 | 4 => 4 | 5 => 5 | 46 => 87 | 146 => 147 | 51 => 103 | n => n, fun | 1 => 4 | n => n⟩
theorem Tryz.lays219 : Go.Proofs.Lays.n219 Tryz.prog Tryz.lays219_ren := {
  mixed := by kernel_rfl
  f217 := Tryz.func106.trans (congrArg some (by kernel_rfl))
  f219 := Tryz.func95.trans (congrArg some (by kernel_rfl))
  f224 := Tryz.func108.trans (congrArg some (by kernel_rfl))
  f225 := Tryz.func107.trans (congrArg some (by kernel_rfl))
  f266 := Tryz.func113.trans (congrArg some (by kernel_rfl))
  f267 := Tryz.func109.trans (congrArg some (by kernel_rfl))
  f314 := Tryz.func114.trans (congrArg some (by kernel_rfl))
  t3 := Tryz.underlying3
  a3 := Tryz.isAgg3
  z3 := Tryz.sizeOf3
  v3 := Tryz.zeroValue3
  t4 := Tryz.underlying4
  a4 := Tryz.isAgg4
  z4 := Tryz.sizeOf4
  v4 := Tryz.zeroValue4
  t5 := Tryz.underlying5
  a5 := Tryz.isAgg5
  z5 := Tryz.sizeOf5
  v5 := Tryz.zeroValue5
  t9 := Tryz.underlying9
  a9 := Tryz.isAgg9
  z9 := Tryz.sizeOf9
  v9 := Tryz.zeroValue9
  t46 := Tryz.underlying87
  a46 := Tryz.isAgg87
  z46 := Tryz.sizeOf87
  v46 := Tryz.zeroValue87
  t51 := Tryz.underlying103
  a51 := Tryz.isAgg103
  z51 := Tryz.sizeOf103
  v51 := Tryz.zeroValue103
  t146 := Tryz.underlying147
  a146 := Tryz.isAgg147
  z146 := Tryz.sizeOf147
  v146 := Tryz.zeroValue147
  g1 := by kernel_rfl }
def Tryz.lays144_ren : Go.Shelf.Ren := ⟨fun | 144 => 62 | 143 => 77 | 219 => 95 | 217 => 106 | 225 => 107 | 224 => 108 | 267 => 109 | 266 => 113 | 314 => 114 | n => n, fun | 9 => 9 | 4 => 4 | 3 => 3 | 5 => 5 | 46 => 87 | 146 => 147 | 51 => 103 | n => n, fun | 1 => 4 | n => n⟩
theorem Tryz.lays144 : Go.Proofs.Lays.n144 Tryz.prog Tryz.lays144_ren := {
  mixed := by kernel_rfl
  f143 := Tryz.func77.trans (congrArg some (by kernel_rfl))
  f144 := Tryz.func62.trans (congrArg some (by kernel_rfl))
  f217 := Tryz.func106.trans (congrArg some (by kernel_rfl))
  f219 := Tryz.func95.trans (congrArg some (by kernel_rfl))
  f224 := Tryz.func108.trans (congrArg some (by kernel_rfl))
  f225 := Tryz.func107.trans (congrArg some (by kernel_rfl))
  f266 := Tryz.func113.trans (congrArg some (by kernel_rfl))
  f267 := Tryz.func109.trans (congrArg some (by kernel_rfl))
  f314 := Tryz.func114.trans (congrArg some (by kernel_rfl))
  t3 := Tryz.underlying3
  a3 := Tryz.isAgg3
  z3 := Tryz.sizeOf3
  v3 := Tryz.zeroValue3
  t4 := Tryz.underlying4
  a4 := Tryz.isAgg4
  z4 := Tryz.sizeOf4
  v4 := Tryz.zeroValue4
  t5 := Tryz.underlying5
  a5 := Tryz.isAgg5
  z5 := Tryz.sizeOf5
  v5 := Tryz.zeroValue5
  t9 := Tryz.underlying9
  a9 := Tryz.isAgg9
  z9 := Tryz.sizeOf9
  v9 := Tryz.zeroValue9
  t46 := Tryz.underlying87
  a46 := Tryz.isAgg87
  z46 := Tryz.sizeOf87
  v46 := Tryz.zeroValue87
  t51 := Tryz.underlying103
  a51 := Tryz.isAgg103
  z51 := Tryz.sizeOf103
  v51 := Tryz.zeroValue103
  t146 := Tryz.underlying147
  a146 := Tryz.isAgg147
  z146 := Tryz.sizeOf147
  v146 := Tryz.zeroValue147
  g1 := by kernel_rfl }
def Tryz.lays138_ren : Go.Shelf.Ren := ⟨fun | 138 => 87 | 195 => 100 | 218 => 102 | 143 => 77 | 219 => 95 | 217 => 106 | 225 => 107 | 224 => 108 | 267 => 109 | 266 => 113 | 314 => 114 | n => n, fun | 9 => 9 | 3 => 3 | 4 => 4 | 5 => 5 | 0 => 0 | 46 => 87 | 146 => 147 | 51 => 103 | n => n, fun | 1 => 4 | n => n⟩
theorem Tryz.lays138 : Go.Proofs.Lays.n138 Tryz.prog Tryz.lays138_ren := {
  mixed := by kernel_rfl
  f138 := Tryz.func87.trans (congrArg some (by kernel_rfl))
  f143 := Tryz.func77.trans (congrArg some (by kernel_rfl))
  f195 := Tryz.func100.trans (congrArg some (by kernel_rfl))
  f217 := Tryz.func106.trans (congrArg some (by kernel_rfl))
  f218 := Tryz.func102.trans (congrArg some (by kernel_rfl))
  f219 := Tryz.func95.trans (congrArg some (by kernel_rfl))
  f224 := Tryz.func108.trans (congrArg some (by kernel_rfl))
  f225 := Tryz.func107.trans (congrArg some (by kernel_rfl))
  f266 := Tryz.func113.trans (congrArg some (by kernel_rfl))
  f267 := Tryz.func109.trans (congrArg some (by kernel_rfl))
  f314 := Tryz.func114.trans (congrArg some (by kernel_rfl))
  t0 := Tryz.underlying0
  a0 := Tryz.isAgg0
  z0 := Tryz.sizeOf0
  v0 := Tryz.zeroValue0
  t3 := Tryz.underlying3
  a3 := Tryz.isAgg3
  z3 := Tryz.sizeOf3
  v3 := Tryz.zeroValue3
  t4 := Tryz.underlying4
  a4 := Tryz.isAgg4
  z4 := Tryz.sizeOf4
  v4 := Tryz.zeroValue4
  t5 := Tryz.underlying5
  a5 := Tryz.isAgg5
  z5 := Tryz.sizeOf5
  v5 := Tryz.zeroValue5
  t9 := Tryz.underlying9
  a9 := Tryz.isAgg9
  z9 := Tryz.sizeOf9
  v9 := Tryz.zeroValue9
  t46 := Tryz.underlying87
  a46 := Tryz.isAgg87
  z46 := Tryz.sizeOf87
  v46 := Tryz.zeroValue87
  t51 := Tryz.underlying103
  a51 := Tryz.isAgg103
  z51 := Tryz.sizeOf103
  v51 := Tryz.zeroValue103
  t146 := Tryz.underlying147
  a146 := Tryz.isAgg147
  z146 := Tryz.sizeOf147
  v146 := Tryz.zeroValue147
  g1 := by kernel_rfl }
end Go.Proofs
namespace Go.Ev
open Go Go.Proofs
open Go.RowKit (Below)
set_option maxRecDepth 100000
section
variable {P : Program} {T : Tab} {M : Mem} {ρ : Ren} {H : Heap} {w w' : World}
/-- What only lays new blocks leaves all that is known. -/
theorem ext_below (hb : Below w.heap.size w w') : Ext M ρ w M ρ w' where
  os := hb.os
  tape := hb.tape
  output := hb.output
  size := hb.size
  mem := Mem.le.refl _
  pre := List.prefix_refl _
  frame k h _ := hb.block k h
  newM _ _ _ := rfl
  newR _ c h := .inl ⟨c, h⟩
theorem frozen_lt (hS : SR T M ρ H w) {b : Nat} {o : Obj} (h : M b = some o) : b < w.heap.size := by
  have := hS.frozen b o h
  by_cases hlt : b < w.heap.size
  · exact hlt
  · rw [Array.getElem?_eq_none (by omega)] at this; cases this
theorem sr_below (hS : SR T M ρ H w) (hb : Below w.heap.size w w') : SR T M ρ H w' where
  frozen b o h := by rw [hb.block b (frozen_lt hS h)]; exact hS.frozen b o h
  len := hS.len
  blk n b hn := by
    obtain ⟨c, q, hr, hM, hlt, hok⟩ := hS.blk n b hn
    refine ⟨c, q, hr, hM, Nat.lt_of_lt_of_le hlt hb.size, ?_⟩
    rw [hb.block c hlt]
    exact hok
  inj := hS.inj
  glob := hS.glob
theorem callOK_below {f : FuncId} {args : Array Value} {x : Value} {v : V} (hS : SR T M ρ H w) (h : Calls P f args w fun e w' => e = .returned x ∧ Below w.heap.size w w') (hx : rel M ρ v x) : CallOK P T f args M ρ w (.val v H) := by
  refine Calls.mono h ?_
  rintro e w' ⟨rfl, hb⟩
  exact ⟨x, M, ρ, rfl, ext_below hb, hx, sr_below hS hb⟩
/-- A new block that is frozen at once. -/
theorem callOK_new {f : FuncId} {args : Array Value} {x : Value} {v : V} {o : Obj} (hS : SR T M ρ H w) (h : Calls P f args w fun e w' => e = .returned x ∧ w' = w.alloc o)
    (hx : ∀ M' : Mem, M.le M' → M' w.heap.size = some o → rel M' ρ v x) : CallOK P T f args M ρ w (.val v H) := by
  have hnew := Go.heap_alloc_new w o
  have hold := fun i (h : i < w.heap.size) => RowKit.Below.heap_alloc w o i h
  let M' : Mem := fun b => if b = w.heap.size then some o else M b
  have hle : M.le M' := fun b q hb => by
    have := frozen_lt hS hb
    simp only [M']
    rw [if_neg (by omega)]
    exact hb
  have hB : Below w.heap.size w (w.alloc o) := (Below.refl _ _).alloc (Nat.le_refl _) _
  refine Calls.mono h ?_
  rintro e w' ⟨rfl, rfl⟩
  refine ⟨x, M', ρ, rfl, ?_, hx M' hle (by simp [M']), ?_⟩
  · have he := ext_below (M := M) (ρ := ρ) hB
    exact { os := he.os, tape := he.tape, output := he.output, size := he.size, mem := hle, pre := List.prefix_refl _, frame := he.frame
            newM := fun b hb _ => by simp only [M']; rw [if_neg (by omega)]
            newR := he.newR }
  · have hs := sr_below hS hB
    exact {
      frozen := fun b q hb => by
        simp only [M'] at hb
        split at hb
        · rename_i e; subst e; cases hb; exact hnew
        · exact hs.frozen b q hb
      len := hs.len
      blk := fun n b hn => by
        obtain ⟨c, q, hr, hM, hlt, hok⟩ := hS.blk n b hn
        refine ⟨c, q, hr, by simp only [M']; rw [if_neg (by omega)]; exact hM, by simp; omega, ?_⟩
        rw [hold c hlt]
        exact hok.mono hle (List.prefix_refl _)
      inj := hs.inj
      glob := fun g l hl => by
        obtain ⟨cs, ty, fr, hM, hr⟩ := hS.glob g l hl
        exact ⟨cs, ty, fr, hle _ _ hM, relL_mono hle (List.prefix_refl _) _ _ hr⟩ }
end
theorem enters_tz {f : FuncId} {fn : Func} {c : Code} (h : TT.func f = some fn) (hb : fn.body = some c) : Enters Tryz.prog f := (TT_ok.func f fn c h hb).2
theorem relL1 {M : Mem} {ρ : Ren} {s : List UInt8} {args : List Value} (h : relL M ρ [.s s] args) : args = [.string ⟨s.toArray⟩] := by
  simp only [relL, rel] at h
  obtain ⟨x, r, rfl, rfl, rfl⟩ := h; rfl
theorem relL2 {M : Mem} {ρ : Ren} {s c : List UInt8} {args : List Value} (h : relL M ρ [.s s, .s c] args) : args = [.string ⟨s.toArray⟩, .string ⟨c.toArray⟩] := by
  simp only [relL, rel] at h
  obtain ⟨x, r, rfl, rfl, x, r, rfl, rfl, rfl⟩ := h; rfl

/-- strings.Trim. -/
def spTrim : List V → Heap → OR
  | [.s s, .s c], H => if s.length < 4294967281 ∧ c.length < 4294967281 ∧ (c.all fun b => decide (b.toNat < 128)) = true then .val (.s (Lib.trimS s c)) H else .no
  | _, _ => .no
theorem ok75 : SpecOK Tryz.prog TT 75 spTrim := by
  intro vs H r h hne
  unfold spTrim at h
  split at h
  · rename_i H s c
    split at h
    · rename_i hc
      subst h
      refine ⟨enters_tz (f := 75) rfl rfl, fun M ρ w args hS hr => ?_⟩
      rw [relL2 hr]
      refine callOK_below (x := .string ⟨(Lib.trimS s c).toArray⟩) hS ?_ (by simp only [rel])
      exact Any.strings_Trim_laid Tryz.lays160 (by kernel_rfl) ⟨s.toArray⟩ ⟨c.toArray⟩ w (by show s.toArray.size ≤ _; simp; omega) (by show c.toArray.size < _; simpa using hc.2.1) (ascii_of_all (by simpa using hc.2.2))
    · exact absurd h.symm hne
  · exact absurd h.symm hne
/-- utf8.ValidString. -/
def spValid : List V → Heap → OR
  | [.s s], H => if s.length < 4294967281 then .val (.b (Lib.validD s)) H else .no
  | _, _ => .no
theorem tabs_of_sr {M : Mem} {ρ : Ren} {H : Heap} {w : World} (hS : SR TT M ρ H w) : Lib.Utf8Tabs 1 2 w := by
  constructor
  · intro c hc
    obtain ⟨cs, ty, fr, hM, hr⟩ := hS.glob 1 _ rfl
    have hw := hS.frozen _ _ hM
    obtain ⟨x, hx, hxr⟩ := relL_get hr (i := c) (v := .i .u8 (Lib.firstT c)) (by simp [hc])
    simp only [rel] at hxr
    subst hxr
    simp [World.cell?, hw, hx]
  · intro i hi
    obtain ⟨cs, ty, fr, hM, hr⟩ := hS.glob 2 _ rfl
    have hw := hS.frozen _ _ hM
    have key : ∀ j, j < 16 → ((((List.range 16).map fun i => [V.i .u8 (Lib.accLo i), V.i .u8 (Lib.accHi i)]).flatten)[2 * j]? = some (V.i .u8 (Lib.accLo j)) ∧ (((List.range 16).map fun i => [V.i .u8 (Lib.accLo i), V.i .u8 (Lib.accHi i)]).flatten)[2 * j + 1]? = some (V.i .u8 (Lib.accHi j))) := by
      intro j hj
      have : j = 0 ∨ j = 1 ∨ j = 2 ∨ j = 3 ∨ j = 4 ∨ j = 5 ∨ j = 6 ∨ j = 7 ∨ j = 8 ∨ j = 9 ∨ j = 10 ∨ j = 11 ∨ j = 12 ∨ j = 13 ∨ j = 14 ∨ j = 15 := by omega
      rcases this with rfl | rfl | rfl | rfl | rfl | rfl | rfl | rfl | rfl | rfl | rfl | rfl | rfl | rfl | rfl | rfl <;> exact ⟨rfl, rfl⟩
    obtain ⟨x, hx, hxr⟩ := relL_get hr (key i hi).1
    obtain ⟨y, hy, hyr⟩ := relL_get hr (key i hi).2
    simp only [rel] at hxr hyr
    subst hxr hyr
    exact ⟨by simp [World.cell?, hw, hx], by simp [World.cell?, hw, hy]⟩
theorem ok33 : SpecOK Tryz.prog TT 33 spValid := by
  intro vs H r h hne
  unfold spValid at h
  split at h
  · rename_i H s
    split at h
    · rename_i hc
      subst h
      refine ⟨enters_tz (f := 33) rfl rfl, fun M ρ w args hS hr => ?_⟩
      rw [relL1 hr]
      refine callOK_below (x := .bool (Lib.validD s)) hS ?_ (by simp only [rel])
      exact Any.utf8_ValidString Tryz.lays196 ⟨s.toArray⟩ w (by show s.toArray.size ≤ _; simp; omega) (tabs_of_sr hS)
    · exact absurd h.symm hne
  · exact absurd h.symm hne
/-- stringslite.Index, strings.Index, strings.Contains, strings.Count: one byte. -/
def spIndex1 : List V → Heap → OR
  | [.s s, .s [c]], H => .val (.i .i64 (Lib.indexByte s c)) H
  | _, _ => .no
def spContains1 : List V → Heap → OR
  | [.s s, .s [c]], H => .val (.b (decide (0 ≤ Lib.indexByte s c))) H
  | _, _ => .no
theorem ok95 : SpecOK Tryz.prog TT 95 spIndex1 := by
  intro vs H r h hne
  unfold spIndex1 at h
  split at h
  · rename_i H s c
    subst h
    refine ⟨enters_tz (f := 95) rfl rfl, fun M ρ w args hS hr => ?_⟩
    rw [relL2 hr]
    refine callOK_below (x := .int .i64 (Lib.indexByte s c)) hS ?_ (by simp only [rel])
    exact (Any.stringslite_Index_one Tryz.lays219 ⟨s.toArray⟩ c w).mono fun e w' ⟨h1, h2⟩ => ⟨h1, h2 ▸ Below.refl _ _⟩
  · exact absurd h.symm hne
theorem ok62 : SpecOK Tryz.prog TT 62 spContains1 := by
  intro vs H r h hne
  unfold spContains1 at h
  split at h
  · rename_i H s c
    subst h
    refine ⟨enters_tz (f := 62) rfl rfl, fun M ρ w args hS hr => ?_⟩
    rw [relL2 hr]
    refine callOK_below (x := .bool (decide (0 ≤ Lib.indexByte s c))) hS ?_ (by simp only [rel])
    exact (Any.strings_Contains_one Tryz.lays144 ⟨s.toArray⟩ c w).mono fun e w' ⟨h1, h2⟩ => ⟨h1, h2 ▸ Below.refl _ _⟩
  · exact absurd h.symm hne
/-- The pieces of a text between bytes. -/
def pieces (s : List UInt8) (c : UInt8) : List (List UInt8) := (Lib.splitB ⟨#[c]⟩ 0 (Lib.countB ⟨s.toArray⟩ ⟨#[c]⟩) ⟨s.toArray⟩).map fun b => b.data.toList
def spGen : List V → Heap → OR
  | [.s s, .s [c], .i .i64 0, .i .i64 (-1)], H => if s.length < 4294967281 then .val (.isl 1 ((pieces s c).map V.s)) H else .no
  | _, _ => .no
theorem row_strings {M : Mem} {ρ : Ren} {b : Nat} {ty : TypeId} {fr : Nat × Nat} {cs : List Value} (hM : M b = some (.cells cs.toArray ty fr)) : ∀ (l : List ByteArray) (o : Nat), (∀ (i : Nat) (x : ByteArray), l[i]? = some x → cs[o + i]? = some (.string x)) → relRow M ρ 1 (l.map fun b => V.s b.data.toList) b o
  | [], _, _ => by simp [relRow]
  | x :: l, o, h => by
    simp only [List.map_cons, relRow]
    refine ⟨⟨.string x, by simp [rel], rfl, fun j c hj => ?_⟩, row_strings hM l (o + 1) fun i y hi => by
      have := h (i + 1) y (by simpa using hi)
      rwa [show o + 1 + i = o + (i + 1) from by omega]⟩
    have h0 := h 0 x rfl
    cases j with
    | zero =>
      simp [Value.cells] at hj
      subst hj
      simpa [Mem.cell, hM] using h0
    | succ j => simp [Value.cells] at hj
theorem ok73 : SpecOK Tryz.prog TT 73 spGen := by
  intro vs H r h hne
  unfold spGen at h
  split at h
  · rename_i H s c
    split at h
    · rename_i hc
      subst h
      refine ⟨enters_tz (f := 73) rfl rfl, fun M ρ w args hS hr => ?_⟩
      have ha : args = [.string ⟨s.toArray⟩, .string ⟨#[c]⟩, .int .i64 0, .int .i64 (-1)] := by
        simp only [relL, rel] at hr
        obtain ⟨x, r, rfl, rfl, x, r, rfl, rfl, x, r, rfl, rfl, x, r, rfl, rfl, rfl⟩ := hr; rfl
      rw [ha]
      have hle := Lib.countB_le (⟨#[c]⟩ : ByteArray) (by show 1 ≤ 1; omega) s.length ⟨s.toArray⟩ (by show s.toArray.size ≤ _; simp)
      have hlen := Lib.splitB_all (⟨#[c]⟩ : ByteArray) (by show 1 ≤ 1; omega) 0 _ ⟨s.toArray⟩ rfl
      have hsz : (⟨s.toArray⟩ : ByteArray).size = s.length := by show s.toArray.size = _; simp
      have g := Any.strings_genSplit_core Tryz.lays221 (by kernel_rfl) ⟨s.toArray⟩ ⟨#[c]⟩ 0 (-1) (Lib.countB ⟨s.toArray⟩ ⟨#[c]⟩ + 1) w (by rw [hsz]; exact hc) (by show 1 ≤ 1; omega) (Nat.zero_le _)
        (fun x cs _ => (Any.strings_Index_one Tryz.lays143 x c _).mono fun e w' ⟨h1, h2⟩ => ⟨by
          rw [h1]
          show _ = Ending.returned (Value.int .i64 (Lib.index x.data.toList [c]))
          rw [Lib.index_one], h2⟩)
        ((Any.strings_Count_one Tryz.lays138 ⟨s.toArray⟩ c w).mono fun e w' ⟨h1, h2⟩ => ⟨by
          rw [h1]
          show _ = Ending.returned (Value.int .i64 ((Lib.count s [c] : Nat) : Int))
          rw [Lib.count_one]
          rfl, h2⟩) (by decide) (by decide) (by rw [if_pos (by decide)]; omega)
      rw [Nat.add_sub_cancel, hlen] at g
      have e2 : Lib.cellsOf (Lib.splitB ⟨#[c]⟩ 0 (Lib.countB ⟨s.toArray⟩ ⟨#[c]⟩) ⟨s.toArray⟩) (Lib.countB ⟨s.toArray⟩ ⟨#[c]⟩ + 1) = ((Lib.splitB ⟨#[c]⟩ 0 (Lib.countB ⟨s.toArray⟩ ⟨#[c]⟩) ⟨s.toArray⟩).map Value.string).toArray := by rw [← hlen]; exact Lib.cellsOf_full _
      rw [e2] at g
      refine callOK_new hS g fun M' hle' hM' => ?_
      simp only [rel]
      refine ⟨some ⟨w.heap.size, 0, none⟩, Lib.countB ⟨s.toArray⟩ ⟨#[c]⟩ + 1, by simp [pieces, hlen], by simp [pieces, hlen], fun _ => ⟨w.heap.size, 0, rfl, ?_⟩⟩
      have := row_strings (ρ := ρ) hM' (Lib.splitB ⟨#[c]⟩ 0 (Lib.countB ⟨s.toArray⟩ ⟨#[c]⟩) ⟨s.toArray⟩) 0 (fun i x hi => by simp [hi])
      simpa [pieces, Function.comp_def] using this
    · exact absurd h.symm hne
  · exact absurd h.symm hne
end Go.Ev
