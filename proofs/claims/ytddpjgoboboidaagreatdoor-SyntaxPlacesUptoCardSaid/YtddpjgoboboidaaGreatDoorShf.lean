/- Contracts of functions of the library of Go, as answers for the evaluator. -/
import Derived.Test.YtddpjgoboboidaaGreatDoorNodes
import Derived.Test.YtddpjgoboboidaaGreatDoorEvIter
import Derived.Shelf.Strings.Split
import Derived.Shelf.Strings.SlTrimAscii
import Derived.Shelf.Unicode.ValidAny
namespace Go.Proofs
def Tryz.lays160_ren : Go.Shelf.Ren := ⟨fun | 160 => 93 | 232 => 114 | 231 => 113 | 227 => 115 | 234 => 117 | 233 => 116 | 236 => 119 | 235 => 118 | 228 => 134 | 271 => 136 | 151 => 135 | 197 => 132 | 120 => 153 | 152 => 152 | 260 => 151 | 137 => 160 | 119 => 161 | 224 => 139 | 225 => 138 | 217 => 137 | 266 => 154 | n => n, fun | 9 => 9 | 4 => 4 | 3 => 3 | 5 => 5 | 117 => 145 | 116 => 144 | 0 => 0 | 124 => 148 | 21 => 21 | 105 => 158 | 46 => 90 | 119 => 81 | 139 => 89 | 138 => 88 | n => n, fun | 3 => 1 | 4 => 2 | n => n⟩
theorem Tryz.lays160 : Go.Proofs.Lays.n160 Tryz.prog Tryz.lays160_ren := {
  mixed := by kernel_rfl
  f119 := Tryz.func161.trans (congrArg some (by kernel_rfl))
  f120 := Tryz.func153.trans (congrArg some (by kernel_rfl))
  f137 := Tryz.func160.trans (congrArg some (by kernel_rfl))
  f151 := Tryz.func135.trans (congrArg some (by kernel_rfl))
  f152 := Tryz.func152.trans (congrArg some (by kernel_rfl))
  f160 := Tryz.func93.trans (congrArg some (by kernel_rfl))
  f197 := Tryz.func132.trans (congrArg some (by kernel_rfl))
  f217 := Tryz.func137.trans (congrArg some (by kernel_rfl))
  f224 := Tryz.func139.trans (congrArg some (by kernel_rfl))
  f225 := Tryz.func138.trans (congrArg some (by kernel_rfl))
  f227 := Tryz.func115.trans (congrArg some (by kernel_rfl))
  f228 := Tryz.func134.trans (congrArg some (by kernel_rfl))
  f231 := Tryz.func113.trans (congrArg some (by kernel_rfl))
  f232 := Tryz.func114.trans (congrArg some (by kernel_rfl))
  f233 := Tryz.func116.trans (congrArg some (by kernel_rfl))
  f234 := Tryz.func117.trans (congrArg some (by kernel_rfl))
  f235 := Tryz.func118.trans (congrArg some (by kernel_rfl))
  f236 := Tryz.func119.trans (congrArg some (by kernel_rfl))
  f260 := Tryz.func151.trans (congrArg some (by kernel_rfl))
  f266 := Tryz.func154.trans (congrArg some (by kernel_rfl))
  f271 := Tryz.func136.trans (congrArg some (by kernel_rfl))
  t0 := Tryz.underlying0
  a0 := Tryz.isAgg0
  z0 := Tryz.sizeOf0
  v0 := Tryz.zeroValue0
  t3 := Tryz.underlying3
  a3 := Tryz.isAgg3
  z3 := Tryz.sizeOf3
  v3 := Tryz.zeroValue3
  t4 := Tryz.underlying4
  a4 := Tryz.isAgg4
  z4 := Tryz.sizeOf4
  v4 := Tryz.zeroValue4
  t5 := Tryz.underlying5
  a5 := Tryz.isAgg5
  z5 := Tryz.sizeOf5
  v5 := Tryz.zeroValue5
  t9 := Tryz.underlying9
  a9 := Tryz.isAgg9
  z9 := Tryz.sizeOf9
  v9 := Tryz.zeroValue9
  t21 := Tryz.underlying21
  a21 := Tryz.isAgg21
  z21 := Tryz.sizeOf21
  v21 := Tryz.zeroValue21
  t46 := Tryz.underlying90
  a46 := Tryz.isAgg90
  z46 := Tryz.sizeOf90
  v46 := Tryz.zeroValue90
  t105 := Tryz.underlying158
  a105 := Tryz.isAgg158
  z105 := Tryz.sizeOf158
  v105 := Tryz.zeroValue158
  t116 := Tryz.underlying144
  a116 := Tryz.isAgg144
  z116 := Tryz.sizeOf144
  t117 := Tryz.underlying145
  a117 := Tryz.isAgg145
  z117 := Tryz.sizeOf145
  v117 := Tryz.zeroValue145
  t119 := Tryz.underlying81
  a119 := Tryz.isAgg81
  z119 := Tryz.sizeOf81
  t124 := Tryz.underlying148
  a124 := Tryz.isAgg148
  z124 := Tryz.sizeOf148
  v124 := Tryz.zeroValue148
  t138 := Tryz.underlying88
  a138 := Tryz.isAgg88
  z138 := Tryz.sizeOf88
  v138 := Tryz.zeroValue88
  t139 := Tryz.underlying89
  a139 := Tryz.isAgg89
  z139 := Tryz.sizeOf89
  v139 := Tryz.zeroValue89
  g3 := by kernel_rfl
  g4 := by kernel_rfl }
def Tryz.lays196_ren : Go.Shelf.Ren := ⟨fun | 196 => 47 | 259 => 72 | n => n, fun | 9 => 9 | 4 => 4 | 3 => 3 | 5 => 5 | 12 => 12 | 119 => 81 | 0 => 0 | 46 => 90 | 139 => 89 | 138 => 88 | 53 => 117 | n => n, fun | 3 => 1 | 4 => 2 | n => n⟩
theorem Tryz.lays196 : Go.Proofs.Lays.n196 Tryz.prog Tryz.lays196_ren := {
  mixed := by kernel_rfl
  f196 := Tryz.func47.trans (congrArg some (by kernel_rfl))
  f259 := Tryz.func72.trans (congrArg some (by kernel_rfl))
  t0 := Tryz.underlying0
  a0 := Tryz.isAgg0
  z0 := Tryz.sizeOf0
  v0 := Tryz.zeroValue0
  t3 := Tryz.underlying3
  a3 := Tryz.isAgg3
  z3 := Tryz.sizeOf3
  v3 := Tryz.zeroValue3
  t4 := Tryz.underlying4
  a4 := Tryz.isAgg4
  z4 := Tryz.sizeOf4
  v4 := Tryz.zeroValue4
  t5 := Tryz.underlying5
  a5 := Tryz.isAgg5
  z5 := Tryz.sizeOf5
  v5 := Tryz.zeroValue5
  t9 := Tryz.underlying9
  a9 := Tryz.isAgg9
  z9 := Tryz.sizeOf9
  v9 := Tryz.zeroValue9
  t12 := Tryz.underlying12
  a12 := Tryz.isAgg12
  z12 := Tryz.sizeOf12
  v12 := Tryz.zeroValue12
  t46 := Tryz.underlying90
  a46 := Tryz.isAgg90
  z46 := Tryz.sizeOf90
  v46 := Tryz.zeroValue90
  t53 := Tryz.underlying117
  a53 := Tryz.isAgg117
  z53 := Tryz.sizeOf117
  v53 := Tryz.zeroValue117
  t119 := Tryz.underlying81
  a119 := Tryz.isAgg81
  z119 := Tryz.sizeOf81
  t138 := Tryz.underlying88
  a138 := Tryz.isAgg88
  z138 := Tryz.sizeOf88
  v138 := Tryz.zeroValue88
  t139 := Tryz.underlying89
  a139 := Tryz.isAgg89
  z139 := Tryz.sizeOf89
  v139 := Tryz.zeroValue89
  g3 := by kernel_rfl
  g4 := by kernel_rfl }
def Tryz.lays221_ren : Go.Shelf.Ren := ⟨fun | 221 => 91 | 268 => 111 | 138 => 112 | 143 => 95 | 195 => 131 | 197 => 132 | 218 => 133 | 219 => 120 | 260 => 151 | 217 => 137 | 225 => 138 | 224 => 139 | 267 => 140 | 266 => 154 | 314 => 155 | n => n, fun | 9 => 9 | 3 => 3 | 31 => 64 | 4 => 4 | 0 => 0 | 105 => 158 | 21 => 21 | 5 => 5 | 46 => 90 | 119 => 81 | 139 => 89 | 138 => 88 | 146 => 172 | 51 => 109 | n => n, fun | 1 => 4 | 3 => 1 | 4 => 2 | n => n⟩
theorem Tryz.lays221 : Go.Proofs.Lays.n221 Tryz.prog Tryz.lays221_ren := {
  mixed := by kernel_rfl
  f138 := Tryz.func112.trans (congrArg some (by kernel_rfl))
  f143 := Tryz.func95.trans (congrArg some (by kernel_rfl))
  f195 := Tryz.func131.trans (congrArg some (by kernel_rfl))
  f197 := Tryz.func132.trans (congrArg some (by kernel_rfl))
  f217 := Tryz.func137.trans (congrArg some (by kernel_rfl))
  f218 := Tryz.func133.trans (congrArg some (by kernel_rfl))
  f219 := Tryz.func120.trans (congrArg some (by kernel_rfl))
  f221 := Tryz.func91.trans (congrArg some (by kernel_rfl))
  f224 := Tryz.func139.trans (congrArg some (by kernel_rfl))
  f225 := Tryz.func138.trans (congrArg some (by kernel_rfl))
  f260 := Tryz.func151.trans (congrArg some (by kernel_rfl))
  f266 := Tryz.func154.trans (congrArg some (by kernel_rfl))
  f267 := Tryz.func140.trans (congrArg some (by kernel_rfl))
  f268 := Tryz.func111.trans (congrArg some (by kernel_rfl))
  f314 := Tryz.func155.trans (congrArg some (by kernel_rfl))
  t0 := Tryz.underlying0
  a0 := Tryz.isAgg0
  z0 := Tryz.sizeOf0
  v0 := Tryz.zeroValue0
  t3 := Tryz.underlying3
  a3 := Tryz.isAgg3
  z3 := Tryz.sizeOf3
  v3 := Tryz.zeroValue3
  t4 := Tryz.underlying4
  a4 := Tryz.isAgg4
  z4 := Tryz.sizeOf4
  v4 := Tryz.zeroValue4
  t5 := Tryz.underlying5
  a5 := Tryz.isAgg5
  z5 := Tryz.sizeOf5
  v5 := Tryz.zeroValue5
  t9 := Tryz.underlying9
  a9 := Tryz.isAgg9
  z9 := Tryz.sizeOf9
  v9 := Tryz.zeroValue9
  t21 := Tryz.underlying21
  a21 := Tryz.isAgg21
  z21 := Tryz.sizeOf21
  v21 := Tryz.zeroValue21
  t31 := Tryz.underlying64
  a31 := Tryz.isAgg64
  z31 := Tryz.sizeOf64
  v31 := Tryz.zeroValue64
  t46 := Tryz.underlying90
  a46 := Tryz.isAgg90
  z46 := Tryz.sizeOf90
  v46 := Tryz.zeroValue90
  t51 := Tryz.underlying109
  a51 := Tryz.isAgg109
  z51 := Tryz.sizeOf109
  v51 := Tryz.zeroValue109
  t105 := Tryz.underlying158
  a105 := Tryz.isAgg158
  z105 := Tryz.sizeOf158
  v105 := Tryz.zeroValue158
  t119 := Tryz.underlying81
  a119 := Tryz.isAgg81
  z119 := Tryz.sizeOf81
  t138 := Tryz.underlying88
  a138 := Tryz.isAgg88
  z138 := Tryz.sizeOf88
  v138 := Tryz.zeroValue88
  t139 := Tryz.underlying89
  a139 := Tryz.isAgg89
  z139 := Tryz.sizeOf89
  v139 := Tryz.zeroValue89
  t146 := Tryz.underlying172
  a146 := Tryz.isAgg172
  z146 := Tryz.sizeOf172
  v146 := Tryz.zeroValue172
  g1 := by kernel_rfl
  g3 := by kernel_rfl
  g4 := by kernel_rfl }
def Tryz.lays143_ren : Go.Shelf.Ren := ⟨fun | 143 => 95 | 219 => 120 | 217 => 137 | 225 => 138 | 224 => 139 | 267 => 140 | 266 => 154 | 314 => 155 | n => n, fun | 9 => 9 | 3 => 3 | 4 => 4 | 5 => 5 | 46 => 90 | 146 => 172 | 51 => 109 | n => n, fun | 1 => 4 | n => n⟩
theorem Tryz.lays143 : Go.Proofs.Lays.n143 Tryz.prog Tryz.lays143_ren := {
  mixed := by kernel_rfl
  f143 := Tryz.func95.trans (congrArg some (by kernel_rfl))
  f217 := Tryz.func137.trans (congrArg some (by kernel_rfl))
  f219 := Tryz.func120.trans (congrArg some (by kernel_rfl))
  f224 := Tryz.func139.trans (congrArg some (by kernel_rfl))
  f225 := Tryz.func138.trans (congrArg some (by kernel_rfl))
  f266 := Tryz.func154.trans (congrArg some (by kernel_rfl))
  f267 := Tryz.func140.trans (congrArg some (by kernel_rfl))
  f314 := Tryz.func155.trans (congrArg some (by kernel_rfl))
  t3 := Tryz.underlying3
  a3 := Tryz.isAgg3
  z3 := Tryz.sizeOf3
  v3 := Tryz.zeroValue3
  t4 := Tryz.underlying4
  a4 := Tryz.isAgg4
  z4 := Tryz.sizeOf4
  v4 := Tryz.zeroValue4
  t5 := Tryz.underlying5
  a5 := Tryz.isAgg5
  z5 := Tryz.sizeOf5
  v5 := Tryz.zeroValue5
  t9 := Tryz.underlying9
  a9 := Tryz.isAgg9
  z9 := Tryz.sizeOf9
  v9 := Tryz.zeroValue9
  t46 := Tryz.underlying90
  a46 := Tryz.isAgg90
  z46 := Tryz.sizeOf90
  v46 := Tryz.zeroValue90
  t51 := Tryz.underlying109
  a51 := Tryz.isAgg109
  z51 := Tryz.sizeOf109
  v51 := Tryz.zeroValue109
  t146 := Tryz.underlying172
  a146 := Tryz.isAgg172
  z146 := Tryz.sizeOf172
  v146 := Tryz.zeroValue172
  g1 := by kernel_rfl }
def Tryz.lays219_ren : Go.Shelf.Ren := ⟨fun | 219 => 120 | 217 => 137 | 225 => 138 | 224 => 139 | 267 => 140 | 266 => 154 | 314 => 155 | n => n, fun | 9 => 9 | 3 => 3 | 4 => 4 | 5 => 5 | 46 => 90 | 146 => 172 | 51 => 109 | n => n, fun | 1 => 4 | n => n⟩
theorem Tryz.lays219 : Go.Proofs.Lays.n219 Tryz.prog Tryz.lays219_ren := {
  mixed := by kernel_rfl
  f217 := Tryz.func137.trans (congrArg some (by kernel_rfl))
  f219 := Tryz.func120.trans (congrArg some (by kernel_rfl))
  f224 := Tryz.func139.trans (congrArg some (by kernel_rfl))
  f225 := Tryz.func138.trans (congrArg some (by kernel_rfl))
  f266 := Tryz.func154.trans (congrArg some (by kernel_rfl))
  f267 := Tryz.func140.trans (congrArg some (by kernel_rfl))
  f314 := Tryz.func155.trans (congrArg some (by kernel_rfl))
  t3 := Tryz.underlying3
  a3 := Tryz.isAgg3
  z3 := Tryz.sizeOf3
  v3 := Tryz.zeroValue3
  t4 := Tryz.underlying4
  a4 := Tryz.isAgg4
  z4 := Tryz.sizeOf4
  v4 := Tryz.zeroValue4
  t5 := Tryz.underlying5
  a5 := Tryz.isAgg5
  z5 := Tryz.sizeOf5
  v5 := Tryz.zeroValue5
  t9 := Tryz.underlying9
  a9 := Tryz.isAgg9
  z9 := Tryz.sizeOf9
  v9 := Tryz.zeroValue9
  t46 := Tryz.underlying90
  a46 := Tryz.isAgg90
  z46 := Tryz.sizeOf90
  v46 := Tryz.zeroValue90
  t51 := Tryz.underlying109
  a51 := Tryz.isAgg109
  z51 := Tryz.sizeOf109
  v51 := Tryz.zeroValue109
  t146 := Tryz.underlying172
  a146 := Tryz.isAgg172
  z146 := Tryz.sizeOf172
  v146 := Tryz.zeroValue172
  g1 := by kernel_rfl }
def Tryz.lays144_ren : Go.Shelf.Ren := ⟨fun | 144 => 75 | 143 => 95 | 219 => 120 | 217 => 137 | 225 => 138 | 224 => 139 | 267 => 140 | 266 => 154 | 314 => 155 | n => n, fun | 9 => 9 | 4 => 4 | 3 => 3 | 5 => 5 | 46 => 90 | 146 => 172 | 51 => 109 | n => n, fun | 1 => 4 | n => n⟩
theorem Tryz.lays144 : Go.Proofs.Lays.n144 Tryz.prog Tryz.lays144_ren := {
  mixed := by kernel_rfl
  f143 := Tryz.func95.trans (congrArg some (by kernel_rfl))
  f144 := Tryz.func75.trans (congrArg some (by kernel_rfl))
  f217 := Tryz.func137.trans (congrArg some (by kernel_rfl))
  f219 := Tryz.func120.trans (congrArg some (by kernel_rfl))
  f224 := Tryz.func139.trans (congrArg some (by kernel_rfl))
  f225 := Tryz.func138.trans (congrArg some (by kernel_rfl))
  f266 := Tryz.func154.trans (congrArg some (by kernel_rfl))
  f267 := Tryz.func140.trans (congrArg some (by kernel_rfl))
  f314 := Tryz.func155.trans (congrArg some (by kernel_rfl))
  t3 := Tryz.underlying3
  a3 := Tryz.isAgg3
  z3 := Tryz.sizeOf3
  v3 := Tryz.zeroValue3
  t4 := Tryz.underlying4
  a4 := Tryz.isAgg4
  z4 := Tryz.sizeOf4
  v4 := Tryz.zeroValue4
  t5 := Tryz.underlying5
  a5 := Tryz.isAgg5
  z5 := Tryz.sizeOf5
  v5 := Tryz.zeroValue5
  t9 := Tryz.underlying9
  a9 := Tryz.isAgg9
  z9 := Tryz.sizeOf9
  v9 := Tryz.zeroValue9
  t46 := Tryz.underlying90
  a46 := Tryz.isAgg90
  z46 := Tryz.sizeOf90
  v46 := Tryz.zeroValue90
  t51 := Tryz.underlying109
  a51 := Tryz.isAgg109
  z51 := Tryz.sizeOf109
  v51 := Tryz.zeroValue109
  t146 := Tryz.underlying172
  a146 := Tryz.isAgg172
  z146 := Tryz.sizeOf172
  v146 := Tryz.zeroValue172
  g1 := by kernel_rfl }
def Tryz.lays138_ren : Go.Shelf.Ren := ⟨fun | 138 => 112 | 195 => 131 | 218 => 133 | 143 => 95 | 219 => 120 | 217 => 137 | 225 => 138 | 224 => 139 | 267 => 140 | 266 => 154 | 314 => 155 | n => n, fun | 9 => 9 | 3 => 3 | 4 => 4 | 5 => 5 | 0 => 0 | 46 => 90 | 146 => 172 | 51 => 109 | n => n, fun | 1 => 4 | n => n⟩
theorem Tryz.lays138 : Go.Proofs.Lays.n138 Tryz.prog Tryz.lays138_ren := {
  mixed := by kernel_rfl
  f138 := Tryz.func112.trans (congrArg some (by kernel_rfl))
  f143 := Tryz.func95.trans (congrArg some (by kernel_rfl))
  f195 := Tryz.func131.trans (congrArg some (by kernel_rfl))
  f217 := Tryz.func137.trans (congrArg some (by kernel_rfl))
  f218 := Tryz.func133.trans (congrArg some (by kernel_rfl))
  f219 := Tryz.func120.trans (congrArg some (by kernel_rfl))
  f224 := Tryz.func139.trans (congrArg some (by kernel_rfl))
  f225 := Tryz.func138.trans (congrArg some (by kernel_rfl))
  f266 := Tryz.func154.trans (congrArg some (by kernel_rfl))
  f267 := Tryz.func140.trans (congrArg some (by kernel_rfl))
  f314 := Tryz.func155.trans (congrArg some (by kernel_rfl))
  t0 := Tryz.underlying0
  a0 := Tryz.isAgg0
  z0 := Tryz.sizeOf0
  v0 := Tryz.zeroValue0
  t3 := Tryz.underlying3
  a3 := Tryz.isAgg3
  z3 := Tryz.sizeOf3
  v3 := Tryz.zeroValue3
  t4 := Tryz.underlying4
  a4 := Tryz.isAgg4
  z4 := Tryz.sizeOf4
  v4 := Tryz.zeroValue4
  t5 := Tryz.underlying5
  a5 := Tryz.isAgg5
  z5 := Tryz.sizeOf5
  v5 := Tryz.zeroValue5
  t9 := Tryz.underlying9
  a9 := Tryz.isAgg9
  z9 := Tryz.sizeOf9
  v9 := Tryz.zeroValue9
  t46 := Tryz.underlying90
  a46 := Tryz.isAgg90
  z46 := Tryz.sizeOf90
  v46 := Tryz.zeroValue90
  t51 := Tryz.underlying109
  a51 := Tryz.isAgg109
  z51 := Tryz.sizeOf109
  v51 := Tryz.zeroValue109
  t146 := Tryz.underlying172
  a146 := Tryz.isAgg172
  z146 := Tryz.sizeOf172
  v146 := Tryz.zeroValue172
  g1 := by kernel_rfl }
end Go.Proofs
namespace Go.Ev
open Go Go.Proofs
open Go.RowKit (Below)
set_option maxRecDepth 100000
theorem enters_tz {f : FuncId} {fn : Func} {c : Code} (h : TT.func f = some fn) (hb : fn.body = some c) : Enters Tryz.prog f := (TT_ok.func f fn c h hb).2
theorem relL1 {M : Mem} {ρ : Ren} {s : List UInt8} {args : List Value} (h : relL M ρ [.s s] args) : args = [.string ⟨s.toArray⟩] := by
  simp only [relL, rel] at h
  obtain ⟨x, r, rfl, rfl, rfl⟩ := h; rfl
theorem relL2 {M : Mem} {ρ : Ren} {s c : List UInt8} {args : List Value} (h : relL M ρ [.s s, .s c] args) : args = [.string ⟨s.toArray⟩, .string ⟨c.toArray⟩] := by
  simp only [relL, rel] at h
  obtain ⟨x, r, rfl, rfl, x, r, rfl, rfl, rfl⟩ := h; rfl

/-- strings.Trim. -/
def spTrim : List V → Heap → OR
  | [.s s, .s c], H => if s.length < 4294967281 ∧ c.length < 4294967281 ∧ (c.all fun b => decide (b.toNat < 128)) = true then .val (.s (Lib.trimS s c)) H else .no
  | _, _ => .no
theorem ok75 : SpecOK Tryz.prog TT 93 spTrim := by
  intro vs H r h hne
  unfold spTrim at h
  split at h
  · rename_i H s c
    split at h
    · rename_i hc
      subst h
      refine ⟨enters_tz (f := 93) rfl rfl, fun M ρ w args hS hr => ?_⟩
      rw [relL2 hr]
      refine callOK_below (x := .string ⟨(Lib.trimS s c).toArray⟩) hS ?_ (by simp only [rel])
      exact Any.strings_Trim_laid Tryz.lays160 (by kernel_rfl) ⟨s.toArray⟩ ⟨c.toArray⟩ w (by show s.toArray.size ≤ _; simp; omega) (by show c.toArray.size < _; simpa using hc.2.1) (ascii_of_all (by simpa using hc.2.2))
    · exact absurd h.symm hne
  · exact absurd h.symm hne
/-- utf8.ValidString. -/
def spValid : List V → Heap → OR
  | [.s s], H => if s.length < 4294967281 then .val (.b (Lib.validD s)) H else .no
  | _, _ => .no
theorem tabs_of_sr {M : Mem} {ρ : Ren} {H : Heap} {w : World} (hS : SR TT M ρ H w) : Lib.Utf8Tabs 1 2 w := by
  constructor
  · intro c hc
    obtain ⟨cs, ty, fr, hM, hr⟩ := hS.glob 1 _ rfl
    have hw := hS.frozen _ _ hM
    obtain ⟨x, hx, hxr⟩ := relL_get hr (i := c) (v := .i .u8 (Lib.firstT c)) (by simp [hc])
    simp only [rel] at hxr
    subst hxr
    simp [World.cell?, hw, hx]
  · intro i hi
    obtain ⟨cs, ty, fr, hM, hr⟩ := hS.glob 2 _ rfl
    have hw := hS.frozen _ _ hM
    have key : ∀ j, j < 16 → ((((List.range 16).map fun i => [V.i .u8 (Lib.accLo i), V.i .u8 (Lib.accHi i)]).flatten)[2 * j]? = some (V.i .u8 (Lib.accLo j)) ∧ (((List.range 16).map fun i => [V.i .u8 (Lib.accLo i), V.i .u8 (Lib.accHi i)]).flatten)[2 * j + 1]? = some (V.i .u8 (Lib.accHi j))) := by
      intro j hj
      have : j = 0 ∨ j = 1 ∨ j = 2 ∨ j = 3 ∨ j = 4 ∨ j = 5 ∨ j = 6 ∨ j = 7 ∨ j = 8 ∨ j = 9 ∨ j = 10 ∨ j = 11 ∨ j = 12 ∨ j = 13 ∨ j = 14 ∨ j = 15 := by omega
      rcases this with rfl | rfl | rfl | rfl | rfl | rfl | rfl | rfl | rfl | rfl | rfl | rfl | rfl | rfl | rfl | rfl <;> exact ⟨rfl, rfl⟩
    obtain ⟨x, hx, hxr⟩ := relL_get hr (key i hi).1
    obtain ⟨y, hy, hyr⟩ := relL_get hr (key i hi).2
    simp only [rel] at hxr hyr
    subst hxr hyr
    exact ⟨by simp [World.cell?, hw, hx], by simp [World.cell?, hw, hy]⟩
theorem ok33 : SpecOK Tryz.prog TT 47 spValid := by
  intro vs H r h hne
  unfold spValid at h
  split at h
  · rename_i H s
    split at h
    · rename_i hc
      subst h
      refine ⟨enters_tz (f := 47) rfl rfl, fun M ρ w args hS hr => ?_⟩
      rw [relL1 hr]
      refine callOK_below (x := .bool (Lib.validD s)) hS ?_ (by simp only [rel])
      exact Any.utf8_ValidString Tryz.lays196 ⟨s.toArray⟩ w (by show s.toArray.size ≤ _; simp; omega) (tabs_of_sr hS)
    · exact absurd h.symm hne
  · exact absurd h.symm hne
/-- stringslite.Index, strings.Index, strings.Contains, strings.Count: one byte. -/
def spIndex1 : List V → Heap → OR
  | [.s s, .s [c]], H => .val (.i .i64 (Lib.indexByte s c)) H
  | _, _ => .no
def spContains1 : List V → Heap → OR
  | [.s s, .s [c]], H => .val (.b (decide (0 ≤ Lib.indexByte s c))) H
  | _, _ => .no
theorem ok95 : SpecOK Tryz.prog TT 120 spIndex1 := by
  intro vs H r h hne
  unfold spIndex1 at h
  split at h
  · rename_i H s c
    subst h
    refine ⟨enters_tz (f := 120) rfl rfl, fun M ρ w args hS hr => ?_⟩
    rw [relL2 hr]
    refine callOK_below (x := .int .i64 (Lib.indexByte s c)) hS ?_ (by simp only [rel])
    exact (Any.stringslite_Index_one Tryz.lays219 ⟨s.toArray⟩ c w).mono fun e w' ⟨h1, h2⟩ => ⟨h1, h2 ▸ Below.refl _ _⟩
  · exact absurd h.symm hne
theorem ok62 : SpecOK Tryz.prog TT 75 spContains1 := by
  intro vs H r h hne
  unfold spContains1 at h
  split at h
  · rename_i H s c
    subst h
    refine ⟨enters_tz (f := 75) rfl rfl, fun M ρ w args hS hr => ?_⟩
    rw [relL2 hr]
    refine callOK_below (x := .bool (decide (0 ≤ Lib.indexByte s c))) hS ?_ (by simp only [rel])
    exact (Any.strings_Contains_one Tryz.lays144 ⟨s.toArray⟩ c w).mono fun e w' ⟨h1, h2⟩ => ⟨h1, h2 ▸ Below.refl _ _⟩
  · exact absurd h.symm hne
/-- The pieces of a text between bytes. -/
def pieces (s : List UInt8) (c : UInt8) : List (List UInt8) := (Lib.splitB ⟨#[c]⟩ 0 (Lib.countB ⟨s.toArray⟩ ⟨#[c]⟩) ⟨s.toArray⟩).map fun b => b.data.toList
def spGen : List V → Heap → OR
  | [.s s, .s [c], .i .i64 0, .i .i64 (-1)], H => if s.length < 4294967281 then .val (.isl 1 ((pieces s c).map V.s)) H else .no
  | _, _ => .no
theorem row_strings {M : Mem} {ρ : Ren} {b : Nat} {ty : TypeId} {fr : Nat × Nat} {cs : List Value} (hM : M b = some (.cells cs.toArray ty fr)) : ∀ (l : List ByteArray) (o : Nat), (∀ (i : Nat) (x : ByteArray), l[i]? = some x → cs[o + i]? = some (.string x)) → relRow M ρ 1 (l.map fun b => V.s b.data.toList) b o
  | [], _, _ => by simp [relRow]
  | x :: l, o, h => by
    simp only [List.map_cons, relRow]
    refine ⟨⟨.string x, by simp [rel], rfl, fun j c hj => ?_⟩, row_strings hM l (o + 1) fun i y hi => by
      have := h (i + 1) y (by simpa using hi)
      rwa [show o + 1 + i = o + (i + 1) from by omega]⟩
    have h0 := h 0 x rfl
    cases j with
    | zero =>
      simp [Value.cells] at hj
      subst hj
      simpa [Mem.cell, hM] using h0
    | succ j => simp [Value.cells] at hj
theorem ok73 : SpecOK Tryz.prog TT 91 spGen := by
  intro vs H r h hne
  unfold spGen at h
  split at h
  · rename_i H s c
    split at h
    · rename_i hc
      subst h
      refine ⟨enters_tz (f := 91) rfl rfl, fun M ρ w args hS hr => ?_⟩
      have ha : args = [.string ⟨s.toArray⟩, .string ⟨#[c]⟩, .int .i64 0, .int .i64 (-1)] := by
        simp only [relL, rel] at hr
        obtain ⟨x, r, rfl, rfl, x, r, rfl, rfl, x, r, rfl, rfl, x, r, rfl, rfl, rfl⟩ := hr; rfl
      rw [ha]
      have hle := Lib.countB_le (⟨#[c]⟩ : ByteArray) (by show 1 ≤ 1; omega) s.length ⟨s.toArray⟩ (by show s.toArray.size ≤ _; simp)
      have hlen := Lib.splitB_all (⟨#[c]⟩ : ByteArray) (by show 1 ≤ 1; omega) 0 _ ⟨s.toArray⟩ rfl
      have hsz : (⟨s.toArray⟩ : ByteArray).size = s.length := by show s.toArray.size = _; simp
      have g := Any.strings_genSplit_core Tryz.lays221 (by kernel_rfl) ⟨s.toArray⟩ ⟨#[c]⟩ 0 (-1) (Lib.countB ⟨s.toArray⟩ ⟨#[c]⟩ + 1) w (by rw [hsz]; exact hc) (by show 1 ≤ 1; omega) (Nat.zero_le _)
        (fun x cs _ => (Any.strings_Index_one Tryz.lays143 x c _).mono fun e w' ⟨h1, h2⟩ => ⟨by
          rw [h1]
          show _ = Ending.returned (Value.int .i64 (Lib.index x.data.toList [c]))
          rw [Lib.index_one], h2⟩)
        ((Any.strings_Count_one Tryz.lays138 ⟨s.toArray⟩ c w).mono fun e w' ⟨h1, h2⟩ => ⟨by
          rw [h1]
          show _ = Ending.returned (Value.int .i64 ((Lib.count s [c] : Nat) : Int))
          rw [Lib.count_one]
          rfl, h2⟩) (by decide) (by decide) (by rw [if_pos (by decide)]; omega)
      rw [Nat.add_sub_cancel, hlen] at g
      have e2 : Lib.cellsOf (Lib.splitB ⟨#[c]⟩ 0 (Lib.countB ⟨s.toArray⟩ ⟨#[c]⟩) ⟨s.toArray⟩) (Lib.countB ⟨s.toArray⟩ ⟨#[c]⟩ + 1) = ((Lib.splitB ⟨#[c]⟩ 0 (Lib.countB ⟨s.toArray⟩ ⟨#[c]⟩) ⟨s.toArray⟩).map Value.string).toArray := by rw [← hlen]; exact Lib.cellsOf_full _
      rw [e2] at g
      refine callOK_new hS g fun M' hle' hM' => ?_
      simp only [rel]
      refine ⟨some ⟨w.heap.size, 0, none⟩, Lib.countB ⟨s.toArray⟩ ⟨#[c]⟩ + 1, by simp [pieces, hlen], by simp [pieces, hlen], fun _ => ⟨w.heap.size, 0, rfl, ?_⟩⟩
      have := row_strings (ρ := ρ) hM' (Lib.splitB ⟨#[c]⟩ 0 (Lib.countB ⟨s.toArray⟩ ⟨#[c]⟩) ⟨s.toArray⟩) 0 (fun i x hi => by simp [hi])
      simpa [pieces, Function.comp_def] using this
    · exact absurd h.symm hne
  · exact absurd h.symm hne
end Go.Ev
