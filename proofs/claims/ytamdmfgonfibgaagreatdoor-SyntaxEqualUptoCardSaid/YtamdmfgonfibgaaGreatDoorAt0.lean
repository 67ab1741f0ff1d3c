/- At of a path: the walk of a step. -/
import Derived.Test.YtamdmfgonfibgaaGreatDoorEvRange
import Derived.Test.YtamdmfgonfibgaaGreatDoorNodes
namespace Go.Ev
open Go Go.Proofs Go.RowKit
set_option maxRecDepth 1000000
set_option linter.unusedVariables false
noncomputable abbrev callA : CallF := evFun TT (gamOf Con.none) 300
theorem callA_ok : callA.Sound Tryz.prog TT := evFun_ok TT_ok Con.none_sound 300
def ndV (k : Int) (t : List UInt8) : V := .agg [.i .i64 k, .s t, .nils]
/-- The tree of awake. -/
def axV : V := .agg [.i .i64 27, .s [], .isl 3 [ndV 23 [120], ndV 19 [49]]]
def capsOf : V → List V
  | .fn _ c => c
  | _ => []
noncomputable def opsOf : Code → Array Oper
  | .region _ ops _ => ops
  | _ => #[]
theorem FRw : FR none = Fence.wide := rfl
section
variable {P : Program} {T : Tab} {M : Mem} {ρ : Ren} {w : World} {H : Heap}
theorem regO (o : Out) (hT : TOk P T) {call : CallF} (hcall : call.Sound P T) {ops : Array Oper} {r : Option Nat} {n id : Nat} {Q : Exit → Act → World → Prop} {t : Tm} {a : Act} (hS : SR T M ρ H w) (ht : relTm M ρ t a.tmps) (ho : evReg T call ops false t H = o) (hnd : noDefer ops = true)
    (h : o.isN = true) (k : ∀ a' w' M' ρ', Ext M ρ w M' ρ' w' → relTm M' ρ' o.tm a'.tmps → SR T M' ρ' o.hp w' → a'.defers = a.defers → Q .normal a' w') : (Code.region id ops false).wpIn (FR r) n P Q a w := by
  subst ho
  exact regN hT hcall hS ht hnd h k
theorem bool_of {t : Tm} {a : Act} {k : Nat} {b : Bool} (ht : relTm M ρ t a.tmps) (h : t.get k = .b b) : a.eval (.tmp k) = .bool b := by
  have := ht.2 k
  rw [h] at this
  exact this
end
noncomputable def oA1 : Out := evReg TT callA (opsOf (sub [false] (bodyOf Tryz.f12))) false (Tm.init 21 [axV, .isl 1 [.i .i64 1]]) []
noncomputable def oA2 : Out := evReg TT callA (opsOf (sub [true, false] (bodyOf Tryz.f12))) false oA1.tm oA1.hp
noncomputable def oA3 : Out := evReg TT callA (opsOf (sub [true, true, false, false] (bodyOf Tryz.f12))) false oA2.tm oA2.hp
noncomputable def caps3 : List V := capsOf (oA3.tm.get 12)
noncomputable def oI0 (l : Nat) : Out := evReg TT callA (opsOf (sub [false] (bodyOf Tryz.f45))) false (Tm.init 34 (.yld l :: caps3)) oA3.hp
noncomputable def oI1 (l : Nat) : Out := evReg TT callA (opsOf (sub [true, false, false, false] (bodyOf Tryz.f45))) false (oI0 l).tm (oI0 l).hp
noncomputable def oI2 (l : Nat) : Out := evReg TT callA (opsOf (sub [true, false, false, true, true, false, false, false] (bodyOf Tryz.f45))) false (oI1 l).tm (oI1 l).hp
noncomputable def oI3 (l : Nat) : Out := evReg TT callA (opsOf (sub [true, false, false, true, true, false, false, true, false, false] (bodyOf Tryz.f45))) false (oI2 l).tm (oI2 l).hp
noncomputable def oI5 (l : Nat) : Out := evReg TT callA (opsOf (sub [true, false, false, true, true, false, false, true, true, false] (bodyOf Tryz.f45))) false (oI3 l).tm (oI3 l).hp
noncomputable def opsY : Array Oper := opsOf (sub [true, false, false, true, true, false, false, true, true, true, false] (bodyOf Tryz.f45))
noncomputable def oY (l : Nat) : Out := evSeq (evOp TT callA) opsY (opsY.toList.take 2) (oI5 l).tm (oI5 l).hp
noncomputable def rfOf : Code → Code × Code
  | .rangeFunc _ _ a b => (a, b)
  | _ => (.skip, .skip)
noncomputable def asg : Code := (rfOf (sub [true, true, false, true, false] (bodyOf Tryz.f12))).1
noncomputable def bdy : Code := (rfOf (sub [true, true, false, true, false] (bodyOf Tryz.f12))).2
noncomputable def tR : Tm := (oA3.tm.put (some 13) (ndV 19 [49])).put (some 14) (.b true)
noncomputable def oR3 (l : Nat) : Out := evReg TT callA (opsOf (sub [false] asg)) false tR (oY l).hp
noncomputable def oR4 (l : Nat) : Out := evReg TT callA (opsOf (sub [true] asg)) false (oR3 l).tm (oR3 l).hp
noncomputable def oR5 (l : Nat) : Out := evReg TT callA (opsOf (sub [false, false, false, false] bdy)) false (oR4 l).tm (oR4 l).hp
noncomputable def oR7 (l : Nat) : Out := evReg TT callA (opsOf (sub [false, true] bdy)) false (oR5 l).tm (oR5 l).hp
-- behind the round
noncomputable def oZ (l : Nat) : Out := evSeq (evOp TT callA) opsY (opsY.toList.drop 3) ((oY l).tm.put (some 31) (.b true)) (oR7 l).hp
noncomputable def oI7 (l : Nat) : Out := evReg TT callA (opsOf (sub [true, false, false, true, true, true] (bodyOf Tryz.f45))) false (oZ l).tm (oZ l).hp
noncomputable def oI8 (l : Nat) : Out := evReg TT callA (opsOf (sub [true, false, false, false] (bodyOf Tryz.f45))) false (oI7 l).tm (oI7 l).hp
noncomputable def oA8 (l : Nat) : Out := evReg TT callA (opsOf (sub [true, true, true, false] (bodyOf Tryz.f12))) false oA3.tm (oI8 l).hp
theorem oA1_n : oA1.isN = true := by kernel_rfl
theorem oA2_n : oA2.isN = true := by kernel_rfl
theorem oA3_n : oA3.isN = true := by kernel_rfl
theorem oI0_n (l : Nat) : (oI0 l).isN = true := by kernel_rfl
theorem oI1_n (l : Nat) : (oI1 l).isN = true := by kernel_rfl
theorem oI2_n (l : Nat) : (oI2 l).isN = true := by kernel_rfl
theorem oI3_n (l : Nat) : (oI3 l).isN = true := by kernel_rfl
theorem oI5_n (l : Nat) : (oI5 l).isN = true := by kernel_rfl
theorem oY_n (l : Nat) : (oY l).isN = true := by kernel_rfl
theorem oR3_n (l : Nat) : (oR3 l).isN = true := by kernel_rfl
theorem oR4_n (l : Nat) : (oR4 l).isN = true := by kernel_rfl
theorem oR5_n (l : Nat) : (oR5 l).isN = true := by kernel_rfl
theorem oR7_n (l : Nat) : (oR7 l).isN = true := by kernel_rfl
theorem oZ_n (l : Nat) : (oZ l).isN = true := by kernel_rfl
theorem oI7_n (l : Nat) : (oI7 l).isN = true := by kernel_rfl
theorem oI8_n (l : Nat) : (oI8 l).isN = true := by kernel_rfl
theorem oA8_n (l : Nat) : (oA8 l).isN = true := by kernel_rfl
theorem caps3_eq : oA3.tm.get 12 = .fn 45 caps3 := by kernel_rfl
theorem c9a (l : Nat) : (oI1 l).tm.get 9 = .b true := by kernel_rfl
theorem c20 (l : Nat) : (oI3 l).tm.get 20 = .b false := by kernel_rfl
theorem c32 (l : Nat) : (oZ l).tm.get 32 = .b false := by kernel_rfl
theorem c9b (l : Nat) : (oI8 l).tm.get 9 = .b false := by kernel_rfl
theorem c16 (l : Nat) : (oR5 l).tm.get 16 = .b false := by kernel_rfl
theorem y29 (l : Nat) : (oY l).tm.get 29 = .yld l := by kernel_rfl
theorem yvs (l : Nat) : evs (oY l).tm.get [.tmp 30, .const (.bool true)] = some [ndV 19 [49], .b true] := by kernel_rfl
theorem finA (l : Nat) : finish TT Tryz.f12 (oA8 l).tm.get (oA8 l).hp = .val (.tup [ndV 19 [49], .i .i64 0]) (oA8 l).hp := by kernel_rfl
theorem finI (l : Nat) : finish TT Tryz.f45 (oI8 l).tm.get (oI8 l).hp = .val (.tup []) (oI8 l).hp := by kernel_rfl
end Go.Ev
