/- The witness. -/
import Derived.Test.YtmjplflnlggbeaaGreatDoorEBrE
import Derived.Test.YtmjplflnlggbeaaGreatDoorCards
import Derived.Test.YtmjplflnlggbeaaGreatDoorTie
import Derived.ProofKit
import Derived.LaidMore
import Derived.Deep.DeepHandedRow
import Derived.Deep.DeepWitnessRowRef
import Derived.Deep.DeepLaidRun
import Derived.SevenTiedAt
namespace Go.Proofs.YtmjplflnlggbeaaGreatDoor
open Go Go.Proofs Go.RowKit
set_option maxRecDepth 1000000
theorem own : ownKnob Tryz.prog.godebug = none := by kernel_rfl
noncomputable def u8s (l : List Int) : Array Value := (l.map fun c => Value.int .u8 c).toArray
noncomputable def u16s (l : List Int) : Array Value := (l.map fun c => Value.int .u16 c).toArray
noncomputable def u64s (l : List Int) : Array Value := (l.map fun c => Value.int .u64 c).toArray
noncomputable def cellsOfG : List (Nat × Array Value) := [(0, (Go.Ev.sgnL.map fun s => Value.string ⟨s.toArray⟩).toArray), (3, u8s ((List.range 256).map fun i => if i = 32 ∨ (9 ≤ i ∧ i ≤ 13) then 1 else 0)), (1, u8s ((List.range 256).map fun i => (Lib.firstT i : Int))),
 (2, u8s ((List.range 16).map fun i => [(Lib.accLo i : Int), (Lib.accHi i : Int)]).flatten), (5, #[.pointer (some { block := 18, off := 0 })]), (11, #[.pointer (some { block := 18, off := 0 })]), (8, u64s [1, 10, 100, 1000, 10000, 100000, 1000000, 10000000, 100000000, 1000000000, 10000000000, 100000000000, 1000000000000, 10000000000000, 100000000000000, 1000000000000000, 10000000000000000, 100000000000000000, 1000000000000000000, 10000000000000000000]), (9, u8s [0, 1, 28, 2, 29, 14, 24, 3, 30, 22, 20, 15, 25, 17, 4, 8, 31, 27, 13, 23, 21, 19, 16, 7, 26, 12, 18, 6, 11, 5, 10, 9]), (10, u8s [0, 1, 56, 2, 57, 49, 28, 3, 61, 58, 42, 50, 38, 29, 17, 4, 62, 47, 59, 36, 45, 43, 51, 22, 53, 39, 33, 30, 24, 18, 12, 5, 63, 55, 48, 27, 60, 41, 37, 16, 46, 35, 44, 21, 52, 32, 23, 11, 54, 26, 40, 15, 34, 20, 31, 10, 25, 14, 19, 9, 13, 8, 7, 6])]
noncomputable def setG (h : Array Obj) (x : Nat × Array Value) : Array Obj := h.modify x.1 fun
 | .cells _ t f => .cells x.2 t f
 | o => o
noncomputable def base (os : Os) : Array Obj := (World.holding Tryz.prog os ⟨#[], #[], []⟩).heap
noncomputable def heapG (os : Os) : Array Obj := Array.push (Array.push (cellsOfG.foldl setG (base os)) (.cells (u16s [9, 13, 1, 32, 133, 101, 160, 5760, 5600, 8192, 8202, 1, 8232, 8233, 1, 8239, 8287, 48, 12288, 12288, 1]) 161 (0, 0))) (.cells #[.slice (some { block := 17, off := 0 }) 7 7, .slice none 0 0, .int .i64 2] 159 (0, 0))
noncomputable def laidWorld (os : Os) : World := { World.holding Tryz.prog os ⟨#[], #[], []⟩ with heap := heapG os }
noncomputable def args0 : Array Value := #[.slice none 0 0]
theorem laid_met (os : Os) : laidMet Tryz.prog Rows.tokenTextsUptoRow.laid ((laidWorld os).forCall (fun _ _ => 0) ⟨#[], args0, []⟩).memory :=
 laidMet_of_run3 8 (by kernel_rfl) (by kernel_rfl) (by kernel_rfl)
end Go.Proofs.YtmjplflnlggbeaaGreatDoor
