/- A world in which the listed variables read as the row says. -/
import Derived.Test.YtddpjgoboboidaaGreatDoorBrC
import Derived.Test.YtddpjgoboboidaaGreatDoorCards
import Derived.Test.YtddpjgoboboidaaGreatDoorTie
import Derived.ProofKit
import Derived.LaidMore
import Derived.Deep.DeepHandedRow
import Derived.Deep.DeepWitnessRowRef
import Derived.Deep.DeepLaidRun
import Derived.SevenTiedAt
namespace Go.Proofs.YtddpjgoboboidaaGreatDoor
open Go Go.Proofs Go.RowKit
set_option maxRecDepth 1000000
theorem own : ownKnob Tryz.prog.godebug = none := by kernel_rfl
noncomputable def u8s (l : List Int) : Array Value := (l.map fun c => Value.int .u8 c).toArray
noncomputable def u16s (l : List Int) : Array Value := (l.map fun c => Value.int .u16 c).toArray
noncomputable def cellsOfG : List (Nat × Array Value) := [(0, u8s ((List.range 256).map fun i => if i = 32 ∨ (9 ≤ i ∧ i ≤ 13) then 1 else 0)), (1, u8s ((List.range 256).map fun i => (Lib.firstT i : Int))),
  (2, u8s ((List.range 16).map fun i => [(Lib.accLo i : Int), (Lib.accHi i : Int)]).flatten), (3, #[.pointer (some { block := 15, off := 0 })]), (8, #[.pointer (some { block := 15, off := 0 })])]
noncomputable def setG (h : Array Obj) (x : Nat × Array Value) : Array Obj := h.modify x.1 fun
  | .cells _ t f => .cells x.2 t f
  | o => o
/-- A world for the witness: the settled one, the tables in their blocks, and what the spaces' table leads to. -/
noncomputable def base (os : Os) : Array Obj := (World.holding Tryz.prog os ⟨#[], #[], []⟩).heap
noncomputable def heapG (os : Os) : Array Obj := Array.push (Array.push (cellsOfG.foldl setG (base os)) (.cells (u16s [9, 13, 1, 32, 133, 101, 160, 5760, 5600, 8192, 8202, 1, 8232, 8233, 1, 8239, 8287, 48, 12288, 12288, 1]) 135 (0, 0))) (.cells #[.slice (some { block := 14, off := 0 }) 7 7, .slice none 0 0, .int .i64 2] 132 (0, 0))
noncomputable def laidWorld (os : Os) : World := { World.holding Tryz.prog os ⟨#[], #[], []⟩ with heap := heapG os }
noncomputable def zeroNode : Value := .agg #[.int .i64 0, .string ByteArray.empty, .slice none 0 0]
theorem laid_met (os : Os) : laidMet Tryz.prog Rows.syntaxPlacesUptoRow.laid ((laidWorld os).forCall (fun _ _ => 0) ⟨#[], #[zeroNode, zeroNode, .slice none 0 0], []⟩).memory :=
  laidMet_of_run3 8 (by kernel_rfl) (by kernel_rfl) (by kernel_rfl)
end Go.Proofs.YtddpjgoboboidaaGreatDoor
