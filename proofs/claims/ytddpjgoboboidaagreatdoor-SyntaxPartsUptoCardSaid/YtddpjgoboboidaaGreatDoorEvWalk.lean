/- The steps of a walk over a function, region by region. -/
import Derived.Test.YtddpjgoboboidaaGreatDoorEvQuiet
namespace Go.Ev
open Go
/-- A piece of code, by the way to it (Code.sub). -/
noncomputable def sub : List Bool → Code → Code
  | false :: p, .seq a _ => sub p a
  | true :: p, .seq _ b => sub p b
  | false :: p, .cond _ a _ => sub p a
  | true :: p, .cond _ _ b => sub p b
  | _ :: p, .block _ c => sub p c
  | _ :: p, .loop c => sub p c
  | _, c => c
noncomputable def bodyOf (fn : Func) : Code := fn.body.getD .skip
section
variable {P : Program} {T : Tab} {t : Tm} {H : Heap} {Q : Out → Prop} {c y : Code} {id j : Nat} {v : V}
/-- What is left behind a piece of a sequence. -/
def inSeq (P : Program) (T : Tab) (y : Code) (Q : Out → Prop) : Out → Prop
  | .norm t H => Tri P T y t H Q
  | o => Q o
def inBlk (id : Nat) (Q : Out → Prop) : Out → Prop
  | .exit j t H => if j = id then Q (.norm t H) else Q (.exit j t H)
  | o => Q o
def inLoop (P : Program) (T : Tab) (c : Code) (Q : Out → Prop) : Out → Prop
  | .norm t H => LTri P T c t H Q
  | o => Q o
theorem Tri.seq' {x : Code} (h : Tri P T x t H (inSeq P T y Q)) : Tri P T (.seq x y) t H Q := Tri.seq (h.mono fun o ho => by cases o <;> exact ho)
theorem Tri.block' {x : Code} (h : Tri P T x t H (inBlk id Q)) : Tri P T (.block id x) t H Q := Tri.block (h.mono fun o ho => by cases o <;> exact ho)
theorem LTri.round' (h : Tri P T c t H (inLoop P T c Q)) : LTri P T c t H Q := LTri.round (h.mono fun o ho => by cases o <;> exact ho)
theorem inSeq_norm (h : Tri P T y t H Q) : inSeq P T y Q (.norm t H) := h
theorem inSeq_exit (h : Q (.exit j t H)) : inSeq P T y Q (.exit j t H) := h
theorem inSeq_ret (h : Q (.ret t H)) : inSeq P T y Q (.ret t H) := h
theorem inSeq_pan (h : Q (.pan v t H)) : inSeq P T y Q (.pan v t H) := h
theorem inBlk_norm (h : Q (.norm t H)) : inBlk id Q (.norm t H) := h
theorem inBlk_exit (h : Q (.norm t H)) : inBlk id Q (.exit id t H) := by simpa only [inBlk, if_true] using h
theorem inBlk_pass (hj : (j == id) = false) (h : Q (.exit j t H)) : inBlk id Q (.exit j t H) := by
  have : ¬ j = id := by simpa using hj
  simpa only [inBlk, if_neg this] using h
theorem inBlk_ret (h : Q (.ret t H)) : inBlk id Q (.ret t H) := h
theorem inBlk_pan (h : Q (.pan v t H)) : inBlk id Q (.pan v t H) := h
theorem inLoop_norm (h : LTri P T c t H Q) : inLoop P T c Q (.norm t H) := h
theorem inLoop_exit (h : Q (.exit j t H)) : inLoop P T c Q (.exit j t H) := h
theorem inLoop_ret (h : Q (.ret t H)) : inLoop P T c Q (.ret t H) := h
theorem inLoop_pan (h : Q (.pan v t H)) : inLoop P T c Q (.pan v t H) := h
/-- A region that comes to an end. -/
theorem Tri.regN (hT : TOk P T) {call : CallF} (hC : call.Sound P T) {ops : Array Oper} {d : Bool} {t' : Tm} {H' : Heap} (he : evReg T call ops d t H = .norm t' H') (h : Q (.norm t' H')) : Tri P T (.region id ops d) t H Q := Tri.reg hT hC he h
theorem Tri.condG {g : Operand} {x z : Code} {o : Option V} {b : Bool} (hg : ev1 t.get g = o) (ho : o = some (.b b)) (h1 : b = true → Tri P T x t H Q) (h2 : b = false → Tri P T z t H Q) : Tri P T (.cond g x z) t H Q := Tri.cond (hg.trans ho) h1 h2
theorem go_false {call : CallF} {ops : Array Oper} {out : Out} (h : evSeq (evOp T call) ops ops.toList t H = out) : evReg T call ops false t H = out := h
end
end Go.Ev
