/- Rules by which a triple is shown from the statements of a region; regions that turn nothing; the steps of a walk. -/
import Derived.Test.YtddpjgoboboidaaGreatDoorEvTri
namespace Go.Ev
open Go
section
variable {P : Program} {T : Tab} {t : Tm} {H H' : Heap} {Q Q' : Out → Prop} {c : Code}

theorem get_put (t : Tm) (d k : Nat) (v : V) : (t.put (some d) v).get k = if k = d then v else t.get k := by rw [Tm.get_put]; rfl
theorem get_none (t : Tm) (v : V) : t.put none v = t := rfl
theorem get_init (n : Nat) (l : List V) (k : Nat) : (Tm.init n l).get k = (l[k]?).getD .un := by
  simp only [Tm.init, Tm.get, Tr.get_fill, Nat.zero_le, if_true, Nat.sub_zero, Tr.get_leaf]
theorem wid_init (n : Nat) (l : List V) : (Tm.init n l).wid = n := rfl
theorem fits_some (t : Tm) (d : Nat) : t.fits (some d) = Nat.blt d t.wid := rfl
theorem fits_none (t : Tm) : t.fits none = true := rfl
theorem evReg_false (call : CallF) (ops : Array Oper) (t : Tm) (H : Heap) : evReg T call ops false t H = evSeq (evOp T call) ops ops.toList t H := rfl
variable {step : Oper → Env → Heap → OR} {ops : Array Oper} {o : Oper} {r : List Oper} {v : V} {out : Out}
theorem evSeq_val (hw : wants ops o t.get = some true) (hs : step o t.get H = .val v H') (hf : t.fits o.dst = true) (h : evSeq step ops r (t.put o.dst v) H' = out) : evSeq step ops (o :: r) t H = out := by
  simp only [evSeq, hw, hs, opened_eq, putK_eq, hf, if_true]
  exact h
theorem evSeq_off (hw : wants ops o t.get = some false) (hf : t.fits o.dst = true) (h : evSeq step ops r (t.put o.dst .un) H = out) : evSeq step ops (o :: r) t H = out := by
  simp only [evSeq, hw, putK_eq, hf, if_true]
  exact h
theorem evSeq_pan (hw : wants ops o t.get = some true) (hs : step o t.get H = .pan v H') : evSeq step ops (o :: r) t H = .pan v t H' := by
  simp only [evSeq, hw, hs]
theorem evSeq_nil : evSeq step ops [] t H = .norm t H := rfl
theorem cellsAt_last (H : Heap) (b : Blk) (hb : b.kind ≠ .map) : cellsAt (H ++ [some b]) H.length = some b := by simp [cellsAt, hb]
theorem cellsAt_pre (H J : Heap) (n : Nat) (hn : n < H.length) : cellsAt (H ++ J) n = cellsAt H n := by simp [cellsAt, List.getElem?_append_left hn]
end
end Go.Ev
namespace Go.Ev
open Go
theorem evSeq_go {step : Oper → Env → Heap → OR} {ops : Array Oper} {o : Oper} {r : List Oper} {v : V} {out : Out} {t : Tm} {H H' : Heap} {x : OR} (hw : wants ops o t.get = some true) (hs : step o t.get H = x) (hx : x = .val v H') (hf : t.fits o.dst = true) (h : evSeq step ops r (t.put o.dst v) H' = out) : evSeq step ops (o :: r) t H = out :=
  evSeq_val hw (hs.trans hx) hf h
end Go.Ev
namespace Go.Ev
open Go
theorem wrap_i64 {n : Int} (h1 : -9223372036854775808 ≤ n) (h2 : n < 9223372036854775808) : IntKind.i64.wrap n = n := by
  have e : (2 : Int) ^ IntKind.i64.bits = 18446744073709551616 := rfl
  have e2 : (2 : Int) ^ (IntKind.i64.bits - 1) = 9223372036854775808 := rfl
  simp only [IntKind.wrap, e, e2, IntKind.signed, Bool.true_and, decide_eq_true_eq]
  split <;> omega
end Go.Ev

namespace Go.Ev
open Go
section
variable {T : Tab} {step : Oper → Env → Heap → OR} {ops : Array Oper} {H : Heap}
/-- Operations in their order, none of which turns the heap. -/
inductive QR (step : Oper → Env → Heap → OR) (ops : Array Oper) (H : Heap) : List Oper → Tm → Tm → Prop
  | nil {t : Tm} : QR step ops H [] t t
  | val {o : Oper} {r : List Oper} {t t' : Tm} {x : OR} {v : V} (hw : wants ops o t.get = some true) (hs : step o t.get H = x) (hx : x = .val v H) (hf : t.fits o.dst = true) (h : QR step ops H r (t.put o.dst v) t') : QR step ops H (o :: r) t t'
  | off {o : Oper} {r : List Oper} {t t' : Tm} (hw : wants ops o t.get = some false) (hf : t.fits o.dst = true) (h : QR step ops H r (t.put o.dst .un) t') : QR step ops H (o :: r) t t'
theorem effs_none : ∀ (rs : List Rec) (k : Nat), (∀ r ∈ rs, r.e = false) → effsFrom rs k = []
  | [], _, _ => rfl
  | r :: rs, k, h => by simp [effsFrom, h r (by simp), effs_none rs (k + 1) fun q hq => h q (by simp [hq])]
theorem QR.run : ∀ {l : List Oper} {t t' : Tm}, QR step ops H l t t' → ∃ rs, drawRun step ops l t H = some (rs, [H], t') ∧ ∀ r ∈ rs, r.e = false
  | _, _, _, .nil => ⟨[], rfl, by simp⟩
  | _, _, _, .val (o := o) (r := l) (t := t) (v := v) hw hs hx hf h => by
    obtain ⟨rs, h1, h2⟩ := QR.run h
    subst hx
    refine ⟨⟨o, t.get, v, true, false⟩ :: rs, ?_, by simpa using h2⟩
    simp only [drawRun, hw, hs, opened_eq, putK_eq, hf, if_true, h1, Heap.beq_refl, Bool.not_true, Bool.and_false, Bool.false_eq_true, if_false]
  | _, _, _, .off (o := o) (r := l) (t := t) hw hf h => by
    obtain ⟨rs, h1, h2⟩ := QR.run h
    refine ⟨⟨o, t.get, .un, false, false⟩ :: rs, ?_, by simpa using h2⟩
    simp only [drawRun, hw, putK_eq, hf, if_true, h1]
theorem QR.draw {t t' : Tm} (h : QR step ops H ops.toList t t') (hs : drawStat ops.toList ops (masks ops.toList []) = true) : evDraw step ops t H = .norm t' H := by
  obtain ⟨rs, h1, h2⟩ := h.run
  have h3 : (effs rs).isEmpty = true := by rw [effs, effs_none rs 0 h2]; rfl
  simp only [evDraw, h1, hs, h3, Bool.true_or, Bool.and_true, if_true, List.getLast?_singleton]
theorem evReg_quiet {call : CallF} {t t' : Tm} {out : Out} (hs : drawStat ops.toList ops (masks ops.toList []) = true) (h : QR (evOp T call) ops H ops.toList t t') (ho : Out.norm t' H = out) : evReg T call ops true t H = out := by
  rw [← ho]
  exact h.draw hs
end
end Go.Ev

namespace Go.Ev
open Go
/-- A piece of code, by the way to it (Code.sub). -/
noncomputable def sub : List Bool → Code → Code
  | false :: p, .seq a _ => sub p a
  | true :: p, .seq _ b => sub p b
  | false :: p, .cond _ a _ => sub p a
  | true :: p, .cond _ _ b => sub p b
  | _ :: p, .block _ c => sub p c
  | _ :: p, .loop c => sub p c
  | _, c => c
noncomputable def bodyOf (fn : Func) : Code := fn.body.getD .skip
section
variable {P : Program} {T : Tab} {t : Tm} {H : Heap} {Q : Out → Prop} {c y : Code} {id j : Nat} {v : V}
/-- What is left behind a piece of a sequence. -/
def inSeq (P : Program) (T : Tab) (y : Code) (Q : Out → Prop) : Out → Prop
  | .norm t H => Tri P T y t H Q
  | o => Q o
def inBlk (id : Nat) (Q : Out → Prop) : Out → Prop
  | .exit j t H => if j = id then Q (.norm t H) else Q (.exit j t H)
  | o => Q o
def inLoop (P : Program) (T : Tab) (c : Code) (Q : Out → Prop) : Out → Prop
  | .norm t H => LTri P T c t H Q
  | o => Q o
theorem Tri.seq' {x : Code} (h : Tri P T x t H (inSeq P T y Q)) : Tri P T (.seq x y) t H Q := Tri.seq (h.mono fun o ho => by cases o <;> exact ho)
theorem Tri.block' {x : Code} (h : Tri P T x t H (inBlk id Q)) : Tri P T (.block id x) t H Q := Tri.block (h.mono fun o ho => by cases o <;> exact ho)
theorem LTri.round' (h : Tri P T c t H (inLoop P T c Q)) : LTri P T c t H Q := LTri.round (h.mono fun o ho => by cases o <;> exact ho)
theorem inSeq_norm (h : Tri P T y t H Q) : inSeq P T y Q (.norm t H) := h
theorem inSeq_exit (h : Q (.exit j t H)) : inSeq P T y Q (.exit j t H) := h
theorem inSeq_ret (h : Q (.ret t H)) : inSeq P T y Q (.ret t H) := h
theorem inSeq_pan (h : Q (.pan v t H)) : inSeq P T y Q (.pan v t H) := h
theorem inBlk_norm (h : Q (.norm t H)) : inBlk id Q (.norm t H) := h
theorem inBlk_exit (h : Q (.norm t H)) : inBlk id Q (.exit id t H) := by simpa only [inBlk, if_true] using h
theorem inBlk_pass (hj : (j == id) = false) (h : Q (.exit j t H)) : inBlk id Q (.exit j t H) := by
  have : ¬ j = id := by simpa using hj
  simpa only [inBlk, if_neg this] using h
theorem inBlk_ret (h : Q (.ret t H)) : inBlk id Q (.ret t H) := h
theorem inBlk_pan (h : Q (.pan v t H)) : inBlk id Q (.pan v t H) := h
theorem inLoop_norm (h : LTri P T c t H Q) : inLoop P T c Q (.norm t H) := h
theorem inLoop_exit (h : Q (.exit j t H)) : inLoop P T c Q (.exit j t H) := h
theorem inLoop_ret (h : Q (.ret t H)) : inLoop P T c Q (.ret t H) := h
theorem inLoop_pan (h : Q (.pan v t H)) : inLoop P T c Q (.pan v t H) := h
/-- A region that comes to an end. -/
theorem Tri.regN (hT : TOk P T) {call : CallF} (hC : call.Sound P T) {ops : Array Oper} {d : Bool} {t' : Tm} {H' : Heap} (he : evReg T call ops d t H = .norm t' H') (h : Q (.norm t' H')) : Tri P T (.region id ops d) t H Q := Tri.reg hT hC he h
theorem Tri.condG {g : Operand} {x z : Code} {o : Option V} {b : Bool} (hg : ev1 t.get g = o) (ho : o = some (.b b)) (h1 : b = true → Tri P T x t H Q) (h2 : b = false → Tri P T z t H Q) : Tri P T (.cond g x z) t H Q := Tri.cond (hg.trans ho) h1 h2
theorem go_false {call : CallF} {ops : Array Oper} {out : Out} (h : evSeq (evOp T call) ops ops.toList t H = out) : evReg T call ops false t H = out := h
end
end Go.Ev
