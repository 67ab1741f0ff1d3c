/- Rules by which a triple is shown from the statements of a region. -/
import Derived.Test.YtddpjgoboboidaaGreatDoorEvTri
namespace Go.Ev
open Go
section
variable {P : Program} {T : Tab} {t : Tm} {H H' : Heap} {Q Q' : Out → Prop} {c : Code}

theorem get_put (t : Tm) (d k : Nat) (v : V) : (t.put (some d) v).get k = if k = d then v else t.get k := by rw [Tm.get_put]; rfl
theorem get_none (t : Tm) (v : V) : t.put none v = t := rfl
theorem get_init (n : Nat) (l : List V) (k : Nat) : (Tm.init n l).get k = (l[k]?).getD .un := by
  simp only [Tm.init, Tm.get, Tr.get_fill, Nat.zero_le, if_true, Nat.sub_zero, Tr.get_leaf]
theorem wid_init (n : Nat) (l : List V) : (Tm.init n l).wid = n := rfl
theorem fits_some (t : Tm) (d : Nat) : t.fits (some d) = Nat.blt d t.wid := rfl
theorem fits_none (t : Tm) : t.fits none = true := rfl
theorem evReg_false (call : CallF) (ops : Array Oper) (t : Tm) (H : Heap) : evReg T call ops false t H = evSeq (evOp T call) ops ops.toList t H := rfl
variable {step : Oper → Env → Heap → OR} {ops : Array Oper} {o : Oper} {r : List Oper} {v : V} {out : Out}
theorem evSeq_val (hw : wants ops o t.get = some true) (hs : step o t.get H = .val v H') (hf : t.fits o.dst = true) (h : evSeq step ops r (t.put o.dst v) H' = out) : evSeq step ops (o :: r) t H = out := by
  simp only [evSeq, hw, hs, opened_eq, putK_eq, hf, if_true]
  exact h
theorem evSeq_off (hw : wants ops o t.get = some false) (hf : t.fits o.dst = true) (h : evSeq step ops r (t.put o.dst .un) H = out) : evSeq step ops (o :: r) t H = out := by
  simp only [evSeq, hw, putK_eq, hf, if_true]
  exact h
theorem evSeq_pan (hw : wants ops o t.get = some true) (hs : step o t.get H = .pan v H') : evSeq step ops (o :: r) t H = .pan v t H' := by
  simp only [evSeq, hw, hs]
theorem evSeq_nil : evSeq step ops [] t H = .norm t H := rfl
theorem cellsAt_last (H : Heap) (b : Blk) (hb : b.kind ≠ .map) : cellsAt (H ++ [some b]) H.length = some b := by simp [cellsAt, hb]
theorem cellsAt_pre (H J : Heap) (n : Nat) (hn : n < H.length) : cellsAt (H ++ J) n = cellsAt H n := by simp [cellsAt, List.getElem?_append_left hn]
end
end Go.Ev
namespace Go.Ev
open Go
theorem evSeq_go {step : Oper → Env → Heap → OR} {ops : Array Oper} {o : Oper} {r : List Oper} {v : V} {out : Out} {t : Tm} {H H' : Heap} {x : OR} (hw : wants ops o t.get = some true) (hs : step o t.get H = x) (hx : x = .val v H') (hf : t.fits o.dst = true) (h : evSeq step ops r (t.put o.dst v) H' = out) : evSeq step ops (o :: r) t H = out :=
  evSeq_val hw (hs.trans hx) hf h
end Go.Ev
namespace Go.Ev
open Go
theorem wrap_i64 {n : Int} (h1 : -9223372036854775808 ≤ n) (h2 : n < 9223372036854775808) : IntKind.i64.wrap n = n := by
  have e : (2 : Int) ^ IntKind.i64.bits = 18446744073709551616 := rfl
  have e2 : (2 : Int) ^ (IntKind.i64.bits - 1) = 9223372036854775808 := rfl
  simp only [IntKind.wrap, e, e2, IntKind.signed, Bool.true_and, decide_eq_true_eq]
  split <;> omega
end Go.Ev
