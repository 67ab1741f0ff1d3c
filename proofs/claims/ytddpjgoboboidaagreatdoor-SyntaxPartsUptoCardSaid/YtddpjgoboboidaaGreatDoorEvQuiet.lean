/- Regions that draw nothing. -/
import Derived.Test.YtddpjgoboboidaaGreatDoorEvSym
namespace Go.Ev
open Go
section
variable {T : Tab} {step : Oper → Env → Heap → OR} {ops : Array Oper} {H : Heap}
/-- Operations in their order, none of which turns the heap. -/
inductive QR (step : Oper → Env → Heap → OR) (ops : Array Oper) (H : Heap) : List Oper → Tm → Tm → Prop
  | nil {t : Tm} : QR step ops H [] t t
  | val {o : Oper} {r : List Oper} {t t' : Tm} {x : OR} {v : V} (hw : wants ops o t.get = some true) (hs : step o t.get H = x) (hx : x = .val v H) (hf : t.fits o.dst = true) (h : QR step ops H r (t.put o.dst v) t') : QR step ops H (o :: r) t t'
  | off {o : Oper} {r : List Oper} {t t' : Tm} (hw : wants ops o t.get = some false) (hf : t.fits o.dst = true) (h : QR step ops H r (t.put o.dst .un) t') : QR step ops H (o :: r) t t'
theorem effs_none : ∀ (rs : List Rec) (k : Nat), (∀ r ∈ rs, r.e = false) → effsFrom rs k = []
  | [], _, _ => rfl
  | r :: rs, k, h => by simp [effsFrom, h r (by simp), effs_none rs (k + 1) fun q hq => h q (by simp [hq])]
theorem QR.run : ∀ {l : List Oper} {t t' : Tm}, QR step ops H l t t' → ∃ rs, drawRun step ops l t H = some (rs, [H], t') ∧ ∀ r ∈ rs, r.e = false
  | _, _, _, .nil => ⟨[], rfl, by simp⟩
  | _, _, _, .val (o := o) (r := l) (t := t) (v := v) hw hs hx hf h => by
    obtain ⟨rs, h1, h2⟩ := QR.run h
    subst hx
    refine ⟨⟨o, t.get, v, true, false⟩ :: rs, ?_, by simpa using h2⟩
    simp only [drawRun, hw, hs, opened_eq, putK_eq, hf, if_true, h1, Heap.beq_refl, Bool.not_true, Bool.and_false, Bool.false_eq_true, if_false]
  | _, _, _, .off (o := o) (r := l) (t := t) hw hf h => by
    obtain ⟨rs, h1, h2⟩ := QR.run h
    refine ⟨⟨o, t.get, .un, false, false⟩ :: rs, ?_, by simpa using h2⟩
    simp only [drawRun, hw, putK_eq, hf, if_true, h1]
theorem QR.draw {t t' : Tm} (h : QR step ops H ops.toList t t') (hs : drawStat ops.toList ops (masks ops.toList []) = true) : evDraw step ops t H = .norm t' H := by
  obtain ⟨rs, h1, h2⟩ := h.run
  have h3 : (effs rs).isEmpty = true := by rw [effs, effs_none rs 0 h2]; rfl
  simp only [evDraw, h1, hs, h3, Bool.true_or, Bool.and_true, if_true, List.getLast?_singleton]
theorem evReg_quiet {call : CallF} {t t' : Tm} {out : Out} (hs : drawStat ops.toList ops (masks ops.toList []) = true) (h : QR (evOp T call) ops H ops.toList t t') (ho : Out.norm t' H = out) : evReg T call ops true t H = out := by
  rw [← ho]
  exact h.draw hs
end
end Go.Ev
