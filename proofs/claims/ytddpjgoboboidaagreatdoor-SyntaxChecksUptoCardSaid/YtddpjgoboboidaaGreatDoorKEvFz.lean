/- Triples over regions: what holds ahead of a region and behind it, with one outcome for all worlds. Rules by which a triple is shown from the statements of a region; regions that turn nothing; the steps of a walk. What is known of a function is a relation between its arguments and its value; such facts serve as answers to calls. A value with places may be read as a value without places, where nothing is written any more. -/
import Derived.Test.YtddpjgoboboidaaGreatDoorKEvGam
namespace Go.Ev
open Go Go.Proofs
set_option linter.unusedSimpArgs false
set_option linter.unusedVariables false
open Go
section
variable {P : Program} {T : Tab}

def TriX (P : Program) (T : Tab) (c : Code) (t : Tm) (H : Heap) (o : Out) : Prop :=
  ∀ (a : Act) (w : World) (M : Mem) (ρ : Ren) (R : Exit → Act → World → Prop), SR T M ρ H w → relTm M ρ t a.tmps → OutOK T M ρ w R a.defers o → c.wp P R a w
def LTriX (P : Program) (T : Tab) (c : Code) (t : Tm) (H : Heap) (o : Out) : Prop :=
  ∀ (a : Act) (w : World) (M : Mem) (ρ : Ren) (R : Exit → Act → World → Prop), SR T M ρ H w → relTm M ρ t a.tmps → OutOK T M ρ w R a.defers o → LoopWp P c R a w
def Tri (P : Program) (T : Tab) (c : Code) (t : Tm) (H : Heap) (Q : Out → Prop) : Prop := ∃ o, Q o ∧ TriX P T c t H o
def LTri (P : Program) (T : Tab) (c : Code) (t : Tm) (H : Heap) (Q : Out → Prop) : Prop := ∃ o, Q o ∧ LTriX P T c t H o

variable {t : Tm} {H : Heap} {Q Q' : Out → Prop} {c : Code}
theorem Tri.mono (h : Tri P T c t H Q) (hq : ∀ o, Q o → Q' o) : Tri P T c t H Q' := h.imp fun o k => ⟨hq o k.1, k.2⟩
theorem LTri.mono (h : LTri P T c t H Q) (hq : ∀ o, Q o → Q' o) : LTri P T c t H Q' := h.imp fun o k => ⟨hq o k.1, k.2⟩
theorem Tri.skip (h : Q (.norm t H)) : Tri P T .skip t H Q := ⟨_, h, fun a w M ρ _ hS ht k => wp_skip (k a w M ρ (Ext.refl _ _ _) ht hS rfl)⟩
theorem Tri.label {l : Nat} (h : Q (.norm t H)) : Tri P T (.label l) t H Q := ⟨_, h, fun a w M ρ _ hS ht k => wp_label (k a w M ρ (Ext.refl _ _ _) ht hS rfl)⟩
theorem Tri.exit {id : Nat} (h : Q (.exit id t H)) : Tri P T (.exit id) t H Q := ⟨_, h, fun a w M ρ _ hS ht k => wp_exit (k a w M ρ (Ext.refl _ _ _) ht hS rfl)⟩
theorem Tri.ret (h : Q (.ret t H)) : Tri P T .ret t H Q := ⟨_, h, fun a w M ρ _ hS ht k => wp_ret (k a w M ρ (Ext.refl _ _ _) ht hS rfl)⟩
theorem Tri.reg (hT : TOk P T) {call : CallF} (hC : call.Sound P T) {id : Nat} {ops : Array Oper} {d : Bool} {o : Out} (he : evReg T call ops d t H = o) (h : Q o) : Tri P T (.region id ops d) t H Q := ⟨o, h, fun a w M ρ R hS ht k =>
  evReg_ok hT hC id ops d t H a w M ρ R hS ht (by rw [he]; exact k)⟩
theorem Tri.seq {x y : Code} (h : Tri P T x t H fun o => match o with | .norm t' H' => Tri P T y t' H' Q | o => Q o) : Tri P T (.seq x y) t H Q := by
  obtain ⟨o, ho, hx⟩ := h
  cases o with
  | norm t' H' =>
    obtain ⟨o2, h2, hy⟩ := ho
    refine ⟨o2, h2, fun a w M ρ R hS ht k => wp_seq (hx a w M ρ _ hS ht ?_)⟩
    intro a' w' M' ρ' he ht' hS' hd
    refine hy a' w' M' ρ' R hS' ht' ?_
    rw [hd]
    exact k.later he
  | exit id t' H' => exact ⟨_, ho, fun a w M ρ R hS ht k => wp_seq (hx a w M ρ _ hS ht k)⟩
  | ret t' H' => exact ⟨_, ho, fun a w M ρ R hS ht k => wp_seq (hx a w M ρ _ hS ht k)⟩
  | pan v t' H' => exact ⟨_, ho, fun a w M ρ R hS ht k => wp_seq (hx a w M ρ _ hS ht k)⟩
  | no => exact ⟨.no, ho, fun a w M ρ R hS ht k => k.elim⟩
theorem Tri.cond {g : Operand} {x y : Code} {b : Bool} (hg : ev1 t.get g = some (.b b)) (h1 : b = true → Tri P T x t H Q) (h2 : b = false → Tri P T y t H Q) : Tri P T (.cond g x y) t H Q := by
  cases b with
  | true =>
    obtain ⟨o, ho, hx⟩ := h1 rfl
    refine ⟨o, ho, fun a w M ρ R hS ht k => ?_⟩
    have := ev1_rel ht.2 hg
    simp only [rel] at this
    exact wp_cond_true this (hx a w M ρ R hS ht k)
  | false =>
    obtain ⟨o, ho, hx⟩ := h2 rfl
    refine ⟨o, ho, fun a w M ρ R hS ht k => ?_⟩
    have := ev1_rel ht.2 hg
    simp only [rel] at this
    exact wp_cond_false this (hx a w M ρ R hS ht k)
theorem Tri.block {id : Nat} {x : Code} (h : Tri P T x t H fun o => match o with | .exit j t' H' => if j = id then Q (.norm t' H') else Q (.exit j t' H') | o => Q o) : Tri P T (.block id x) t H Q := by
  obtain ⟨o, ho, hx⟩ := h
  cases o with
  | norm t' H' => exact ⟨_, ho, fun a w M ρ R hS ht k => wp_block (hx a w M ρ _ hS ht k)⟩
  | exit j t' H' =>
    simp only at ho
    by_cases e : j = id
    · rw [if_pos e] at ho
      refine ⟨_, ho, fun a w M ρ R hS ht k => wp_block (hx a w M ρ _ hS ht ?_)⟩
      intro a' w' M' ρ' he ht' hS' hd
      simp only [Exit.inBlock]
      rw [if_pos e]
      exact k a' w' M' ρ' he ht' hS' hd
    · rw [if_neg e] at ho
      refine ⟨_, ho, fun a w M ρ R hS ht k => wp_block (hx a w M ρ _ hS ht ?_)⟩
      intro a' w' M' ρ' he ht' hS' hd
      simp only [Exit.inBlock]
      rw [if_neg e]
      exact k a' w' M' ρ' he ht' hS' hd
  | ret t' H' => exact ⟨_, ho, fun a w M ρ R hS ht k => wp_block (hx a w M ρ _ hS ht k)⟩
  | pan v t' H' => exact ⟨_, ho, fun a w M ρ R hS ht k => wp_block (hx a w M ρ _ hS ht k)⟩
  | no => exact ⟨.no, ho, fun a w M ρ R hS ht k => k.elim⟩
theorem LTri.round (h : Tri P T c t H fun o => match o with | .norm t' H' => LTri P T c t' H' Q | o => Q o) : LTri P T c t H Q := by
  obtain ⟨o, ho, hx⟩ := h
  cases o with
  | norm t' H' =>
    obtain ⟨o2, h2, hy⟩ := ho
    refine ⟨o2, h2, fun a w M ρ R hS ht k => loopWp_round (hx a w M ρ _ hS ht ?_)⟩
    intro a' w' M' ρ' he ht' hS' hd
    refine hy a' w' M' ρ' R hS' ht' ?_
    rw [hd]
    exact k.later he
  | exit id t' H' => exact ⟨_, ho, fun a w M ρ R hS ht k => loopWp_round (hx a w M ρ _ hS ht k)⟩
  | ret t' H' => exact ⟨_, ho, fun a w M ρ R hS ht k => loopWp_round (hx a w M ρ _ hS ht k)⟩
  | pan v t' H' => exact ⟨_, ho, fun a w M ρ R hS ht k => loopWp_round (hx a w M ρ _ hS ht k)⟩
  | no => exact ⟨.no, ho, fun a w M ρ R hS ht k => k.elim⟩
theorem Tri.loop (h : LTri P T c t H Q) : Tri P T (.loop c) t H Q := h.imp fun _ k => ⟨k.1, fun a w M ρ R hS ht q => wp_of_loopWp (k.2 a w M ρ R hS ht q)⟩

def Ends (T : Tab) (fn : Func) (r : Res) (o : Out) : Prop :=
  match o, r with
  | .norm t H, .val v => finish T fn t.get H = .val v H
  | .ret t H, .val v => finish T fn t.get H = .val v H
  | .pan v _ _, .pan u => v = u
  | _, _ => False
def Body (P : Program) (T : Tab) (F : FuncId) (vs : List V) (r : Res) : Prop :=
  ∃ fn c, T.func F = some fn ∧ fn.body = some c ∧ vs.length ≤ fn.ntmps ∧ Tri P T c (Tm.init fn.ntmps vs) [] (Ends T fn r)

theorem relTm_init {M : Mem} {ρ : Ren} {vs : List V} {args : List Value} (hargs : relL M ρ vs args) {n : Nat} (hle : vs.length ≤ n) : relTm M ρ (Tm.init n vs) (args.toArray ++ Array.replicate (n - args.toArray.size) undef) := by
  have hl := relL_length hargs
  refine ⟨by simp [Tm.init]; omega, fun k => ?_⟩
  simp only [Tm.init, Tm.get]
  rw [Tr.get_fill, if_pos (Nat.zero_le _), Nat.sub_zero]
  simp only [Tr.get_leaf, Array.getD_eq_getD_getElem?]
  by_cases hk : k < vs.length
  · rw [Array.getElem?_append_left (by simp; omega)]
    obtain ⟨x, hx, hxr⟩ := relL_get hargs (i := k) (v := vs[k]) (List.getElem?_eq_getElem hk)
    rw [List.getElem?_eq_getElem hk]
    simp only [List.getElem?_toArray, hx, Option.getD_some]
    exact hxr
  · rw [List.getElem?_eq_none (by omega)]
    have : ((args.toArray ++ Array.replicate (n - args.toArray.size) undef)[k]?).getD undef = undef := by
      rw [Array.getElem?_append_right (by simp; omega), Array.getElem?_replicate]
      split <;> rfl
    rw [this]
    exact rel_undef

theorem con_of_body (hT : TOk P T) (hp : T.Plain) {f : FuncId} {vs : List V} {r : Res} (h : Body P T f vs r) (h1 : nlL vs = true) (h2 : r.nl = true) :
    Go.Proofs.Enters P f ∧ ∀ (H : Heap) (M : Mem) (ρ : Ren) (w : World) (args : List Value), SR T M ρ H w → relL M ρ vs args → CallOK P T f args.toArray M ρ w (r.at H) := by
  obtain ⟨fn, c, hfn, hc, hle, o, ho, ht⟩ := h
  obtain ⟨hf, hent⟩ := hT.func f fn c hfn hc
  refine ⟨hent, fun H M ρ w args hS hr => ?_⟩
  have hr0 := nlL_rel (σ := []) vs args h1 hr
  have key : Calls P f args.toArray w fun e w' => ∃ M' σ J, SR T M' σ J w' ∧ Ext M [] w M' σ w' ∧ (match r with | .val v => ∃ x, e = .returned x ∧ rel M' σ v x | .pan v => ∃ x, e = .panicked [{ v := x, recovered := false }] ∧ rel M' σ v x) := by
    refine calls_of_wp hf hc (ht { tmps := args.toArray ++ Array.replicate (fn.ntmps - args.toArray.size) undef, defers := [] } w M [] _ (hS.forget hp) (relTm_init hr0 hle) ?_)
    cases o with
    | norm t' H' =>
      cases r with
      | pan v => exact ho.elim
      | val v =>
        intro a' w' M' ρ' he ht' hS' hd
        obtain ⟨_, x, hx, hxr⟩ := results_ok hT hS' ht'.2 ho
        exact ⟨hd, x, hx, M', ρ', H', hS', he, x, rfl, hxr⟩
    | ret t' H' =>
      cases r with
      | pan v => exact ho.elim
      | val v =>
        intro a' w' M' ρ' he ht' hS' hd
        obtain ⟨_, x, hx, hxr⟩ := results_ok hT hS' ht'.2 ho
        exact ⟨hd, x, hx, M', ρ', H', hS', he, x, rfl, hxr⟩
    | pan v t' H' =>
      cases r with
      | val v => exact ho.elim
      | pan u =>
        intro a' w' M' ρ' x he hx hS' hd
        cases ho
        exact ⟨hd, M', ρ', H', hS', he, x, rfl, hx⟩
    | exit id t' H' => cases r <;> exact ho.elim
    | no => cases r <;> exact ho.elim
  cases r with
  | val v =>
    refine Calls.mono key ?_
    rintro e w' ⟨M', σ, J, hk, he, x, rfl, hx⟩
    exact ⟨x, M', ρ, rfl, he.recall, nl_rel v x h2 hx, hS.recall hk he⟩
  | pan v =>
    refine Calls.mono key ?_
    rintro e w' ⟨M', σ, J, hk, he, x, rfl, hx⟩
    exact ⟨x, M', ρ, rfl, he.recall, nl_rel v x h2 hx, hS.recall hk he⟩

def EBody (P : Program) (T : Tab) (F : FuncId) (vs : List V) (R : Res → Prop) : Prop :=
  ∃ fn c, T.func F = some fn ∧ fn.body = some c ∧ vs.length ≤ fn.ntmps ∧ Tri P T c (Tm.init fn.ntmps vs) [] fun o => ∃ r, R r ∧ Ends T fn r o
theorem EBody.out {F : FuncId} {vs : List V} {R : Res → Prop} (h : EBody P T F vs R) : ∃ r, R r ∧ Body P T F vs r := by
  obtain ⟨fn, c, h1, h2, h3, o, ⟨r, hr, he⟩, hx⟩ := h
  exact ⟨r, hr, fn, c, h1, h2, h3, o, he, hx⟩
theorem Body.ex {F : FuncId} {vs : List V} {r : Res} (h : Body P T F vs r) : EBody P T F vs (· = r) := by
  obtain ⟨fn, c, h1, h2, h3, o, he, hx⟩ := h
  exact ⟨fn, c, h1, h2, h3, o, ⟨r, rfl, he⟩, hx⟩
def EndsH (T : Tab) (fn : Func) (R : V → Heap → Prop) : Out → Prop
  | .norm t H => ∃ v, R v H ∧ finish T fn t.get H = .val v H
  | .ret t H => ∃ v, R v H ∧ finish T fn t.get H = .val v H
  | _ => False
def HBody (P : Program) (T : Tab) (F : FuncId) (vs : List V) (H : Heap) (R : V → Heap → Prop) : Prop :=
  ∃ fn c, T.func F = some fn ∧ fn.body = some c ∧ vs.length ≤ fn.ntmps ∧ Tri P T c (Tm.init fn.ntmps vs) H (EndsH T fn R)
theorem hbody_fact (hT : TOk P T) {f : FuncId} {vs : List V} {H : Heap} {R : V → Heap → Prop} (h : HBody P T f vs H R) :
    ∃ v H', R v H' ∧ Go.Proofs.Enters P f ∧ ∀ (M : Mem) (ρ : Ren) (w : World) (args : List Value), SR T M ρ H w → relL M ρ vs args → CallOK P T f args.toArray M ρ w (.val v H') := by
  obtain ⟨fn, c, hfn, hc, hle, o, ho, ht⟩ := h
  obtain ⟨hf, hent⟩ := hT.func f fn c hfn hc
  cases o with
  | norm t' H' =>
    obtain ⟨v, hR, hv⟩ := ho
    refine ⟨v, H', hR, hent, fun M ρ w args hS hr => ?_⟩
    refine calls_of_wp hf hc (ht { tmps := args.toArray ++ Array.replicate (fn.ntmps - args.toArray.size) undef, defers := [] } w M ρ _ hS (relTm_init hr hle) ?_)
    intro a' w' M' ρ' he ht' hS' hd
    obtain ⟨_, x, hx, hxr⟩ := results_ok hT hS' ht'.2 hv
    exact ⟨hd, x, hx, x, M', ρ', rfl, he, hxr, hS'⟩
  | ret t' H' =>
    obtain ⟨v, hR, hv⟩ := ho
    refine ⟨v, H', hR, hent, fun M ρ w args hS hr => ?_⟩
    refine calls_of_wp hf hc (ht { tmps := args.toArray ++ Array.replicate (fn.ntmps - args.toArray.size) undef, defers := [] } w M ρ _ hS (relTm_init hr hle) ?_)
    intro a' w' M' ρ' he ht' hS' hd
    obtain ⟨_, x, hx, hxr⟩ := results_ok hT hS' ht'.2 hv
    exact ⟨hd, x, hx, x, M', ρ', rfl, he, hxr, hS'⟩
  | pan v t' H' => exact ho.elim
  | exit id t' H' => exact ho.elim
  | no => exact ho.elim
end
end Go.Ev
namespace Go.Ev
open Go
section
variable {P : Program} {T : Tab} {t : Tm} {H H' : Heap} {Q Q' : Out → Prop} {c : Code}

theorem get_put (t : Tm) (d k : Nat) (v : V) : (t.put (some d) v).get k = if k = d then v else t.get k := by rw [Tm.get_put]; rfl
theorem get_none (t : Tm) (v : V) : t.put none v = t := rfl
theorem get_init (n : Nat) (l : List V) (k : Nat) : (Tm.init n l).get k = (l[k]?).getD .un := by
  simp only [Tm.init, Tm.get, Tr.get_fill, Nat.zero_le, if_true, Nat.sub_zero, Tr.get_leaf]
theorem fits_some (t : Tm) (d : Nat) : t.fits (some d) = Nat.blt d t.wid := rfl
theorem fits_none (t : Tm) : t.fits none = true := rfl
variable {step : Oper → Env → Heap → OR} {ops : Array Oper} {o : Oper} {r : List Oper} {v : V} {out : Out}
theorem evSeq_val (hw : wants ops o t.get = some true) (hs : step o t.get H = .val v H') (hf : t.fits o.dst = true) (h : evSeq step ops r (t.put o.dst v) H' = out) : evSeq step ops (o :: r) t H = out := by
  simp only [evSeq, hw, hs, opened_eq, putK_eq, hf, if_true]
  exact h
theorem evSeq_off (hw : wants ops o t.get = some false) (hf : t.fits o.dst = true) (h : evSeq step ops r (t.put o.dst .un) H = out) : evSeq step ops (o :: r) t H = out := by
  simp only [evSeq, hw, putK_eq, hf, if_true]
  exact h
theorem evSeq_nil : evSeq step ops [] t H = .norm t H := rfl
end
end Go.Ev
namespace Go.Ev
open Go
theorem evSeq_go {step : Oper → Env → Heap → OR} {ops : Array Oper} {o : Oper} {r : List Oper} {v : V} {out : Out} {t : Tm} {H H' : Heap} {x : OR} (hw : wants ops o t.get = some true) (hs : step o t.get H = x) (hx : x = .val v H') (hf : t.fits o.dst = true) (h : evSeq step ops r (t.put o.dst v) H' = out) : evSeq step ops (o :: r) t H = out :=
  evSeq_val hw (hs.trans hx) hf h
end Go.Ev
namespace Go.Ev
open Go
theorem wrap_i64 {n : Int} (h1 : -9223372036854775808 ≤ n) (h2 : n < 9223372036854775808) : IntKind.i64.wrap n = n := by
  have e : (2 : Int) ^ IntKind.i64.bits = 18446744073709551616 := rfl
  have e2 : (2 : Int) ^ (IntKind.i64.bits - 1) = 9223372036854775808 := rfl
  simp only [IntKind.wrap, e, e2, IntKind.signed, Bool.true_and, decide_eq_true_eq]
  split <;> omega
end Go.Ev
namespace Go.Ev
open Go Go.Proofs
set_option linter.unusedSimpArgs false
set_option linter.unusedVariables false
open Go
section
variable {T : Tab} {step : Oper → Env → Heap → OR} {ops : Array Oper} {H : Heap}
inductive QR (step : Oper → Env → Heap → OR) (ops : Array Oper) (H : Heap) : List Oper → Tm → Tm → Prop
  | nil {t : Tm} : QR step ops H [] t t
  | val {o : Oper} {r : List Oper} {t t' : Tm} {x : OR} {v : V} (hw : wants ops o t.get = some true) (hs : step o t.get H = x) (hx : x = .val v H) (hf : t.fits o.dst = true) (h : QR step ops H r (t.put o.dst v) t') : QR step ops H (o :: r) t t'
  | off {o : Oper} {r : List Oper} {t t' : Tm} (hw : wants ops o t.get = some false) (hf : t.fits o.dst = true) (h : QR step ops H r (t.put o.dst .un) t') : QR step ops H (o :: r) t t'
theorem effs_none : ∀ (rs : List Rec) (k : Nat), (∀ r ∈ rs, r.e = false) → effsFrom rs k = []
  | [], _, _ => rfl
  | r :: rs, k, h => by simp [effsFrom, h r (by simp), effs_none rs (k + 1) fun q hq => h q (by simp [hq])]
theorem QR.run : ∀ {l : List Oper} {t t' : Tm}, QR step ops H l t t' → ∃ rs, drawRun step ops l t H = some (rs, [H], t') ∧ ∀ r ∈ rs, r.e = false
  | _, _, _, .nil => ⟨[], rfl, by simp⟩
  | _, _, _, .val (o := o) (r := l) (t := t) (v := v) hw hs hx hf h => by
    obtain ⟨rs, h1, h2⟩ := QR.run h
    subst hx
    refine ⟨⟨o, t.get, v, true, false⟩ :: rs, ?_, by simpa using h2⟩
    simp only [drawRun, hw, hs, opened_eq, putK_eq, hf, if_true, h1, Heap.beq_refl, Bool.not_true, Bool.and_false, Bool.false_eq_true, if_false]
  | _, _, _, .off (o := o) (r := l) (t := t) hw hf h => by
    obtain ⟨rs, h1, h2⟩ := QR.run h
    refine ⟨⟨o, t.get, .un, false, false⟩ :: rs, ?_, by simpa using h2⟩
    simp only [drawRun, hw, putK_eq, hf, if_true, h1]
theorem QR.draw {t t' : Tm} (h : QR step ops H ops.toList t t') (hs : drawStat ops.toList ops (masks ops.toList []) = true) : evDraw step ops t H = .norm t' H := by
  obtain ⟨rs, h1, h2⟩ := h.run
  have h3 : (effs rs).isEmpty = true := by rw [effs, effs_none rs 0 h2]; rfl
  simp only [evDraw, h1, hs, h3, Bool.true_or, Bool.and_true, if_true, List.getLast?_singleton]
theorem evReg_quiet {call : CallF} {t t' : Tm} {out : Out} (hs : drawStat ops.toList ops (masks ops.toList []) = true) (h : QR (evOp T call) ops H ops.toList t t') (ho : Out.norm t' H = out) : evReg T call ops true t H = out := by
  rw [← ho]
  exact h.draw hs
end
open Go
noncomputable def sub : List Bool → Code → Code
  | false :: p, .seq a _ => sub p a
  | true :: p, .seq _ b => sub p b
  | false :: p, .cond _ a _ => sub p a
  | true :: p, .cond _ _ b => sub p b
  | _ :: p, .block _ c => sub p c
  | _ :: p, .loop c => sub p c
  | _, c => c
noncomputable def bodyOf (fn : Func) : Code := fn.body.getD .skip
section
variable {P : Program} {T : Tab} {t : Tm} {H : Heap} {Q : Out → Prop} {c y : Code} {id j : Nat} {v : V}
def inSeq (P : Program) (T : Tab) (y : Code) (Q : Out → Prop) : Out → Prop
  | .norm t H => Tri P T y t H Q
  | o => Q o
def inBlk (id : Nat) (Q : Out → Prop) : Out → Prop
  | .exit j t H => if j = id then Q (.norm t H) else Q (.exit j t H)
  | o => Q o
def inLoop (P : Program) (T : Tab) (c : Code) (Q : Out → Prop) : Out → Prop
  | .norm t H => LTri P T c t H Q
  | o => Q o
theorem Tri.seq' {x : Code} (h : Tri P T x t H (inSeq P T y Q)) : Tri P T (.seq x y) t H Q := Tri.seq (h.mono fun o ho => by cases o <;> exact ho)
theorem Tri.block' {x : Code} (h : Tri P T x t H (inBlk id Q)) : Tri P T (.block id x) t H Q := Tri.block (h.mono fun o ho => by cases o <;> exact ho)
theorem LTri.round' (h : Tri P T c t H (inLoop P T c Q)) : LTri P T c t H Q := LTri.round (h.mono fun o ho => by cases o <;> exact ho)
theorem inSeq_norm (h : Tri P T y t H Q) : inSeq P T y Q (.norm t H) := h
theorem inSeq_exit (h : Q (.exit j t H)) : inSeq P T y Q (.exit j t H) := h
theorem inSeq_ret (h : Q (.ret t H)) : inSeq P T y Q (.ret t H) := h
theorem inBlk_norm (h : Q (.norm t H)) : inBlk id Q (.norm t H) := h
theorem inBlk_exit (h : Q (.norm t H)) : inBlk id Q (.exit id t H) := by simpa only [inBlk, if_true] using h
theorem inBlk_pass (hj : (j == id) = false) (h : Q (.exit j t H)) : inBlk id Q (.exit j t H) := by
  have : ¬ j = id := by simpa using hj
  simpa only [inBlk, if_neg this] using h
theorem inBlk_ret (h : Q (.ret t H)) : inBlk id Q (.ret t H) := h
theorem inLoop_norm (h : LTri P T c t H Q) : inLoop P T c Q (.norm t H) := h
theorem inLoop_exit (h : Q (.exit j t H)) : inLoop P T c Q (.exit j t H) := h
theorem inLoop_ret (h : Q (.ret t H)) : inLoop P T c Q (.ret t H) := h
theorem Tri.regN (hT : TOk P T) {call : CallF} (hC : call.Sound P T) {ops : Array Oper} {d : Bool} {t' : Tm} {H' : Heap} (he : evReg T call ops d t H = .norm t' H') (h : Q (.norm t' H')) : Tri P T (.region id ops d) t H Q := Tri.reg hT hC he h
theorem Tri.condG {g : Operand} {x z : Code} {o : Option V} {b : Bool} (hg : ev1 t.get g = o) (ho : o = some (.b b)) (h1 : b = true → Tri P T x t H Q) (h2 : b = false → Tri P T z t H Q) : Tri P T (.cond g x z) t H Q := Tri.cond (hg.trans ho) h1 h2
theorem go_false {call : CallF} {ops : Array Oper} {out : Out} (h : evSeq (evOp T call) ops ops.toList t H = out) : evReg T call ops false t H = out := h
end
open Go
abbrev Spec := List V → Heap → OR
section
variable {P : Program} {T : Tab} {F : FuncId}
def SpecOK (P : Program) (T : Tab) (F : FuncId) (g : Spec) : Prop :=
  ∀ vs H r, g vs H = r → r ≠ .no → Go.Proofs.Enters P F ∧ ∀ (M : Mem) (ρ : Ren) (w : World) (args : List Value), SR T M ρ H w → relL M ρ vs args → CallOK P T F args.toArray M ρ w r
def CallF.none : CallF := fun _ _ _ => .no
def CallF.with (call : CallF) (F : FuncId) (g : Spec) : CallF := fun f vs H => if f = F then g vs H else call f vs H
theorem CallF.none_sound : CallF.none.Sound P T := fun _ _ _ _ h hr => absurd h.symm hr
theorem CallF.with_sound {call : CallF} (hc : call.Sound P T) {g : Spec} (hg : SpecOK P T F g) : (call.with F g).Sound P T := by
  intro f vs H r h hr
  simp only [CallF.with] at h
  by_cases e : f = F
  · rw [if_pos e] at h
    subst e
    exact hg vs H r h hr
  · rw [if_neg e] at h
    exact hc f vs H r h hr
theorem CallF.with_here (call : CallF) (F : FuncId) (g : Spec) (vs : List V) (H : Heap) : call.with F g F vs H = g vs H := by simp [CallF.with]
theorem CallF.with_other (call : CallF) {F f : FuncId} (g : Spec) (vs : List V) (H : Heap) (h : (f == F) = false) : call.with F g f vs H = call f vs H := by
  have : ¬ f = F := by simpa using h
  simp [CallF.with, this]
theorem spec_pure (hT : TOk P T) (hp : T.Plain) (F : FuncId) (D : List V → Prop) (R : List V → Res → Prop)
    (h : ∀ vs, D vs → nlL vs = true ∧ (∀ r, R vs r → r.nl = true) ∧ EBody P T F vs (R vs)) : ∃ g, SpecOK P T F g ∧ ∀ vs, D vs → ∃ r, R vs r ∧ ∀ H, g vs H = r.at H := by
  classical
  have hx : ∀ vs, D vs → ∃ r, R vs r ∧ Body P T F vs r := fun vs hd => (h vs hd).2.2.out
  refine ⟨fun vs H => if hd : D vs then (hx vs hd).choose.at H else .no, ?_, ?_⟩
  · intro vs H r hr hne
    simp only at hr
    split at hr
    · rename_i hd
      obtain ⟨h1, h2⟩ := (hx vs hd).choose_spec
      obtain ⟨h3, h4⟩ := con_of_body hT hp h2 (h vs hd).1 ((h vs hd).2.1 _ h1)
      subst hr
      exact ⟨h3, h4 H⟩
    · exact absurd hr.symm hne
  · intro vs hd
    exact ⟨_, (hx vs hd).choose_spec.1, fun H => dif_pos hd⟩
theorem spec_rec (hT : TOk P T) (hp : T.Plain) (F : FuncId) (D : Nat → List V → Prop) (R : List V → Res → Prop)
    (h : ∀ k vs, D k vs → nlL vs = true ∧ (∀ r, R vs r → r.nl = true) ∧ ∀ g, SpecOK P T F g → (∀ j, j < k → ∀ us, D j us → ∃ r, R us r ∧ ∀ H, g us H = r.at H) → EBody P T F vs (R vs)) (K : Nat) :
    ∃ g, SpecOK P T F g ∧ ∀ j, j < K → ∀ vs, D j vs → ∃ r, R vs r ∧ ∀ H, g vs H = r.at H := by
  classical
  induction K with
  | zero => exact ⟨fun _ _ => .no, fun _ _ _ e hr => absurd e.symm hr, fun j hj => absurd hj (Nat.not_lt_zero j)⟩
  | succ K ih =>
    obtain ⟨g, hg, hgs⟩ := ih
    have hx : ∀ vs, D K vs → ∃ r, R vs r ∧ Body P T F vs r := fun vs hd => ((h K vs hd).2.2 g hg hgs).out
    refine ⟨fun vs H => if hd : D K vs then (hx vs hd).choose.at H else g vs H, ?_, ?_⟩
    · intro vs H r hr hne
      simp only at hr
      split at hr
      · rename_i hd
        obtain ⟨h1, h2⟩ := (hx vs hd).choose_spec
        obtain ⟨h3, h4⟩ := con_of_body hT hp h2 (h K vs hd).1 ((h K vs hd).2.1 _ h1)
        subst hr
        exact ⟨h3, h4 H⟩
      · exact hg vs H r hr hne
    · intro j hj vs hd
      by_cases hk : D K vs
      · exact ⟨_, (hx vs hk).choose_spec.1, fun H => dif_pos hk⟩
      · have : j < K := by
          rcases Nat.lt_succ_iff_lt_or_eq.1 hj with h1 | h1
          · exact h1
          · subst h1; exact absurd hd hk
        obtain ⟨r, h1, h2⟩ := hgs j this vs hd
        exact ⟨r, h1, fun H => (dif_neg hk).trans (h2 H)⟩
theorem spec_heap (hT : TOk P T) (F : FuncId) (D : Nat → List V → Heap → Prop) (R : List V → Heap → V → Heap → Prop)
    (h : ∀ k vs H, D k vs H → ∀ g, SpecOK P T F g → (∀ j, j < k → ∀ us J, D j us J → ∃ v J', R us J v J' ∧ g us J = .val v J') → HBody P T F vs H (R vs H)) (K : Nat) :
    ∃ g, SpecOK P T F g ∧ ∀ j, j < K → ∀ vs H, D j vs H → ∃ v H', R vs H v H' ∧ g vs H = .val v H' := by
  classical
  induction K with
  | zero => exact ⟨fun _ _ => .no, fun _ _ _ e hr => absurd e.symm hr, fun j hj => absurd hj (Nat.not_lt_zero j)⟩
  | succ K ih =>
    obtain ⟨g, hg, hgs⟩ := ih
    have hx : ∀ vs H, D K vs H → ∃ p : V × Heap, R vs H p.1 p.2 ∧ Go.Proofs.Enters P F ∧ ∀ (M : Mem) (ρ : Ren) (w : World) (args : List Value), SR T M ρ H w → relL M ρ vs args → CallOK P T F args.toArray M ρ w (.val p.1 p.2) := fun vs H hd => by
      obtain ⟨v, H', h1, h2⟩ := hbody_fact hT (h K vs H hd g hg hgs)
      exact ⟨(v, H'), h1, h2⟩
    refine ⟨fun vs H => if hd : D K vs H then .val (hx vs H hd).choose.1 (hx vs H hd).choose.2 else g vs H, ?_, ?_⟩
    · intro vs H r hr hne
      simp only at hr
      split at hr
      · rename_i hd
        obtain ⟨_, h2⟩ := (hx vs H hd).choose_spec
        subst hr
        exact h2
      · exact hg vs H r hr hne
    · intro j hj vs H hd
      by_cases hk : D K vs H
      · exact ⟨_, _, (hx vs H hk).choose_spec.1, dif_pos hk⟩
      · have : j < K := by
          rcases Nat.lt_succ_iff_lt_or_eq.1 hj with h1 | h1
          · exact h1
          · subst h1; exact absurd hd hk
        obtain ⟨v, H', h1, h2⟩ := hgs j this vs H hd
        exact ⟨v, H', h1, (dif_neg hk).trans h2⟩
end
end Go.Ev
namespace Go.Ev
open Go
def rowsOf (sz : Nat) : Nat → List V → Option (List V)
  | 0, _ => some []
  | k + 1, l => if l.length < sz ∨ sz = 0 then none else
    match rowsOf sz k (l.drop sz) with
    | some r => some ((match sz, l with
      | 1, v :: _ => if V.isAgg v then .agg [v] else v
      | _, _ => .agg (l.take sz)) :: r)
    | none => none
mutual
/-- A value whose blocks are frozen. -/
def fz (H : Heap) : Nat → V → Option V
  | 0, _ => none
  | n + 1, v => match v with
    | .ptr b off => match cellsAt H b with
      | some blk => match fzL H n blk.cells with
        | some l => some (.ipt l.length [.agg l] 0 off)
        | none => none
      | none => none
    | .sl b sz off len _ => match cellsAt H b with
      | some blk => match cut blk.cells (off * sz) (len * sz) with
        | some c => match fzL H n c with
          | some l => (rowsOf sz len l).map (.isl sz ·)
          | none => none
        | none => none
      | none => none
    | .mp _ => none
    | .agg l => (fzL H n l).map .agg
    | .tup l => (fzL H n l).map .tup
    | .fn g l => (fzL H n l).map (.fn g ·)
    | .ifc t v => (fz H n v).map (.ifc t ·)
    | .isl .. => if nl v then some v else none
    | .ipt .. => if nl v then some v else none
    | v => some v
def fzL (H : Heap) : Nat → List V → Option (List V)
  | _, [] => some []
  | 0, _ => none
  | n + 1, v :: l => match fz H n v, fzL H n l with
    | some x, some r => some (x :: r)
    | _, _ => none
end
end Go.Ev
namespace Go.Ev
open Go
section
variable {T : Tab} {M : Mem} {ρ : Ren} {H : Heap} {w : World}
open Classical in
noncomputable def frz (M : Mem) (ρ : Ren) (H : Heap) (w : World) : Mem := fun b => match M b with
  | some o => some o
  | none => if ∃ (n : Nat) (blk : Blk) (c : Nat), H[n]? = some (some blk) ∧ ρ[n]? = some (b, c) then w.heap[b]? else none
theorem le_frozen : M.le (frz M ρ H w) := fun b o h => by simp [frz, h]
theorem frozen_at {n : Nat} {blk : Blk} {b c : Nat} (hM : M b = none) (h : H[n]? = some (some blk)) (hr : ρ[n]? = some (b, c)) : frz M ρ H w b = w.heap[b]? := by
  simp only [frz, hM]
  rw [if_pos ⟨n, blk, c, h, hr⟩]
theorem rowsOf_length : ∀ {sz k : Nat} {l r : List V}, rowsOf sz k l = some r → r.length = k
  | sz, 0, l, r, h => by simp [rowsOf] at h; subst h; rfl
  | sz, k + 1, l, r, h => by
    simp only [rowsOf] at h
    split at h
    · cases h
    · split at h
      · rename_i r' hr
        cases h
        simp [rowsOf_length hr]
      · cases h
theorem rowsOf_rel : ∀ {sz k : Nat} {l r : List V} {ds : List Value} {b o : Nat}, rowsOf sz k l = some r → relL M ρ l ds → (∀ j c, ds[j]? = some c → M.cell b (o + j) = some c) → relRow M ρ sz r b o
  | sz, 0, l, r, ds, b, o, h, _, _ => by simp [rowsOf] at h; subst h; simp [relRow]
  | sz, k + 1, l, r, ds, b, o, h, hl, hm => by
    simp only [rowsOf] at h
    split at h
    · cases h
    rename_i hsz
    split at h
    case h_2 => cases h
    rename_i r' hr
    cases h
    simp only [relRow]
    refine ⟨?_, rowsOf_rel hr (relL_drop sz hl) fun j c hj => ?_⟩
    · have hlen := relL_length hl
      have big : ∃ x : Value, rel M ρ (.agg (l.take sz)) x ∧ x.cells.size = sz ∧ ∀ j c, x.cells[j]? = some c → M.cell b (o + j) = some c := by
        refine ⟨.agg (ds.take sz).toArray, by simp only [rel]; exact ⟨_, rfl, relL_take sz hl⟩, by simp [Value.cells]; omega, fun j c hj => hm j c ?_⟩
        simp only [Value.cells, List.getElem?_toArray, List.getElem?_take] at hj
        split at hj
        · exact hj
        · cases hj
      split
      · rename_i v l'
        simp only [relL] at hl
        obtain ⟨x, r2, rfl, hx, _⟩ := hl
        split
        · simpa using big
        · rename_i hna
          refine ⟨x, hx, ?_, fun j c hj => ?_⟩
          · have := relL_length (rel_cells hx)
            cases v <;> simp_all [V.cells, V.isAgg]
          · have h1 := rel_cells hx
            have hc : x.cells.toList = [x] := by
              cases v <;> simp only [rel] at hx <;> first
                | (simp [V.isAgg] at hna; done)
                | (subst hx; rfl)
                | (obtain ⟨_, rfl, _⟩ := hx; rfl)
                | (obtain ⟨_, _, _, rfl⟩ := hx; rfl)
                | (obtain ⟨_, _, _, _, rfl, _⟩ := hx; rfl)
                | (obtain ⟨_, _, rfl⟩ := hx; rfl)
                | (obtain ⟨_, _, rfl, _⟩ := hx; rfl)
            have : x.cells = #[x] := by apply Array.ext'; simpa using hc
            rw [this] at hj
            cases j with
            | zero => simp at hj; subst hj; exact hm 0 _ rfl
            | succ j => simp at hj
      · exact big
    · rw [List.getElem?_drop] at hj
      have := hm (sz + j) c hj
      rwa [← Nat.add_assoc] at this
end
end Go.Ev
namespace Go.Ev
open Go
section
variable {T : Tab} {M : Mem} {ρ : Ren} {H : Heap} {w : World}
theorem rowsOf_nl : ∀ {sz k : Nat} {l r : List V}, rowsOf sz k l = some r → nlL l = true → nlL r = true
  | sz, 0, l, r, h, _ => by simp [rowsOf] at h; subst h; rfl
  | sz, k + 1, l, r, h, hn => by
    have hd : ∀ (n : Nat) (l : List V), nlL l = true → nlL (l.drop n) = true := by
      intro n
      induction n with
      | zero => intro l h; simpa using h
      | succ n ih => intro l h; cases l with
        | nil => simpa using h
        | cons v l => simp only [nlL, Bool.and_eq_true] at h; simpa using ih l h.2
    have ht : ∀ (l : List V) (n : Nat), nlL l = true → nlL (l.take n) = true := by
      intro l
      induction l with
      | nil => intro n h; simpa using h
      | cons v l ih => intro n h; cases n with
        | zero => rfl
        | succ n => simp only [nlL, Bool.and_eq_true] at h; simp [nlL, h.1, ih n h.2]
    simp only [rowsOf] at h
    split at h
    · cases h
    split at h
    case h_2 => cases h
    rename_i r' hr
    cases h
    simp only [nlL, Bool.and_eq_true]
    refine ⟨?_, rowsOf_nl hr (hd sz l hn)⟩
    split
    · rename_i v l'
      simp only [nlL, Bool.and_eq_true] at hn
      split
      · simp [nl, nlL, hn.1]
      · exact hn.1
    · simpa [nl] using ht l sz hn
mutual
theorem fz_rel (hS : SR T M ρ H w) : ∀ (n : Nat) (v v' : V) (x : Value), fz H n v = some v' → rel M ρ v x → rel (frz M ρ H w) ρ v' x ∧ nl v' = true
  | 0, _, _, _, h, _ => by simp [fz] at h
  | n + 1, v, v', x, h, hr => by
    have keep : nl v = true → some v = some v' → rel (frz M ρ H w) ρ v' x ∧ nl v' = true := fun hn e => by
      cases e
      exact ⟨rel_mono le_frozen (List.prefix_refl _) _ _ hr, hn⟩
    simp only [fz] at h
    split at h
    · rename_i b off
      split at h
      case h_2 => cases h
      rename_i blk hb
      split at h
      case h_2 => cases h
      rename_i l hl
      cases h
      simp only [rel] at hr
      obtain ⟨b', c, h1, rfl⟩ := hr
      obtain ⟨b2, c2, cs, cs', h2, hM, hlen, hheap, hrel, _⟩ := hS.cells hb
      rw [h1] at h2
      cases h2
      obtain ⟨h3, h4⟩ := fzL_rel hS n _ _ _ hl hrel
      refine ⟨?_, by simp [nl, nlL, h4]⟩
      simp only [rel]
      refine ⟨b', 0, by simp, ?_⟩
      simp only [relRow, and_true]
      refine ⟨.agg cs.toArray, by simp only [rel]; exact ⟨cs, rfl, h3⟩, by simp [Value.cells, relL_length h3], fun j q hj => ?_⟩
      simp only [Mem.cell, frozen_at hM (cellsAt_some hb).1 h1, hheap]
      simp only [Value.cells, List.getElem?_toArray] at hj
      rw [List.getElem?_toArray, Nat.zero_add, List.getElem?_append_left (List.getElem?_eq_some_iff.1 hj).1]
      exact hj
    · rename_i b sz off len cap
      split at h
      case h_2 => cases h
      rename_i blk hb
      split at h
      case h_2 => cases h
      rename_i c hc
      split at h
      case h_2 => cases h
      rename_i l hl
      cases hro : rowsOf sz len l with
      | none => rw [hro] at h; cases h
      | some r =>
        rw [hro] at h
        cases h
        simp only [rel] at hr
        obtain ⟨b', c', k, h1, rfl, hk, _, _⟩ := hr
        obtain ⟨b2, c2, cs, cs', h2, hM, hlen, hheap, hrel, _⟩ := hS.cells hb
        rw [h1] at h2
        cases h2
        obtain ⟨rfl, hfit⟩ := cut_some hc
        have hcut := relL_take (len * sz) (relL_drop (off * sz) hrel)
        obtain ⟨h3, h4⟩ := fzL_rel hS n _ _ _ hl hcut
        refine ⟨?_, by simpa [nl] using rowsOf_nl hro h4⟩
        simp only [rel]
        have hrl := rowsOf_length hro
        refine ⟨_, k, by rw [hrl], by omega, fun _ => ⟨b', off * sz, rfl, rowsOf_rel hro h3 fun j q hj => ?_⟩⟩
        simp only [Mem.cell, frozen_at hM (cellsAt_some hb).1 h1, hheap]
        rw [List.getElem?_take] at hj
        split at hj
        · rw [List.getElem?_drop] at hj
          rw [List.getElem?_toArray, List.getElem?_append_left (List.getElem?_eq_some_iff.1 hj).1]
          exact hj
        · cases hj
    · cases h
    · rename_i l
      cases hl : fzL H n l with
      | none => rw [hl] at h; cases h
      | some l' =>
        rw [hl] at h
        cases h
        simp only [rel] at hr ⊢
        obtain ⟨cs, e, k⟩ := hr
        obtain ⟨h3, h4⟩ := fzL_rel hS n _ _ _ hl k
        exact ⟨⟨cs, e, h3⟩, by simpa [nl] using h4⟩
    · rename_i l
      cases hl : fzL H n l with
      | none => rw [hl] at h; cases h
      | some l' =>
        rw [hl] at h
        cases h
        simp only [rel] at hr ⊢
        obtain ⟨cs, e, k⟩ := hr
        obtain ⟨h3, h4⟩ := fzL_rel hS n _ _ _ hl k
        exact ⟨⟨cs, e, h3⟩, by simpa [nl] using h4⟩
    · rename_i g l
      cases hl : fzL H n l with
      | none => rw [hl] at h; cases h
      | some l' =>
        rw [hl] at h
        cases h
        simp only [rel] at hr ⊢
        obtain ⟨cs, e, k⟩ := hr
        obtain ⟨h3, h4⟩ := fzL_rel hS n _ _ _ hl k
        exact ⟨⟨cs, e, h3⟩, by simpa [nl] using h4⟩
    · rename_i t u
      cases hl : fz H n u with
      | none => rw [hl] at h; cases h
      | some u' =>
        rw [hl] at h
        cases h
        simp only [rel] at hr ⊢
        obtain ⟨y, e, k⟩ := hr
        obtain ⟨h3, h4⟩ := fz_rel hS n _ _ _ hl k
        exact ⟨⟨y, e, h3⟩, by simpa [nl] using h4⟩
    · split at h
      · rename_i hn; exact keep hn h
      · cases h
    · split at h
      · rename_i hn; exact keep hn h
      · cases h
    · rename_i h1 h2 h3 h4 h5 h6 h7 h8 h9
      refine keep ?_ h
      cases v <;> first
        | rfl
        | (exfalso; first | exact h1 _ _ rfl | exact h2 _ _ _ _ _ rfl | exact h3 _ rfl | exact h4 _ rfl | exact h5 _ rfl | exact h6 _ _ rfl | exact h7 _ _ rfl | exact h8 _ _ rfl | exact h9 _ _ _ _ rfl)
theorem fzL_rel (hS : SR T M ρ H w) : ∀ (n : Nat) (l l' : List V) (cs : List Value), fzL H n l = some l' → relL M ρ l cs → relL (frz M ρ H w) ρ l' cs ∧ nlL l' = true
  | n, [], l', cs, h, hr => by
    have : l' = [] := by cases n <;> simp [fzL] at h <;> exact h
    subst this
    exact ⟨by simpa [relL] using hr, rfl⟩
  | 0, _ :: _, _, _, h, _ => by simp [fzL] at h
  | n + 1, v :: l, l', cs, h, hr => by
    simp only [fzL] at h
    split at h
    · rename_i u r hu hrr
      cases h
      simp only [relL] at hr
      obtain ⟨x, q, rfl, hx, hq⟩ := hr
      obtain ⟨h1, h2⟩ := fz_rel hS n _ _ _ hu hx
      obtain ⟨h3, h4⟩ := fzL_rel hS n _ _ _ hrr hq
      exact ⟨relL_cons h1 h3, by simp [nlL, h2, h4]⟩
    · cases h
end
theorem SR.freeze (hp : T.Plain) (hS : SR T M ρ H w) : SR T (frz M ρ H w) [] [] w where
  frozen b o hb := by
    cases hM : M b with
    | some q => simp [frz, hM] at hb; subst hb; exact hS.frozen b _ hM
    | none =>
      simp only [frz, hM] at hb
      split at hb
      · exact hb
      · cases hb
  len := rfl
  blk n b hn := by simp at hn
  inj n m x y b c c' hn := by simp at hn
  glob g l hl := by
    obtain ⟨cs, ty, fr, hM, hr⟩ := hS.glob g l hl
    exact ⟨cs, ty, fr, le_frozen _ _ hM, nlL_rel l cs (hp g l hl) (relL_mono le_frozen (List.prefix_refl _) _ _ hr)⟩
end
end Go.Ev
namespace Go.Ev
open Go
section
variable {P : Program} {T : Tab} {M : Mem} {ρ : Ren} {H : Heap} {w : World}
theorem CallOK.frame_fz {f : FuncId} {args : Array Value} {v v' : V} {J : Heap} {k : Nat} (hp : T.Plain) (hS : SR T M ρ H w) (h : CallOK P T f args M [] w (.val v J)) (hf : fz J k v = some v') : CallOK P T f args M ρ w (.val v' H) := by
  refine Calls.mono h ?_
  rintro e w' ⟨x, M', σ, rfl, he, hx, hk⟩
  obtain ⟨h1, h2⟩ := fz_rel hk k v v' x hf hx
  have hk2 := hk.freeze hp
  have he2 : Ext M [] w (frz M' σ J w') [] w' := {
    os := he.os, tape := he.tape, output := he.output, size := he.size
    mem := he.mem.trans le_frozen
    pre := List.prefix_refl _
    frame := he.frame
    newM := fun b hb hn => by
      have h3 := he.newM b hb hn
      simp only [frz]
      cases hM : M' b with
      | some o => rw [← h3, hM]
      | none =>
        rw [← h3, hM]
        simp only
        rw [if_neg]
        rintro ⟨n, blk, c, _, hr⟩
        rcases he.newR b c (List.mem_of_getElem? hr) with ⟨c', h'⟩ | h'
        · simp at h'
        · omega
    newR := fun b c hc => by simp at hc }
  exact ⟨x, _, ρ, rfl, he2.recall, nl_rel v' x h2 h1, hS.recall hk2 he2⟩
theorem con_of_ev_fz (hT : TOk P T) (hp : T.Plain) {C : Con} (hC : C.Sound P T) {f : FuncId} {vs : List V} {v v' : V} {J : Heap} {n k : Nat} (h : evFun T (gamOf C) n f vs [] = .val v J) (hf : fz J k v = some v') (h1 : nlL vs = true) :
    Go.Proofs.Enters P f ∧ ∀ (H : Heap) (M : Mem) (ρ : Ren) (w : World) (args : List Value), SR T M ρ H w → relL M ρ vs args → CallOK P T f args.toArray M ρ w (.val v' H) := by
  obtain ⟨he, hok⟩ := evFun_ok hT hC n f vs [] _ h (by simp)
  exact ⟨he, fun H M ρ w args hS hr => CallOK.frame_fz hp hS (hok M [] w args (hS.forget hp) (nlL_rel vs args h1 hr)) hf⟩
end
end Go.Ev
namespace Go.Ev
open Go
section
variable {P : Program} {T : Tab} {M : Mem} {ρ : Ren} {H : Heap} {w : World}
theorem Ext.frz : Ext M ρ w (frz M ρ H w) ρ w where
  os := rfl
  tape := rfl
  output := rfl
  size := Nat.le_refl _
  mem := le_frozen
  pre := List.prefix_refl _
  frame _ _ _ := rfl
  newM b _ hn := by
    simp only [Ev.frz]
    cases hM : M b with
    | some o => rfl
    | none =>
      simp only
      rw [if_neg]
      rintro ⟨n, blk, c, _, hr⟩
      exact hn c (List.mem_of_getElem? hr)
  newR b c h := .inl ⟨c, h⟩
theorem SR.frz (hS : SR T M ρ H w) : SR T (frz M ρ H w) ρ (H.map fun _ => none) w where
  frozen b o hb := by
    cases hM : M b with
    | some q => simp [Ev.frz, hM] at hb; subst hb; exact hS.frozen b _ hM
    | none =>
      simp only [Ev.frz, hM] at hb
      split at hb
      · exact hb
      · cases hb
  len := by rw [List.length_map]; exact hS.len
  blk n b hn := by
    rw [List.getElem?_map] at hn
    cases hh : H[n]? <;> rw [hh] at hn <;> cases hn
  inj n m x y b c c' hn := by
    rw [List.getElem?_map] at hn
    cases hh : H[n]? <;> rw [hh] at hn <;> cases hn
  glob g l hl := by
    obtain ⟨cs, ty, fr, hM, hr⟩ := hS.glob g l hl
    exact ⟨cs, ty, fr, le_frozen _ _ hM, relL_mono le_frozen (List.prefix_refl _) _ _ hr⟩
theorem Tri.freeze {c : Code} {t t2 : Tm} {Q : Out → Prop} (hw : t2.wid = t.wid) (ht : ∀ k, t2.get k = t.get k ∨ ∃ n, fz H n (t.get k) = some (t2.get k)) (h : Tri P T c t2 (H.map fun _ => none) Q) : Tri P T c t H Q := by
  obtain ⟨o, ho, h⟩ := h
  refine ⟨o, ho, fun a w M ρ R hS hr k => ?_⟩
  refine h a w (Ev.frz M ρ H w) ρ R hS.frz ⟨hw.trans hr.1, fun j => ?_⟩ (k.later Ext.frz)
  rcases ht j with e | ⟨n, e⟩
  · rw [e]; exact rel_mono le_frozen (List.prefix_refl _) _ _ (hr.2 j)
  · exact (fz_rel hS n _ _ _ e (hr.2 j)).1
theorem Tri.freeze_put {c : Code} {t : Tm} {Q : Out → Prop} (d n : Nat) {v : V} (hf : fz H n (t.get d) = some v) (h : Tri P T c (t.put (some d) v) (H.map fun _ => none) Q) : Tri P T c t H Q :=
  Tri.freeze (by simp) (fun k => by
    rw [get_put]
    by_cases e : k = d
    · subst e; rw [if_pos rfl]; exact .inr ⟨n, hf⟩
    · rw [if_neg e]; exact .inl rfl) h
theorem Tri.freeze_put2 {c : Code} {t : Tm} {Q : Out → Prop} (d e n : Nat) {v u : V} (hf : fz H n (t.get d) = some v) (hg : fz H n (t.get e) = some u) (h : Tri P T c ((t.put (some d) v).put (some e) u) (H.map fun _ => none) Q) : Tri P T c t H Q :=
  Tri.freeze (by simp) (fun k => by
    rw [get_put, get_put]
    by_cases e1 : k = e
    · subst e1; rw [if_pos rfl]; exact .inr ⟨n, hg⟩
    · rw [if_neg e1]
      by_cases e2 : k = d
      · subst e2; rw [if_pos rfl]; exact .inr ⟨n, hf⟩
      · rw [if_neg e2]; exact .inl rfl) h
end
end Go.Ev
