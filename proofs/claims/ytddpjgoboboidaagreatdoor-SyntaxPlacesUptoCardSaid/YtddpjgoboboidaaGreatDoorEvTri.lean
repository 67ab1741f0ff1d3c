/- Triples over regions: what holds ahead of a region and behind it, with one outcome for all worlds. -/
import Derived.Test.YtddpjgoboboidaaGreatDoorEvGam
namespace Go.Ev
open Go
section
variable {P : Program} {T : Tab}

/-- Code that comes, from temporaries and a heap, to this outcome. -/
def TriX (P : Program) (T : Tab) (c : Code) (t : Tm) (H : Heap) (o : Out) : Prop :=
  ∀ (a : Act) (w : World) (M : Mem) (ρ : Ren) (R : Exit → Act → World → Prop), SR T M ρ H w → relTm M ρ t a.tmps → OutOK T M ρ w R a.defers o → c.wp P R a w
/-- And a loop from its body on. -/
def LTriX (P : Program) (T : Tab) (c : Code) (t : Tm) (H : Heap) (o : Out) : Prop :=
  ∀ (a : Act) (w : World) (M : Mem) (ρ : Ren) (R : Exit → Act → World → Prop), SR T M ρ H w → relTm M ρ t a.tmps → OutOK T M ρ w R a.defers o → LoopWp P c R a w
/-- Code that comes, from temporaries and a heap, to one of some outcomes: the same in all worlds. -/
def Tri (P : Program) (T : Tab) (c : Code) (t : Tm) (H : Heap) (Q : Out → Prop) : Prop := ∃ o, Q o ∧ TriX P T c t H o
def LTri (P : Program) (T : Tab) (c : Code) (t : Tm) (H : Heap) (Q : Out → Prop) : Prop := ∃ o, Q o ∧ LTriX P T c t H o

variable {t : Tm} {H : Heap} {Q Q' : Out → Prop} {c : Code}
theorem Tri.mono (h : Tri P T c t H Q) (hq : ∀ o, Q o → Q' o) : Tri P T c t H Q' := h.imp fun o k => ⟨hq o k.1, k.2⟩
theorem LTri.mono (h : LTri P T c t H Q) (hq : ∀ o, Q o → Q' o) : LTri P T c t H Q' := h.imp fun o k => ⟨hq o k.1, k.2⟩
theorem Tri.skip (h : Q (.norm t H)) : Tri P T .skip t H Q := ⟨_, h, fun a w M ρ _ hS ht k => wp_skip (k a w M ρ (Ext.refl _ _ _) ht hS rfl)⟩
theorem Tri.label {l : Nat} (h : Q (.norm t H)) : Tri P T (.label l) t H Q := ⟨_, h, fun a w M ρ _ hS ht k => wp_label (k a w M ρ (Ext.refl _ _ _) ht hS rfl)⟩
theorem Tri.exit {id : Nat} (h : Q (.exit id t H)) : Tri P T (.exit id) t H Q := ⟨_, h, fun a w M ρ _ hS ht k => wp_exit (k a w M ρ (Ext.refl _ _ _) ht hS rfl)⟩
theorem Tri.ret (h : Q (.ret t H)) : Tri P T .ret t H Q := ⟨_, h, fun a w M ρ _ hS ht k => wp_ret (k a w M ρ (Ext.refl _ _ _) ht hS rfl)⟩
theorem Tri.reg (hT : TOk P T) {call : CallF} (hC : call.Sound P T) {id : Nat} {ops : Array Oper} {d : Bool} {o : Out} (he : evReg T call ops d t H = o) (h : Q o) : Tri P T (.region id ops d) t H Q := ⟨o, h, fun a w M ρ R hS ht k =>
  evReg_ok hT hC id ops d t H a w M ρ R hS ht (by rw [he]; exact k)⟩
theorem Tri.seq {x y : Code} (h : Tri P T x t H fun o => match o with | .norm t' H' => Tri P T y t' H' Q | o => Q o) : Tri P T (.seq x y) t H Q := by
  obtain ⟨o, ho, hx⟩ := h
  cases o with
  | norm t' H' =>
    obtain ⟨o2, h2, hy⟩ := ho
    refine ⟨o2, h2, fun a w M ρ R hS ht k => wp_seq (hx a w M ρ _ hS ht ?_)⟩
    intro a' w' M' ρ' he ht' hS' hd
    refine hy a' w' M' ρ' R hS' ht' ?_
    rw [hd]
    exact k.later he
  | exit id t' H' => exact ⟨_, ho, fun a w M ρ R hS ht k => wp_seq (hx a w M ρ _ hS ht k)⟩
  | ret t' H' => exact ⟨_, ho, fun a w M ρ R hS ht k => wp_seq (hx a w M ρ _ hS ht k)⟩
  | pan v t' H' => exact ⟨_, ho, fun a w M ρ R hS ht k => wp_seq (hx a w M ρ _ hS ht k)⟩
  | no => exact ⟨.no, ho, fun a w M ρ R hS ht k => k.elim⟩
theorem Tri.cond {g : Operand} {x y : Code} {b : Bool} (hg : ev1 t.get g = some (.b b)) (h1 : b = true → Tri P T x t H Q) (h2 : b = false → Tri P T y t H Q) : Tri P T (.cond g x y) t H Q := by
  cases b with
  | true =>
    obtain ⟨o, ho, hx⟩ := h1 rfl
    refine ⟨o, ho, fun a w M ρ R hS ht k => ?_⟩
    have := ev1_rel ht.2 hg
    simp only [rel] at this
    exact wp_cond_true this (hx a w M ρ R hS ht k)
  | false =>
    obtain ⟨o, ho, hx⟩ := h2 rfl
    refine ⟨o, ho, fun a w M ρ R hS ht k => ?_⟩
    have := ev1_rel ht.2 hg
    simp only [rel] at this
    exact wp_cond_false this (hx a w M ρ R hS ht k)
theorem Tri.block {id : Nat} {x : Code} (h : Tri P T x t H fun o => match o with | .exit j t' H' => if j = id then Q (.norm t' H') else Q (.exit j t' H') | o => Q o) : Tri P T (.block id x) t H Q := by
  obtain ⟨o, ho, hx⟩ := h
  cases o with
  | norm t' H' => exact ⟨_, ho, fun a w M ρ R hS ht k => wp_block (hx a w M ρ _ hS ht k)⟩
  | exit j t' H' =>
    simp only at ho
    by_cases e : j = id
    · rw [if_pos e] at ho
      refine ⟨_, ho, fun a w M ρ R hS ht k => wp_block (hx a w M ρ _ hS ht ?_)⟩
      intro a' w' M' ρ' he ht' hS' hd
      simp only [Exit.inBlock]
      rw [if_pos e]
      exact k a' w' M' ρ' he ht' hS' hd
    · rw [if_neg e] at ho
      refine ⟨_, ho, fun a w M ρ R hS ht k => wp_block (hx a w M ρ _ hS ht ?_)⟩
      intro a' w' M' ρ' he ht' hS' hd
      simp only [Exit.inBlock]
      rw [if_neg e]
      exact k a' w' M' ρ' he ht' hS' hd
  | ret t' H' => exact ⟨_, ho, fun a w M ρ R hS ht k => wp_block (hx a w M ρ _ hS ht k)⟩
  | pan v t' H' => exact ⟨_, ho, fun a w M ρ R hS ht k => wp_block (hx a w M ρ _ hS ht k)⟩
  | no => exact ⟨.no, ho, fun a w M ρ R hS ht k => k.elim⟩
theorem LTri.round (h : Tri P T c t H fun o => match o with | .norm t' H' => LTri P T c t' H' Q | o => Q o) : LTri P T c t H Q := by
  obtain ⟨o, ho, hx⟩ := h
  cases o with
  | norm t' H' =>
    obtain ⟨o2, h2, hy⟩ := ho
    refine ⟨o2, h2, fun a w M ρ R hS ht k => loopWp_round (hx a w M ρ _ hS ht ?_)⟩
    intro a' w' M' ρ' he ht' hS' hd
    refine hy a' w' M' ρ' R hS' ht' ?_
    rw [hd]
    exact k.later he
  | exit id t' H' => exact ⟨_, ho, fun a w M ρ R hS ht k => loopWp_round (hx a w M ρ _ hS ht k)⟩
  | ret t' H' => exact ⟨_, ho, fun a w M ρ R hS ht k => loopWp_round (hx a w M ρ _ hS ht k)⟩
  | pan v t' H' => exact ⟨_, ho, fun a w M ρ R hS ht k => loopWp_round (hx a w M ρ _ hS ht k)⟩
  | no => exact ⟨.no, ho, fun a w M ρ R hS ht k => k.elim⟩
theorem Tri.loop (h : LTri P T c t H Q) : Tri P T (.loop c) t H Q := h.imp fun _ k => ⟨k.1, fun a w M ρ R hS ht q => wp_of_loopWp (k.2 a w M ρ R hS ht q)⟩

/-- What a body's end comes to. -/
def Ends (T : Tab) (fn : Func) (r : Res) (o : Out) : Prop :=
  match o, r with
  | .norm t H, .val v => finish T fn t.get H = .val v H
  | .ret t H, .val v => finish T fn t.get H = .val v H
  | .pan v _ _, .pan u => v = u
  | _, _ => False
/-- The body of a function, from its arguments on an empty heap. -/
def Body (P : Program) (T : Tab) (F : FuncId) (vs : List V) (r : Res) : Prop :=
  ∃ fn c, T.func F = some fn ∧ fn.body = some c ∧ vs.length ≤ fn.ntmps ∧ Tri P T c (Tm.init fn.ntmps vs) [] (Ends T fn r)

theorem relTm_init {M : Mem} {ρ : Ren} {vs : List V} {args : List Value} (hargs : relL M ρ vs args) {n : Nat} (hle : vs.length ≤ n) : relTm M ρ (Tm.init n vs) (args.toArray ++ Array.replicate (n - args.toArray.size) undef) := by
  have hl := relL_length hargs
  refine ⟨by simp [Tm.init]; omega, fun k => ?_⟩
  simp only [Tm.init, Tm.get]
  rw [Tr.get_fill, if_pos (Nat.zero_le _), Nat.sub_zero]
  simp only [Tr.get_leaf, Array.getD_eq_getD_getElem?]
  by_cases hk : k < vs.length
  · rw [Array.getElem?_append_left (by simp; omega)]
    obtain ⟨x, hx, hxr⟩ := relL_get hargs (i := k) (v := vs[k]) (List.getElem?_eq_getElem hk)
    rw [List.getElem?_eq_getElem hk]
    simp only [List.getElem?_toArray, hx, Option.getD_some]
    exact hxr
  · rw [List.getElem?_eq_none (by omega)]
    have : ((args.toArray ++ Array.replicate (n - args.toArray.size) undef)[k]?).getD undef = undef := by
      rw [Array.getElem?_append_right (by simp; omega), Array.getElem?_replicate]
      split <;> rfl
    rw [this]
    exact rel_undef

theorem con_of_body (hT : TOk P T) (hp : T.Plain) {f : FuncId} {vs : List V} {r : Res} (h : Body P T f vs r) (h1 : nlL vs = true) (h2 : r.nl = true) :
    Go.Proofs.Enters P f ∧ ∀ (H : Heap) (M : Mem) (ρ : Ren) (w : World) (args : List Value), SR T M ρ H w → relL M ρ vs args → CallOK P T f args.toArray M ρ w (r.at H) := by
  obtain ⟨fn, c, hfn, hc, hle, o, ho, ht⟩ := h
  obtain ⟨hf, hent⟩ := hT.func f fn c hfn hc
  refine ⟨hent, fun H M ρ w args hS hr => ?_⟩
  have hr0 := nlL_rel (σ := []) vs args h1 hr
  have key : Calls P f args.toArray w fun e w' => ∃ M' σ J, SR T M' σ J w' ∧ Ext M [] w M' σ w' ∧ (match r with | .val v => ∃ x, e = .returned x ∧ rel M' σ v x | .pan v => ∃ x, e = .panicked [{ v := x, recovered := false }] ∧ rel M' σ v x) := by
    refine calls_of_wp hf hc (ht { tmps := args.toArray ++ Array.replicate (fn.ntmps - args.toArray.size) undef, defers := [] } w M [] _ (hS.forget hp) (relTm_init hr0 hle) ?_)
    cases o with
    | norm t' H' =>
      cases r with
      | pan v => exact ho.elim
      | val v =>
        intro a' w' M' ρ' he ht' hS' hd
        obtain ⟨_, x, hx, hxr⟩ := results_ok hT hS' ht'.2 ho
        exact ⟨hd, x, hx, M', ρ', H', hS', he, x, rfl, hxr⟩
    | ret t' H' =>
      cases r with
      | pan v => exact ho.elim
      | val v =>
        intro a' w' M' ρ' he ht' hS' hd
        obtain ⟨_, x, hx, hxr⟩ := results_ok hT hS' ht'.2 ho
        exact ⟨hd, x, hx, M', ρ', H', hS', he, x, rfl, hxr⟩
    | pan v t' H' =>
      cases r with
      | val v => exact ho.elim
      | pan u =>
        intro a' w' M' ρ' x he hx hS' hd
        cases ho
        exact ⟨hd, M', ρ', H', hS', he, x, rfl, hx⟩
    | exit id t' H' => cases r <;> exact ho.elim
    | no => cases r <;> exact ho.elim
  cases r with
  | val v =>
    refine Calls.mono key ?_
    rintro e w' ⟨M', σ, J, hk, he, x, rfl, hx⟩
    exact ⟨x, M', ρ, rfl, he.recall, nl_rel v x h2 hx, hS.recall hk he⟩
  | pan v =>
    refine Calls.mono key ?_
    rintro e w' ⟨M', σ, J, hk, he, x, rfl, hx⟩
    exact ⟨x, M', ρ, rfl, he.recall, nl_rel v x h2 hx, hS.recall hk he⟩

/-- One of some results. -/
def EBody (P : Program) (T : Tab) (F : FuncId) (vs : List V) (R : Res → Prop) : Prop :=
  ∃ fn c, T.func F = some fn ∧ fn.body = some c ∧ vs.length ≤ fn.ntmps ∧ Tri P T c (Tm.init fn.ntmps vs) [] fun o => ∃ r, R r ∧ Ends T fn r o
theorem EBody.out {F : FuncId} {vs : List V} {R : Res → Prop} (h : EBody P T F vs R) : ∃ r, R r ∧ Body P T F vs r := by
  obtain ⟨fn, c, h1, h2, h3, o, ⟨r, hr, he⟩, hx⟩ := h
  exact ⟨r, hr, fn, c, h1, h2, h3, o, he, hx⟩
theorem Body.ex {F : FuncId} {vs : List V} {r : Res} (h : Body P T F vs r) : EBody P T F vs (· = r) := by
  obtain ⟨fn, c, h1, h2, h3, o, he, hx⟩ := h
  exact ⟨fn, c, h1, h2, h3, o, ⟨r, rfl, he⟩, hx⟩
/-- From any heap: a value, and a heap. -/
def EndsH (T : Tab) (fn : Func) (R : V → Heap → Prop) : Out → Prop
  | .norm t H => ∃ v, R v H ∧ finish T fn t.get H = .val v H
  | .ret t H => ∃ v, R v H ∧ finish T fn t.get H = .val v H
  | _ => False
def HBody (P : Program) (T : Tab) (F : FuncId) (vs : List V) (H : Heap) (R : V → Heap → Prop) : Prop :=
  ∃ fn c, T.func F = some fn ∧ fn.body = some c ∧ vs.length ≤ fn.ntmps ∧ Tri P T c (Tm.init fn.ntmps vs) H (EndsH T fn R)
theorem hbody_fact (hT : TOk P T) {f : FuncId} {vs : List V} {H : Heap} {R : V → Heap → Prop} (h : HBody P T f vs H R) :
    ∃ v H', R v H' ∧ Go.Proofs.Enters P f ∧ ∀ (M : Mem) (ρ : Ren) (w : World) (args : List Value), SR T M ρ H w → relL M ρ vs args → CallOK P T f args.toArray M ρ w (.val v H') := by
  obtain ⟨fn, c, hfn, hc, hle, o, ho, ht⟩ := h
  obtain ⟨hf, hent⟩ := hT.func f fn c hfn hc
  cases o with
  | norm t' H' =>
    obtain ⟨v, hR, hv⟩ := ho
    refine ⟨v, H', hR, hent, fun M ρ w args hS hr => ?_⟩
    refine calls_of_wp hf hc (ht { tmps := args.toArray ++ Array.replicate (fn.ntmps - args.toArray.size) undef, defers := [] } w M ρ _ hS (relTm_init hr hle) ?_)
    intro a' w' M' ρ' he ht' hS' hd
    obtain ⟨_, x, hx, hxr⟩ := results_ok hT hS' ht'.2 hv
    exact ⟨hd, x, hx, x, M', ρ', rfl, he, hxr, hS'⟩
  | ret t' H' =>
    obtain ⟨v, hR, hv⟩ := ho
    refine ⟨v, H', hR, hent, fun M ρ w args hS hr => ?_⟩
    refine calls_of_wp hf hc (ht { tmps := args.toArray ++ Array.replicate (fn.ntmps - args.toArray.size) undef, defers := [] } w M ρ _ hS (relTm_init hr hle) ?_)
    intro a' w' M' ρ' he ht' hS' hd
    obtain ⟨_, x, hx, hxr⟩ := results_ok hT hS' ht'.2 hv
    exact ⟨hd, x, hx, x, M', ρ', rfl, he, hxr, hS'⟩
  | pan v t' H' => exact ho.elim
  | exit id t' H' => exact ho.elim
  | no => exact ho.elim
end
end Go.Ev
