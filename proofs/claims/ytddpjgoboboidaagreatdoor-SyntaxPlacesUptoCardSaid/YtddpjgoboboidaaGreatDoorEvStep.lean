/- One statement of a region, a whole region, a whole function does what the evaluator says. -/
import Derived.Test.YtddpjgoboboidaaGreatDoorEvUnsafe
namespace Go.Ev
open Go
section
variable {P : Program} {T : Tab} {M : Mem} {ρ : Ren} {w : World} {H : Heap}

/-- What a call comes to. -/
def CallOK (P : Program) (T : Tab) (f : FuncId) (args : Array Value) (M : Mem) (ρ : Ren) (w : World) : OR → Prop
  | .val v H' => Calls P f args w fun e w' => ∃ x M' ρ', e = .returned x ∧ Ext M ρ w M' ρ' w' ∧ rel M' ρ' v x ∧ SR T M' ρ' H' w'
  | .pan v H' => Calls P f args w fun e w' => ∃ x M' ρ', e = .panicked [{ v := x, recovered := false }] ∧ Ext M ρ w M' ρ' w' ∧ rel M' ρ' v x ∧ SR T M' ρ' H' w'
  | .no => True
/-- A function of calls that tells the truth. -/
def CallF.Sound (P : Program) (T : Tab) (call : CallF) : Prop :=
  ∀ f vs H r, call f vs H = r → r ≠ .no → Go.Proofs.Enters P f ∧ ∀ M ρ w args, SR T M ρ H w → relL M ρ vs args → CallOK P T f args.toArray M ρ w r

/-- What an operation comes to, as the machine carries it out. -/
def StepOK (P : Program) (T : Tab) (o : Oper) (a : Act) (M : Mem) (ρ : Ren) (w : World) (Q : Exit → Act → World → Prop) (K : Act → World → Prop) : OR → Prop
  | .val v H' => (∀ x M' ρ' w', Ext M ρ w M' ρ' w' → rel M' ρ' v x → SR T M' ρ' H' w' → K (a.put o.dst x) w') → o.wp P a w K Q
  | .pan v H' => (∀ x M' ρ' w', Ext M ρ w M' ρ' w' → rel M' ρ' v x → SR T M' ρ' H' w' → Q (.panic [{ v := x, recovered := false }]) a w') → o.wp P a w K Q
  | .no => True

variable {Q : Exit → Act → World → Prop} {K : Act → World → Prop} {o : Oper} {a : Act}

theorem step_of_ok {s : Sem Value} (hexec : execOp a.eval o = (do Pure.pure (.value (← s)))) {v : V} {H' : Heap} (h : OpOK P T s M ρ w v H') : StepOK P T o a M ρ w Q K (.val v H') := by
  intro hK
  obtain ⟨x, w', ρ', hr, he, hv, hS⟩ := h
  unfold Oper.wp
  rw [hexec]
  simp only [Sem.run_bind, hr, Result.andThen_ok, Sem.run_pure, Oper.upon]
  exact hK x M ρ' w' he hv hS
theorem step_of_pure {s : Sem Value} (hexec : execOp a.eval o = (do Pure.pure (.value (← s)))) (hS : SR T M ρ H w) {v : V} {x : Value} (hr : s.run P w = .ok x w) (hv : rel M ρ v x) : StepOK P T o a M ρ w Q K (.val v H) :=
  step_of_ok hexec (OpOK.pure hS hr hv)
theorem step_lift {s : Sem Value} (hexec : execOp a.eval o = (do Pure.pure (.value (← s)))) (hS : SR T M ρ H w) {r : Option V} (h : ∀ v, r = some v → ∃ x, s.run P w = .ok x w ∧ rel M ρ v x) : StepOK P T o a M ρ w Q K (lift r H) := by
  cases r with
  | none => trivial
  | some v =>
    obtain ⟨x, hx, hv⟩ := h v rfl
    exact step_of_pure hexec hS hx hv

theorem evCall_ok (hT : TOk P T) {call : CallF} (hcall : call.Sound P T) (hS : SR T M ρ H w) {t : Env} (ht : relT M ρ t a.tmps) {c : Call} (ho : o.op = .call c) {r : OR} (h : evCall T call c t H = r) : StepOK P T o a M ρ w Q K r := by
  unfold evCall at h
  split at h
  · subst h; trivial
  rename_i args hargs
  have hrel := evs_rel ht hargs
  split at h
  · -- a function's value
    rename_i f hf
    split at h
    · rename_i g cap hg
      have hgv := ev1_rel ht hg
      simp only [rel] at hgv
      obtain ⟨cs, hval, hcs⟩ := hgv
      split at h
      · -- a function without a body of its own
        rename_i F hF
        subst h
        cases hv : F (args ++ cap) with
        | none => trivial
        | some v =>
          obtain ⟨x, hx, hxr⟩ := hT.ext g F hF M ρ _ _ v (relL_append hrel hcs) hv
          intro hK
          have hexec : (execOp a.eval o).run P w = .ok (.value x) w := by
            have : (callFunc g (c.args.map a.eval ++ cs.toArray)).run P w = .ok (.value x) w := by
              have h2 := hx w
              have e : (c.args.toList.map a.eval ++ cs).toArray = c.args.map a.eval ++ cs.toArray := by apply Array.ext'; simp
              rwa [e] at h2
            simp [execOp, ho, resolve, hf, hval, Deferred.ofValue, invoke, this]
          unfold Oper.wp
          rw [hexec]
          exact hK x M ρ w (Ext.refl _ _ _) hxr hS
      by_cases hno : r = .no
      · subst hno; trivial
      obtain ⟨hent, hok⟩ := hcall g (args ++ cap) H r h hno
      have := hok M ρ w (c.args.toList.map a.eval ++ cs) hS (relL_append hrel hcs)
      have hexec : (execOp a.eval o).run P w = .ok (.enter g (c.args.toList.map a.eval ++ cs).toArray) w := by
        have : (callFunc g (c.args.map a.eval ++ cs.toArray)).run P w = _ := hent _ w
        simp [execOp, ho, resolve, hf, hval, Deferred.ofValue, invoke, this]
      cases r with
      | no => trivial
      | val v H' =>
        intro hK
        unfold Oper.wp
        rw [hexec]
        refine Calls.mono this ?_
        rintro e w' ⟨x, M', ρ', rfl, he, hv, hS'⟩
        exact hK x M' ρ' w' he hv hS'
      | pan v H' =>
        intro hK
        unfold Oper.wp
        rw [hexec]
        refine Calls.mono this ?_
        rintro e w' ⟨x, M', ρ', rfl, he, hv, hS'⟩
        exact hK x M' ρ' w' he hv hS'
    · subst h; trivial
  · -- unsafe.SliceData
    rename_i hf
    split at h
    · rename_i x
      subst h
      simp only [relL] at hrel
      obtain ⟨y, r', hy, hyr, hr'⟩ := hrel
      subst hr'
      have hmap : c.args.map a.eval = #[y] := by apply Array.ext'; simpa using hy
      have hexec : execOp a.eval o = (do Pure.pure (.value (← Builtin.unsafeSliceData_ c.argTypes o.type #[y]))) := by
        simp [execOp, ho, resolve, hf, invoke, builtin, hmap]
      exact step_lift hexec hS fun v hv => by
        obtain ⟨z, hz, hzr⟩ := evSliceData_ok (P := P) hyr hv c.argTypes o.type
        exact ⟨z, hz w, hzr⟩
    · subst h; trivial
  · -- unsafe.String
    rename_i hf
    split at h
    · rename_i ty p l h0
      simp only [relL] at hrel
      obtain ⟨y, r', hy, hyr, z, r2, rfl, hzr, rfl⟩ := hrel
      have hmap : c.args.map a.eval = #[y, z] := by apply Array.ext'; simpa using hy
      have hexec : execOp a.eval o = (do Pure.pure (.value (← Builtin.unsafeString_ c.argTypes o.type #[y, z]))) := by
        simp [execOp, ho, resolve, hf, invoke, builtin, hmap]
      cases r with
      | no => trivial
      | val v H' => exact step_of_ok hexec (evUnsafeString_ok hT hS hyr hzr h c.argTypes h0 o.type)
      | pan v H' =>
        exfalso
        unfold evUnsafeString at h
        simp only [setK_eq] at h
        repeat' (split at h)
        all_goals cases h
    · subst h; trivial
  · -- len
    rename_i hf
    split at h
    · rename_i ty x h0
      subst h
      simp only [relL] at hrel
      obtain ⟨y, r', hy, hyr, hr'⟩ := hrel
      subst hr'
      have hmap : c.args.map a.eval = #[y] := by apply Array.ext'; simpa using hy
      have hexec : execOp a.eval o = (do Pure.pure (.value (← Builtin.len_ c.argTypes o.type #[y]))) := by
        simp [execOp, ho, resolve, hf, invoke, builtin, hmap]
      exact step_lift hexec hS fun v hv => by
        obtain ⟨z, hz, hzr⟩ := evLen_ok hT hyr hv c.argTypes h0 o.type
        exact ⟨z, hz w, hzr⟩
    · subst h; trivial
  · -- append
    rename_i hf
    split at h
    · rename_i ty ty2 s x h0 h1
      simp only [relL] at hrel
      obtain ⟨y, r', hy, hyr, z, r2, rfl, hzr, rfl⟩ := hrel
      have hmap : c.args.map a.eval = #[y, z] := by apply Array.ext'; simpa using hy
      have hexec : execOp a.eval o = (do Pure.pure (.value (← Builtin.append_ c.argTypes o.type #[y, z]))) := by
        simp [execOp, ho, resolve, hf, invoke, builtin, hmap]
      have key : ∀ d1, P.underlying ty2 = some d1 → ((∃ e', d1 = TypeDesc.slice e') ∨ d1 = .string) → evAppend T ty s x H = r → StepOK P T o a M ρ w Q K r := by
        intro d1 hd1 hd2 hr
        cases hr2 : r with
        | no => trivial
        | val v H' => exact step_of_ok hexec (evAppend_ok hT hS hyr hzr (hr.trans hr2) c.argTypes h0 h1 hd1 hd2 o.type)
        | pan v H' =>
          exfalso
          rw [hr2] at hr
          unfold evAppend at hr
          simp only [newB_eq, setB_eq, setK_eq] at hr
          repeat' (split at hr)
          all_goals cases hr
      split at h
      · rename_i e' hu
        exact key _ (hT.und _ _ hu) (.inl ⟨_, rfl⟩) h
      · rename_i hu
        exact key _ (hT.und _ _ hu) (.inr rfl) h
      · subst h; trivial
    · subst h; trivial
  · -- max
    rename_i hf
    split at h
    · rename_i x y
      subst h
      simp only [relL] at hrel
      obtain ⟨y', r', hy, hyr, z, r2, rfl, hzr, rfl⟩ := hrel
      have hmap : c.args.map a.eval = #[y', z] := by apply Array.ext'; simpa using hy
      have hexec : execOp a.eval o = (do Pure.pure (.value (← Builtin.max_ c.argTypes o.type #[y', z]))) := by
        simp [execOp, ho, resolve, hf, invoke, builtin, hmap]
      exact step_lift hexec hS fun v hv => by
        unfold evMax at hv
        split at hv
        · cases hv
          simp only [rel] at hyr hzr
          subst hyr hzr
          rename_i k a' k' b' _
          exact ⟨.int k (if b' > a' then b' else a'), by simp [Builtin.max_, Builtin.max2], by simp [rel]⟩
        · rename_i heq; cases heq
        · cases hv
    · subst h; trivial
  · -- min
    rename_i hf
    split at h
    · rename_i x y
      subst h
      simp only [relL] at hrel
      obtain ⟨y', r', hy, hyr, z, r2, rfl, hzr, rfl⟩ := hrel
      have hmap : c.args.map a.eval = #[y', z] := by apply Array.ext'; simpa using hy
      have hexec : execOp a.eval o = (do Pure.pure (.value (← Builtin.min_ c.argTypes o.type #[y', z]))) := by
        simp [execOp, ho, resolve, hf, invoke, builtin, hmap]
      exact step_lift hexec hS fun v hv => by
        unfold evMax at hv
        split at hv
        · rename_i heq; cases heq
        · cases hv
          simp only [rel] at hyr hzr
          subst hyr hzr
          rename_i k a' k' b' _
          exact ⟨.int k (if b' < a' then b' else a'), by simp [Builtin.min_, Builtin.min2], by simp [rel]⟩
        · cases hv
    · subst h; trivial
  · subst h; trivial
end
end Go.Ev

namespace Go.Ev
open Go
section
variable {P : Program} {T : Tab} {M : Mem} {ρ : Ren} {w : World} {H : Heap} {Q : Exit → Act → World → Prop} {K : Act → World → Prop} {o : Oper} {a : Act}

theorem evOp_ok (hT : TOk P T) {call : CallF} (hcall : call.Sound P T) (hS : SR T M ρ H w) {t : Env} (ht : relT M ρ t a.tmps) {r : OR} (h : evOp T call o t H = r) : StepOK P T o a M ρ w Q K r := by
  unfold evOp at h
  simp only [newB_eq] at h
  split at h
  case h_1 x ho => subst h; exact step_lift (s := Pure.pure (a.eval x)) (by simp [execOp, ho]) hS fun v hv => ⟨_, by simp, ev1_rel ht hv⟩
  case h_2 x ho => subst h; exact step_lift (s := Pure.pure (a.eval x)) (by simp [execOp, ho]) hS fun v hv => ⟨_, by simp, ev1_rel ht hv⟩
  case h_3 c x y ho =>
    split at h
    · rename_i hc
      have := ev1_rel ht hc
      simp only [rel] at this
      subst h
      exact step_lift (s := Pure.pure (a.eval x)) (by simp [execOp, ho, this, asBool]) hS fun v hv => ⟨_, by simp, ev1_rel ht hv⟩
    · rename_i hc
      have := ev1_rel ht hc
      simp only [rel] at this
      subst h
      exact step_lift (s := Pure.pure (a.eval y)) (by simp [execOp, ho, this, asBool]) hS fun v hv => ⟨_, by simp, ev1_rel ht hv⟩
    · subst h; trivial
  case h_4 e ho =>
    split at h
    · rename_i z hz
      subst h
      obtain ⟨zv, hzv, hzr⟩ := hT.run_zero hz
      have hc := rel_cells (ofVal_rel (M := M) (ρ := ρ) hzv)
      obtain ⟨a1, a2, a3⟩ := alloc_ok (P := P) hS e hc
      refine step_of_ok (s := Instr.alloc e true (.tuple #[])) (by simp [execOp, ho]) ⟨.pointer (some ⟨w.heap.size, 0, none⟩), _, _, ?_, a3, ?_, a2⟩
      · have a1' : (newRow e zv.cells).run P w = .ok ⟨w.heap.size, 0, none⟩ (w.alloc (.cells zv.cells.toList.toArray e)) := by simpa using a1
        simp [Instr.alloc, hzr, newVar, a1']
      · simp only [rel]
        exact ⟨w.heap.size, _, by rw [← hS.len, List.getElem?_concat_length], rfl⟩
    · subst h; trivial
  case h_5 e x ho =>
    split at h
    · rename_i v hv
      split at h
      · subst h
        have hc := rel_cells (ev1_rel ht hv)
        obtain ⟨a1, a2, a3⟩ := alloc_ok (P := P) hS e hc
        refine step_of_ok (s := Instr.box e (a.eval x)) (by simp [execOp, ho]) ⟨.pointer (some ⟨w.heap.size, 0, none⟩), _, _, ?_, a3, ?_, a2⟩
        · have a1' : (newRow e (a.eval x).cells).run P w = .ok ⟨w.heap.size, 0, none⟩ (w.alloc (.cells (a.eval x).cells.toList.toArray e)) := by simpa using a1
          simp [Instr.box, newVar, a1']
        · simp only [rel]
          exact ⟨w.heap.size, _, by rw [← hS.len, List.getElem?_concat_length], rfl⟩
      · subst h; trivial
    · subst h; trivial
  case h_6 ty parts ho =>
    split at h
    · rename_i ps hps
      have hp := evParts_rel ht hps
      subst h
      refine step_lift (s := Instr.build ty (parts.map fun (i, x) => (i, a.eval x))) (by simp [execOp, ho]) hS fun v hv => ?_
      obtain ⟨x, hx, hr⟩ := evBuild_ok hT hp hv
      have he : (parts.toList.map fun (i, x) => (i, a.eval x)).toArray = parts.map fun (i, x) => (i, a.eval x) := by apply Array.ext'; simp
      exact ⟨x, by rw [← he]; exact hx w, hr⟩
    · subst h; trivial
  case h_7 ty len parts ho =>
    split at h
    · rename_i ps hps
      have hp := evParts_rel ht hps
      have he : (parts.toList.map fun (i, x) => (i, a.eval x)).toArray = parts.map fun (i, x) => (i, a.eval x) := by apply Array.ext'; simp
      cases r with
      | no => trivial
      | val v H' =>
        have := evBuildSlice_ok hT hS hp h
        rw [he] at this
        exact step_of_ok (by simp [execOp, ho]) this
      | pan v H' =>
        exfalso
        unfold evBuildSlice at h
        simp only [newB_eq] at h
        repeat' (split at h)
        all_goals cases h
    · subst h; trivial
  case h_8 ty x ho =>
    split at h
    · rename_i p hp
      subst h
      refine step_lift (s := Instr.loadAt ty (a.eval x)) (by simp [execOp, ho]) hS fun v hv => ?_
      exact loadA_ok hT hS hv (ev1_rel ht hp)
    · subst h; trivial
  case h_9 ty x y ho =>
    split at h
    · rename_i p v hp hv
      split at h
      · rename_i H' hst
        subst h
        intro hK
        obtain ⟨w', h1, h2, h3⟩ := storeA_ok (P := P) hT hS hst (ev1_rel ht hp) (ev1_rel ht hv)
        unfold Oper.wp
        simp only [execOp, ho, Sem.run_bind, h1, Result.andThen_ok, Sem.run_pure, Oper.upon]
        exact hK undef M ρ w' h2 rel_undef h3
      · subst h; trivial
    · subst h; trivial
  case h_10 x ho =>
    split at h <;> first
      | (subst h; trivial)
      | (rename_i hp
         subst h
         have hr := ev1_rel ht hp
         have hr0 := hr
         simp only [rel] at hr
         refine step_of_pure (s := Pure.pure (a.eval x)) ?_ hS (x := a.eval x) (by simp) hr0
         first
           | (obtain ⟨_, _, _, hx⟩ := hr; simp [execOp, ho, hx]; done)
           | (obtain ⟨_, _, hx, _⟩ := hr; simp [execOp, ho, hx]; done)
           | (obtain ⟨_, hx, _⟩ := hr; simp [execOp, ho, hx])
           | (simp [execOp, ho, hr]))
  case h_11 op xT x y yT ho =>
    split at h
    · rename_i p q hp hq
      subst h
      refine step_lift (s := (do eqGuard op xT x y (a.eval x) (a.eval y); binOp op xT (a.eval x) (a.eval y))) (by simp [execOp, ho]) hS fun v hv => ?_
      obtain ⟨z, hz, hr⟩ := evBin_ok hT (ev1_rel ht hp) (ev1_rel ht hq) hv x y
      exact ⟨z, hz w, hr⟩
    · subst h; trivial
  case h_12 op xT x ho =>
    split at h
    · rename_i p hp
      subst h
      refine step_lift (s := Op.unary op (a.eval x)) (by simp [execOp, ho]) hS fun v hv => ?_
      obtain ⟨z, hz, hr⟩ := evUn_ok (P := P) (ev1_rel ht hp) hv
      exact ⟨z, hz w, hr⟩
    · subst h; trivial
  case h_13 src dst x ho =>
    split at h
    · rename_i p hp
      subst h
      refine step_lift (s := convert src dst (a.eval x)) (by simp [execOp, ho]) hS fun v hv => ?_
      exact evConvH_ok hT hS (ev1_rel ht hp) hv
    · subst h; trivial
  case h_14 ty x ho =>
    split at h
    · subst h; trivial
    · rename_i d v hnot hd hv
      subst h
      refine step_of_pure (s := Instr.makeInterface ty (a.eval x)) (by simp [execOp, ho]) hS (x := .iface ty (a.eval x)) ?_ (by simp only [rel]; exact ⟨_, rfl, ev1_rel ht hv⟩)
      simp only [Instr.makeInterface, Sem.run_bind, hT.run_und hd, Result.andThen_ok]
      simp
    · subst h; trivial
  case h_15 g first captured ho =>
    split at h
    · rename_i cs hf hc
      subst h
      have hr := evs_rel ht hc
      refine step_of_pure (s := Instr.makeFunc (.func g) (first.map a.eval) (captured.map a.eval)) (by simp [execOp, ho]) hS (x := .func (.func g) #[] (captured.map a.eval)) ?_ ?_
      · have : first = #[] := by apply Array.ext'; simpa using hf
        simp [Instr.makeFunc, this]
      · simp only [rel]
        exact ⟨captured.toList.map a.eval, by congr 1; apply Array.ext'; simp, hr⟩
    · subst h; trivial
  case h_16 ty l c ho =>
    split at h
    · rename_i p q hp hq
      cases r with
      | no => trivial
      | val v H' => exact step_of_ok (by simp [execOp, ho]) (evMakeSlice_ok hT hS (ev1_rel ht hp) (ev1_rel ht hq) h)
      | pan v H' =>
        exfalso
        unfold evMakeSlice at h
        simp only [newB_eq] at h
        repeat' (split at h)
        all_goals cases h
    · subst h; trivial
  case h_17 ty x lo hi mx ho =>
    split at h
    · rename_i p hp
      subst h
      refine step_lift (s := Instr.sliceAt ty (a.eval x) (lo.map a.eval) (hi.map a.eval) (mx.map a.eval)) (by simp [execOp, ho]) hS fun v hv => ?_
      obtain ⟨z, hz, hr⟩ := evSlice_ok hT ht (ev1_rel ht hp) hv
      exact ⟨z, hz w, hr⟩
    · subst h; trivial
  case h_18 ty x f ho =>
    split at h
    · rename_i p hp
      subst h
      refine step_lift (s := Instr.fieldAt ty (a.eval x) f) (by simp [execOp, ho]) hS fun v hv => ?_
      obtain ⟨z, hz, hr⟩ := evFieldAddr_ok hT (ev1_rel ht hp) hv
      exact ⟨z, hz w, hr⟩
    · subst h; trivial
  case h_19 ty x f ho =>
    split at h
    · rename_i p hp
      subst h
      refine step_lift (s := Instr.field ty (a.eval x) f) (by simp [execOp, ho]) hS fun v hv => ?_
      obtain ⟨z, hz, hr⟩ := evField_ok hT (ev1_rel ht hp) hv
      exact ⟨z, hz w, hr⟩
    · subst h; trivial
  case h_20 ty x ix ho =>
    split at h
    · rename_i p q hp hq
      subst h
      refine step_lift (s := Instr.indexAt ty (a.eval x) (a.eval ix)) (by simp [execOp, ho]) hS fun v hv => ?_
      obtain ⟨z, hz, hr⟩ := evIndexAddr_ok hT (ev1_rel ht hp) (ev1_rel ht hq) hv
      exact ⟨z, hz w, hr⟩
    · subst h; trivial
  case h_21 ty x ix ho =>
    split at h
    · rename_i p q hp hq
      subst h
      refine step_lift (s := Instr.index ty (a.eval x) (a.eval ix)) (by simp [execOp, ho]) hS fun v hv => ?_
      obtain ⟨z, hz, hr⟩ := evIndex_ok hT (ev1_rel ht hp) (ev1_rel ht hq) hv
      exact ⟨z, hz w, hr⟩
    · subst h; trivial
  case h_22 x ix ho =>
    split at h
    · rename_i l hp
      have hr := ev1_rel ht hp
      simp only [rel] at hr
      obtain ⟨cs, hx, hcs⟩ := hr
      subst h
      refine step_lift (s := Instr.extract (a.eval x) ix) (by simp [execOp, ho]) hS fun v hv => ?_
      obtain ⟨y, hy, hyr⟩ := relL_get hcs hv
      exact ⟨y, by simp [Instr.extract, hx, hy], hyr⟩
    · subst h; trivial
  case h_23 ty r' ho =>
    have hnew : ∀ (rv : Option Value), (∀ x, rv = some x → ∃ k n d e, x = .int k n ∧ P.underlying ty = some (.map d e)) → execOp a.eval o = (do Pure.pure (.value (← Instr.makeMap ty rv))) → StepOK P T o a M ρ w Q K (.val (.mp H.length) (H ++ [some { ty, cells := [], kind := .map }])) := by
      intro rv hrv hexec
      have hok : BlkOK M ρ (some (.map #[] 0)) { ty, cells := [], kind := .map } 0 := by
        unfold BlkOK
        exact ⟨[], 0, rfl, by simp [relM]⟩
      have a2 := hS.allocB hS.lt (.map #[] 0) { ty, cells := [], kind := .map } 0 hok
      refine step_of_ok hexec ⟨.map (some w.heap.size), _, _, ?_, Ext.alloc M ρ w (.map #[] 0) 0, ?_, a2⟩
      · have hn : (newObj (.map #[] 0)).run P w = .ok w.heap.size (w.alloc (.map #[] 0)) := by simp [newObj, Sem.run]
        cases rv with
        | none => simp only [Instr.makeMap, Sem.run_bind, Sem.run_pure, Result.andThen_ok, hn]
        | some x =>
          obtain ⟨k, n, d, e, rfl, hu⟩ := hrv x rfl
          simp only [Instr.makeMap, Sem.run_bind, run_underlying hu, Result.andThen_ok, asInt, asIntOf, Sem.run_pure, hn]
      · simp only [rel]
        exact ⟨w.heap.size, 0, by rw [← hS.len, List.getElem?_concat_length], rfl⟩
    split at h
    · subst h
      exact hnew none (fun x hx => by cases hx) (by simp [execOp, ho])
    · rename_i rr
      split at h
      · rename_i d e k n hu hn
        subst h
        have hv := ev1_rel ht hn
        simp only [rel] at hv
        exact hnew (some (a.eval rr)) (fun x hx => by cases hx; exact ⟨_, _, _, _, hv, hT.und _ _ hu⟩) (by simp [execOp, ho])
      · subst h; trivial
  case h_24 ty m k v ho =>
    split at h
    · rename_i p q x hp hq hx
      cases r with
      | no => trivial
      | val u H' =>
        obtain ⟨rfl, w', h1, h2, h3⟩ := evMapSet_ok hT hS (ev1_rel ht hp) (ev1_rel ht hq) (ev1_rel ht hx) h
        intro hK
        unfold Oper.wp
        simp only [execOp, ho, Sem.run_bind, h1, Result.andThen_ok, Sem.run_pure, Oper.upon]
        exact hK undef M ρ w' h2 rel_undef h3
      | pan u H' =>
        exfalso
        unfold evMapSet at h
        simp only [setB_eq] at h
        repeat' (split at h)
        all_goals cases h
    · subst h; trivial
  case h_25 ty m k v ho =>
    split at h
    · rename_i p q x hp hq hx
      cases r with
      | no => trivial
      | val u H' =>
        obtain ⟨rfl, w', h1, h2, h3⟩ := evMapSet_ok hT hS (ev1_rel ht hp) (ev1_rel ht hq) (ev1_rel ht hx) h
        intro hK
        unfold Oper.wp
        simp only [execOp, ho, Sem.run_bind, h1, Result.andThen_ok, Sem.run_pure, Oper.upon]
        exact hK undef M ρ w' h2 rel_undef h3
      | pan u H' =>
        exfalso
        unfold evMapSet at h
        simp only [setB_eq] at h
        repeat' (split at h)
        all_goals cases h
    · subst h; trivial
  case h_26 ty m k ok ho =>
    split at h
    · rename_i p q hp hq
      subst h
      refine step_lift (s := Instr.lookup ty (a.eval m) (a.eval k) ok) (by simp [execOp, ho]) hS fun v hv => ?_
      exact evLookup_ok hT hS (ev1_rel ht hp) (ev1_rel ht hq) hv
    · subst h; trivial
  case h_27 c ho => exact evCall_ok hT hcall hS ht ho h
  case h_28 x ho =>
    split at h
    · rename_i ty v hp
      have hr := ev1_rel ht hp
      have hr0 := hr
      simp only [rel] at hr
      obtain ⟨y, hx, hyr⟩ := hr
      subst h
      intro hK
      unfold Oper.wp
      have : (execOp a.eval o).run P w = .halt (.panic (.iface ty y)) w := by
        simp [execOp, ho, hx, Instr.panic, goPanic, Sem.run]
      rw [this]
      exact hK _ M ρ w (Ext.refl _ _ _) (hx ▸ hr0) hS
    · subst h; trivial
  case h_29 => subst h; trivial

/-- What is left to be shown where a piece of code comes to a result. -/
def OutOK (T : Tab) (M : Mem) (ρ : Ren) (w : World) (Q : Exit → Act → World → Prop) (ds : List Deferred) : Out → Prop
  | .norm t H' => ∀ a' w' M' ρ', Ext M ρ w M' ρ' w' → relTm M' ρ' t a'.tmps → SR T M' ρ' H' w' → a'.defers = ds → Q .normal a' w'
  | .exit id t H' => ∀ a' w' M' ρ', Ext M ρ w M' ρ' w' → relTm M' ρ' t a'.tmps → SR T M' ρ' H' w' → a'.defers = ds → Q (.exit id) a' w'
  | .ret t H' => ∀ a' w' M' ρ', Ext M ρ w M' ρ' w' → relTm M' ρ' t a'.tmps → SR T M' ρ' H' w' → a'.defers = ds → Q .ret a' w'
  | .pan v _ H' => ∀ a' w' M' ρ' x, Ext M ρ w M' ρ' w' → rel M' ρ' v x → SR T M' ρ' H' w' → a'.defers = ds → Q (.panic [{ v := x, recovered := false }]) a' w'
  | .no => False
theorem OutOK.later {M' : Mem} {ρ' : Ren} {w' : World} (he : Ext M ρ w M' ρ' w') {ds : List Deferred} {r : Out} (h : OutOK T M ρ w Q ds r) : OutOK T M' ρ' w' Q ds r := by
  cases r with
  | norm t H => exact fun a' w2 M2 ρ2 h1 => h a' w2 M2 ρ2 (he.trans h1)
  | exit id t H => exact fun a' w2 M2 ρ2 h1 => h a' w2 M2 ρ2 (he.trans h1)
  | ret t H => exact fun a' w2 M2 ρ2 h1 => h a' w2 M2 ρ2 (he.trans h1)
  | pan v t H => exact fun a' w2 M2 ρ2 x h1 => h a' w2 M2 ρ2 x (he.trans h1)
  | no => exact h

theorem wants_ok {ops : Array Oper} {t : Env} (ht : relT M ρ t a.tmps) {y : Bool} (h : wants ops o t = some y) : Region.wanted o (yielded ops a.tmps) = y := by
  unfold wants at h
  unfold Region.wanted
  split at h
  · rename_i hg; rw [hg]; cases h; rfl
  · rename_i j want hg
    rw [hg]
    simp only
    unfold yielded
    split at h
    · rename_i hd
      rw [hd]
      cases h
      rfl
    · rename_i d hd
      rw [hd]
      have hr := ht d
      split at h
      · rename_i z hz
        rw [hz] at hr
        simp only [rel] at hr
        have : a.tmps[d]? = some (.bool z) := by
          rw [Array.getD_eq_getD_getElem?] at hr
          cases hx : a.tmps[d]? with
          | none => rw [hx] at hr; cases hr
          | some y => rw [hx] at hr; simpa using hr
        cases h
        simp only [Option.bind_some, this]
        cases z <;> cases want <;> rfl
      · rename_i hz
        rw [hz] at hr
        simp only [rel, relL] at hr
        obtain ⟨cs, hr, rfl⟩ := hr
        cases h
        rw [Array.getD_eq_getD_getElem?] at hr
        simp only [Option.bind_some]
        cases hx : a.tmps[d]? with
        | none => simp
        | some y =>
          rw [hx] at hr
          simp at hr
          subst hr
          simp
      · cases h

theorem put_defers' (a : Act) (d : Option Tmp) (x : Value) : (a.put d x).defers = a.defers := by cases d <;> rfl

theorem evSeq_ok (hT : TOk P T) {call : CallF} (hcall : call.Sound P T) (ops : Array Oper) : ∀ (l : List Oper) (t : Tm) (H : Heap) (a : Act) (w : World) (M : Mem) (ρ : Ren), SR T M ρ H w → relTm M ρ t a.tmps →
    OutOK T M ρ w Q a.defers (evSeq (evOp T call) ops l t H) → wpList P ops Q l a w
  | [], t, H, a, w, M, ρ, hS, ht, h => wpList_nil (h a w M ρ (Ext.refl _ _ _) ht hS rfl)
  | o :: r, t, H, a, w, M, ρ, hS, ht, h => by
    refine wpList_step fun K hK => ?_
    simp only [evSeq, putK_eq, opened_eq] at h
    split at h
    · rename_i hw
      rw [wants_ok ht.2 hw]
      simp only [if_true]
      split at h
      · rename_i v H' hv
        split at h
        · rename_i hfit
          refine evOp_ok hT hcall hS ht.2 (r := .val v H') hv ?_
          intro x M' ρ' w' he hx hS'
          refine hK _ _ (evSeq_ok hT hcall ops r _ H' _ w' M' ρ' hS' (put_rel (relTm_mono he.mem he.pre ht) hx o.dst hfit) ?_)
          rw [put_defers']
          exact h.later he
        · exact h.elim
      · rename_i v H' hv
        refine evOp_ok hT hcall hS ht.2 (r := .pan v H') hv ?_
        intro x M' ρ' w' he hx hS'
        exact h a w' M' ρ' x he hx hS' rfl
      · exact h.elim
    · rename_i hw
      rw [wants_ok ht.2 hw]
      simp only [Bool.false_eq_true, if_false]
      split at h
      · rename_i hfit
        refine hK _ _ (evSeq_ok hT hcall ops r _ H _ w M ρ hS (put_rel ht rel_undef o.dst hfit) ?_)
        rw [put_defers']
        exact h
      · exact h.elim
    · exact h.elim

/-- A loop from its body on. -/
def LoopWp (P : Program) (c : Code) (Q : Exit → Act → World → Prop) (a : Act) (w : World) : Prop :=
  ∀ (b : Frame) (k : List Item) (cs : List Frame), ∃ e a' w', Q e a' w' ∧ Arrives P (lone (b.at a (.code c :: .inLoop c :: k)) cs w) b k cs e a' w'
theorem wp_of_loopWp {c : Code} {a : Act} {w : World} (h : LoopWp P c Q a w) : (Code.loop c).wp P Q a w := fun b k cs =>
  let ⟨e, a', w', q, r⟩ := h b k cs; ⟨e, a', w', q, .of_steps (.one step_loop) r⟩
theorem loopWp_round {c : Code} {a : Act} {w : World} (h : c.wp P (Exit.then (LoopWp P c Q) Q) a w) : LoopWp P c Q a w := by
  intro b k cs
  obtain ⟨e, a₁, w₁, hq, harr⟩ := h b (.inLoop c :: k) cs
  cases e with
  | normal =>
    obtain ⟨e₂, a₂, w₂, hq₂, harr₂⟩ := hq b k cs
    exact ⟨e₂, a₂, w₂, hq₂, .of_steps (Steps.trans harr (.one step_inLoop)) harr₂⟩
  | exit id => exact ⟨_, a₁, w₁, hq, .pass (x := .inLoop c) rfl (fun _ _ => .inl (by simp)) harr⟩
  | goto l => exact ⟨_, a₁, w₁, hq, .pass (x := .inLoop c) rfl (fun _ _ => .inl (by simp)) harr⟩
  | ret => exact ⟨_, a₁, w₁, hq, .pass (x := .inLoop c) rfl (fun _ _ => .inl (by simp)) harr⟩
  | panic ch => exact ⟨_, a₁, w₁, hq, .pass (x := .inLoop c) rfl (fun _ _ => .inl (by simp)) harr⟩
  | outgrown => exact ⟨_, a₁, w₁, hq, .pass (x := .inLoop c) rfl (fun _ _ => .inl (by simp)) harr⟩

abbrev RegF := Array Oper → Bool → Tm → Heap → Out
abbrev LoopF := Code → Tm → Heap → Out
def RegF.Sound (P : Program) (T : Tab) (reg : RegF) : Prop :=
  ∀ id ops d t H a w M ρ Q, SR T M ρ H w → relTm M ρ t a.tmps → OutOK T M ρ w Q a.defers (reg ops d t H) → (Code.region id ops d).wp P Q a w
def LoopF.Sound (P : Program) (T : Tab) (loop : LoopF) : Prop :=
  ∀ c t H a w M ρ Q, SR T M ρ H w → relTm M ρ t a.tmps → OutOK T M ρ w Q a.defers (loop c t H) → LoopWp P c Q a w

theorem evCode_ok {reg : RegF} {loop : LoopF} (hreg : reg.Sound P T) (hloop : loop.Sound P T) : ∀ (c : Code) (t : Tm) (H : Heap) (a : Act) (w : World) (M : Mem) (ρ : Ren) (Q : Exit → Act → World → Prop), SR T M ρ H w → relTm M ρ t a.tmps →
    OutOK T M ρ w Q a.defers (evCode reg loop c t H) → c.wp P Q a w ∧ (∀ d, c = .loop d → LoopWp P d Q a w)
  | .skip, t, H, a, w, M, ρ, Q, hS, ht, h => ⟨wp_skip (h a w M ρ (Ext.refl _ _ _) ht hS rfl), fun d e => by cases e⟩
  | .label _, t, H, a, w, M, ρ, Q, hS, ht, h => ⟨wp_label (h a w M ρ (Ext.refl _ _ _) ht hS rfl), fun d e => by cases e⟩
  | .exit id, t, H, a, w, M, ρ, Q, hS, ht, h => ⟨wp_exit (h a w M ρ (Ext.refl _ _ _) ht hS rfl), fun d e => by cases e⟩
  | .ret, t, H, a, w, M, ρ, Q, hS, ht, h => ⟨wp_ret (h a w M ρ (Ext.refl _ _ _) ht hS rfl), fun d e => by cases e⟩
  | .region id ops d, t, H, a, w, M, ρ, Q, hS, ht, h => ⟨hreg id ops d t H a w M ρ Q hS ht h, fun d e => by cases e⟩
  | .seq x y, t, H, a, w, M, ρ, Q, hS, ht, h => by
    refine ⟨wp_seq ((evCode_ok hreg hloop x t H a w M ρ _ hS ht ?_).1), fun d e => by cases e⟩
    simp only [evCode] at h
    split at h
    · rename_i t' H' hx
      rw [hx]
      intro a' w' M' ρ' he ht' hS' hd
      refine (evCode_ok hreg hloop y t' H' a' w' M' ρ' Q hS' ht' ?_).1
      rw [hd]
      exact h.later he
    · rename_i hne
      cases hx : evCode reg loop x t H with
      | norm t' H' => exact absurd hx (hne t' H')
      | exit id t' H' => rw [hx] at h; exact h
      | ret t' H' => rw [hx] at h; exact h
      | pan v t' H' => rw [hx] at h; exact h
      | no => rw [hx] at h; exact h.elim
  | .cond c x y, t, H, a, w, M, ρ, Q, hS, ht, h => by
    refine ⟨?_, fun d e => by cases e⟩
    simp only [evCode] at h
    split at h
    · rename_i hc
      have := ev1_rel ht.2 hc
      simp only [rel] at this
      exact wp_cond_true this (evCode_ok hreg hloop x t H a w M ρ Q hS ht h).1
    · rename_i hc
      have := ev1_rel ht.2 hc
      simp only [rel] at this
      exact wp_cond_false this (evCode_ok hreg hloop y t H a w M ρ Q hS ht h).1
    · exact h.elim
  | .block id c, t, H, a, w, M, ρ, Q, hS, ht, h => by
    refine ⟨wp_block ((evCode_ok hreg hloop c t H a w M ρ _ hS ht ?_).1), fun d e => by cases e⟩
    simp only [evCode] at h
    cases hx : evCode reg loop c t H with
    | norm t' H' => rw [hx] at h; exact h
    | exit j t' H' =>
      rw [hx] at h
      simp only at h
      intro a' w' M' ρ' he ht' hS' hd
      simp only [Exit.inBlock]
      split at h
      · rename_i e
        rw [if_pos e]
        exact h a' w' M' ρ' he ht' hS' hd
      · rename_i e
        rw [if_neg e]
        exact h a' w' M' ρ' he ht' hS' hd
    | ret t' H' => rw [hx] at h; exact h
    | pan v t' H' => rw [hx] at h; exact h
    | no => rw [hx] at h; exact h.elim
  | .loop c, t, H, a, w, M, ρ, Q, hS, ht, h => by
    have key : LoopWp P c Q a w := by
      refine loopWp_round ((evCode_ok hreg hloop c t H a w M ρ _ hS ht ?_).1)
      simp only [evCode] at h
      split at h
      · rename_i t' H' hx
        rw [hx]
        intro a' w' M' ρ' he ht' hS' hd
        refine hloop c t' H' a' w' M' ρ' Q hS' ht' ?_
        rw [hd]
        exact h.later he
      · rename_i hne
        cases hx : evCode reg loop c t H with
        | norm t' H' => exact absurd hx (hne t' H')
        | exit id t' H' => rw [hx] at h; exact h
        | ret t' H' => rw [hx] at h; exact h
        | pan v t' H' => rw [hx] at h; exact h
        | no => rw [hx] at h; exact h.elim
    exact ⟨wp_of_loopWp key, fun d e => by cases e; exact key⟩
  | .rangeFunc .., _, _, _, _, _, _, _, _, _, h => h.elim
  | .scope .., _, _, _, _, _, _, _, _, _, h => h.elim
  | .goto .., _, _, _, _, _, _, _, _, _, h => h.elim
  | .refuse .., _, _, _, _, _, _, _, _, _, h => h.elim

theorem evLoop_ok {reg : RegF} (hreg : reg.Sound P T) : ∀ n, LoopF.Sound P T (evLoop reg n)
  | 0 => fun _ _ _ _ _ _ _ _ _ _ h => h.elim
  | n + 1 => fun c t H a w M ρ Q hS ht h => (evCode_ok hreg (evLoop_ok hreg n) (.loop c) t H a w M ρ Q hS ht h).2 c rfl

theorem evResult_ok (hT : TOk P T) (hS : SR T M ρ H w) {t : Env} {tmps : Array Value} (ht : relT M ρ t tmps) {r : ResultVar} {v : V} (h : evResult T t H r = some v) :
    ∃ x, (match r with | .tmp k => Pure.pure (tmps.getD k undef) | .cell b ty => do loadVar ty (← asAddr (tmps.getD b undef)) : Sem Value).run P w = .ok x w ∧ rel M ρ v x := by
  cases r with
  | tmp k =>
    simp only [evResult, Option.some.injEq] at h
    subst h
    exact ⟨_, by simp, ht k⟩
  | cell b ty =>
    simp only [evResult] at h
    obtain ⟨y, hy, hr⟩ := loadA_ok hT hS h (ht b)
    refine ⟨y, ?_, hr⟩
    have hx := ht b
    simp only [Instr.loadAt, Sem.run_bind] at hy ⊢
    cases hv : tmps.getD b undef with
    | pointer ad =>
      rw [hv] at hy
      cases ad with
      | none => simp [Instr.sureAddr, stuck] at hy
      | some ad => simpa [Instr.sureAddr, asAddr] using hy
    | _ => rw [hv] at hy; simp [Instr.sureAddr, stuck] at hy
theorem evResults_ok (hT : TOk P T) (hS : SR T M ρ H w) {t : Env} {tmps : Array Value} (ht : relT M ρ t tmps) : ∀ {l : List ResultVar} {vs : List V}, evResults T t H l = some vs →
    ∃ xs, (l.mapM (m := Sem) fun r => match r with | .tmp k => Pure.pure (tmps.getD k undef) | .cell b ty => do loadVar ty (← asAddr (tmps.getD b undef))).run P w = .ok xs w ∧ relL M ρ vs xs
  | [], vs, h => by simp only [evResults, Option.some.injEq] at h; subst h; exact ⟨[], by simp, by simp [relL]⟩
  | r :: l, vs, h => by
    simp only [evResults] at h
    split at h
    · rename_i x l' hx hl
      cases h
      obtain ⟨y, hy, hr⟩ := evResult_ok hT hS ht hx
      obtain ⟨ys, hys, hrs⟩ := evResults_ok hT hS ht hl
      refine ⟨y :: ys, ?_, relL_cons hr hrs⟩
      simp only [List.mapM_cons, Sem.run_bind, hy, Result.andThen_ok, hys, Sem.run_pure]
    · cases h
end
end Go.Ev

namespace Go.Ev
open Go
section
variable {P : Program} {T : Tab}

def Gam.Sound (P : Program) (T : Tab) (G : Gam) : Prop :=
  ∀ f vs H r, G f vs H = some r → r ≠ .no → Go.Proofs.Enters P f ∧ ∀ M ρ w args, SR T M ρ H w → relL M ρ vs args → CallOK P T f args.toArray M ρ w r

theorem results_ok (hT : TOk P T) {M : Mem} {ρ : Ren} {w : World} {H : Heap} (hS : SR T M ρ H w) {t : Env} {tmps : Array Value} (ht : relT M ρ t tmps) {fn : Func} {v : V} {H' : Heap} (h : finish T fn t H = .val v H') :
    H' = H ∧ ∃ x, (results fn tmps).run P w = .ok x w ∧ rel M ρ v x := by
  unfold finish at h
  have hmm : ∀ {xs : List Value}, (fn.results.toList.mapM (m := Sem) fun r => match r with | .tmp k => Pure.pure (tmps.getD k undef) | .cell b ty => do loadVar ty (← asAddr (tmps.getD b undef))).run P w = .ok xs w →
      (results fn tmps).run P w = .ok (if h : xs.toArray.size = 1 then xs.toArray[0] else .tuple xs.toArray) w := by
    intro xs hxs
    simp only [results, Array.mapM_eq_mapM_toList, Sem.run_bind]
    refine (congrArg (fun r => Result.andThen r _) (run_fmap List.toArray _ hxs)).trans ?_
    rfl
  split at h
  · rename_i y hy
    cases h
    obtain ⟨xs, hxs, hr⟩ := evResults_ok hT hS ht hy
    simp only [relL] at hr
    obtain ⟨x, r, rfl, hx, rfl⟩ := hr
    exact ⟨rfl, x, by simpa using hmm hxs, hx⟩
  · rename_i l hl hy
    cases h
    obtain ⟨xs, hxs, hr⟩ := evResults_ok hT hS ht hy
    have hlen := relL_length hr
    have hne : ¬ xs.toArray.size = 1 := by
      intro h1
      simp at h1
      rw [hlen] at h1
      obtain ⟨z, rfl⟩ := List.length_eq_one_iff.1 h1
      exact hl z rfl
    refine ⟨rfl, .tuple xs.toArray, ?_, by simp only [rel]; exact ⟨xs, rfl, hr⟩⟩
    have := hmm hxs
    rwa [dif_neg hne] at this
  · cases h

theorem finish_no_pan {T : Tab} {fn : Func} {t : Env} {H H' : Heap} {v : V} : finish T fn t H ≠ .pan v H' := by
  unfold finish
  split <;> simp

theorem evFunR_ok (hT : TOk P T) {reg : CallF → RegF} (hreg : ∀ call : CallF, call.Sound P T → RegF.Sound P T (reg call)) {G : Gam} (hG : G.Sound P T) : ∀ n, CallF.Sound P T (evFunR T reg G n)
  | 0 => fun f vs H r h hr => absurd h.symm hr
  | n + 1 => by
    have ih := evFunR_ok hT hreg hG n
    intro f vs H r h hr
    simp only [evFunR] at h
    split at h
    · rename_i r' hg
      subst h
      exact hG f vs H _ hg hr
    · split at h
      · exact absurd h.symm hr
      · rename_i fn hfn
        split at h
        · exact absurd h.symm hr
        · rename_i c hc
          obtain ⟨hf, hent⟩ := hT.func f fn c hfn hc
          refine ⟨hent, fun M ρ w args hS hargs => ?_⟩
          have hR := hreg _ ih
          have hL := evLoop_ok (P := P) (T := T) hR n
          cases hw : Nat.ble vs.length fn.ntmps with
          | false => rw [hw] at h; exact absurd h.symm hr
          | true =>
          rw [hw] at h
          simp only [cond_true] at h
          have hle : vs.length ≤ fn.ntmps := Nat.le_of_ble_eq_true hw
          have hl := relL_length hargs
          have htm : relTm M ρ (Tm.init fn.ntmps vs) (args.toArray ++ Array.replicate (fn.ntmps - args.toArray.size) undef) := by
            refine ⟨by simp [Tm.init]; omega, fun k => ?_⟩
            simp only [Tm.init, Tm.get]
            rw [Tr.get_fill, if_pos (Nat.zero_le _), Nat.sub_zero]
            simp only [Tr.get, Array.getD_eq_getD_getElem?]
            by_cases hk : k < vs.length
            · rw [Array.getElem?_append_left (by simp; omega)]
              obtain ⟨x, hx, hxr⟩ := relL_get hargs (i := k) (v := vs[k]) (List.getElem?_eq_getElem hk)
              rw [List.getElem?_eq_getElem hk]
              simp only [List.getElem?_toArray, hx, Option.getD_some]
              exact hxr
            · rw [List.getElem?_eq_none (by omega)]
              have : ((args.toArray ++ Array.replicate (fn.ntmps - args.toArray.size) undef)[k]?).getD undef = undef := by
                rw [Array.getElem?_append_right (by simp; omega), Array.getElem?_replicate]
                split <;> rfl
              rw [this]
              exact rel_undef
          have key := fun R => evCode_ok (P := P) (T := T) hR hL c (Tm.init fn.ntmps vs) H { tmps := args.toArray ++ Array.replicate (fn.ntmps - args.toArray.size) undef, defers := [] } w M ρ (bodyPost P fn R) hS htm
          cases hev : evCode (reg (evFunR T reg G n)) (evLoop (reg (evFunR T reg G n)) n) c (Tm.init fn.ntmps vs) H with
          | norm t' H' =>
            rw [hev] at h
            simp only at h
            cases r with
            | no => trivial
            | pan v H2 => exact absurd h finish_no_pan
            | val v H2 =>
              refine calls_of_wp hf hc ((key _ ?_).1)
              rw [hev]
              intro a' w' M' ρ' he ht' hS' hd
              obtain ⟨rfl, x, hx, hxr⟩ := results_ok hT hS' ht'.2 h
              exact ⟨hd, x, hx, x, M', ρ', rfl, he, hxr, hS'⟩
          | ret t' H' =>
            rw [hev] at h
            simp only at h
            cases r with
            | no => trivial
            | pan v H2 => exact absurd h finish_no_pan
            | val v H2 =>
              refine calls_of_wp hf hc ((key _ ?_).1)
              rw [hev]
              intro a' w' M' ρ' he ht' hS' hd
              obtain ⟨rfl, x, hx, hxr⟩ := results_ok hT hS' ht'.2 h
              exact ⟨hd, x, hx, x, M', ρ', rfl, he, hxr, hS'⟩
          | pan v t' H' =>
            rw [hev] at h
            simp only at h
            subst h
            refine calls_of_wp hf hc ((key _ ?_).1)
            rw [hev]
            intro a' w' M' ρ' x he hx hS' hd
            exact ⟨hd, x, M', ρ', rfl, he, hx, hS'⟩
          | exit id t' H' => rw [hev] at h; exact absurd h.symm hr
          | no => rw [hev] at h; exact absurd h.symm hr

theorem evSeqReg_ok (hT : TOk P T) {call : CallF} (hcall : call.Sound P T) {id : Nat} {ops : Array Oper} {t : Tm} {H : Heap} {a : Act} {w : World} {M : Mem} {ρ : Ren} {Q : Exit → Act → World → Prop} (hS : SR T M ρ H w) (ht : relTm M ρ t a.tmps)
    (h : OutOK T M ρ w Q a.defers (evSeq (evOp T call) ops ops.toList t H)) : (Code.region id ops false).wp P Q a w :=
  wp_region_list (evSeq_ok hT hcall ops ops.toList t H a w M ρ hS ht h)
end
end Go.Ev
