/- One statement of a region does what the evaluator says. -/
import Derived.Test.YtddpjgoboboidaaGreatDoorEvUnsafe
namespace Go.Ev
open Go
section
variable {P : Program} {T : Tab} {M : Mem} {ρ : Ren} {w : World} {H : Heap}

/-- What a call comes to. -/
def CallOK (P : Program) (T : Tab) (f : FuncId) (args : Array Value) (M : Mem) (ρ : Ren) (w : World) : OR → Prop
  | .val v H' => Calls P f args w fun e w' => ∃ x M' ρ', e = .returned x ∧ Ext M ρ w M' ρ' w' ∧ rel M' ρ' v x ∧ SR T M' ρ' H' w'
  | .pan v H' => Calls P f args w fun e w' => ∃ x M' ρ', e = .panicked [{ v := x, recovered := false }] ∧ Ext M ρ w M' ρ' w' ∧ rel M' ρ' v x ∧ SR T M' ρ' H' w'
  | .no => True
/-- A function of calls that tells the truth. -/
def CallF.Sound (P : Program) (T : Tab) (call : CallF) : Prop :=
  ∀ f vs H r, call f vs H = r → r ≠ .no → Go.Proofs.Enters P f ∧ ∀ M ρ w args, SR T M ρ H w → relL M ρ vs args → CallOK P T f args.toArray M ρ w r

/-- What an operation comes to, as the machine carries it out. -/
def StepOK (P : Program) (T : Tab) (o : Oper) (a : Act) (M : Mem) (ρ : Ren) (w : World) (Q : Exit → Act → World → Prop) (K : Act → World → Prop) : OR → Prop
  | .val v H' => (∀ x M' ρ' w', Ext M ρ w M' ρ' w' → rel M' ρ' v x → SR T M' ρ' H' w' → K (a.put o.dst x) w') → o.wp P a w K Q
  | .pan v H' => (∀ x M' ρ' w', Ext M ρ w M' ρ' w' → rel M' ρ' v x → SR T M' ρ' H' w' → Q (.panic [{ v := x, recovered := false }]) a w') → o.wp P a w K Q
  | .no => True

variable {Q : Exit → Act → World → Prop} {K : Act → World → Prop} {o : Oper} {a : Act}

theorem step_of_ok {s : Sem Value} (hexec : execOp a.eval o = (do Pure.pure (.value (← s)))) {v : V} {H' : Heap} (h : OpOK P T s M ρ w v H') : StepOK P T o a M ρ w Q K (.val v H') := by
  intro hK
  obtain ⟨x, w', ρ', hr, he, hv, hS⟩ := h
  unfold Oper.wp
  rw [hexec]
  simp only [Sem.run_bind, hr, Result.andThen_ok, Sem.run_pure, Oper.upon]
  exact hK x M ρ' w' he hv hS
theorem step_of_pure {s : Sem Value} (hexec : execOp a.eval o = (do Pure.pure (.value (← s)))) (hS : SR T M ρ H w) {v : V} {x : Value} (hr : s.run P w = .ok x w) (hv : rel M ρ v x) : StepOK P T o a M ρ w Q K (.val v H) :=
  step_of_ok hexec (OpOK.pure hS hr hv)
theorem step_lift {s : Sem Value} (hexec : execOp a.eval o = (do Pure.pure (.value (← s)))) (hS : SR T M ρ H w) {r : Option V} (h : ∀ v, r = some v → ∃ x, s.run P w = .ok x w ∧ rel M ρ v x) : StepOK P T o a M ρ w Q K (lift r H) := by
  cases r with
  | none => trivial
  | some v =>
    obtain ⟨x, hx, hv⟩ := h v rfl
    exact step_of_pure hexec hS hx hv

theorem evCall_ok (hT : TOk P T) {call : CallF} (hcall : call.Sound P T) (hS : SR T M ρ H w) {t : Env} (ht : relT M ρ t a.tmps) {c : Call} (ho : o.op = .call c) {r : OR} (h : evCall T call c t H = r) : StepOK P T o a M ρ w Q K r := by
  unfold evCall at h
  split at h
  · subst h; trivial
  rename_i args hargs
  have hrel := evs_rel ht hargs
  split at h
  · -- a function's value
    rename_i f hf
    split at h
    · rename_i g cap hg
      have hgv := ev1_rel ht hg
      simp only [rel] at hgv
      obtain ⟨cs, hval, hcs⟩ := hgv
      split at h
      · -- a function without a body of its own
        rename_i F hF
        subst h
        cases hv : F (args ++ cap) with
        | none => trivial
        | some v =>
          obtain ⟨x, hx, hxr⟩ := hT.ext g F hF M ρ _ _ v (relL_append hrel hcs) hv
          intro hK
          have hexec : (execOp a.eval o).run P w = .ok (.value x) w := by
            have : (callFunc g (c.args.map a.eval ++ cs.toArray)).run P w = .ok (.value x) w := by
              have h2 := hx w
              have e : (c.args.toList.map a.eval ++ cs).toArray = c.args.map a.eval ++ cs.toArray := by apply Array.ext'; simp
              rwa [e] at h2
            simp [execOp, ho, resolve, hf, hval, Deferred.ofValue, invoke, this]
          unfold Oper.wp
          rw [hexec]
          exact hK x M ρ w (Ext.refl _ _ _) hxr hS
      by_cases hno : r = .no
      · subst hno; trivial
      obtain ⟨hent, hok⟩ := hcall g (args ++ cap) H r h hno
      have := hok M ρ w (c.args.toList.map a.eval ++ cs) hS (relL_append hrel hcs)
      have hexec : (execOp a.eval o).run P w = .ok (.enter g (c.args.toList.map a.eval ++ cs).toArray) w := by
        have : (callFunc g (c.args.map a.eval ++ cs.toArray)).run P w = _ := hent _ w
        simp [execOp, ho, resolve, hf, hval, Deferred.ofValue, invoke, this]
      cases r with
      | no => trivial
      | val v H' =>
        intro hK
        unfold Oper.wp
        rw [hexec]
        refine Calls.mono this ?_
        rintro e w' ⟨x, M', ρ', rfl, he, hv, hS'⟩
        exact hK x M' ρ' w' he hv hS'
      | pan v H' =>
        intro hK
        unfold Oper.wp
        rw [hexec]
        refine Calls.mono this ?_
        rintro e w' ⟨x, M', ρ', rfl, he, hv, hS'⟩
        exact hK x M' ρ' w' he hv hS'
    · subst h; trivial
  · -- unsafe.SliceData
    rename_i hf
    split at h
    · rename_i x
      subst h
      simp only [relL] at hrel
      obtain ⟨y, r', hy, hyr, hr'⟩ := hrel
      subst hr'
      have hmap : c.args.map a.eval = #[y] := by apply Array.ext'; simpa using hy
      have hexec : execOp a.eval o = (do Pure.pure (.value (← Builtin.unsafeSliceData_ c.argTypes o.type #[y]))) := by
        simp [execOp, ho, resolve, hf, invoke, builtin, hmap]
      exact step_lift hexec hS fun v hv => by
        obtain ⟨z, hz, hzr⟩ := evSliceData_ok (P := P) hyr hv c.argTypes o.type
        exact ⟨z, hz w, hzr⟩
    · subst h; trivial
  · -- unsafe.String
    rename_i hf
    split at h
    · rename_i ty p l h0
      simp only [relL] at hrel
      obtain ⟨y, r', hy, hyr, z, r2, rfl, hzr, rfl⟩ := hrel
      have hmap : c.args.map a.eval = #[y, z] := by apply Array.ext'; simpa using hy
      have hexec : execOp a.eval o = (do Pure.pure (.value (← Builtin.unsafeString_ c.argTypes o.type #[y, z]))) := by
        simp [execOp, ho, resolve, hf, invoke, builtin, hmap]
      cases r with
      | no => trivial
      | val v H' => exact step_of_ok hexec (evUnsafeString_ok hT hS hyr hzr h c.argTypes h0 o.type)
      | pan v H' =>
        exfalso
        unfold evUnsafeString at h
        simp only [setK_eq] at h
        repeat' (split at h)
        all_goals cases h
    · subst h; trivial
  · -- len
    rename_i hf
    split at h
    · rename_i ty x h0
      subst h
      simp only [relL] at hrel
      obtain ⟨y, r', hy, hyr, hr'⟩ := hrel
      subst hr'
      have hmap : c.args.map a.eval = #[y] := by apply Array.ext'; simpa using hy
      have hexec : execOp a.eval o = (do Pure.pure (.value (← Builtin.len_ c.argTypes o.type #[y]))) := by
        simp [execOp, ho, resolve, hf, invoke, builtin, hmap]
      exact step_lift hexec hS fun v hv => by
        obtain ⟨z, hz, hzr⟩ := evLen_ok hT hyr hv c.argTypes h0 o.type
        exact ⟨z, hz w, hzr⟩
    · subst h; trivial
  · -- append
    rename_i hf
    split at h
    · rename_i ty ty2 s x h0 h1
      simp only [relL] at hrel
      obtain ⟨y, r', hy, hyr, z, r2, rfl, hzr, rfl⟩ := hrel
      have hmap : c.args.map a.eval = #[y, z] := by apply Array.ext'; simpa using hy
      have hexec : execOp a.eval o = (do Pure.pure (.value (← Builtin.append_ c.argTypes o.type #[y, z]))) := by
        simp [execOp, ho, resolve, hf, invoke, builtin, hmap]
      have key : ∀ d1, P.underlying ty2 = some d1 → ((∃ e', d1 = TypeDesc.slice e') ∨ d1 = .string) → evAppend T ty s x H = r → StepOK P T o a M ρ w Q K r := by
        intro d1 hd1 hd2 hr
        cases hr2 : r with
        | no => trivial
        | val v H' => exact step_of_ok hexec (evAppend_ok hT hS hyr hzr (hr.trans hr2) c.argTypes h0 h1 hd1 hd2 o.type)
        | pan v H' =>
          exfalso
          rw [hr2] at hr
          unfold evAppend at hr
          simp only [newB_eq, setB_eq, setK_eq] at hr
          repeat' (split at hr)
          all_goals cases hr
      split at h
      · rename_i e' hu
        exact key _ (hT.und _ _ hu) (.inl ⟨_, rfl⟩) h
      · rename_i hu
        exact key _ (hT.und _ _ hu) (.inr rfl) h
      · subst h; trivial
    · subst h; trivial
  · -- max
    rename_i hf
    split at h
    · rename_i x y
      subst h
      simp only [relL] at hrel
      obtain ⟨y', r', hy, hyr, z, r2, rfl, hzr, rfl⟩ := hrel
      have hmap : c.args.map a.eval = #[y', z] := by apply Array.ext'; simpa using hy
      have hexec : execOp a.eval o = (do Pure.pure (.value (← Builtin.max_ c.argTypes o.type #[y', z]))) := by
        simp [execOp, ho, resolve, hf, invoke, builtin, hmap]
      exact step_lift hexec hS fun v hv => by
        unfold evMax at hv
        split at hv
        · cases hv
          simp only [rel] at hyr hzr
          subst hyr hzr
          rename_i k a' k' b' _
          exact ⟨.int k (if b' > a' then b' else a'), by simp [Builtin.max_, Builtin.max2], by simp [rel]⟩
        · rename_i heq; cases heq
        · cases hv
    · subst h; trivial
  · -- min
    rename_i hf
    split at h
    · rename_i x y
      subst h
      simp only [relL] at hrel
      obtain ⟨y', r', hy, hyr, z, r2, rfl, hzr, rfl⟩ := hrel
      have hmap : c.args.map a.eval = #[y', z] := by apply Array.ext'; simpa using hy
      have hexec : execOp a.eval o = (do Pure.pure (.value (← Builtin.min_ c.argTypes o.type #[y', z]))) := by
        simp [execOp, ho, resolve, hf, invoke, builtin, hmap]
      exact step_lift hexec hS fun v hv => by
        unfold evMax at hv
        split at hv
        · rename_i heq; cases heq
        · cases hv
          simp only [rel] at hyr hzr
          subst hyr hzr
          rename_i k a' k' b' _
          exact ⟨.int k (if b' < a' then b' else a'), by simp [Builtin.min_, Builtin.min2], by simp [rel]⟩
        · cases hv
    · subst h; trivial
  · subst h; trivial
end
end Go.Ev
