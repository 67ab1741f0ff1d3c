/- What is known of a function is a relation between its arguments and its value; such facts serve as answers to calls. -/
import Derived.Test.YtddpjgoboboidaaGreatDoorEvSym
namespace Go.Ev
open Go
/-- What one function does. -/
abbrev Spec := List V → Heap → OR
section
variable {P : Program} {T : Tab} {F : FuncId}
def SpecOK (P : Program) (T : Tab) (F : FuncId) (g : Spec) : Prop :=
  ∀ vs H r, g vs H = r → r ≠ .no → Go.Proofs.Enters P F ∧ ∀ (M : Mem) (ρ : Ren) (w : World) (args : List Value), SR T M ρ H w → relL M ρ vs args → CallOK P T F args.toArray M ρ w r
def CallF.none : CallF := fun _ _ _ => .no
def CallF.with (call : CallF) (F : FuncId) (g : Spec) : CallF := fun f vs H => if f = F then g vs H else call f vs H
theorem CallF.none_sound : CallF.none.Sound P T := fun _ _ _ _ h hr => absurd h.symm hr
theorem CallF.with_sound {call : CallF} (hc : call.Sound P T) {g : Spec} (hg : SpecOK P T F g) : (call.with F g).Sound P T := by
  intro f vs H r h hr
  simp only [CallF.with] at h
  by_cases e : f = F
  · rw [if_pos e] at h
    subst e
    exact hg vs H r h hr
  · rw [if_neg e] at h
    exact hc f vs H r h hr
theorem CallF.with_here (call : CallF) (F : FuncId) (g : Spec) (vs : List V) (H : Heap) : call.with F g F vs H = g vs H := by simp [CallF.with]
theorem CallF.with_other (call : CallF) {F f : FuncId} (g : Spec) (vs : List V) (H : Heap) (h : (f == F) = false) : call.with F g f vs H = call f vs H := by
  have : ¬ f = F := by simpa using h
  simp [CallF.with, this]
theorem spec_of_sound {call : CallF} (hc : call.Sound P T) (F : FuncId) : SpecOK P T F (call F) := fun vs H r h hr => hc F vs H r h hr

/-- What a function returns on some arguments, on any heap. -/
theorem spec_pure (hT : TOk P T) (hp : T.Plain) (F : FuncId) (D : List V → Prop) (R : List V → Res → Prop)
    (h : ∀ vs, D vs → nlL vs = true ∧ (∀ r, R vs r → r.nl = true) ∧ EBody P T F vs (R vs)) : ∃ g, SpecOK P T F g ∧ ∀ vs, D vs → ∃ r, R vs r ∧ ∀ H, g vs H = r.at H := by
  classical
  have hx : ∀ vs, D vs → ∃ r, R vs r ∧ Body P T F vs r := fun vs hd => (h vs hd).2.2.out
  refine ⟨fun vs H => if hd : D vs then (hx vs hd).choose.at H else .no, ?_, ?_⟩
  · intro vs H r hr hne
    simp only at hr
    split at hr
    · rename_i hd
      obtain ⟨h1, h2⟩ := (hx vs hd).choose_spec
      obtain ⟨h3, h4⟩ := con_of_body hT hp h2 (h vs hd).1 ((h vs hd).2.1 _ h1)
      subst hr
      exact ⟨h3, h4 H⟩
    · exact absurd hr.symm hne
  · intro vs hd
    exact ⟨_, (hx vs hd).choose_spec.1, fun H => dif_pos hd⟩
/-- The same of a function that may call itself, with less. -/
theorem spec_rec (hT : TOk P T) (hp : T.Plain) (F : FuncId) (D : Nat → List V → Prop) (R : List V → Res → Prop)
    (h : ∀ k vs, D k vs → nlL vs = true ∧ (∀ r, R vs r → r.nl = true) ∧ ∀ g, SpecOK P T F g → (∀ j, j < k → ∀ us, D j us → ∃ r, R us r ∧ ∀ H, g us H = r.at H) → EBody P T F vs (R vs)) (K : Nat) :
    ∃ g, SpecOK P T F g ∧ ∀ j, j < K → ∀ vs, D j vs → ∃ r, R vs r ∧ ∀ H, g vs H = r.at H := by
  classical
  induction K with
  | zero => exact ⟨fun _ _ => .no, fun _ _ _ e hr => absurd e.symm hr, fun j hj => absurd hj (Nat.not_lt_zero j)⟩
  | succ K ih =>
    obtain ⟨g, hg, hgs⟩ := ih
    have hx : ∀ vs, D K vs → ∃ r, R vs r ∧ Body P T F vs r := fun vs hd => ((h K vs hd).2.2 g hg hgs).out
    refine ⟨fun vs H => if hd : D K vs then (hx vs hd).choose.at H else g vs H, ?_, ?_⟩
    · intro vs H r hr hne
      simp only at hr
      split at hr
      · rename_i hd
        obtain ⟨h1, h2⟩ := (hx vs hd).choose_spec
        obtain ⟨h3, h4⟩ := con_of_body hT hp h2 (h K vs hd).1 ((h K vs hd).2.1 _ h1)
        subst hr
        exact ⟨h3, h4 H⟩
      · exact hg vs H r hr hne
    · intro j hj vs hd
      by_cases hk : D K vs
      · exact ⟨_, (hx vs hk).choose_spec.1, fun H => dif_pos hk⟩
      · have : j < K := by
          rcases Nat.lt_succ_iff_lt_or_eq.1 hj with h1 | h1
          · exact h1
          · subst h1; exact absurd hd hk
        obtain ⟨r, h1, h2⟩ := hgs j this vs hd
        exact ⟨r, h1, fun H => (dif_neg hk).trans (h2 H)⟩
/-- What a function returns on some arguments and heaps, and what it leaves. -/
theorem spec_heap (hT : TOk P T) (F : FuncId) (D : Nat → List V → Heap → Prop) (R : List V → Heap → V → Heap → Prop)
    (h : ∀ k vs H, D k vs H → ∀ g, SpecOK P T F g → (∀ j, j < k → ∀ us J, D j us J → ∃ v J', R us J v J' ∧ g us J = .val v J') → HBody P T F vs H (R vs H)) (K : Nat) :
    ∃ g, SpecOK P T F g ∧ ∀ j, j < K → ∀ vs H, D j vs H → ∃ v H', R vs H v H' ∧ g vs H = .val v H' := by
  classical
  induction K with
  | zero => exact ⟨fun _ _ => .no, fun _ _ _ e hr => absurd e.symm hr, fun j hj => absurd hj (Nat.not_lt_zero j)⟩
  | succ K ih =>
    obtain ⟨g, hg, hgs⟩ := ih
    have hx : ∀ vs H, D K vs H → ∃ p : V × Heap, R vs H p.1 p.2 ∧ Go.Proofs.Enters P F ∧ ∀ (M : Mem) (ρ : Ren) (w : World) (args : List Value), SR T M ρ H w → relL M ρ vs args → CallOK P T F args.toArray M ρ w (.val p.1 p.2) := fun vs H hd => by
      obtain ⟨v, H', h1, h2⟩ := hbody_fact hT (h K vs H hd g hg hgs)
      exact ⟨(v, H'), h1, h2⟩
    refine ⟨fun vs H => if hd : D K vs H then .val (hx vs H hd).choose.1 (hx vs H hd).choose.2 else g vs H, ?_, ?_⟩
    · intro vs H r hr hne
      simp only at hr
      split at hr
      · rename_i hd
        obtain ⟨_, h2⟩ := (hx vs H hd).choose_spec
        subst hr
        exact h2
      · exact hg vs H r hr hne
    · intro j hj vs H hd
      by_cases hk : D K vs H
      · exact ⟨_, _, (hx vs H hk).choose_spec.1, dif_pos hk⟩
      · have : j < K := by
          rcases Nat.lt_succ_iff_lt_or_eq.1 hj with h1 | h1
          · exact h1
          · subst h1; exact absurd hd hk
        obtain ⟨v, H', h1, h2⟩ := hgs j this vs H hd
        exact ⟨v, H', h1, (dif_neg hk).trans h2⟩
end
end Go.Ev
