/- Facts of functions that return a number or a truth. -/
import Derived.Test.YtddpjgoboboidaaGreatDoorEvIter
import Derived.Test.YtddpjgoboboidaaGreatDoorNodes
namespace Go.Ev
open Go Go.Proofs
set_option maxRecDepth 100000
set_option linter.unusedSimpArgs false
set_option linter.unusedVariables false
section
variable {P : Program} {T : Tab}
theorem Body.bool {F : FuncId} {vs : List V} {b : Bool} (h : Body P T F vs (.val (.b b))) : EBody P T F vs (fun r => ∃ b : Bool, r = .val (.b b)) := by
  obtain ⟨fn, c, h1, h2, h3, o, ho, hx⟩ := h
  exact ⟨fn, c, h1, h2, h3, o, ⟨_, ⟨b, rfl⟩, ho⟩, hx⟩
theorem EBody.mono {F : FuncId} {vs : List V} {R R' : Res → Prop} (h : EBody P T F vs R) (hr : ∀ r, R r → R' r) : EBody P T F vs R' := by
  obtain ⟨fn, c, h1, h2, h3, o, ⟨r, k1, k2⟩, hx⟩ := h
  exact ⟨fn, c, h1, h2, h3, o, ⟨r, hr r k1, k2⟩, hx⟩
theorem spec_bool (hT : TOk P T) (hp : T.Plain) (F : FuncId) {α : Type} (args : α → List V) (ok : α → Prop) (hnl : ∀ a, ok a → nlL (args a) = true) (h : ∀ a, ok a → EBody P T F (args a) (fun r => ∃ b : Bool, r = .val (.b b))) :
    ∃ g, SpecOK P T F g ∧ ∀ a, ok a → ∃ b : Bool, ∀ H, g (args a) H = .val (.b b) H := by
  obtain ⟨g, hg, hs⟩ := spec_pure hT hp F (fun vs => ∃ a, ok a ∧ vs = args a) (fun _ r => ∃ b : Bool, r = .val (.b b)) (by
    rintro vs ⟨a, ha, rfl⟩
    exact ⟨hnl a ha, by rintro r ⟨b, rfl⟩; rfl, h a ha⟩)
  refine ⟨g, hg, fun a ha => ?_⟩
  obtain ⟨r, ⟨b, rfl⟩, hr⟩ := hs (args a) ⟨a, ha, rfl⟩
  exact ⟨b, hr⟩
theorem spec_int (hT : TOk P T) (hp : T.Plain) (F : FuncId) {α : Type} (args : α → List V) (ok : α → Prop) (hnl : ∀ a, ok a → nlL (args a) = true) (h : ∀ a, ok a → EBody P T F (args a) (fun r => ∃ b : Int, r = .val (.i .i64 b))) :
    ∃ g, SpecOK P T F g ∧ ∀ a, ok a → ∃ b : Int, ∀ H, g (args a) H = .val (.i .i64 b) H := by
  obtain ⟨g, hg, hs⟩ := spec_pure hT hp F (fun vs => ∃ a, ok a ∧ vs = args a) (fun _ r => ∃ b : Int, r = .val (.i .i64 b)) (by
    rintro vs ⟨a, ha, rfl⟩
    exact ⟨hnl a ha, by rintro r ⟨b, rfl⟩; rfl, h a ha⟩)
  refine ⟨g, hg, fun a ha => ?_⟩
  obtain ⟨r, ⟨b, rfl⟩, hr⟩ := hs (args a) ⟨a, ha, rfl⟩
  exact ⟨b, hr⟩
theorem spec_val (hT : TOk P T) (hp : T.Plain) (F : FuncId) {α : Type} (args : α → List V) (ok : α → Prop) (f : α → V) (hnl : ∀ a, ok a → nlL (args a) = true) (hf : ∀ a, nl (f a) = true) (hinj : ∀ a b, args a = args b → f a = f b) (h : ∀ a, ok a → Body P T F (args a) (.val (f a))) :
    ∃ g, SpecOK P T F g ∧ ∀ a, ok a → ∀ H, g (args a) H = .val (f a) H := by
  obtain ⟨g, hg, hs⟩ := spec_pure hT hp F (fun vs => ∃ a, ok a ∧ vs = args a) (fun vs r => ∃ a, args a = vs ∧ r = .val (f a)) (by
    rintro vs ⟨a, ha, rfl⟩
    refine ⟨hnl a ha, by rintro r ⟨b, _, rfl⟩; exact hf b, (h a ha).ex.mono ?_⟩
    rintro r rfl
    exact ⟨a, rfl, rfl⟩)
  refine ⟨g, hg, fun a ha H => ?_⟩
  obtain ⟨r, ⟨b, e, rfl⟩, hr⟩ := hs (args a) ⟨a, ha, rfl⟩
  rw [hr H, hinj b a e]
  rfl
end
/-- Texts and trees of which these are: at most so many bytes and nodes. -/
abbrev NT : Nat := 1090000
theorem w_here (call : CallF) (F : FuncId) (g : Spec) : ∀ vs H, call.with F g F vs H = g vs H := fun vs H => CallF.with_here call F g vs H
theorem w_other (call : CallF) (F f : FuncId) (g : Spec) (h : (f == F) = false) : ∀ vs H, call.with F g f vs H = call f vs H := fun vs H => CallF.with_other call g vs H h
theorem n0 : CallF.none.Sound Tryz.prog TT := CallF.none_sound
theorem ws {call : CallF} (hc : call.Sound Tryz.prog TT) {F : FuncId} {g : Spec} (hg : SpecOK Tryz.prog TT F g) : (call.with F g).Sound Tryz.prog TT := CallF.with_sound hc hg
end Go.Ev
