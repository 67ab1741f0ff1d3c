/- The walk of the look whether the functions do anything at all. -/
import Derived.Test.YtamdmfgonfibgaaGreatDoorAt1
import Derived.Test.YtamdmfgonfibgaaGreatDoorShT
import Derived.Test.YtamdmfgonfibgaaGreatDoorShf
namespace Go.Ev
open Go Go.Proofs Go.RowKit
set_option maxRecDepth 1000000
theorem isIdent_x : (match evFun TT (gamOf Con.none) 3000 26 [.s [120]] [] with | .val (.b true) _ => true | _ => false) = true := by kernel_rfl
/-- token.IsIdent of "x". -/
def spX : List V → Heap → OR
  | [.s [c]], H => if c = 120 then .val (.b true) H else .no
  | _, _ => .no
theorem ok26x : SpecOK Tryz.prog TT 26 spX := by
  intro vs H r h hne
  unfold spX at h
  split at h
  · split at h
    · rename_i hc
      subst h hc
      have hl := isIdent_x
      split at hl
      · rename_i J he
        obtain ⟨h1, h2⟩ := con_of_ev TT_ok TT_plain Con.none_sound (r := .val (.b true)) he rfl rfl
        exact ⟨h1, h2 _⟩
      · cases hl
    · exact absurd h.symm hne
  · exact absurd h.symm hne
/-- syntax.At of awake's tree. -/
def spAt : List V → Heap → OR
  | [x, p], H => match fz H 60 x, fz H 60 p with
    | some a, some b => if (a.beq axV && b.beq (.isl 1 [.i .i64 1])) = true then .val (.tup [ndV 19 [49], .i .i64 0]) H else .no
    | _, _ => .no
  | _, _ => .no
theorem ok12 : SpecOK Tryz.prog TT 12 spAt := by
  intro vs H r h hne
  unfold spAt at h
  split at h
  · rename_i H x p
    split at h
    · rename_i a b ha hb
      split at h
      · rename_i hab
        subst h
        rw [Bool.and_eq_true] at hab
        have ea := V.beq_eq _ _ hab.1
        have eb := V.beq_eq _ _ hab.2
        subst ea eb
        refine ⟨(TT_ok.func 12 _ _ rfl rfl).2, fun M ρ w args hS hr => ?_⟩
        simp only [relL] at hr
        obtain ⟨y, r, rfl, hy, z, r2, rfl, hz, rfl⟩ := hr
        obtain ⟨h1, n1⟩ := fz_rel hS 60 _ _ _ ha hy
        obtain ⟨h2, n2⟩ := fz_rel hS 60 _ _ _ hb hz
        have hS0 := hS.freeze TT_plain
        have hr0 : relL (frz M ρ _ w) [] [axV, .isl 1 [.i .i64 1]] [y, z] := relL_cons (nl_rel _ _ n1 h1) (relL_cons (nl_rel _ _ n2 h2) (by simp only [relL]))
        refine Calls.mono (at1 hS0 hr0) ?_
        rintro e w' ⟨l, v, M', ρ', rfl, he, hv, _⟩
        have hB : Below w.heap.size w w' := ⟨he.os, he.tape, he.output, he.size, fun k hk => he.frame k hk (fun c hc => by simp at hc)⟩
        refine ⟨v, M, ρ, rfl, ext_below hB, ?_, sr_below hS hB⟩
        simp only [rel, relL, ndV] at hv ⊢
        exact hv
      · exact absurd h.symm hne
    · exact absurd h.symm hne
  · exact absurd h.symm hne
noncomputable def G1 : Gam := fun f vs H => if f = 15 then some (spShapes vs H) else if f = 26 then some (spX vs H) else if f = 12 then some (spAt vs H) else none
theorem G1_ok : G1.Sound Tryz.prog TT := by
  intro f vs H r h hne
  simp only [G1] at h
  split at h
  · rename_i e; subst e; exact ok15 vs H r (Option.some.inj h) hne
  · split at h
    · rename_i e; subst e; exact ok26x vs H r (Option.some.inj h) hne
    · split at h
      · rename_i e; subst e; exact ok12 vs H r (Option.some.inj h) hne
      · cases h
end Go.Ev
