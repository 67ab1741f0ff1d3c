/- One name is a name. -/
import Derived.Test.YtddpjgoboboidaaGreatDoorShT
namespace Go.Ev
open Go Go.Proofs Go.RowKit
set_option maxRecDepth 1000000
theorem isIdent_x : (match evFun TT (gamOf Con.none) 3000 41 [.s [120]] [] with | .val (.b true) _ => true | _ => false) = true := by kernel_rfl
/-- token.IsIdent of "x". -/
def spX : List V → Heap → OR
  | [.s [c]], H => if c = 120 then .val (.b true) H else .no
  | _, _ => .no
theorem ok26x : SpecOK Tryz.prog TT 41 spX := by
  intro vs H r h hne
  unfold spX at h
  split at h
  · split at h
    · rename_i hc
      subst h hc
      have hl := isIdent_x
      split at hl
      · rename_i J he
        obtain ⟨h1, h2⟩ := con_of_ev TT_ok TT_plain Con.none_sound (r := .val (.b true)) he rfl rfl
        exact ⟨h1, h2 _⟩
      · cases hl
    · exact absurd h.symm hne
  · exact absurd h.symm hne
end Go.Ev
