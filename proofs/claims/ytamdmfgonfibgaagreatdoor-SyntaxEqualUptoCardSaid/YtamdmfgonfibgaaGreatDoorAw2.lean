/- The functions do what the law asks ahead of the rest. -/
import Derived.Test.YtamdmfgonfibgaaGreatDoorAw
namespace Go.Ev
open Go Go.Proofs
set_option maxRecDepth 1000000
theorem awake_run : (match evFun TT G1 3000 5 [] [] with | .val (.b true) _ => true | _ => false) = true := by kernel_rfl
/-- awake. -/
def spAwake : List V → Heap → OR
  | [], H => .val (.b true) H
  | _, _ => .no
theorem ok5 : SpecOK Tryz.prog TT 5 spAwake := by
  intro vs H r h hne
  unfold spAwake at h
  split at h
  · subst h
    have hl := awake_run
    split at hl
    · rename_i J he
      obtain ⟨h1, h2⟩ := evFun_ok TT_ok G1_ok 3000 5 [] [] _ he (by simp)
      refine ⟨h1, fun M ρ w args hS hr => ?_⟩
      exact CallOK.frame rfl hS (h2 M [] w args (hS.forget TT_plain) (nlL_rel [] args rfl hr))
    · cases hl
  · exact absurd h.symm hne
end Go.Ev
