/- The card. -/
import Derived.Test.YtmjplflnlggbeaaGreatDoorEWitE
import Derived.OpenShut
import Derived.JoinedCond
namespace Go.Proofs.YtmjplflnlggbeaaGreatDoor
open Go Go.Proofs Go.RowKit
set_option maxRecDepth 1000000
theorem liftedUpto (os : Os) (started : os.Started) (H : Type) (enc : TypeId × Value → H) (F : Stop.Interp) :
    ReturnsInHanded {} Tryz.checked os 8 .any ((Rows.OpenSpec.upto Rows.tokenTextsSpec).preRow enc Tryz.prog Tryz.f8 Rows.tokenTextsUptoRow.domain false Rows.tokenTextsUptoRow.laid) (((Rows.OpenSpec.upto Rows.tokenTextsSpec).at F).post enc Tryz.prog Tryz.f8 false true false false) := by
  obtain ⟨x, hx, hk, hc⟩ : ∃ x, DataW.whole enc Tryz.prog ((laidWorld os).forCall (fun _ _ => 0) ⟨#[], args0, []⟩).memory Tryz.f8.params.toList Rows.tokenTextsSpec.vars false args0.toList 8 = some x ∧
      Rows.uptoSmall H (x.1 ++ x.2.1) = true ∧ (Rows.tokenTextsUptoRow.domain).all (PathCond.test Tryz.prog ⟨Tryz.f8.params.toList, x.1, (Rows.OpenSpec.upto Rows.tokenTextsSpec).bare.plain.varTypes Tryz.prog, x.2.1⟩) = true :=
    ⟨([.nil], [], []), by kernel_rfl, by kernel_rfl, by kernel_rfl⟩
  refine returnsInHanded_of_row (C := Tryz.checked) (s := Rows.OpenSpec.upto Rows.tokenTextsSpec) own started (by kernel_rfl) Tryz.func8
    (witness_row_atRef (enc := enc) (C := Tryz.checked) false (laidWorld os) args0 rfl (by kernel_rfl) (by kernel_rfl) (by kernel_rfl)
      (OpenSpec.preRow_of_cond 8 hx hc (fun k hk' => by cases hk'; exact hk) (by kernel_rfl) (laid_met os))) ?_
  intro W base args ds gs before hval hW _ hcond _ hL hsh _
  exact Go.Ev.contract enc F W base args ds gs before hval hW (of_decide_eq_true (hcond _ rfl)) hL hsh
theorem saidUpto : Rows.TokenTextsUptoSaid :=
 OpenClaim.holds_of_cond 8 Tryz.f8 rfl rfl rfl rfl rfl rfl rfl ⟨rfl, rfl, rfl, rfl, rfl⟩ rfl rfl rfl rfl rfl (by kernel_rfl) Tryz.func8 (by kernel_rfl)
  (of_decide_eq_true (by kernel_rfl)) (by unfold Func.isWrapper; first | (rw [if_pos (by decide +kernel)]; kernel_rfl) | (rw [if_neg (by decide +kernel)]; exact ⟨rfl, rfl⟩))
  (fun os started H enc _ F => by rw [OpenClaim.pre_eq_preRow]; exact liftedUpto os started H enc F)
theorem plain (f : FuncId) (fn : Func) (hf : Tryz.pinned.checked.prog.funcNamed "hackamore/hackamorelaw01.TokenTexts" = some f) (hfn : Tryz.pinned.checked.prog.funcs[f]? = some fn) :
    true = Tryz.pinned.checked.prog.looks [] ∧ ∀ (j : Nat) t, fn.params[j]? = some t → Tryz.pinned.checked.prog.wantsStandIn t = false := by
  obtain rfl : f = 8 := Option.some.inj ((show Tryz.prog.funcNamed "hackamore/hackamorelaw01.TokenTexts" = some 8 by kernel_rfl).symm.trans hf) |>.symm
  obtain rfl : fn = Tryz.f8 := (Option.some.inj (Tryz.func8.symm.trans hfn)).symm
  refine ⟨by kernel_rfl, fun j t ht => ?_⟩
  rw [Tryz.params8] at ht
  have : t = 27 := by simpa using Array.mem_of_getElem? ht
  have k9 : Tryz.prog.wantsStandIn 27 = false := by kernel_rfl
  subst this
  exact k9
theorem cardUpto : Rows.TokenTextsUptoCardSaid :=
 Claim7.holds_tied_plain_at .later [] _ _ _ _ saidUpto (fun _ h => by cases h) (by kernel_rfl) (fun _ h => by cases h) tokenTextsUpto_row_tie rfl ⟨rfl, rfl⟩ (by kernel_rfl) rfl plain (by kernel_rfl)
#print axioms cardUpto
end Go.Proofs.YtmjplflnlggbeaaGreatDoor
