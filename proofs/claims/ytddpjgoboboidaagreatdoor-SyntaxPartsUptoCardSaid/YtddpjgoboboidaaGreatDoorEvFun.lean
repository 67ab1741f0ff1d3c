/- A whole function does what the evaluator says, for every depth of calls. -/
import Derived.Test.YtddpjgoboboidaaGreatDoorEvSound
namespace Go.Ev
open Go
section
variable {P : Program} {T : Tab}

def Gam.Sound (P : Program) (T : Tab) (G : Gam) : Prop :=
  ∀ f vs H r, G f vs H = some r → r ≠ .no → Go.Proofs.Enters P f ∧ ∀ M ρ w args, SR T M ρ H w → relL M ρ vs args → CallOK P T f args.toArray M ρ w r

theorem results_ok (hT : TOk P T) {M : Mem} {ρ : Ren} {w : World} {H : Heap} (hS : SR T M ρ H w) {t : Env} {tmps : Array Value} (ht : relT M ρ t tmps) {fn : Func} {v : V} {H' : Heap} (h : finish T fn t H = .val v H') :
    H' = H ∧ ∃ x, (results fn tmps).run P w = .ok x w ∧ rel M ρ v x := by
  unfold finish at h
  have hmm : ∀ {xs : List Value}, (fn.results.toList.mapM (m := Sem) fun r => match r with | .tmp k => Pure.pure (tmps.getD k undef) | .cell b ty => do loadVar ty (← asAddr (tmps.getD b undef))).run P w = .ok xs w →
      (results fn tmps).run P w = .ok (if h : xs.toArray.size = 1 then xs.toArray[0] else .tuple xs.toArray) w := by
    intro xs hxs
    simp only [results, Array.mapM_eq_mapM_toList, Sem.run_bind]
    refine (congrArg (fun r => Result.andThen r _) (run_fmap List.toArray _ hxs)).trans ?_
    rfl
  split at h
  · rename_i y hy
    cases h
    obtain ⟨xs, hxs, hr⟩ := evResults_ok hT hS ht hy
    simp only [relL] at hr
    obtain ⟨x, r, rfl, hx, rfl⟩ := hr
    exact ⟨rfl, x, by simpa using hmm hxs, hx⟩
  · rename_i l hl hy
    cases h
    obtain ⟨xs, hxs, hr⟩ := evResults_ok hT hS ht hy
    have hlen := relL_length hr
    have hne : ¬ xs.toArray.size = 1 := by
      intro h1
      simp at h1
      rw [hlen] at h1
      obtain ⟨z, rfl⟩ := List.length_eq_one_iff.1 h1
      exact hl z rfl
    refine ⟨rfl, .tuple xs.toArray, ?_, by simp only [rel]; exact ⟨xs, rfl, hr⟩⟩
    have := hmm hxs
    rwa [dif_neg hne] at this
  · cases h

theorem finish_no_pan {T : Tab} {fn : Func} {t : Env} {H H' : Heap} {v : V} : finish T fn t H ≠ .pan v H' := by
  unfold finish
  split <;> simp

theorem evFunR_ok (hT : TOk P T) {reg : CallF → RegF} (hreg : ∀ call : CallF, call.Sound P T → RegF.Sound P T (reg call)) {G : Gam} (hG : G.Sound P T) : ∀ n, CallF.Sound P T (evFunR T reg G n)
  | 0 => fun f vs H r h hr => absurd h.symm hr
  | n + 1 => by
    have ih := evFunR_ok hT hreg hG n
    intro f vs H r h hr
    simp only [evFunR] at h
    split at h
    · rename_i r' hg
      subst h
      exact hG f vs H _ hg hr
    · split at h
      · exact absurd h.symm hr
      · rename_i fn hfn
        split at h
        · exact absurd h.symm hr
        · rename_i c hc
          obtain ⟨hf, hent⟩ := hT.func f fn c hfn hc
          refine ⟨hent, fun M ρ w args hS hargs => ?_⟩
          have hR := hreg _ ih
          have hL := evLoop_ok (P := P) (T := T) hR n
          cases hw : Nat.ble vs.length fn.ntmps with
          | false => rw [hw] at h; exact absurd h.symm hr
          | true =>
          rw [hw] at h
          simp only [cond_true] at h
          have hle : vs.length ≤ fn.ntmps := Nat.le_of_ble_eq_true hw
          have hl := relL_length hargs
          have htm : relTm M ρ (Tm.init fn.ntmps vs) (args.toArray ++ Array.replicate (fn.ntmps - args.toArray.size) undef) := by
            refine ⟨by simp [Tm.init]; omega, fun k => ?_⟩
            simp only [Tm.init, Tm.get]
            rw [Tr.get_fill, if_pos (Nat.zero_le _), Nat.sub_zero]
            simp only [Tr.get, Array.getD_eq_getD_getElem?]
            by_cases hk : k < vs.length
            · rw [Array.getElem?_append_left (by simp; omega)]
              obtain ⟨x, hx, hxr⟩ := relL_get hargs (i := k) (v := vs[k]) (List.getElem?_eq_getElem hk)
              rw [List.getElem?_eq_getElem hk]
              simp only [List.getElem?_toArray, hx, Option.getD_some]
              exact hxr
            · rw [List.getElem?_eq_none (by omega)]
              have : ((args.toArray ++ Array.replicate (fn.ntmps - args.toArray.size) undef)[k]?).getD undef = undef := by
                rw [Array.getElem?_append_right (by simp; omega), Array.getElem?_replicate]
                split <;> rfl
              rw [this]
              exact rel_undef
          have key := fun R => evCode_ok (P := P) (T := T) hR hL c (Tm.init fn.ntmps vs) H { tmps := args.toArray ++ Array.replicate (fn.ntmps - args.toArray.size) undef, defers := [] } w M ρ (bodyPost P fn R) hS htm
          cases hev : evCode (reg (evFunR T reg G n)) (evLoop (reg (evFunR T reg G n)) n) c (Tm.init fn.ntmps vs) H with
          | norm t' H' =>
            rw [hev] at h
            simp only at h
            cases r with
            | no => trivial
            | pan v H2 => exact absurd h finish_no_pan
            | val v H2 =>
              refine calls_of_wp hf hc ((key _ ?_).1)
              rw [hev]
              intro a' w' M' ρ' he ht' hS' hd
              obtain ⟨rfl, x, hx, hxr⟩ := results_ok hT hS' ht'.2 h
              exact ⟨hd, x, hx, x, M', ρ', rfl, he, hxr, hS'⟩
          | ret t' H' =>
            rw [hev] at h
            simp only at h
            cases r with
            | no => trivial
            | pan v H2 => exact absurd h finish_no_pan
            | val v H2 =>
              refine calls_of_wp hf hc ((key _ ?_).1)
              rw [hev]
              intro a' w' M' ρ' he ht' hS' hd
              obtain ⟨rfl, x, hx, hxr⟩ := results_ok hT hS' ht'.2 h
              exact ⟨hd, x, hx, x, M', ρ', rfl, he, hxr, hS'⟩
          | pan v t' H' =>
            rw [hev] at h
            simp only at h
            subst h
            refine calls_of_wp hf hc ((key _ ?_).1)
            rw [hev]
            intro a' w' M' ρ' x he hx hS' hd
            exact ⟨hd, x, M', ρ', rfl, he, hx, hS'⟩
          | exit id t' H' => rw [hev] at h; exact absurd h.symm hr
          | no => rw [hev] at h; exact absurd h.symm hr

theorem evSeqReg_ok (hT : TOk P T) {call : CallF} (hcall : call.Sound P T) {id : Nat} {ops : Array Oper} {t : Tm} {H : Heap} {a : Act} {w : World} {M : Mem} {ρ : Ren} {Q : Exit → Act → World → Prop} (hS : SR T M ρ H w) (ht : relTm M ρ t a.tmps)
    (h : OutOK T M ρ w Q a.defers (evSeq (evOp T call) ops ops.toList t H)) : (Code.region id ops false).wp P Q a w :=
  wp_region_list (evSeq_ok hT hcall ops ops.toList t H a w M ρ hS ht h)
end
end Go.Ev
