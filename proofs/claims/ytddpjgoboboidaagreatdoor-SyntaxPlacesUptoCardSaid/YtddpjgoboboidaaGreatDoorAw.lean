/- The functions do what the law asks ahead of the rest. -/
import Derived.Test.YtddpjgoboboidaaGreatDoorAtS
import Derived.Test.YtddpjgoboboidaaGreatDoorAwI
import Derived.Test.YtddpjgoboboidaaGreatDoorEvIter
namespace Go.Ev
open Go Go.Proofs Go.RowKit
set_option maxRecDepth 1000000
theorem rel_isl0 {M M' : Mem} {ρ ρ' : Ren} {n : Nat} {x : Value} (h : rel M ρ (.isl n []) x) : rel M' ρ' (.isl n []) x := by
  simp only [rel] at h ⊢
  obtain ⟨a, k, h1, h2, _⟩ := h
  exact ⟨a, k, h1, h2, fun e => absurd rfl e⟩
theorem weak_isl {n : Nat} {l l' : List V} (h : ∀ (M : Mem) (ρ : Ren) (b o : Nat), relRow M ρ n l b o → relRow M ρ n l' b o) (hl : l.length = l'.length) (h0 : l' ≠ [] → l ≠ []) : Weak (.isl n l) (.isl n l') := fun M ρ x k => by
  simp only [rel] at k ⊢
  obtain ⟨a, k, h1, h2, h3⟩ := k
  refine ⟨a, k, by rw [← hl]; exact h1, by omega, fun e => ?_⟩
  obtain ⟨b, o, h4, h5⟩ := h3 (h0 e)
  exact ⟨b, o, h4, h _ _ _ _ h5⟩
/-- The tree of awake. -/
def axN : Nd := .mk 27 [] [.mk 23 [120] [], .mk 19 [49] []]
def ndV (k : Int) (t : List UInt8) : V := .agg [.i .i64 k, .s t, .nils]
def axV : V := .agg [.i .i64 27, .s [], .isl 3 [ndV 23 [120], ndV 19 [49]]]
/-- A value that has nothing to do with the memory. -/
def MFree (v : V) : Prop := ∀ (M M' : Mem) (ρ ρ' : Ren) (x : Value), rel M ρ v x → rel M' ρ' v x
def MFreeL (l : List V) : Prop := ∀ (M M' : Mem) (ρ ρ' : Ren) (x : List Value), relL M ρ l x → relL M' ρ' l x
theorem MFreeL.nil : MFreeL [] := fun _ _ _ _ _ h => by simpa only [relL] using h
theorem MFreeL.cons {v : V} {l : List V} (h : MFree v) (hl : MFreeL l) : MFreeL (v :: l) := fun M M' ρ ρ' x k => by
  simp only [relL] at k ⊢
  obtain ⟨a, b, e, h1, h2⟩ := k
  exact ⟨a, b, e, h M M' ρ ρ' a h1, hl M M' ρ ρ' b h2⟩
theorem MFreeL.agg {l : List V} (h : MFreeL l) : MFree (.agg l) := fun M M' ρ ρ' x k => by
  simp only [rel] at k ⊢
  obtain ⟨cs, e, h1⟩ := k
  exact ⟨cs, e, h M M' ρ ρ' cs h1⟩
theorem MFreeL.tup {l : List V} (h : MFreeL l) : MFree (.tup l) := fun M M' ρ ρ' x k => by
  simp only [rel] at k ⊢
  obtain ⟨cs, e, h1⟩ := k
  exact ⟨cs, e, h M M' ρ ρ' cs h1⟩
theorem free_i {k : IntKind} {n : Int} : MFree (.i k n) := fun _ _ _ _ _ h => by simpa only [rel] using h
theorem free_s {l : List UInt8} : MFree (.s l) := fun _ _ _ _ _ h => by simpa only [rel] using h
theorem free_isl0 {n : Nat} : MFree (.isl n []) := fun _ _ _ _ _ h => rel_isl0 h
theorem leaf_free (k : Int) (t : List UInt8) : MFree (Nd.enc (.mk k t [])) := MFreeL.agg (MFreeL.cons free_i (MFreeL.cons free_s (MFreeL.cons free_isl0 MFreeL.nil)))
theorem leaf_weak (k : Int) (t : List UInt8) : Weak (ndV k t) (Nd.enc (.mk k t [])) := by
  refine WeakL.agg (WeakL.cons (Weak.refl _) (WeakL.cons (Weak.refl _) (WeakL.cons (weak_nils 3) WeakL.nil)))
theorem axV_weak : Weak axV axN.enc := by
  refine WeakL.agg (WeakL.cons (Weak.refl _) (WeakL.cons (Weak.refl _) (WeakL.cons (weak_isl ?_ rfl (fun _ => by simp)) WeakL.nil)))
  intro M ρ b o h
  simp only [relRow] at h ⊢
  obtain ⟨⟨x, h1, h2, h3⟩, ⟨y, h4, h5, h6⟩, _⟩ := h
  exact ⟨⟨x, leaf_weak _ _ _ _ _ h1, h2, h3⟩, ⟨y, leaf_weak _ _ _ _ _ h4, h5, h6⟩, trivial⟩
/-- syntax.At of awake's tree. -/
def spAt : List V → Heap → OR
  | [x, p], H => match fz H 60 x, fz H 60 p with
    | some a, some b => if (a.beq axV && b.beq (.isl 1 [.i .i64 1])) = true then .val (.tup [Nd.enc (.mk 19 [49] []), .i .i64 0]) H else .no
    | _, _ => .no
  | _, _ => .no
theorem axN_at : atV axN [1] = .tup [Nd.enc (.mk 19 [49] []), .i .i64 0] := by kernel_rfl
theorem ok12 : SpecOK Tryz.prog TT 8 spAt := by
  obtain ⟨g, hg, hs⟩ := sp12
  intro vs H r h hne
  unfold spAt at h
  split at h
  · rename_i H x p
    split at h
    · rename_i a b ha hb
      split at h
      · rename_i hab
        subst h
        rw [Bool.and_eq_true] at hab
        have ea := V.beq_eq _ _ hab.1
        have eb := V.beq_eq _ _ hab.2
        subst ea eb
        have h12 := hs axN [1] (by decide) (by decide) []
        rw [axN_at] at h12
        obtain ⟨k1, k2⟩ := hg _ _ _ h12 (by simp)
        refine ⟨k1, fun M ρ w args hS hr => ?_⟩
        simp only [relL] at hr
        obtain ⟨y, r, rfl, hy, z, r2, rfl, hz, rfl⟩ := hr
        obtain ⟨h1, n1⟩ := fz_rel hS 60 _ _ _ ha hy
        obtain ⟨h2, n2⟩ := fz_rel hS 60 _ _ _ hb hz
        have hS0 := hS.freeze TT_plain
        have hr0 : relL (frz M ρ _ w) [] [axN.enc, .isl 1 [.i .i64 1]] [y, z] := relL_cons (axV_weak _ _ _ (nl_rel _ _ n1 h1)) (relL_cons (nl_rel _ _ n2 h2) (by simp only [relL]))
        refine Calls.mono (k2 _ [] w _ hS0 hr0) ?_
        rintro e w' ⟨v, M', ρ', rfl, he, hv, _⟩
        have hB : Below w.heap.size w w' := ⟨he.os, he.tape, he.output, he.size, fun k hk => he.frame k hk (fun c hc => by simp at hc)⟩
        refine ⟨v, M, ρ, rfl, ext_below hB, ?_, sr_below hS hB⟩
        exact (MFreeL.tup (MFreeL.cons (leaf_free _ _) (MFreeL.cons free_i MFreeL.nil))) _ _ _ _ _ hv
      · exact absurd h.symm hne
    · exact absurd h.symm hne
  · exact absurd h.symm hne
noncomputable def G1 : Gam := fun f vs H => if f = 31 then some (spShapes vs H) else if f = 41 then some (spX vs H) else if f = 8 then some (spAt vs H) else none
theorem G1_ok : G1.Sound Tryz.prog TT := by
  intro f vs H r h hne
  simp only [G1] at h
  split at h
  · rename_i e; subst e; exact ok15 vs H r (Option.some.inj h) hne
  · split at h
    · rename_i e; subst e; exact ok26x vs H r (Option.some.inj h) hne
    · split at h
      · rename_i e; subst e; exact ok12 vs H r (Option.some.inj h) hne
      · cases h
end Go.Ev

namespace Go.Ev
open Go Go.Proofs
set_option maxRecDepth 1000000
theorem awake_run : (match evFun TT G1 3000 7 [] [] with | .val (.b true) _ => true | _ => false) = true := by kernel_rfl
/-- awake. -/
def spAwake : List V → Heap → OR
  | [], H => .val (.b true) H
  | _, _ => .no
theorem ok5 : SpecOK Tryz.prog TT 7 spAwake := by
  intro vs H r h hne
  unfold spAwake at h
  split at h
  · subst h
    have hl := awake_run
    split at hl
    · rename_i J he
      obtain ⟨h1, h2⟩ := evFun_ok TT_ok G1_ok 3000 7 [] [] _ he (by simp)
      refine ⟨h1, fun M ρ w args hS hr => ?_⟩
      exact CallOK.frame rfl hS (h2 M [] w args (hS.forget TT_plain) (nlL_rel [] args rfl hr))
    · cases hl
  · exact absurd h.symm hne
end Go.Ev
