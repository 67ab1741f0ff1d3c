/- How many parts a tree has with another part in it. -/
import Derived.Test.YtddpjgoboboidaaGreatDoorPtS
namespace Go.Ev
open Go Go.Proofs
set_option maxRecDepth 100000
set_option linter.unusedSimpArgs false
set_option linter.unusedVariables false
theorem atV_nd (x : Nd) (p : List Int) : ∃ (A : Nd) (e : Int), atV x p = .tup [A.enc, .i .i64 e] ∧ A.num ≤ x.num + 1 := by
  unfold atV
  cases h : walkN x p with
  | some f => exact ⟨f, 0, rfl, by have := walkN_num p x f h; omega⟩
  | none => exact ⟨noNd, 5, rfl, by show 1 ≤ _; omega⟩
theorem numL_set : ∀ (l : List Nd) (i : Nat) (z : Nd), Nd.numL (l.set i z) ≤ Nd.numL l + z.num
  | [], i, z => by simp [Nd.numL]
  | x :: l, 0, z => by simp only [List.set_cons_zero, Nd.numL]; omega
  | x :: l, i + 1, z => by
    have := numL_set l i z
    simp only [List.set_cons_succ, Nd.numL]
    omega
theorem numL_set2 : ∀ (l : List Nd) (i : Nat) (k z : Nd) (n : Nat), l[i]? = some k → z.num ≤ k.num + n → Nd.numL (l.set i z) ≤ Nd.numL l + n
  | [], i, k, z, n, h, _ => by simp at h
  | x :: l, 0, k, z, n, h, hz => by
    simp only [List.getElem?_cons_zero, Option.some.injEq] at h
    subst h
    simp only [List.set_cons_zero, Nd.numL]; omega
  | x :: l, i + 1, k, z, n, h, hz => by
    simp only [List.getElem?_cons_succ] at h
    have := numL_set2 l i k z n h hz
    simp only [List.set_cons_succ, Nd.numL]
    omega
theorem putN_num (y : Nd) : ∀ (p : List Int) (x : Nd), (putN x p y).num ≤ x.num + y.num
  | [], x => by simp only [putN]; omega
  | i :: p, x => by
    simp only [putN]
    split
    · rename_i k hk
      have h1 := putN_num y p k
      have h2 := numL_set2 _ _ k (putN k p y) y.num hk h1
      have h3 := x.num_eq
      simp only [Nd.num]
      omega
    · omega
theorem putV_nd (x : Nd) (p : List Int) (y : Nd) : ∃ (A : Nd) (e : Int), putV x p y = .tup [A.enc, .i .i64 e] ∧ A.num ≤ x.num + y.num := by
  unfold putV
  cases h : walkN x p with
  | some f => exact ⟨putN x p y, 0, rfl, putN_num y p x⟩
  | none => exact ⟨noNd, 5, rfl, by have := x.num_pos; show 1 ≤ _; omega⟩
end Go.Ev
