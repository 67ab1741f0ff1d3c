/- The law returns true, for all trees and paths within its bounds. -/
import Derived.Test.YtddpjgoboboidaaGreatDoorLawW
import Derived.Test.YtddpjgoboboidaaGreatDoorSq
namespace Go.Ev
open Go Go.Proofs
set_option maxRecDepth 100000
set_option linter.unusedSimpArgs false
set_option linter.unusedVariables false
theorem atV_nd (x : Nd) (p : List Int) : ∃ (A : Nd) (e : Int), atV x p = .tup [A.enc, .i .i64 e] ∧ A.num ≤ x.num + 1 := by
  unfold atV
  cases h : walkN x p with
  | some f => exact ⟨f, 0, rfl, by have := walkN_num p x f h; omega⟩
  | none => exact ⟨noNd, 5, rfl, by show 1 ≤ _; omega⟩
theorem numL_set : ∀ (l : List Nd) (i : Nat) (z : Nd), Nd.numL (l.set i z) ≤ Nd.numL l + z.num
  | [], i, z => by simp [Nd.numL]
  | x :: l, 0, z => by simp only [List.set_cons_zero, Nd.numL]; omega
  | x :: l, i + 1, z => by
    have := numL_set l i z
    simp only [List.set_cons_succ, Nd.numL]
    omega
theorem numL_set2 : ∀ (l : List Nd) (i : Nat) (k z : Nd) (n : Nat), l[i]? = some k → z.num ≤ k.num + n → Nd.numL (l.set i z) ≤ Nd.numL l + n
  | [], i, k, z, n, h, _ => by simp at h
  | x :: l, 0, k, z, n, h, hz => by
    simp only [List.getElem?_cons_zero, Option.some.injEq] at h
    subst h
    simp only [List.set_cons_zero, Nd.numL]; omega
  | x :: l, i + 1, k, z, n, h, hz => by
    simp only [List.getElem?_cons_succ] at h
    have := numL_set2 l i k z n h hz
    simp only [List.set_cons_succ, Nd.numL]
    omega
theorem putN_num (y : Nd) : ∀ (p : List Int) (x : Nd), (putN x p y).num ≤ x.num + y.num
  | [], x => by simp only [putN]; omega
  | i :: p, x => by
    simp only [putN]
    split
    · rename_i k hk
      have h1 := putN_num y p k
      have h2 := numL_set2 _ _ k (putN k p y) y.num hk h1
      have h3 := x.num_eq
      simp only [Nd.num]
      omega
    · omega
theorem putV_nd (x : Nd) (p : List Int) (y : Nd) : ∃ (A : Nd) (e : Int), putV x p y = .tup [A.enc, .i .i64 e] ∧ A.num ≤ x.num + y.num := by
  unfold putV
  cases h : walkN x p with
  | some f => exact ⟨putN x p y, 0, rfl, putN_num y p x⟩
  | none => exact ⟨noNd, 5, rfl, by have := x.num_pos; show 1 ≤ _; omega⟩
/-- SyntaxParts returns true of all trees and paths that fit. -/
theorem law_parts (x y : Nd) (p : List Int) (hxy : x.num + y.num < NT) : Body Tryz.prog TT 3 [x.enc, y.enc, .isl 1 (encI p)] (.val (.b true)) := by
  obtain ⟨g4, k4, s4⟩ := sp4
  obtain ⟨g6, k6, s6⟩ := sp6
  obtain ⟨g12, k12, s12⟩ := sp12
  obtain ⟨g9, k9, s9⟩ := sp1009
  obtain ⟨g10, k10, s10⟩ := sp1010
  obtain ⟨g11, k11, s11⟩ := sp1011
  obtain ⟨ge, ke, se⟩ := sp1012
  have hx : x.num < NT := by omega
  have hy : y.num < NT := by omega
  have hpos := y.num_pos
  have hC := ws (ws (ws (ws (ws (ws (ws (ws n0 k4) k6) k12) k9) k10) k11) ke) ok5
  generalize hc : (((((((CallF.none.with 6 g4).with 13 g6).with 8 g12).with 9 g9).with 10 g10).with 11 g11).with 12 ge).with 7 spAwake = call at hC
  have c4 : ∀ vs H, call 6 (vs) H = g4 vs H := fun vs H => by rw [← hc]; rw [w_other _ _ _ _ rfl, w_other _ _ _ _ rfl, w_other _ _ _ _ rfl, w_other _ _ _ _ rfl, w_other _ _ _ _ rfl, w_other _ _ _ _ rfl, w_other _ _ _ _ rfl, w_here]
  have c5 : ∀ H, call 7 [] H = .val (.b true) H := fun H => by rw [← hc]; rw [w_here]; rfl
  have c6 : ∀ vs H, call 13 (vs) H = g6 vs H := fun vs H => by rw [← hc]; rw [w_other _ _ _ _ rfl, w_other _ _ _ _ rfl, w_other _ _ _ _ rfl, w_other _ _ _ _ rfl, w_other _ _ _ _ rfl, w_other _ _ _ _ rfl, w_here]
  have c12 : ∀ vs H, call 8 (vs) H = g12 vs H := fun vs H => by rw [← hc]; rw [w_other _ _ _ _ rfl, w_other _ _ _ _ rfl, w_other _ _ _ _ rfl, w_other _ _ _ _ rfl, w_other _ _ _ _ rfl, w_here]
  have c9 : ∀ vs H, call 9 (vs) H = g9 vs H := fun vs H => by rw [← hc]; rw [w_other _ _ _ _ rfl, w_other _ _ _ _ rfl, w_other _ _ _ _ rfl, w_other _ _ _ _ rfl, w_here]
  have c10 : ∀ vs H, call 10 (vs) H = g10 vs H := fun vs H => by rw [← hc]; rw [w_other _ _ _ _ rfl, w_other _ _ _ _ rfl, w_other _ _ _ _ rfl, w_here]
  have c11 : ∀ vs H, call 11 (vs) H = g11 vs H := fun vs H => by rw [← hc]; rw [w_other _ _ _ _ rfl, w_other _ _ _ _ rfl, w_here]
  have ce : ∀ vs H, call 12 (vs) H = ge vs H := fun vs H => by rw [← hc]; rw [w_other _ _ _ _ rfl, w_here]
  obtain ⟨bx, hbx⟩ := s4 x hx
  obtain ⟨bY, hby⟩ := s4 y hy
  have sx : ∀ H, call 6 [x.enc, .i .i64 200] H = .val (.b bx) H := fun H => (c4 _ H).trans (hbx H)
  have sy : ∀ H, call 6 [y.enc, .i .i64 200] H = .val (.b bY) H := fun H => (c4 _ H).trans (hby H)
  cases bx with
  | false => exact body_1003n1 hC x y p sx c5
  | true =>
    cases bY with
    | false => exact body_1003n2 hC x y p sx sy c5
    | true =>
      by_cases hl : (30 : Int) < p.length
      · exact body_1003n3 hC x y p sx sy c5 hl
      · have hp : p.length < 1100000 := by omega
        obtain ⟨A, e, hA, hAn⟩ := atV_nd x p
        obtain ⟨B, f, hB, hBn⟩ := putV_nd x p y
        refine body_1003y hC x y p sx sy c5 hl A B e f (eqN x y) (fun H => ?_) (fun H => ?_) (fun H => ?_) (fun H => ?_) (fun H => ?_) (fun H => ?_) (fun H => ?_) (fun H => ?_)
        · rw [c12, s12 x p hx hp H, hA]
        · rw [c9, s9 x p hp H, hA]
        · rw [c10, s10 x p y hx hp hy H, hB]
        · rw [c11, s11 x p y hx hp H, hB]
        · rw [ce, se A A (by omega) H, eqN_refl]
        · rw [ce, se B B (by omega) H, eqN_refl]
        · rw [c6, s6 x y hx H]
        · rw [ce, se x y hx H]
end Go.Ev
