/- The law returns true, for all trees and paths within its bounds. -/
import Derived.Test.YtddpjgoboboidaaGreatDoorLawPlW
import Derived.Test.YtddpjgoboboidaaGreatDoorPtN
import Derived.Test.YtddpjgoboboidaaGreatDoorSq
import Derived.Test.YtddpjgoboboidaaGreatDoorLgS
namespace Go.Ev
open Go Go.Proofs
set_option maxRecDepth 100000
set_option linter.unusedSimpArgs false
set_option linter.unusedVariables false
theorem walkN_step {x cur : Nd} {i : Int} {d : List Int} (h : walkN x (i :: d) = some cur) : ∃ k, 0 ≤ i ∧ i < x.kids.length ∧ x.kids[i.toNat]? = some k ∧ walkN k d = some cur := by
  simp only [walkN] at h
  split at h
  · rename_i hr
    split at h
    · rename_i k hk
      exact ⟨k, hr.1, hr.2, hk, h⟩
    · cases h
  · cases h
theorem walkN_of {x k : Nd} {i : Int} {d : List Int} (h1 : 0 ≤ i) (h2 : i < x.kids.length) (h3 : x.kids[i.toNat]? = some k) : walkN x (i :: d) = walkN k d := by
  simp only [walkN]
  rw [if_pos ⟨h1, h2⟩, h3]
theorem walkN_put (y : Nd) : ∀ (d : List Int) (x cur : Nd), walkN x d = some cur → walkN (putN x d y) d = some y
  | [], x, cur, h => rfl
  | i :: d, x, cur, h => by
    obtain ⟨k, h1, h2, h3, h4⟩ := walkN_step h
    rw [putN_next h3, walkN_of (x := .mk x.kind x.text (x.kids.set i.toNat (putN k d y))) (k := putN k d y) h1 (show i < ((x.kids.set i.toNat (putN k d y)).length : Int) by simpa using h2) (show (x.kids.set i.toNat (putN k d y))[i.toNat]? = _ by rw [List.getElem?_set_self]; omega)]
    exact walkN_put y d k cur h4
theorem putN_self : ∀ (d : List Int) (x cur : Nd), walkN x d = some cur → putN x d cur = x
  | [], x, cur, h => by
    simp only [walkN, Option.some.injEq] at h
    simp only [putN, h]
  | i :: d, x, cur, h => by
    obtain ⟨k, h1, h2, h3, h4⟩ := walkN_step h
    rw [putN_next h3, putN_self d k cur h4]
    have : x.kids.set i.toNat k = x.kids := by
      apply List.ext_getElem?
      intro j
      by_cases e : i.toNat = j
      · subst e
        rw [List.getElem?_set_self (by omega), h3]
      · rw [List.getElem?_set_ne e]
    rw [this]
    cases x; rfl
theorem putN_put (y : Nd) : ∀ (d : List Int) (x cur : Nd), walkN x d = some cur → putN (putN x d y) d cur = x
  | [], x, cur, h => by
    simp only [walkN, Option.some.injEq] at h
    simp only [putN, h]
  | i :: d, x, cur, h => by
    obtain ⟨k, h1, h2, h3, h4⟩ := walkN_step h
    have h5 : (Nd.mk x.kind x.text (x.kids.set i.toNat (putN k d y))).kids[i.toNat]? = some (putN k d y) := by
      show (x.kids.set i.toNat (putN k d y))[i.toNat]? = _
      rw [List.getElem?_set_self]; omega
    rw [putN_next h3, putN_next h5, putN_put y d k cur h4]
    have : (x.kids.set i.toNat (putN k d y)).set i.toNat k = x.kids := by
      apply List.ext_getElem?
      intro j
      by_cases e : i.toNat = j
      · subst e
        rw [List.getElem?_set_self (by simp; omega), h3]
      · rw [List.getElem?_set_ne e, List.getElem?_set_ne e]
    simp only [Nd.kids, Nd.kind, Nd.text] at this ⊢
    rw [this]
    cases x; rfl
theorem put_same {x cur y : Nd} {d : List Int} (h : walkN x d = some cur) : eqN (putN x d y) x = eqN cur y := by
  cases h1 : eqN cur y with
  | true =>
    have := eqN_eq _ _ h1
    subst this
    rw [putN_self d x cur h]
    exact eqN_refl x
  | false =>
    cases h2 : eqN (putN x d y) x with
    | false => rfl
    | true =>
      have e := eqN_eq _ _ h2
      have h3 := walkN_put y d x cur h
      rw [e, h] at h3
      cases h3
      rw [eqN_refl] at h1
      cases h1
theorem walkN_tok : ∀ (d : List Int) (x cur : Nd), walkN x d = some cur → x.tok → cur.tok
  | [], x, cur, h, ht => by
    simp only [walkN, Option.some.injEq] at h
    rw [← h]; exact ht
  | i :: d, x, cur, h, ht => by
    obtain ⟨k, h1, h2, h3, h4⟩ := walkN_step h
    exact walkN_tok d k cur h4 (Nd.tok_mem ((Nd.tok_eq x).1 ht).2 (List.mem_of_getElem? h3))
theorem chkV_walk (one : Nd → Bool) : ∀ (d : List Int) (x cur : Nd), walkN x d = some cur → chkV one x = 0 → chkV one cur = 0
  | [], x, cur, h, ht => by
    simp only [walkN, Option.some.injEq] at h
    rw [← h]; exact ht
  | i :: d, x, cur, h, ht => by
    obtain ⟨k, h1, h2, h3, h4⟩ := walkN_step h
    exact chkV_walk one d k cur h4 (chkV_kid ht (List.mem_of_getElem? h3))
/-- SyntaxPlaces returns true of all trees and paths that fit. -/
theorem law_places (x y : Nd) (q : List Int) (hxy : x.num + y.num < NT) (ht : x.tok) (h256 : ∀ c ∈ q, 0 ≤ c ∧ c < 256) : Body Tryz.prog TT 4 [x.enc, y.enc, .isl 1 (enc8 q)] (.val (.b true)) := by
  obtain ⟨g4, k4, s4⟩ := sp4
  obtain ⟨g6, k6, s6⟩ := sp6
  obtain ⟨one, g8, k8, s8⟩ := sp8one
  obtain ⟨g12, k12, s12⟩ := sp12
  obtain ⟨g10, k10, s10⟩ := sp1010
  have hx : x.num < NT := by omega
  have hy : y.num < NT := by omega
  have hC := ws (ws (ws (ws (ws (ws n0 k4) k6) k8) k12) k10) ok5
  generalize hc : (((((CallF.none.with 6 g4).with 13 g6).with 14 g8).with 8 g12).with 10 g10).with 7 spAwake = call at hC
  have c5 : ∀ H, call 7 [] H = .val (.b true) H := fun H => by rw [← hc]; rw [w_here]; rfl
  have c10 : ∀ vs H, call 10 (vs) H = g10 vs H := fun vs H => by rw [← hc]; rw [w_other _ _ _ _ rfl, w_here]
  have c12 : ∀ vs H, call 8 (vs) H = g12 vs H := fun vs H => by rw [← hc]; rw [w_other _ _ _ _ rfl, w_other _ _ _ _ rfl, w_here]
  have c8 : ∀ vs H, call 14 (vs) H = g8 vs H := fun vs H => by rw [← hc]; rw [w_other _ _ _ _ rfl, w_other _ _ _ _ rfl, w_other _ _ _ _ rfl, w_here]
  have c6 : ∀ vs H, call 13 (vs) H = g6 vs H := fun vs H => by rw [← hc]; rw [w_other _ _ _ _ rfl, w_other _ _ _ _ rfl, w_other _ _ _ _ rfl, w_other _ _ _ _ rfl, w_here]
  have c4 : ∀ vs H, call 6 (vs) H = g4 vs H := fun vs H => by rw [← hc]; rw [w_other _ _ _ _ rfl, w_other _ _ _ _ rfl, w_other _ _ _ _ rfl, w_other _ _ _ _ rfl, w_other _ _ _ _ rfl, w_here]
  obtain ⟨bx, hbx⟩ := s4 x hx
  obtain ⟨bY, hby⟩ := s4 y hy
  have sx : ∀ H, call 6 [x.enc, .i .i64 200] H = .val (.b bx) H := fun H => (c4 _ H).trans (hbx H)
  have sy : ∀ H, call 6 [y.enc, .i .i64 200] H = .val (.b bY) H := fun H => (c4 _ H).trans (hby H)
  cases bx with
  | false => exact body_1004n1 hC x y q sx c5
  | true =>
    cases bY with
    | false => exact body_1004n2 hC x y q sx sy c5
    | true =>
      by_cases hl : (30 : Int) < q.length
      · exact body_1004n3 hC x y q sx sy c5 hl
      · have good : ∀ (d : List Int) (cur : Nd), walkN x d = some cur → d.length < 900 → Good call x y cur (putN x d y) d (chkV one x) (chkV one cur) (eqN cur y) := by
          intro d cur hw hd
          have hn := walkN_num d x cur hw
          have hp := putN_num y d x
          have hdl : d.length < 1100000 := by omega
          constructor
          · intro H; rw [c12, s12 x d hx hdl H, atV, hw]
          · intro H; rw [c10, s10 x d y hx hdl hy H, putV, hw]
          · intro H; rw [c6, s6 cur cur (by omega) H, eqN_refl]
          · intro H; rw [c8, s8 x ⟨hx, ht⟩ H]
          · intro H; rw [c8, s8 cur ⟨by omega, walkN_tok d x cur hw ht⟩ H]
          · intro H; rw [c12, s12 (putN x d y) d (by omega) hdl H, atV, walkN_put y d x cur hw]
          · intro H; rw [c10, s10 (putN x d y) d cur (by omega) hdl (by omega) H, putV, walkN_put y d x cur hw, putN_put y d x cur hw]
          · intro H; rw [c6, s6 y y hy H, eqN_refl]
          · intro H; rw [c6, s6 x x hx H, eqN_refl]
          · intro H; rw [c6, s6 (putN x d y) x (by omega) H, put_same hw]
          · intro H; rw [c6, s6 cur y (by omega) H]
        by_cases h0 : chkV one x = 0
        · refine body_1004ya hC x y q sx sy c5 hl h256 fun d cur hw hd => ⟨putN x d y, 0, eqN cur y, ?_⟩
          have := good d cur hw hd
          rwa [h0, chkV_walk one d x cur hw h0] at this
        · exact body_1004yb hC x y q sx sy c5 hl h256 (chkV one x) (by simpa using h0) fun d cur hw hd => ⟨putN x d y, _, eqN cur y, good d cur hw hd⟩
end Go.Ev
