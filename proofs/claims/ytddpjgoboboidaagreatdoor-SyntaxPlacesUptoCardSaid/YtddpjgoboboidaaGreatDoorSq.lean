/- Small and Equal, for all trees. -/
import Derived.Test.YtddpjgoboboidaaGreatDoorWC
import Derived.Test.YtddpjgoboboidaaGreatDoorSg
namespace Go.Ev
open Go Go.Proofs
set_option maxRecDepth 100000
set_option linter.unusedSimpArgs false
set_option linter.unusedVariables false
theorem sp9 : ∃ g, SpecOK Tryz.prog TT 24 g ∧ ∀ (x : Nd) (m : Int), x.num < NT → ∀ H, g [x.enc, .i .i64 m] H = .val (.i .i64 (sz x m)) H := by
  obtain ⟨g, hg, hs⟩ := spec_rec TT_ok TT_plain 24 (fun k vs => ∃ (x : Nd) (m : Int), x.num = k ∧ x.num < NT ∧ vs = [x.enc, .i .i64 m]) (fun vs r => ∃ (x : Nd) (m : Int), vs = [x.enc, .i .i64 m] ∧ r = .val (.i .i64 (sz x m))) (by
    rintro k vs ⟨x, m, rfl, hx, rfl⟩
    refine ⟨by simp [nlL, nl, Nd.enc_nl], by rintro r ⟨_, _, _, rfl⟩; rfl, fun g hg hrec => ?_⟩
    have hnum := x.num_eq
    have hlen := Nd.numL_length x.kids
    have hN : NT = 1090000 := rfl
    refine (body_9 (ws n0 hg) x m (by omega) (fun y hy q H => ?_)).ex.mono ?_
    · have := Nd.num_mem hy
      obtain ⟨r, ⟨x', m', e, rfl⟩, h⟩ := hrec y.num (by omega) [y.enc, .i .i64 q] ⟨y, q, rfl, by omega, rfl⟩
      simp only [List.cons.injEq, V.i.injEq, and_true, true_and] at e
      have := Nd.enc_inj _ _ e.1
      subst this
      rw [w_here, h, e.2]
      rfl
    · rintro r rfl
      exact ⟨x, m, rfl, rfl⟩) NT
  refine ⟨g, hg, fun x m hx H => ?_⟩
  obtain ⟨r, ⟨x', m', e, rfl⟩, h⟩ := hs x.num hx [x.enc, .i .i64 m] ⟨x, m, rfl, hx, rfl⟩
  simp only [List.cons.injEq, V.i.injEq, and_true, true_and] at e
  have := Nd.enc_inj _ _ e.1
  subst this
  rw [h, e.2]
  rfl
theorem sp4 : ∃ g, SpecOK Tryz.prog TT 6 g ∧ ∀ x : Nd, x.num < NT → ∃ b : Bool, ∀ H, g [x.enc, .i .i64 200] H = .val (.b b) H := by
  obtain ⟨g9, k9, s9⟩ := sp9
  exact spec_bool TT_ok TT_plain 6 (fun x : Nd => [x.enc, .i .i64 200]) (fun x => x.num < NT) (fun x _ => by simp [nlL, nl, Nd.enc_nl]) (fun x hx => (body_4 (ws n0 k9) x 200 fun H => by rw [w_here]; exact s9 x 200 hx H).bool)
theorem sp6 : ∃ g, SpecOK Tryz.prog TT 13 g ∧ ∀ x y : Nd, x.num < NT → ∀ H, g [x.enc, y.enc] H = .val (.b (eqN x y)) H := by
  obtain ⟨g, hg, hs⟩ := spec_rec TT_ok TT_plain 13 (fun k vs => ∃ x y : Nd, x.num = k ∧ x.num < NT ∧ vs = [x.enc, y.enc]) (fun vs r => ∃ x y : Nd, vs = [x.enc, y.enc] ∧ r = .val (.b (eqN x y))) (by
    rintro k vs ⟨x, y, rfl, hx, rfl⟩
    refine ⟨by simp [nlL, nl, Nd.enc_nl], by rintro r ⟨_, _, _, rfl⟩; rfl, fun g hg hrec => ?_⟩
    have hnum := x.num_eq
    have hlen := Nd.numL_length x.kids
    have hN : NT = 1090000 := rfl
    have hsub : ∀ z ∈ x.kids, ∀ u H, (CallF.none.with 13 g) 13 [z.enc, u.enc] H = .val (.b (eqN z u)) H := fun z hz u H => by
      have := Nd.num_mem hz
      obtain ⟨r, ⟨x', y', e, rfl⟩, h⟩ := hrec z.num (by omega) [z.enc, u.enc] ⟨z, u, rfl, by omega, rfl⟩
      simp only [List.cons.injEq, and_true] at e
      have e1 := Nd.enc_inj _ _ e.1
      have e2 := Nd.enc_inj _ _ e.2
      subst e1 e2
      rw [w_here, h]
      rfl
    obtain ⟨g13, k13, s13⟩ := spec_val TT_ok TT_plain 29 (fun _ : Unit => [.isl 3 (Nd.encL x.kids), .isl 3 (Nd.encL y.kids), .fn 13 []]) (fun _ => True) (fun _ => .b (eqNL x.kids y.kids)) (fun _ _ => by simp [nlL, nl, Nd.encL_nl]) (fun _ => rfl) (fun _ _ _ => rfl) (fun _ _ => body_13 (ws n0 hg) x.kids y.kids hsub (by omega))
    refine (body_6 (ws n0 k13) x y fun H => by rw [w_here]; exact s13 () trivial H).ex.mono ?_
    rintro r rfl
    exact ⟨x, y, rfl, rfl⟩) NT
  refine ⟨g, hg, fun x y hx H => ?_⟩
  obtain ⟨r, ⟨x', y', e, rfl⟩, h⟩ := hs x.num hx [x.enc, y.enc] ⟨x, y, rfl, hx, rfl⟩
  simp only [List.cons.injEq, and_true] at e
  have e1 := Nd.enc_inj _ _ e.1
  have e2 := Nd.enc_inj _ _ e.2
  subst e1 e2
  rw [h]
  rfl
theorem sp7 : ∃ g, SpecOK Tryz.prog TT 15 g ∧ ∀ x : Nd, x.num < NT → ∀ H, g [x.enc] H = .val (.tup [.i .i64 x.num, .i .i64 x.dep]) H := by
  obtain ⟨g, hg, hs⟩ := spec_rec TT_ok TT_plain 15 (fun k vs => ∃ x : Nd, x.num = k ∧ x.num < NT ∧ vs = [x.enc]) (fun vs r => ∃ x : Nd, vs = [x.enc] ∧ r = .val (.tup [.i .i64 x.num, .i .i64 x.dep])) (by
    rintro k vs ⟨x, rfl, hx, rfl⟩
    refine ⟨by simp [nlL, nl, Nd.enc_nl], by rintro r ⟨_, _, rfl⟩; rfl, fun g hg hrec => ?_⟩
    have hnum := x.num_eq
    have hlen := Nd.numL_length x.kids
    have hN : NT = 1090000 := rfl
    refine (body_7 (ws n0 hg) x (by omega) (fun y hy H => ?_)).ex.mono ?_
    · have := Nd.num_mem hy
      obtain ⟨r, ⟨x', e, rfl⟩, h⟩ := hrec y.num (by omega) [y.enc] ⟨y, rfl, by omega, rfl⟩
      simp only [List.cons.injEq, and_true] at e
      have := Nd.enc_inj _ _ e
      subst this
      rw [w_here, h]
      rfl
    · rintro r rfl
      exact ⟨x, rfl, rfl⟩) NT
  refine ⟨g, hg, fun x hx H => ?_⟩
  obtain ⟨r, ⟨x', e, rfl⟩, h⟩ := hs x.num hx [x.enc] ⟨x, rfl, hx, rfl⟩
  simp only [List.cons.injEq, and_true] at e
  have := Nd.enc_inj _ _ e
  subst this
  rw [h]
  rfl
mutual
theorem eqN_refl : ∀ x : Nd, eqN x x = true
  | .mk k s l => by simp [eqN, eqNL_refl l]
theorem eqNL_refl : ∀ l : List Nd, eqNL l l = true
  | [] => by simp [eqNL]
  | x :: l => by simp [eqNL, eqN_refl x, eqNL_refl l]
end
mutual
theorem eqN_eq : ∀ x y : Nd, eqN x y = true → x = y
  | .mk k s l, .mk k' s' l', h => by
    simp only [eqN, Bool.and_eq_true, beq_iff_eq] at h
    rw [h.1.1, h.1.2, eqNL_eq l l' h.2]
theorem eqNL_eq : ∀ l l' : List Nd, eqNL l l' = true → l = l'
  | [], [], _ => rfl
  | [], _ :: _, h => by simp [eqNL] at h
  | _ :: _, [], h => by simp [eqNL] at h
  | x :: l, y :: l', h => by
    simp only [eqNL, Bool.and_eq_true] at h
    rw [eqN_eq x y h.1, eqNL_eq l l' h.2]
end
theorem eqN_symm (x y : Nd) : eqN y x = eqN x y := by
  cases h : eqN x y with
  | true => have := eqN_eq x y h; subst this; exact eqN_refl x
  | false =>
    cases h2 : eqN y x with
    | false => rfl
    | true => have := eqN_eq y x h2; subst this; rw [eqN_refl] at h; cases h
end Go.Ev
