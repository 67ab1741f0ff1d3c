/- A copy of a tree is the tree. -/
import Derived.Test.YtddpjgoboboidaaGreatDoorCp
import Derived.Test.YtddpjgoboboidaaGreatDoorSg
import Derived.ProofKit
namespace Go.Ev
open Go Go.Proofs Go.ChangeShapes Go.WideShapes Go.ChangeAt Go.RowKit
set_option linter.unusedSimpArgs false
set_option linter.unusedVariables false
set_option maxRecDepth 100000
set_option maxRecDepth 1000000 in
theorem clone_nil (k : Nat) (w : World) : Calls Tryz.prog 36 #[.slice none 0 k] w fun e w' => e = .returned (.slice none 0 0) ∧ w' = w := by
  have hb : ∀ w, Sem.run Tryz.prog (binOp BinOp.eql 22 (Value.slice none 0 k) (Value.slice none 0 0)) w = .ok (.bool true) w := fun w => by
    have he : ∀ d w, (Op.equalIn (d + 1) 22 (.slice none 0 k) (.slice none 0 0)).run Tryz.prog w = .ok true w := fun d w => by simp [Op.equalIn, run_underlying Tryz.underlying22]
    have he' : ∀ w, (Op.equal 22 (.slice none 0 k) (.slice none 0 0)).run Tryz.prog w = .ok true w := fun w => he 9999 w
    simp [binOp, he']
  go_enter Tryz.func36, Tryz.ntmps36
  go_wp2
  all_goals go_ret
  all_goals exact ⟨rfl, rfl⟩
theorem none_sound : CallF.none.Sound Tryz.prog TT := CallF.none_sound
theorem append_emp (H : Heap) : evAppend TT 22 (.sl H.length 3 0 0 (some 0)) .emp (H ++ [some ⟨24, [], .all⟩]) = .val (.sl H.length 3 0 0 (some 0)) (H ++ [some ⟨24, [], .all⟩]) := by
  have hc : cellsAt (H ++ [some ⟨24, [], .all⟩]) H.length = some ⟨24, [], .all⟩ := by simp [cellsAt]
  simp only [evAppend, tU, Tryz.underlying22, tS24, tB24, tZ24, appended]
  rw [if_pos ⟨by decide, rfl, by decide, rfl⟩]
  rw [if_pos ⟨trivial, by omega, by omega⟩]
  simp only [hc, cut]
  rw [if_pos (by simp)]
  simp
/-- slices.Clone of nodes. -/
theorem sp46 : ∃ g, SpecOK Tryz.prog TT 36 g ∧ (∀ K : Heap, g [.isl 3 []] K = .val (.isl 3 []) K) ∧ ∀ (l : List Nd) (K : Heap), l ≠ [] → l.length < 1100000 → g [.isl 3 (Nd.encL l)] K = .val (.sl (K.length + 1) 3 0 l.length none) (K ++ [some ⟨24, [], .all⟩, some ⟨24, cellsN l, .more⟩]) := by
  classical
  obtain ⟨g1, k1, s1⟩ := HFact.spec (F := 36) TT_ok (D := fun vs _ => ∃ (x : Nd) (l : List Nd), vs = [.isl 3 (Nd.encL (x :: l))] ∧ l.length < 1099999) (R := fun vs K v K' => ∃ (x : Nd) (l : List Nd), vs = [.isl 3 (Nd.encL (x :: l))] ∧ v = .sl (K.length + 1) 3 0 (l.length + 1) none ∧ K' = K ++ [some ⟨24, [], .all⟩, some ⟨24, cellsN (x :: l), .more⟩]) (fun vs K hd => by
    obtain ⟨x, l, rfl, hl⟩ := hd
    refine (HBody.fact TT_ok (body_46n none_sound x l K ?_)).mono fun v H' h => ⟨x, l, rfl, h.1, h.2⟩
    exact append_enc K (x :: l) (by simp) (by simp; omega))
  refine ⟨fun vs K => if vs = [.isl 3 []] then .val (.isl 3 []) K else g1 vs K, ?_, fun K => by simp, ?_⟩
  · intro vs K r h hne
    by_cases e : vs = [.isl 3 []]
    · simp only [e, if_true] at h
      subst e h
      obtain ⟨_, _, _, hent, _⟩ := HBody.fact TT_ok (body_46z none_sound K)
      refine ⟨hent, fun M ρ w args hS hr => ?_⟩
      simp only [relL] at hr
      obtain ⟨x, r, rfl, hx, rfl⟩ := hr
      simp only [rel] at hx
      obtain ⟨a, k, rfl, hk, _⟩ := hx
      cases a with
      | none =>
        refine Calls.mono (clone_nil k w) ?_
        rintro e w' ⟨rfl, rfl⟩
        refine ⟨_, M, ρ, rfl, Ext.refl _ _ _, ?_, hS⟩
        simp only [rel]
        exact ⟨none, 0, rfl, by simp, fun h => absurd rfl h⟩
      | some p =>
        obtain ⟨v, H', ⟨rfl, rfl⟩, _, hf⟩ := HBody.fact TT_ok (body_46e none_sound [] (append_emp []))
        have hr0 : relL M [] [.emp] [.slice (some p) 0 k] := relL_cons (by simp only [rel]; exact ⟨p, k, rfl⟩) (by simp only [relL])
        exact CallOK.frame_fz (k := 5) TT_plain hS (hf M [] w _ (hS.forget TT_plain) hr0) rfl
    · simp only [e, if_false] at h
      exact k1 vs K r h hne
  · intro l K hl hlen
    cases l with
    | nil => exact absurd rfl hl
    | cons x l =>
      have e : ¬ ([V.isl 3 (Nd.encL (x :: l))] = [.isl 3 []]) := by simp [Nd.encL]
      simp only [e, if_false]
      obtain ⟨v, K', ⟨x', l', h1, h2, h3⟩, h4⟩ := s1 [.isl 3 (Nd.encL (x :: l))] K ⟨x, l, rfl, by simp at hlen; omega⟩
      simp only [List.cons.injEq, V.isl.injEq, true_and, and_true] at h1
      have := Nd.encL_inj _ _ h1
      cases this
      rw [h4, h2, h3]
      rfl
/-- copied, what it leaves. -/
theorem sp19m : ∃ g, SpecOK Tryz.prog TT 28 g ∧ ∀ x : Nd, x.num < NT → ∀ K : Heap, ∃ v K', g [x.enc] K = .val v K' ∧ CpOut K x v K' := by
  obtain ⟨g46, k46, c1, c2⟩ := sp46
  obtain ⟨g, hg, hs⟩ := spec_fact (P := Tryz.prog) (T := TT) TT_ok 28 (fun k vs _ => ∃ x : Nd, x.num = k ∧ x.num < NT ∧ vs = [x.enc]) (fun vs K v K' => ∃ x : Nd, vs = [x.enc] ∧ CpOut K x v K') (by
    rintro k vs K ⟨x, rfl, hx, rfl⟩ g hg hrec
    have hnum := x.num_eq
    have hlen := Nd.numL_length x.kids
    have hN : NT = 1090000 := rfl
    have hC := ws (ws n0 hg) k46
    by_cases hk : x.kids = []
    · exact (HBody.fact TT_ok (body_19z hC x K hk (fun K => by rw [CallF.with_here]; exact c1 K))).mono fun v H' h => ⟨x, rfl, h⟩
    · refine (HBody.fact TT_ok (body_19c hC x K hk (by omega) (fun K => by rw [CallF.with_here]; exact c2 _ K hk (by omega)) ?_)).mono fun v H' h => ⟨x, rfl, h⟩
      intro y hy J
      have := Nd.num_mem hy
      obtain ⟨v, J', ⟨y', e, ho⟩, h⟩ := hrec y.num (by omega) [y.enc] J ⟨y, rfl, by omega, rfl⟩
      simp only [List.cons.injEq, and_true] at e
      have := Nd.enc_inj _ _ e
      subst this
      refine ⟨v, J', ?_, ho⟩
      rw [CallF.with_other _ _ _ _ rfl, CallF.with_here]
      exact h) NT
  refine ⟨g, hg, fun x hx K => ?_⟩
  obtain ⟨v, K', ⟨x', e, ho⟩, h⟩ := hs x.num hx [x.enc] K ⟨x, rfl, hx, rfl⟩
  simp only [List.cons.injEq, and_true] at e
  have := Nd.enc_inj _ _ e
  subst this
  exact ⟨v, K', h, ho⟩
end Go.Ev

namespace Go.Ev
open Go Go.Proofs
set_option maxRecDepth 100000
set_option linter.unusedSimpArgs false
set_option linter.unusedVariables false
theorem rowsOf_cells : ∀ l : List Nd, rowsOf 3 l.length (cellsN l) = some (Nd.encL l)
  | [] => rfl
  | .mk k s l' :: l => by
    have ih := rowsOf_cells l
    simp [rowsOf, cellsN, ih, Nd.encL, Nd.enc]
theorem fz_i (H : Heap) (k : IntKind) (n : Int) (m : Nat) : fz H (m + 1) (.i k n) = some (.i k n) := by simp [fz]
theorem fz_s (H : Heap) (s : List UInt8) (m : Nat) : fz H (m + 1) (.s s) = some (.s s) := by simp [fz]
theorem fz_agg (H : Heap) (l : List V) (m : Nat) : fz H (m + 1) (.agg l) = (fzL H m l).map .agg := by simp [fz]
mutual
theorem TreeIn.kv {H : Heap} : ∀ (x : Nd) (v : V) (bs : List Nat), TreeIn H x v bs → ∃ kv, v = .agg [.i .i64 x.kind, .s x.text, kv] ∧ ∃ k0, ∀ k, k0 ≤ k → fz H k kv = some (.isl 3 (Nd.encL x.kids))
  | .mk k s l, v, bs, h => by
    simp only [TreeIn] at h
    obtain ⟨kv, rfl, ⟨rfl, rfl, _⟩ | ⟨b, vs, bs', _, rfl, hb, rfl, hr⟩⟩ := h
    · refine ⟨_, rfl, 1, fun m hm => ?_⟩
      obtain ⟨m, rfl⟩ : ∃ j, m = j + 1 := ⟨m - 1, by omega⟩
      simp [fz, nl, nlL, Nd.kids, Nd.encL]
    · obtain ⟨k0, hk⟩ := RowIn.fzL l vs bs' hr
      obtain ⟨c1, c2⟩ := RowIn.cells l vs bs' hr
      refine ⟨_, rfl, k0 + 1, fun m hm => ?_⟩
      obtain ⟨m, rfl⟩ : ∃ j, m = j + 1 := ⟨m - 1, by omega⟩
      have hc : cellsAt H b = some ⟨24, vs.flatMap V.cells, .more⟩ := by simp [cellsAt, hb]
      have hcut : cut (vs.flatMap V.cells) (0 * 3) (l.length * 3) = some (vs.flatMap V.cells) := by
        simp only [cut]
        rw [if_pos (by omega), Nat.zero_mul, List.drop_zero, List.take_of_length_le (by omega)]
      simp only [fz, hc, hcut, hk m (by omega), rowsOf_cells, Option.map_some, Nd.kids]
theorem RowIn.fzL {H : Heap} : ∀ (l : List Nd) (vs : List V) (bs : List Nat), RowIn H l vs bs → ∃ k0, ∀ k, k0 ≤ k → fzL H k (vs.flatMap V.cells) = some (cellsN l)
  | [], vs, bs, h => by
    simp only [RowIn] at h
    obtain ⟨rfl, rfl⟩ := h
    refine ⟨0, fun k _ => ?_⟩
    cases k <;> simp [Ev.fzL, cellsN]
  | x :: l, vs, bs, h => by
    simp only [RowIn] at h
    obtain ⟨v, r, b1, b2, rfl, rfl, h3, h4⟩ := h
    obtain ⟨kv, rfl, k1, hk1⟩ := TreeIn.kv x v b1 h3
    obtain ⟨k2, hk2⟩ := RowIn.fzL l r b2 h4
    refine ⟨k1 + k2 + 4, fun m hm => ?_⟩
    obtain ⟨m, rfl⟩ : ∃ j, m = j + 1 + 1 + 1 + 1 := ⟨m - 4, by omega⟩
    simp only [List.flatMap_cons, V.cells, List.cons_append, List.nil_append, Ev.fzL, fz_i, fz_s, hk1 (m + 1) (by omega), hk2 (m + 1) (by omega), cellsN_cons]
end
theorem TreeIn.fz {H : Heap} {x : Nd} {v : V} {bs : List Nat} (h : TreeIn H x v bs) : ∃ k, Ev.fz H k v = some x.enc := by
  obtain ⟨kv, rfl, k1, hk1⟩ := TreeIn.kv x v bs h
  refine ⟨k1 + 5, ?_⟩
  simp only [fz_agg, Ev.fzL, fz_i, fz_s, hk1 (k1 + 1) (by omega), Option.map_some, Nd.enc_eq]
/-- copied, as a value. -/
theorem sp19 : ∃ g, SpecOK Tryz.prog TT 28 g ∧ ∀ x : Nd, x.num < NT → ∀ H : Heap, g [x.enc] H = .val x.enc H := by
  obtain ⟨g, hg, hs⟩ := sp19m
  obtain ⟨g', k, s⟩ := spec_frz TT_plain hg (fun vs => ∃ x : Nd, x.num < NT ∧ vs = [x.enc]) (fun vs v => vs = [v]) (by
    rintro vs ⟨x, hx, rfl⟩
    obtain ⟨v, K', h, bs, _, _, ht, _⟩ := hs x hx []
    obtain ⟨m, hm⟩ := ht.fz
    exact ⟨by simp [nlL, Nd.enc_nl], v, K', m, x.enc, h, hm, rfl⟩)
  refine ⟨g', k, fun x hx H => ?_⟩
  obtain ⟨v, e, h⟩ := s [x.enc] ⟨x, hx, rfl⟩
  simp only [List.cons.injEq, and_true] at e
  rw [h H, ← e]
end Go.Ev
