/- At, Equal and Put of the reference, for all trees and paths. -/
import Derived.Test.YtddpjgoboboidaaGreatDoorRfA
import Derived.Test.YtddpjgoboboidaaGreatDoorRfE
import Derived.Test.YtddpjgoboboidaaGreatDoorRfP
namespace Go.Ev
open Go Go.Proofs
set_option maxRecDepth 100000
set_option linter.unusedSimpArgs false
set_option linter.unusedVariables false
theorem weak_noNd : Weak (.tup [.agg [.i .i64 0, .s [], .nils], .i .i64 5]) (.tup [noNd.enc, .i .i64 5]) :=
  WeakL.tup (WeakL.cons (WeakL.agg (WeakL.cons (Weak.refl _) (WeakL.cons (Weak.refl _) (WeakL.cons (weak_nils 3) WeakL.nil)))) (WeakL.cons (Weak.refl _) WeakL.nil))
/-- The reference's At. -/
theorem sp1009 : ∃ g, SpecOK Tryz.prog TT 9 g ∧ ∀ (x : Nd) (p : List Int), p.length < 1100000 → ∀ H : Heap, g [x.enc, .isl 1 (encI p)] H = .val (atV x p) H := by
  obtain ⟨g, k, s⟩ := HFact.spec (F := 9) TT_ok (D := fun vs K => K = [] ∧ ∃ (x : Nd) (p : List Int), p.length < 1100000 ∧ vs = [x.enc, .isl 1 (encI p)]) (R := fun vs _ v _ => ∃ (x : Nd) (p : List Int), vs = [x.enc, .isl 1 (encI p)] ∧
      ((∃ f, walkN x p = some f ∧ v = .tup [.agg [.i .i64 f.kind, .s f.text, .isl 3 (Nd.encL f.kids)], .i .i64 0]) ∨ (walkN x p = none ∧ v = .tup [.agg [.i .i64 0, .s [], .nils], .i .i64 5]))) (fun vs K hd => by
    obtain ⟨rfl, x, p, hp, rfl⟩ := hd
    exact (HBody.fact TT_ok (body_1009 n0 x p hp)).mono fun v H' h => ⟨x, p, rfl, h⟩)
  obtain ⟨g', k', s'⟩ := spec_frzw TT_plain k (fun vs => ∃ (x : Nd) (p : List Int), p.length < 1100000 ∧ vs = [x.enc, .isl 1 (encI p)]) (fun vs v => ∃ (x : Nd) (p : List Int), vs = [x.enc, .isl 1 (encI p)] ∧ v = atV x p) (by
    rintro vs ⟨x, p, hp, rfl⟩
    refine ⟨by simp [nlL, nl, Nd.enc_nl, encI_nl], ?_⟩
    obtain ⟨v, K', ⟨x', p', e, hv⟩, h⟩ := s [x.enc, .isl 1 (encI p)] [] ⟨rfl, x, p, hp, rfl⟩
    obtain ⟨rfl, rfl⟩ := args_inj e
    rcases hv with ⟨f, hw, rfl⟩ | ⟨hw, rfl⟩
    · exact ⟨_, K', 9, _, _, h, fz_at K' f 0, Weak.refl _, x, p, rfl, by simp [atV, hw, Nd.enc_eq]⟩
    · exact ⟨_, K', 9, .tup [.agg [.i .i64 0, .s [], .nils], .i .i64 5], .tup [noNd.enc, .i .i64 5], h, by simp [fz, fzL], weak_noNd, x, p, rfl, by simp [atV, hw]⟩)
  refine ⟨g', k', fun x p hp H => ?_⟩
  obtain ⟨v, ⟨x', p', e, hv⟩, h⟩ := s' [x.enc, .isl 1 (encI p)] ⟨x, p, hp, rfl⟩
  obtain ⟨rfl, rfl⟩ := args_inj e
  rw [h H, hv]
theorem EBody.of {F : FuncId} {vs : List V} {r : Res} (h : EBody Tryz.prog TT F vs (fun x => x = r)) : Body Tryz.prog TT F vs r := by
  obtain ⟨fn, c, h1, h2, h3, o, ⟨r', rfl, k2⟩, hx⟩ := h
  exact ⟨fn, c, h1, h2, h3, o, k2, hx⟩
/-- The reference's Equal. -/
theorem sp1012 : ∃ g, SpecOK Tryz.prog TT 12 g ∧ ∀ x y : Nd, x.num < NT → ∀ H, g [x.enc, y.enc] H = .val (.b (eqN x y)) H := by
  obtain ⟨g, hg, hs⟩ := spec_rec TT_ok TT_plain 12 (fun k vs => ∃ x y : Nd, x.num = k ∧ x.num < NT ∧ vs = [x.enc, y.enc]) (fun vs r => ∃ x y : Nd, vs = [x.enc, y.enc] ∧ r = .val (.b (eqN x y))) (by
    rintro k vs ⟨x, y, rfl, hx, rfl⟩
    refine ⟨by simp [nlL, nl, Nd.enc_nl], by rintro r ⟨_, _, _, rfl⟩; rfl, fun g hg hrec => ?_⟩
    have hnum := x.num_eq
    have hlen := Nd.numL_length x.kids
    have hN : NT = 1090000 := rfl
    have hsub : ∀ z ∈ x.kids, ∀ u H, (CallF.none.with 12 g) 12 [z.enc, u.enc] H = .val (.b (eqN z u)) H := fun z hz u H => by
      have := Nd.num_mem hz
      obtain ⟨r, ⟨x', y', e, rfl⟩, h⟩ := hrec z.num (by omega) [z.enc, u.enc] ⟨z, u, rfl, by omega, rfl⟩
      simp only [List.cons.injEq, and_true] at e
      have e1 := Nd.enc_inj _ _ e.1
      have e2 := Nd.enc_inj _ _ e.2
      subst e1 e2
      rw [w_here, h]
      rfl
    have key : EBody Tryz.prog TT 12 [x.enc, y.enc] (fun r => r = .val (.b (eqN x y))) := by
      rw [eqN_kinds]
      cases hk : (x.kind == y.kind) with
      | false => simpa [hk] using body_1012k (ws n0 hg) x y (by simp [bne, hk])
      | true =>
        cases ht : (x.text == y.text) with
        | false => simpa [hk, ht] using body_1012t (ws n0 hg) x y (by simp [bne, hk]) ht
        | true =>
          by_cases hl : x.kids.length = y.kids.length
          · simpa [hk, ht] using body_1012e (ws n0 hg) x y (by simp [bne, hk]) ht (by simp [bne, hl]) hl (by omega) hsub
          · have h2 : eqNL x.kids y.kids = false := by
              cases h3 : eqNL x.kids y.kids with
              | false => rfl
              | true => exact absurd (eqNL_length _ _ h3) hl
            have h4 : ((x.kids.length : Int) != y.kids.length) = true := by
              rw [bne_iff_ne]
              omega
            simpa [hk, ht, h2] using body_1012l (ws n0 hg) x y (by simp [bne, hk]) ht h4
    refine key.mono ?_
    rintro r rfl
    exact ⟨x, y, rfl, rfl⟩) NT
  refine ⟨g, hg, fun x y hx H => ?_⟩
  obtain ⟨r, ⟨x', y', e, rfl⟩, h⟩ := hs x.num hx [x.enc, y.enc] ⟨x, y, rfl, hx, rfl⟩
  simp only [List.cons.injEq, and_true] at e
  have e1 := Nd.enc_inj _ _ e.1
  have e2 := Nd.enc_inj _ _ e.2
  subst e1 e2
  rw [h]
  rfl
theorem fzL_cells (K : Heap) : ∀ l : List Nd, ∃ k0, ∀ k, k0 ≤ k → fzL K k (cellsN l) = some (cellsN l)
  | [] => ⟨0, fun k _ => by cases k <;> simp [fzL, cellsN]⟩
  | x :: l => by
    obtain ⟨k0, h⟩ := fzL_cells K l
    refine ⟨k0 + 4, fun m hm => ?_⟩
    obtain ⟨m, rfl⟩ : ∃ j, m = j + 1 + 1 + 1 := ⟨m - 3, by omega⟩
    have h2 : fz K m (.isl 3 (Nd.encL x.kids)) = some (.isl 3 (Nd.encL x.kids)) := by
      obtain ⟨m, rfl⟩ : ∃ j, m = j + 1 := ⟨m - 1, by omega⟩
      simp [fz, nl, Nd.encL_nl]
    simp only [cellsN_cons, fzL, fz_i, fz_s, h2, h m (by omega)]
theorem cellsN_set : ∀ (l : List Nd) (i : Nat) (z : Nd), i < l.length → (cellsN l).take (i * 3) ++ .i .i64 z.kind :: .s z.text :: .isl 3 (Nd.encL z.kids) :: (cellsN l).drop (i * 3 + 3) = cellsN (l.set i z)
  | [], i, z, h => by simp at h
  | x :: l, 0, z, h => by simp [cellsN_cons]
  | x :: l, i + 1, z, h => by
    have := cellsN_set l i z (by simpa using h)
    simp only [cellsN_cons, List.set_cons_succ]
    rw [← this, show (i + 1) * 3 = i * 3 + 1 + 1 + 1 from by omega, show i * 3 + 1 + 1 + 1 + 3 = i * 3 + 3 + 1 + 1 + 1 from by omega]
    simp
theorem fz_put2 {K : Heap} {k : Int} {t : List UInt8} {l : List Nd} {n : Nat} (hn : l.length = n) (h : K[5]? = some (some ⟨24, cellsN l, .more⟩)) : ∃ m, fz K m (.tup [.agg [.i .i64 k, .s t, .sl 5 3 0 n none], .i .i64 0]) = some (.tup [(Nd.mk k t l).enc, .i .i64 0]) := by
  obtain ⟨k0, hk⟩ := fzL_cells K l
  have hc : cellsAt K 5 = some ⟨24, cellsN l, .more⟩ := by simp [cellsAt, h]
  have hcut : cut (cellsN l) (0 * 3) (n * 3) = some (cellsN l) := by
    simp only [cut]
    have := cellsN_length l
    rw [if_pos (by omega), Nat.zero_mul, List.drop_zero, List.take_of_length_le (by omega)]
  have hsl : fz K (k0 + 1) (.sl 5 3 0 n none) = some (.isl 3 (Nd.encL l)) := by
    have e : rowsOf 3 n (cellsN l) = some (Nd.encL l) := by rw [← hn]; exact rowsOf_cells l
    simp only [fz, hc, hcut, hk k0 (Nat.le_refl _), e, Option.map_some]
  refine ⟨k0 + 7, ?_⟩
  simp only [fz_tup, fz_agg, fzL, fz_i, fz_s, hsl, Option.map_some, Nd.enc]
/-- The reference's Put, on paths of a length. -/
theorem sp1011n (n : Nat) : ∃ g, SpecOK Tryz.prog TT 11 g ∧ ∀ (x : Nd) (p : List Int) (y : Nd), p.length < n → x.num < NT → p.length < 1100000 → ∀ H : Heap, g [x.enc, .isl 1 (encI p), y.enc] H = .val (putV x p y) H := by
  induction n with
  | zero => exact ⟨fun _ _ => .no, fun _ _ _ e hr => absurd e.symm hr, fun x p y h => absurd h (Nat.not_lt_zero _)⟩
  | succ n ih =>
  obtain ⟨g0, k0, s0⟩ := ih
  obtain ⟨g, k, s⟩ := HFact.spec (F := 11) TT_ok (D := fun vs K => K = [] ∧ ∃ (x : Nd) (p : List Int) (y : Nd), p.length < n + 1 ∧ x.num < NT ∧ p.length < 1100000 ∧ vs = [x.enc, .isl 1 (encI p), y.enc]) (R := fun vs _ v K => ∃ (x : Nd) (p : List Int) (y : Nd), vs = [x.enc, .isl 1 (encI p), y.enc] ∧
      ((∃ f, walkN x p = some f ∧ ∃ k, fz K k v = some (.tup [(putN x p y).enc, .i .i64 0])) ∨ (walkN x p = none ∧ v = .tup [.agg [.i .i64 0, .s [], .nils], .i .i64 5]))) (fun vs K hd => by
    obtain ⟨rfl, x, p, y, hpn, hx, hp, rfl⟩ := hd
    cases p with
    | nil =>
      refine (HBody.fact TT_ok (body_1011z n0 x y)).mono fun v H' h => ⟨x, [], y, rfl, .inl ⟨x, rfl, 9, ?_⟩⟩
      rw [h, fz_at H' y 0]
      simp [putN, Nd.enc_eq]
    | cons i p =>
      have hz : ((p.length : Int) + 1 == 0) = false := by
        rw [beq_eq_false_iff_ne]
        omega
      have h1p : (1 : Int) ≤ (p.length : Int) + 1 := by omega
      have htk : List.take p.length (List.map (V.i .i64) p) = List.map (V.i .i64) p := by rw [List.take_of_length_le (by simp)]
      by_cases hlo : i < 0
      · exact (HBody.fact TT_ok (body_1011a n0 x y i p hz h1p htk hlo)).mono fun v H' h => ⟨x, i :: p, y, rfl, .inr ⟨by simp only [walkN]; rw [if_neg (by omega)], h⟩⟩
      by_cases hhi : (x.kids.length : Int) ≤ i
      · exact (HBody.fact TT_ok (body_1011b n0 x y i p hz h1p htk hlo hhi)).mono fun v H' h => ⟨x, i :: p, y, rfl, .inr ⟨by simp only [walkN]; rw [if_neg (by omega)], h⟩⟩
      have h1 : 0 ≤ i := by omega
      have h2 : i < x.kids.length := by omega
      have hil : i.toNat < x.kids.length := by omega
      obtain ⟨kid, hk⟩ : ∃ kid, x.kids[i.toNat]? = some kid := ⟨_, List.getElem?_eq_getElem hil⟩
      have hik := encL_get hk
      have hik2 : ∀ h, (Nd.encL x.kids)[i.toNat]'h = .agg [.i .i64 kid.kind, .s kid.text, .isl 3 (Nd.encL kid.kids)] := fun h => Option.some.inj ((List.getElem?_eq_getElem h).symm.trans hik)
      have hwk : walkN x (i :: p) = walkN kid p := by
        simp only [walkN]
        rw [if_pos ⟨h1, h2⟩, hk]
      have hnum := x.num_eq
      have hlen := Nd.numL_length x.kids
      have hN : NT = 1090000 := rfl
      have hkn := Nd.num_mem (List.mem_of_getElem? hk)
      have hcall : ∀ K, (CallF.none.with 11 g0) 11 [.agg [.i .i64 kid.kind, .s kid.text, .isl 3 (Nd.encL kid.kids)], .isl 1 (p.map (V.i .i64)), .agg [.i .i64 y.kind, .s y.text, .isl 3 (Nd.encL y.kids)]] K = .val (putV kid p y) K := fun K => by
        rw [w_here, ← Nd.enc_eq, ← Nd.enc_eq]
        exact s0 kid p y (by simp at hpn; omega) (by omega) (by simp at hp; omega) K
      cases hw : walkN kid p with
      | none =>
        exact (HBody.fact TT_ok (body_1011c (ws n0 k0) x y i p hz h1p htk h1 hlo h2 hhi kid hik hik2 fun K => by rw [hcall K]; simp [putV, hw, noNd_enc])).mono fun v H' h => ⟨x, i :: p, y, rfl, .inr ⟨hwk.trans hw, h⟩⟩
      | some f =>
        have hne : x.kids ≠ [] := fun e => by rw [e] at hil; simp at hil
        have hap := append_enc [some ⟨24, [.i .i64 x.kind, .s x.text, .isl 3 (Nd.encL x.kids)], .all⟩, some ⟨24, [.i .i64 y.kind, .s y.text, .isl 3 (Nd.encL y.kids)], .all⟩, some ⟨24, [.i .i64 0, .s [], .nils], .all⟩, some ⟨24, [.i .i64 (putN kid p y).kind, .s (putN kid p y).text, .isl 3 (Nd.encL (putN kid p y).kids)], .all⟩] x.kids hne (by omega)
        refine (HBody.fact TT_ok (body_1011d (ws n0 k0) x y i p hz h1p htk h1 hlo h2 hhi kid hik hik2 (putN kid p y) (fun K => by rw [hcall K]; simp [putV, hw, Nd.enc_eq]) hap (by have := cellsN_length x.kids; omega))).mono fun v H' h => ⟨x, i :: p, y, rfl, .inl ⟨f, hwk.trans hw, ?_⟩⟩
        obtain ⟨rfl, h5⟩ := h
        rw [cellsN_set _ _ _ hil] at h5
        rw [putN_next hk]
        exact fz_put2 (by simp) h5)
  obtain ⟨g', k', s'⟩ := spec_frzw TT_plain k (fun vs => ∃ (x : Nd) (p : List Int) (y : Nd), p.length < n + 1 ∧ x.num < NT ∧ p.length < 1100000 ∧ vs = [x.enc, .isl 1 (encI p), y.enc]) (fun vs v => ∃ (x : Nd) (p : List Int) (y : Nd), vs = [x.enc, .isl 1 (encI p), y.enc] ∧ v = putV x p y) (by
    rintro vs ⟨x, p, y, hpn, hx, hp, rfl⟩
    refine ⟨by simp [nlL, nl, Nd.enc_nl, encI_nl], ?_⟩
    obtain ⟨v, K', ⟨x', p', y', e, hv⟩, h⟩ := s [x.enc, .isl 1 (encI p), y.enc] [] ⟨rfl, x, p, y, hpn, hx, hp, rfl⟩
    obtain ⟨rfl, rfl, rfl⟩ := args3_inj e
    rcases hv with ⟨f, hw, m, hm⟩ | ⟨hw, rfl⟩
    · exact ⟨_, K', m, _, _, h, hm, Weak.refl _, x, p, y, rfl, by simp [putV, hw]⟩
    · exact ⟨_, K', 9, .tup [.agg [.i .i64 0, .s [], .nils], .i .i64 5], .tup [noNd.enc, .i .i64 5], h, by simp [fz, fzL], weak_noNd, x, p, y, rfl, by simp [putV, hw]⟩)
  refine ⟨g', k', fun x p y hpn hx hp H => ?_⟩
  obtain ⟨v, ⟨x', p', y', e, hv⟩, h⟩ := s' [x.enc, .isl 1 (encI p), y.enc] ⟨x, p, y, hpn, hx, hp, rfl⟩
  obtain ⟨rfl, rfl, rfl⟩ := args3_inj e
  rw [h H, hv]
theorem sp1011 : ∃ g, SpecOK Tryz.prog TT 11 g ∧ ∀ (x : Nd) (p : List Int) (y : Nd), x.num < NT → p.length < 1100000 → ∀ H : Heap, g [x.enc, .isl 1 (encI p), y.enc] H = .val (putV x p y) H := by
  obtain ⟨g, k, s⟩ := sp1011n 1100000
  exact ⟨g, k, fun x p y hx hp H => s x p y hp hx hp H⟩
end Go.Ev
