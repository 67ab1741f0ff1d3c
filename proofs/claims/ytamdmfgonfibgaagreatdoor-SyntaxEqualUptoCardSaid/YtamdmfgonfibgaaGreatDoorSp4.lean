/- Check ends on all trees, with the number of an error or none. -/
import Derived.Test.YtamdmfgonfibgaaGreatDoorSp3
namespace Go.Ev
open Go Go.Proofs
set_option maxRecDepth 100000
set_option linter.unusedSimpArgs false
set_option linter.unusedVariables false
mutual
/-- All texts are short. -/
def Nd.tok : Nd → Prop
  | .mk _ s l => s.length < NT ∧ Nd.tokL l
def Nd.tokL : List Nd → Prop
  | [] => True
  | x :: l => x.tok ∧ Nd.tokL l
end
theorem Nd.tok_mem : ∀ {l : List Nd} {x : Nd}, Nd.tokL l → x ∈ l → x.tok
  | y :: l, x, h, hx => by
    simp only [Nd.tokL] at h
    rcases List.mem_cons.1 hx with rfl | hx
    · exact h.1
    · exact Nd.tok_mem h.2 hx
theorem Nd.tok_eq (x : Nd) : x.tok ↔ x.text.length < NT ∧ Nd.tokL x.kids := by cases x; simp [Nd.tok, Nd.text, Nd.kids]
abbrev CKV : V := .ipt 285 [.agg shCells] 0 0
theorem sp16 : ∃ g, SpecOK Tryz.prog TT 16 g ∧ ∀ x : Nd, x.num < NT → x.tok → ∃ b : Bool, ∀ H, g [CKV, x.enc] H = .val (.b b) H := by
  obtain ⟨g40, k40, s40⟩ := sp40
  obtain ⟨g, hg, hs⟩ := spec_rec TT_ok TT_plain 16 (fun k vs => ∃ x : Nd, x.num = k ∧ x.num < NT ∧ x.tok ∧ vs = [CKV, x.enc]) (fun _ r => ∃ b : Bool, r = .val (.b b)) (by
    rintro k vs ⟨x, rfl, hx, htok, rfl⟩
    refine ⟨by simp [nlL, nl, Nd.enc_nl, shCells_nl], by rintro r ⟨b, rfl⟩; rfl, fun g hg hrec => ?_⟩
    have hnum := x.num_eq
    have hlen := Nd.numL_length x.kids
    have hN : NT = 1090000 := rfl
    have htok' := (Nd.tok_eq x).1 htok
    obtain ⟨b, hb⟩ := s40 x hx htok'.1
    cases b with
    | false => exact body_16f (ws n0 k40) x fun H => by rw [w_here]; exact hb H
    | true =>
      have hkid : ∀ y ∈ x.kids, ∃ b : Bool, ∀ H, g [CKV, y.enc] H = .val (.b b) H := fun y hy => by
        have := Nd.num_mem hy
        obtain ⟨r, ⟨b, rfl⟩, h⟩ := hrec y.num (by omega) [CKV, y.enc] ⟨y, rfl, by omega, Nd.tok_mem htok'.2 hy, rfl⟩
        exact ⟨b, h⟩
      obtain ⟨g42, hg42, hs42⟩ := spec_bool TT_ok TT_plain 42 (fun y : Nd => [y.enc, .ipt 1 [.agg [CKV]] 0 0]) (fun y => y ∈ x.kids) (fun y _ => by simp [nlL, nl, Nd.enc_nl, shCells_nl]) (fun y hy => by
        obtain ⟨b, hb⟩ := hkid y hy
        exact (body_42 (ws n0 hg) y CKV b fun H => by rw [w_here]; exact hb H).bool)
      obtain ⟨_, g4, _, hg4, _, q, hq⟩ := sp_cont (ws n0 hg42) 42 [.ipt 1 [.agg [CKV]] 0 0] rfl (by simp [nlL, nl, shCells_nl]) x.kids (by omega) (fun y hy => by
        obtain ⟨b, hb⟩ := hs42 y hy
        exact ⟨b, fun H => by rw [w_here]; exact hb H⟩)
      exact body_16t (ws (ws n0 k40) hg4) x q (fun H => by rw [w_other _ _ _ _ rfl, w_here]; exact hb H) fun H => by rw [w_here]; exact hq H) NT
  refine ⟨g, hg, fun x hx ht => ?_⟩
  obtain ⟨r, ⟨b, rfl⟩, h⟩ := hs x.num hx [CKV, x.enc] ⟨x, rfl, hx, ht, rfl⟩
  exact ⟨b, h⟩
/-- A counter's cell. -/
abbrev cell (v : Int) : Option Blk := some ⟨3, [.i .i64 v], .all⟩
/-- Nothing old has turned but a counter, which has gone down by at most so much. -/
def Down (b : Nat) (H H' : Heap) (v : Int) (n : Nat) : Prop := H.length ≤ H'.length ∧ (∀ k, k < H.length → k ≠ b → H'[k]? = H[k]?) ∧ ∃ v' : Int, H'[b]? = some (cell v') ∧ v' ≤ v ∧ v - n ≤ v'
theorem EndsH.mono {T : Tab} {fn : Func} {R R' : V → Heap → Prop} {o : Out} (h : EndsH T fn R o) (hr : ∀ v H, R v H → R' v H) : EndsH T fn R' o := by
  cases o <;> simp only [EndsH] at h ⊢
  · obtain ⟨v, h1, h2⟩ := h; exact ⟨v, hr _ _ h1, h2⟩
  · obtain ⟨v, h1, h2⟩ := h; exact ⟨v, hr _ _ h1, h2⟩
theorem HBody.mono {F : FuncId} {vs : List V} {H : Heap} {R R' : V → Heap → Prop} (h : HBody Tryz.prog TT F vs H R) (hr : ∀ v H, R v H → R' v H) : HBody Tryz.prog TT F vs H R' := by
  obtain ⟨fn, c, h1, h2, h3, o, h4, h5⟩ := h
  exact ⟨fn, c, h1, h2, h3, o, h4.mono hr, h5⟩
/-- What large is called with. -/
def LargeIn (k : Nat) (x : Nd) (b : Nat) (d v : Int) (H : Heap) : Prop := x.num = k ∧ x.num < NT ∧ b < H.length ∧ H[b]? = some (cell v) ∧ -1000000000 ≤ v - x.num ∧ v ≤ 1000000000 ∧ 0 ≤ d ∧ d + x.num ≤ 1000000000
theorem sp20 : ∃ g, SpecOK Tryz.prog TT 20 g ∧ ∀ x b d v H, LargeIn x.num x b d v H → ∃ q H', Down b H H' v x.num ∧ g [x.enc, .ptr b 0, .i .i64 d] H = .val (.b q) H' := by
  obtain ⟨g, hg, hs⟩ := spec_heap TT_ok 20 (fun k vs H => ∃ x b d v, LargeIn k x b d v H ∧ vs = [x.enc, .ptr b 0, .i .i64 d])
    (fun vs H r H' => ∃ q : Bool, r = .b q ∧ ∀ x b d v, LargeIn x.num x b d v H → vs = [x.enc, .ptr b 0, .i .i64 d] → Down b H H' v x.num) (by
    rintro k vs H ⟨x, b, d, v, ⟨rfl, hx, hbl, hb, hv1, hv2, hd1, hd2⟩, rfl⟩ g hg hrec
    have hnum := x.num_eq
    have hlen := Nd.numL_length x.kids
    have hN : NT = 1090000 := rfl
    have fin : ∀ H', Down b H H' v x.num → ∀ y c e w, LargeIn y.num y c e w H → [x.enc, V.ptr b 0, V.i .i64 d] = [y.enc, .ptr c 0, .i .i64 e] → Down c H H' w y.num := by
      intro H' hD y c e w hL he
      simp only [List.cons.injEq, V.ptr.injEq, V.i.injEq, true_and, and_true] at he
      obtain ⟨e1, e2, e3⟩ := he
      have := Nd.enc_inj _ _ e1
      subst this e2 e3
      have h4 := hL.2.2.2.1
      rw [hb] at h4
      simp only [cell, Option.some.injEq, Blk.mk.injEq, List.cons.injEq, V.i.injEq, and_true, true_and] at h4
      subst h4
      exact hD
    -- the heap behind the boxes
    obtain ⟨K, hK⟩ : ∃ K, H ++ [some ⟨24, [.i .i64 x.kind, .s x.text, .isl 3 (Nd.encL x.kids)], .all⟩, some ⟨57, [.ptr b 0], .all⟩, some ⟨3, [.i .i64 d], .all⟩] = K := ⟨_, rfl⟩
    have kl : K.length = H.length + 3 := by rw [← hK]; simp
    have kold : ∀ n, n < H.length → K[n]? = H[n]? := fun n hn => by rw [← hK, List.getElem?_append_left hn]
    have g3 : K[H.length]? = some (some ⟨24, [.i .i64 x.kind, .s x.text, .isl 3 (Nd.encL x.kids)], .all⟩) := by rw [← hK, List.getElem?_append_right (Nat.le_refl _)]; simp
    have g4 : K[H.length + 1]? = some (some ⟨57, [.ptr b 0], .all⟩) := by rw [← hK, List.getElem?_append_right (by omega)]; simp
    have g5 : K[H.length + 2]? = some (some ⟨3, [.i .i64 d], .all⟩) := by rw [← hK, List.getElem?_append_right (by omega)]; simp
    have gb : K[b]? = some (cell v) := by rw [kold b hbl]; exact hb
    have sne : ∀ (c : Option Blk) n, n ≠ b → (K.set b c)[n]? = K[n]? := fun c n hn => by rw [List.getElem?_set]; rw [if_neg (by omega)]
    have sb : ∀ c : Option Blk, (K.set b c)[b]? = some c := fun c => by rw [List.getElem?_set]; simp; omega
    have hwv : IntKind.i64.wrap (v - 1) = v - 1 := wrap_i64 (by omega) (by omega)
    have dset : Down b H (K.set b (cell (v - 1))) v x.num := ⟨by simp; omega, fun n hn hne => by rw [sne _ _ hne, kold n hn], v - 1, sb _, by omega, by omega⟩
    have key : HBody Tryz.prog TT 20 [x.enc, .ptr b 0, .i .i64 d] H (fun r H' => ∃ q : Bool, r = .b q ∧ Down b H H' v x.num) := by
      by_cases hneg : v - 1 < 0
      · refine body_20 n0 x b d H _ fun t hw h3 h4 h5 => ?_
        rw [hK]
        refine (rest20a n0 x b H.length (H.length + 1) (H.length + 2) d v K t hw h3 h4 h5 g3 g4 g5 gb (fun c => by rw [sne _ _ (by omega)]; exact g3) (fun c => by rw [sne _ _ (by omega)]; exact g4) (fun c => by rw [sne _ _ (by omega)]; exact g5) sb hwv hneg).mono fun o ho => ho.mono ?_
        rintro r H' ⟨q, rfl, rfl⟩
        exact ⟨q, rfl, dset⟩
      by_cases hdeep : 100 < d
      · refine body_20 n0 x b d H _ fun t hw h3 h4 h5 => ?_
        rw [hK]
        refine (rest20b n0 x b H.length (H.length + 1) (H.length + 2) d v K t hw h3 h4 h5 g3 g4 g5 gb (fun c => by rw [sne _ _ (by omega)]; exact g3) (fun c => by rw [sne _ _ (by omega)]; exact g4) (fun c => by rw [sne _ _ (by omega)]; exact g5) sb hwv hneg hdeep).mono fun o ho => ho.mono ?_
        rintro r H' ⟨q, rfl, rfl⟩
        exact ⟨q, rfl, dset⟩
      -- the closure on a kid
      obtain ⟨g47, k47, s47⟩ := spec_heap TT_ok 47 (fun _ vs J => ∃ (y : Nd) (w : Int), y ∈ x.kids ∧ vs = [y.enc, .ptr (H.length + 1) 0, .ptr (H.length + 2) 0] ∧ H.length + 3 ≤ J.length ∧ J[H.length + 1]? = some (some ⟨57, [.ptr b 0], .all⟩) ∧ J[H.length + 2]? = some (some ⟨3, [.i .i64 d], .all⟩) ∧ J[b]? = some (cell w) ∧ -1000000000 ≤ w - y.num ∧ w ≤ 1000000000)
        (fun vs J r J' => ∃ q : Bool, r = .b q ∧ ∀ (y : Nd) (w : Int), vs = [y.enc, .ptr (H.length + 1) 0, .ptr (H.length + 2) 0] → J[b]? = some (cell w) → Down b J J' w y.num) (by
        rintro _ vs J ⟨y, w, hy, rfl, hJ, j1, j2, jb, w1, w2⟩ g' _ _
        have hyn := Nd.num_mem hy
        have hJb : b < J.length := by omega
        have hin : LargeIn y.num y b (d + 1) w (J ++ [some ⟨24, [.i .i64 y.kind, .s y.text, .isl 3 (Nd.encL y.kids)], .all⟩]) :=
          ⟨rfl, by omega, by simp; omega, by rw [List.getElem?_append_left hJb]; exact jb, w1, w2, by omega, by omega⟩
        obtain ⟨r, J2, ⟨q, rfl, hD⟩, hc⟩ := hrec y.num (by omega) _ _ ⟨y, b, d + 1, w, hin, rfl⟩
        have hD' := hD y b (d + 1) w hin rfl
        refine (body_47 (ws n0 hg) y (H.length + 1) (H.length + 2) b d J J2 q (fun z => by rw [List.getElem?_append_left (by omega)]; exact j1) (fun z => by rw [List.getElem?_append_left (by omega)]; exact j2) (fun z => by simp) (wrap_i64 (by omega) (by omega)) (by rw [w_here]; exact hc)).mono ?_
        rintro r H' ⟨q', rfl, rfl⟩
        refine ⟨q', rfl, fun y' w' he hw' => ?_⟩
        simp only [List.cons.injEq, and_true] at he
        have := Nd.enc_inj _ _ he
        subst this
        rw [jb] at hw'
        simp only [cell, Option.some.injEq, Blk.mk.injEq, List.cons.injEq, V.i.injEq, and_true, true_and] at hw'
        subst hw'
        obtain ⟨d1, d2, d3⟩ := hD'
        refine ⟨by simp at d1; omega, fun n hn hne => ?_, d3⟩
        rw [d2 n (by simp; omega) hne, List.getElem?_append_left hn]) 1
      -- the heap ahead of the search
      let K1 := K.set b (cell (v - 1))
      have k1l : K1.length = H.length + 3 := by simp [K1, kl]
      let S : List Nd → Heap → Prop := fun L J => (∃ pre, x.kids = pre ++ L) ∧ K1.length ≤ J.length ∧ (∀ n, n < K1.length → n ≠ b → J[n]? = K1[n]?) ∧ ∃ w : Int, J[b]? = some (cell w) ∧ w ≤ v - 1 ∧ v - 1 - (Nd.numL x.kids - Nd.numL L : Int) ≤ w
      have hS0 : S x.kids K1 := ⟨⟨[], rfl⟩, Nat.le_refl _, fun _ _ _ => rfl, v - 1, sb _, Int.le_refl _, by omega⟩
      have hstep : ∀ y L J, S (y :: L) J → ∃ q J', (CallF.none.with 47 g47) 47 (y.enc :: [.ptr (H.length + 1) 0, .ptr (H.length + 2) 0]) J = .val (.b q) J' ∧ S L J' := by
        rintro y L J ⟨⟨pre, hpre⟩, hJl, hJo, w, hw, w1, w2⟩
        have hy : y ∈ x.kids := by rw [hpre]; simp
        have hyn := Nd.num_mem hy
        have hLn : Nd.numL (y :: L) = y.num + Nd.numL L := rfl
        have hsub : Nd.numL (y :: L) ≤ Nd.numL x.kids := by
          rw [hpre]
          clear hpre hJo hw
          induction pre with
          | nil => exact Nat.le_refl _
          | cons z pre ih => simp only [List.cons_append]; rw [show Nd.numL (z :: (pre ++ y :: L)) = z.num + Nd.numL (pre ++ y :: L) from rfl]; omega
        obtain ⟨r, J', ⟨q, rfl, hD⟩, hc⟩ := s47 0 (by omega) [y.enc, .ptr (H.length + 1) 0, .ptr (H.length + 2) 0] J ⟨y, w, hy, rfl, by omega, by rw [hJo _ (by omega) (by omega)]; simp only [K1]; rw [sne _ _ (by omega)]; exact g4, by rw [hJo _ (by omega) (by omega)]; simp only [K1]; rw [sne _ _ (by omega)]; exact g5, hw, by omega, by omega⟩
        obtain ⟨d1, d2, v', d3, d4, d5⟩ := hD y w rfl hw
        refine ⟨q, J', by rw [w_here]; exact hc, ⟨pre ++ [y], by simpa using hpre⟩, by omega, fun n hn hne => by rw [d2 n (by omega) hne]; exact hJo n hn hne, v', d3, by omega, by omega⟩
      obtain ⟨g66, k66, s66⟩ := spec_heap TT_ok 66 (fun _ vs J => vs = [.isl 3 (Nd.encL x.kids), .fn 47 [.ptr (H.length + 1) 0, .ptr (H.length + 2) 0]] ∧ J = K1) (fun _ _ r J' => ∃ i : Int, r = .i .i64 i ∧ ∃ L', S L' J') (by
        rintro _ vs J ⟨rfl, rfl⟩ g' _ _
        exact body_66h (ws n0 k47) x.kids (by omega) 47 _ rfl S hstep K1 hS0) 1
      obtain ⟨r, K2, ⟨i, rfl, L', hSL⟩, hi⟩ := s66 0 (by omega) _ _ ⟨rfl, rfl⟩
      obtain ⟨g41, k41, s41⟩ := spec_heap TT_ok 41 (fun _ vs J => vs = [.isl 3 (Nd.encL x.kids), .fn 47 [.ptr (H.length + 1) 0, .ptr (H.length + 2) 0]] ∧ J = K1) (fun _ _ r J' => ∃ q : Bool, r = .b q ∧ J' = K2) (by
        rintro _ vs J ⟨rfl, rfl⟩ g' _ _
        exact body_41h (ws n0 k66) x.kids 47 _ K1 K2 i (by rw [w_here]; exact hi)) 1
      obtain ⟨r, J', ⟨q, rfl, rfl⟩, hq⟩ := s41 0 (by omega) _ _ ⟨rfl, rfl⟩
      refine body_20 (ws n0 k41) x b d H _ fun t hw h3 h4 h5 => ?_
      rw [hK]
      refine (rest20c (ws n0 k41) x b H.length (H.length + 1) (H.length + 2) d v K t hw h3 h4 h5 g3 g4 g5 gb (fun c => by rw [sne _ _ (by omega)]; exact g3) (fun c => by rw [sne _ _ (by omega)]; exact g4) (fun c => by rw [sne _ _ (by omega)]; exact g5) sb hwv hneg hdeep q J' (by rw [w_here]; exact hq)).mono fun o ho => ho.mono ?_
      rintro r H' ⟨q', rfl, rfl⟩
      obtain ⟨⟨pre, hpre⟩, z1, z2, w, z3, z4, z5⟩ := hSL
      refine ⟨q', rfl, by omega, fun n hn hne => by rw [z2 n (by omega) hne]; simp only [K1]; rw [sne _ _ hne, kold n hn], w, z3, by omega, by omega⟩
    refine key.mono ?_
    rintro r H' ⟨q, rfl, hD⟩
    exact ⟨q, rfl, fin H' hD⟩) NT
  refine ⟨g, hg, fun x b d v H hL => ?_⟩
  obtain ⟨r, H', ⟨q, rfl, hD⟩, h⟩ := hs x.num hL.2.1 _ H ⟨x, b, d, v, hL, rfl⟩
  exact ⟨q, H', hD x b d v hL rfl, h⟩
theorem sp14 : ∃ g, SpecOK Tryz.prog TT 14 g ∧ ∀ x : Nd, x.num < NT → ∃ b : Bool, ∀ H, g [x.enc] H = .val (.b b) H := by
  obtain ⟨g20, k20, s20⟩ := sp20
  refine spec_bool TT_ok TT_plain 14 (fun x : Nd => [x.enc]) (fun x => x.num < NT) (fun x _ => by simp [nlL, Nd.enc_nl]) fun x hx => ?_
  have hN : NT = 1090000 := rfl
  obtain ⟨q, K, _, hq⟩ := s20 x 1 1 4000 [some ⟨24, [.i .i64 x.kind, .s x.text, .isl 3 (Nd.encL x.kids)], .all⟩, some ⟨3, [.i .i64 4000], .all⟩] ⟨rfl, hx, by simp, rfl, by omega, by omega, by omega, by omega⟩
  exact body_14 (ws n0 k20) x q K (by rw [w_here]; exact hq)
/-- Check returns some error of each tree that fits. -/
theorem sp8 : ∃ g, SpecOK Tryz.prog TT 8 g ∧ ∀ x : Nd, x.num < NT ∧ x.tok → ∃ n : Int, ∀ H, g [x.enc] H = .val (.i .i64 n) H := by
  obtain ⟨g14, k14, s14⟩ := sp14
  obtain ⟨g16, k16, s16⟩ := sp16
  refine spec_int TT_ok TT_plain 8 (fun x : Nd => [x.enc]) (fun x => x.num < NT ∧ x.tok) (fun x _ => by simp [nlL, Nd.enc_nl]) fun x hx => ?_
  obtain ⟨b, hb⟩ := s14 x hx.1
  have hC := ws (ws (ws n0 k14) k16) ok15
  cases b with
  | true => exact body_8l hC x fun H => by rw [w_other _ _ _ _ rfl, w_other _ _ _ _ rfl, w_here]; exact hb H
  | false =>
    obtain ⟨q, hq⟩ := s16 x hx.1 hx.2
    exact body_8s hC x q (fun H => by rw [w_other _ _ _ _ rfl, w_other _ _ _ _ rfl, w_here]; exact hb H) (fun H => by rw [w_here]; rfl) fun H => by rw [w_other _ _ _ _ rfl, w_here]; exact hq H
end Go.Ev
