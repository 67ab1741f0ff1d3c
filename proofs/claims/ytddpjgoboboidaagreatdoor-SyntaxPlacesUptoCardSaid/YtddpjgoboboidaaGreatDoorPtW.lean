/- A place in a tree, and what it leaves when another part is laid there. -/
import Derived.Test.YtddpjgoboboidaaGreatDoorAtS
namespace Go.Ev
open Go Go.Proofs
set_option maxRecDepth 100000
set_option linter.unusedSimpArgs false
set_option linter.unusedVariables false
/-- The tree with another part at a path. -/
def putN (x : Nd) : List Int → Nd → Nd
  | [], y => y
  | i :: p, y => match x.kids[i.toNat]? with
    | some k => .mk x.kind x.text (x.kids.set i.toNat (putN k p y))
    | none => x
/-- What Put returns. -/
def putV (x : Nd) (p : List Int) (y : Nd) : V := match walkN x p with
  | some _ => .tup [(putN x p y).enc, .i .i64 0]
  | none => .tup [noNd.enc, .i .i64 5]
theorem TreeIn.cells {H : Heap} {x : Nd} {v : V} {bs : List Nat} (h : TreeIn H x v bs) : v.cells.length = 3 := by
  obtain ⟨kv, rfl, _⟩ := h.agg
  rfl
theorem RowIn.each {H : Heap} : ∀ (l : List Nd) (vs : List V) (bs : List Nat), RowIn H l vs bs → ∀ v ∈ vs, v.cells.length = 3
  | [], vs, bs, h, v, hv => by
    simp only [RowIn] at h
    obtain ⟨rfl, rfl⟩ := h
    cases hv
  | x :: l, vs, bs, h, v, hv => by
    simp only [RowIn] at h
    obtain ⟨u, r, c1, c2, rfl, rfl, h3, h4⟩ := h
    rcases List.mem_cons.1 hv with rfl | hv
    · exact h3.cells
    · exact RowIn.each l r c2 h4 v hv
theorem flatMap_at : ∀ (vs : List V) (i : Nat) (v : V), (∀ u ∈ vs, u.cells.length = 3) → vs[i]? = some v → ((vs.flatMap V.cells).drop (i * 3)).take 3 = v.cells
  | [], i, v, _, h => by simp at h
  | u :: vs, 0, v, hc, h => by
    simp only [List.getElem?_cons_zero, Option.some.injEq] at h
    subst h
    have := hc u (by simp)
    simp only [Nat.zero_mul, List.drop_zero, List.flatMap_cons]
    rw [List.take_append_of_le_length (by omega), List.take_of_length_le (by omega)]
  | u :: vs, i + 1, v, hc, h => by
    simp only [List.getElem?_cons_succ] at h
    have hu := hc u (by simp)
    have := flatMap_at vs i v (fun w hw => hc w (by simp [hw])) h
    simp only [List.flatMap_cons]
    rw [show (i + 1) * 3 = u.cells.length + i * 3 from by omega, ← List.drop_drop, List.drop_left]
    exact this
theorem flatMap_set : ∀ (vs : List V) (i : Nat) (v : V), (∀ u ∈ vs, u.cells.length = 3) → i < vs.length → (vs.flatMap V.cells).take (i * 3) ++ v.cells ++ (vs.flatMap V.cells).drop (i * 3 + 3) = (vs.set i v).flatMap V.cells
  | [], i, v, _, h => by simp at h
  | u :: vs, 0, v, hc, h => by
    have hu := hc u (by simp)
    simp only [Nat.zero_mul, List.take_zero, List.nil_append, List.flatMap_cons, List.set_cons_zero, Nat.zero_add]
    rw [show 3 = u.cells.length from hu.symm, List.drop_left]
  | u :: vs, i + 1, v, hc, h => by
    have hu := hc u (by simp)
    have := flatMap_set vs i v (fun w hw => hc w (by simp [hw])) (by simpa using h)
    simp only [List.flatMap_cons, List.set_cons_succ]
    rw [← this, show (i + 1) * 3 = u.cells.length + i * 3 from by omega, show u.cells.length + i * 3 + 3 = u.cells.length + (i * 3 + 3) from by omega, ← List.drop_drop, List.drop_left, List.take_append, List.take_of_length_le (by omega)]
    simp [List.append_assoc]
/-- One part of a row, and another in its place. -/
theorem RowIn.split {H : Heap} : ∀ (l : List Nd) (vs : List V) (bs : List Nat) (i : Nat) (x : Nd), RowIn H l vs bs → l[i]? = some x → bs.Nodup →
    ∃ v bx, vs[i]? = some v ∧ TreeIn H x v bx ∧ (∀ d ∈ bx, d ∈ bs) ∧ bx.Nodup ∧ ∀ (H' : Heap) (y : Nd) (v' : V) (b' : List Nat), (∀ d ∈ bs, d ∉ bx → H'[d]? = H[d]?) → TreeIn H' y v' b' → ∃ bs2, RowIn H' (l.set i y) (vs.set i v') bs2
  | [], vs, bs, i, x, h, hx, hn => by simp at hx
  | z :: l, vs, bs, 0, x, h, hx, hn => by
    simp only [List.getElem?_cons_zero, Option.some.injEq] at hx
    subst hx
    simp only [RowIn] at h
    obtain ⟨u, r, c1, c2, rfl, rfl, h3, h4⟩ := h
    rw [List.nodup_append] at hn
    obtain ⟨n1, n2, n3⟩ := hn
    refine ⟨u, c1, rfl, h3, fun d hd => by simp [hd], n1, fun H' y v' b' hk hy => ⟨b' ++ c2, ?_⟩⟩
    simp only [List.set_cons_zero, RowIn]
    refine ⟨v', r, b', c2, rfl, rfl, hy, RowIn.keep l r c2 h4 fun d hd => hk d (by simp [hd]) fun hd1 => n3 d hd1 d hd rfl⟩
  | z :: l, vs, bs, i + 1, x, h, hx, hn => by
    simp only [List.getElem?_cons_succ] at hx
    simp only [RowIn] at h
    obtain ⟨u, r, c1, c2, rfl, rfl, h3, h4⟩ := h
    rw [List.nodup_append] at hn
    obtain ⟨n1, n2, n3⟩ := hn
    obtain ⟨v, bx, e1, e2, e3, e4, e5⟩ := RowIn.split l r c2 i x h4 hx n2
    refine ⟨v, bx, by simpa using e1, e2, fun d hd => by simp [e3 d hd], e4, fun H' y v' b' hk hy => ?_⟩
    obtain ⟨bs2, e6⟩ := e5 H' y v' b' (fun d hd hd2 => hk d (by simp [hd]) hd2) hy
    refine ⟨c1 ++ bs2, ?_⟩
    simp only [List.set_cons_succ, RowIn]
    refine ⟨u, _, c1, bs2, rfl, rfl, TreeIn.keep _ _ _ h3 fun d hd => hk d (by simp [hd]) fun hd2 => n3 d hd d (e3 d hd2) rfl, e6⟩
/-- A block in which a tree begins. -/
def Root (b10 : Nat) (H : Heap) (x : Nd) : Prop := ∃ v bs, H[b10]? = some (some ⟨24, v.cells, .all⟩) ∧ TreeIn H x v bs
/-- A place in a tree in which another part can be laid. -/
def Spot (b10 : Nat) (K : Heap) (b off : Nat) (cur : Nd) (C : Nd → Nd) : Prop := ∃ (v : V) (bs : List Nat) (kd : BK) (cs : List V),
  K[b]? = some (some ⟨24, cs, kd⟩) ∧ kd ≠ .map ∧ off + 3 ≤ cs.length ∧ (cs.drop off).take 3 = v.cells ∧ TreeIn K cur v bs ∧ bs.Nodup ∧ b ∉ bs ∧ (∀ c ∈ b :: bs, 3 ≤ c ∧ c < K.length) ∧
  ∀ (H3 : Heap) (y : Nd) (v' : V) (bs' : List Nat), (∀ d, d < K.length → d ≠ b → d ∉ bs → H3[d]? = K[d]?) → H3[b]? = some (some ⟨24, cs.take off ++ v'.cells ++ cs.drop (off + 3), kd⟩) → TreeIn H3 y v' bs' → Root b10 H3 (C y)
end Go.Ev

namespace Go.Ev
open Go Go.Proofs
set_option maxRecDepth 100000
set_option linter.unusedSimpArgs false
set_option linter.unusedVariables false
/-- The whole tree, in a block of its own. -/
theorem Spot.start {K0 K1 : Heap} {x : Nd} {p q r : V} (ho : CpOut K0 x (.agg [p, q, r]) K1) (h0 : 3 ≤ K0.length) : Spot K1.length (K1 ++ [some ⟨24, [p, q, r], .all⟩]) K1.length 0 x id := by
  obtain ⟨bs, g1, g2, g3, g4, g5⟩ := ho
  refine ⟨.agg [p, q, r], bs, .all, [p, q, r], by simp, by simp, by simp, by simp [V.cells], TreeIn.keep _ _ _ g3 fun b hb => ?_, g4, ?_, ?_, ?_⟩
  · have := g5 b hb
    rw [List.getElem?_append_left (by omega)]
  · intro hb
    have := g5 _ hb
    omega
  · intro c hc
    rcases List.mem_cons.1 hc with rfl | hc
    · simp
      omega
    · have := g5 c hc
      simp
      omega
  · intro H3 y v' bs' hk hb hy
    have h3 := hy.cells
    refine ⟨v', bs', ?_, hy⟩
    rw [hb]
    simp
/-- One step down. -/
theorem Spot.down {b10 : Nat} {K : Heap} {b off : Nat} {cur k : Nd} {C : Nd → Nd} {i : Nat} (h : Spot b10 K b off cur C) (hk : cur.kids[i]? = some k) : ∃ c cs kd, K[b]? = some (some ⟨24, cs, kd⟩) ∧ kd ≠ .map ∧ off + 3 ≤ cs.length ∧ cs[off + 2]? = some (.sl c 3 0 cur.kids.length none) ∧ Spot b10 K c (i * 3) k (fun y => C (.mk cur.kind cur.text (cur.kids.set i y))) := by
  obtain ⟨v, bs, kd, cs, g1, g2, g3, g4, g5, g6, g7, g8, g9⟩ := h
  cases cur with
  | mk kk s l =>
    simp only [Nd.kids] at hk ⊢
    have g5' := g5
    simp only [TreeIn] at g5
    obtain ⟨kv, rfl, ⟨rfl, _, _⟩ | ⟨c, vs, bs1, hl, rfl, hc, rfl, hr⟩⟩ := g5
    · simp at hk
    rw [List.nodup_cons] at g6
    obtain ⟨n1, n2⟩ := g6
    obtain ⟨c1, c2⟩ := RowIn.cells l vs bs1 hr
    have hil : i < l.length := (List.getElem?_eq_some_iff.1 hk).1
    obtain ⟨v1, bx, e1, e2, e3, e4, e5⟩ := RowIn.split l vs bs1 i k hr hk n2
    have hbc : b ≠ c := fun e => g7 (by simp [e])
    have hb1 : b ∉ bs1 := fun e => g7 (by simp [e])
    refine ⟨c, cs, kd, g1, g2, g3, ?_, ?_⟩
    · have : ((cs.drop off).take 3)[2]? = some (.sl c 3 0 l.length none) := by rw [g4]; rfl
      rw [List.getElem?_take_of_lt (by omega), List.getElem?_drop] at this
      exact this
    · refine ⟨v1, bx, .more, vs.flatMap V.cells, hc, by simp, by omega, flatMap_at vs i v1 (RowIn.each l vs bs1 hr) e1, e2, e4, fun e => n1 (e3 c e), ?_, ?_⟩
      · intro d hd
        rcases List.mem_cons.1 hd with rfl | hd
        · exact g8 _ (by simp)
        · exact g8 d (by simp [e3 d hd])
      · intro H3 y v' bs' hkeep hput hy
        rw [show (vs.flatMap V.cells).take (i * 3) ++ v'.cells ++ (vs.flatMap V.cells).drop (i * 3 + 3) = (vs.set i v').flatMap V.cells from by
          exact flatMap_set vs i v' (RowIn.each l vs bs1 hr) (by omega)] at hput
        obtain ⟨bs2, e6⟩ := e5 H3 y v' bs' (fun d hd hd2 => hkeep d (g8 d (by simp [hd])).2 (fun e => n1 (e ▸ hd)) hd2) hy
        refine g9 H3 (.mk kk s (l.set i y)) (.agg [.i .i64 kk, .s s, .sl c 3 0 l.length none]) (c :: bs2) ?_ ?_ ?_
        · intro d hd1 hd2 hd3
          simp only [List.mem_cons, not_or] at hd3
          exact hkeep d hd1 hd3.1 fun e => hd3.2 (e3 d e)
        · rw [hkeep b (g8 b (by simp)).2 hbc fun e => hb1 (e3 b e), g1]
          have : cs.take off ++ V.cells (.agg [.i .i64 kk, .s s, .sl c 3 0 l.length none]) ++ cs.drop (off + 3) = cs := by
            rw [← g4, List.append_assoc, ← List.drop_drop, List.take_append_drop, List.take_append_drop]
          rw [this]
        · simp only [TreeIn]
          exact ⟨_, rfl, .inr ⟨c, vs.set i v', bs2, by simpa using fun e => hl (by simpa using e), by simp, hput, rfl, e6⟩⟩
theorem Spot.blk {b10 : Nat} {K : Heap} {b off : Nat} {cur : Nd} {C : Nd → Nd} (h : Spot b10 K b off cur C) : 3 ≤ b ∧ b < K.length ∧ ∃ cs kd, K[b]? = some (some ⟨24, cs, kd⟩) ∧ kd ≠ .map ∧ off + 3 ≤ cs.length := by
  obtain ⟨v, bs, kd, cs, g1, g2, g3, g4, g5, g6, g7, g8, g9⟩ := h
  have := g8 b (by simp)
  exact ⟨this.1, this.2, cs, kd, g1, g2, g3⟩
/-- Another part is laid there. -/
theorem Spot.fill {b10 : Nat} {K K' : Heap} {b off : Nat} {cur y : Nd} {C : Nd → Nd} {cs : List V} {kd : BK} {p q r : V} (h : Spot b10 K b off cur C) (hb : K[b]? = some (some ⟨24, cs, kd⟩)) (ho : CpOut K y (.agg [p, q, r]) K') : Root b10 (K'.set b (some ⟨24, cs.take off ++ [p, q, r] ++ cs.drop (off + 3), kd⟩)) (C y) := by
  obtain ⟨v, bs, kd', cs', g1, g2, g3, g4, g5, g6, g7, g8, g9⟩ := h
  obtain ⟨bs', o1, o2, o3, o4, o5⟩ := ho
  rw [g1] at hb
  simp only [Option.some.injEq, Blk.mk.injEq, true_and] at hb
  obtain ⟨rfl, rfl⟩ := hb
  have hbl := (g8 b (by simp)).2
  refine g9 _ y (.agg [p, q, r]) bs' (fun d hd hdb _ => ?_) (by rw [List.getElem?_set_self (by omega)]; rfl) (TreeIn.keep _ _ _ o3 fun d hd => ?_)
  · rw [List.getElem?_set_ne (by omega)]; exact o2 d hd
  · have := o5 d hd
    rw [List.getElem?_set_ne (by omega)]
theorem Root.at {b10 : Nat} {H : Heap} {x : Nd} (h : Root b10 H x) : ∃ p q r bs, H[b10]? = some (some ⟨24, [p, q, r], .all⟩) ∧ TreeIn H x (.agg [p, q, r]) bs := by
  obtain ⟨v, bs, h1, h2⟩ := h
  obtain ⟨kv, rfl, _⟩ := h2.agg
  exact ⟨_, _, _, bs, h1, h2⟩
theorem CpOut.three {K K' : Heap} {y : Nd} {v : V} (h : CpOut K y v K') : ∃ a b c, v = .agg [a, b, c] ∧ flat a = true ∧ flat b = true ∧ flat c = true := by
  obtain ⟨bs, _, _, h3, _⟩ := h
  obtain ⟨kv, rfl, hf⟩ := h3.agg
  exact ⟨_, _, _, rfl, rfl, rfl, hf⟩
mutual
/-- The blocks of a tree are rows with more behind them. -/
theorem TreeIn.mores {H : Heap} : ∀ (x : Nd) (v : V) (bs : List Nat), TreeIn H x v bs → ∀ b ∈ bs, ∃ cs, H[b]? = some (some ⟨24, cs, .more⟩)
  | .mk k s l, v, bs, h, b, hb => by
    simp only [TreeIn] at h
    obtain ⟨kv, rfl, ⟨rfl, rfl, rfl⟩ | ⟨c, vs, bs', _, rfl, hc, rfl, hr⟩⟩ := h
    · cases hb
    · rcases List.mem_cons.1 hb with rfl | hb
      · exact ⟨_, hc⟩
      · exact RowIn.mores l vs bs' hr b hb
theorem RowIn.mores {H : Heap} : ∀ (l : List Nd) (vs : List V) (bs : List Nat), RowIn H l vs bs → ∀ b ∈ bs, ∃ cs, H[b]? = some (some ⟨24, cs, .more⟩)
  | [], vs, bs, h, b, hb => by
    simp only [RowIn] at h
    obtain ⟨rfl, rfl⟩ := h
    cases hb
  | x :: l, vs, bs, h, b, hb => by
    simp only [RowIn] at h
    obtain ⟨u, r, c1, c2, rfl, rfl, h3, h4⟩ := h
    rcases List.mem_append.1 hb with hb | hb
    · exact TreeIn.mores x u c1 h3 b hb
    · exact RowIn.mores l r c2 h4 b hb
end
theorem TreeIn.flats {H : Heap} {x : Nd} {a b c : V} {bs : List Nat} (h : TreeIn H x (.agg [a, b, c]) bs) : flat a = true ∧ flat b = true ∧ flat c = true := by
  obtain ⟨kv, e, hf⟩ := h.agg
  simp only [V.agg.injEq, List.cons.injEq, and_true] at e
  obtain ⟨rfl, rfl, rfl⟩ := e
  exact ⟨rfl, rfl, hf⟩
theorem putN_next {x k : Nd} {i : Int} {p : List Int} {y : Nd} (h : x.kids[i.toNat]? = some k) : putN x (i :: p) y = .mk x.kind x.text (x.kids.set i.toNat (putN k p y)) := by
  simp only [putN, h]
end Go.Ev

namespace Go.Ev
open Go Go.Proofs
set_option maxRecDepth 100000
set_option linter.unusedSimpArgs false
set_option linter.unusedVariables false
theorem body_1010n {call : CallF} (hC : call.Sound Tryz.prog TT) (x y : Nd) (p : List Int) (hs12 : ∀ K, call 8 [.agg [.i .i64 x.kind, .s x.text, .isl 3 (Nd.encL x.kids)], .isl 1 (encI p)] K = .val (.tup [.agg [.i .i64 0, .s [], .isl 3 []], .i .i64 5]) K)  : HBody Tryz.prog TT 10 [x.enc, .isl 1 (encI p), y.enc] [] (fun v _ => v = .tup [.agg [.i .i64 0, .s [], .nils], .i .i64 5]) := by
  refine ⟨Tryz.f10, _, rfl, rfl, by simp [Tryz.f10], ?_⟩
  have h0 : (Tm.init Tryz.f10.ntmps [x.enc, .isl 1 (encI p), y.enc]).get 0 = x.enc := by rw [get_init]; rfl
  have h1 : (Tm.init Tryz.f10.ntmps [x.enc, .isl 1 (encI p), y.enc]).get 1 = .isl 1 (encI p) := by rw [get_init]; rfl
  have h2 : (Tm.init Tryz.f10.ntmps [x.enc, .isl 1 (encI p), y.enc]).get 2 = y.enc := by rw [get_init]; rfl
  have hw : (Tm.init Tryz.f10.ntmps [x.enc, .isl 1 (encI p), y.enc]).wid = 49 := rfl
  generalize Tm.init Tryz.f10.ntmps [x.enc, .isl 1 (encI p), y.enc] = t at *
  try simp only [Nd.enc_eq] at *
  refine Tri.seq' ?_
  refine Tri.regN (t' := ?t1) (H' := ?H1) TT_ok hC ?e1 ?q1
  case e1 =>
    refine go_false ?_
    refine evSeq_go rfl (by simp [h0, h1, h2, hs12] <;> rfl) (by rfl) (by simp [hw]) ?_
    refine evSeq_go rfl (by simp [h0, h1, h2, hs12] <;> rfl) (by rfl) (by simp [hw]) ?_
    refine evSeq_go rfl (by simp [h0, h1, h2, hs12] <;> rfl) (by rfl) (by simp [hw]) ?_
    refine evSeq_go rfl (by simp [h0, h1, h2, hs12] <;> rfl) (by rfl) (by simp [hw]) ?_
    exact evSeq_nil
  refine inSeq_norm ?_
  refine Tri.seq' ?_
  refine Tri.seq' ?_
  refine Tri.regN (t' := ?t2) (H' := ?H2) TT_ok hC ?e2 ?q2
  case e2 =>
    refine go_false ?_
    refine evSeq_go rfl (by simp [h0, h1, h2, hs12] <;> rfl) (by rfl) (by simp [hw]) ?_
    refine evSeq_go rfl (by simp [h0, h1, h2, hs12] <;> rfl) (by rfl) (by simp [hw]) ?_
    refine evSeq_go rfl (by simp [h0, h1, h2, hs12] <;> rfl) (by rfl) (by simp [hw]) ?_
    refine evSeq_go rfl (by simp [h0, h1, h2, hs12] <;> rfl) (by rfl) (by simp [hw]) ?_
    refine evSeq_go rfl (by simp [h0, h1, h2, hs12] <;> rfl) (by rfl) (by simp [hw]) ?_
    refine evSeq_go rfl (by simp [h0, h1, h2, hs12] <;> rfl) (by rfl) (by simp [hw]) ?_
    refine evSeq_go rfl (by simp [h0, h1, h2, hs12] <;> rfl) (by rfl) (by simp [hw]) ?_
    refine evSeq_go rfl (by simp [h0, h1, h2, hs12] <;> rfl) (by rfl) (by simp [hw]) ?_
    refine evSeq_go rfl (by simp [h0, h1, h2, hs12] <;> rfl) (by rfl) (by simp [hw]) ?_
    exact evSeq_nil
  refine inSeq_norm ?_
  refine Tri.seq' ?_
  refine Tri.regN (t' := ?t3) (H' := ?H3) TT_ok hC ?e3 ?q3
  case e3 =>
    refine go_false ?_
    refine evSeq_go rfl (by simp [h0, h1, h2, hs12] <;> rfl) (by rfl) (by simp [hw]) ?_
    refine evSeq_go rfl (by simp [h0, h1, h2, hs12] <;> rfl) (by rfl) (by simp [hw]) ?_
    exact evSeq_nil
  refine inSeq_norm ?_
  refine Tri.condG (o := ?o4) (b := ?b4) ?g4 ?r4 ?y4 ?n4
  case g4 => simp [h0, h1, h2, hs12] <;> rfl
  case r4 => rfl
  case y4 =>
    intro hy4
    refine Tri.seq' ?_
    refine Tri.regN (t' := ?t5) (H' := ?H5) TT_ok hC ?e5 ?q5
    case e5 =>
      refine go_false ?_
      refine evSeq_go rfl (by simp [h0, h1, h2, hs12] <;> rfl) (by rfl) (by simp [hw]) ?_
      refine evSeq_go rfl (by simp [h0, h1, h2, hs12] <;> rfl) (by rfl) (by simp [hw]) ?_
      refine evSeq_go rfl (by simp [h0, h1, h2, hs12] <;> rfl) (by rfl) (by simp [hw]) ?_
      refine evSeq_go rfl (by simp [h0, h1, h2, hs12] <;> rfl) (by rfl) (by simp [hw]) ?_
      exact evSeq_nil
    refine inSeq_norm ?_
    refine Tri.ret ?_
    refine inSeq_ret ?_
    exact endsH (by simp [finish, evResults, evResult, Tryz.f10] <;> rfl) (by rfl) rfl
  case n4 =>
    intro hn4
    exact absurd hn4 (by simp [h0, h1, h2, hs12])
theorem body_1010z {call : CallF} (hC : call.Sound Tryz.prog TT) (x y : Nd) (hs12 : ∀ K, call 8 [.agg [.i .i64 x.kind, .s x.text, .isl 3 (Nd.encL x.kids)], .isl 1 []] K = .val (.tup [.agg [.i .i64 x.kind, .s x.text, .isl 3 (Nd.encL x.kids)], .i .i64 0]) K) (hs19 : ∀ K, call 28 [.agg [.i .i64 y.kind, .s y.text, .isl 3 (Nd.encL y.kids)]] K = .val (.agg [.i .i64 y.kind, .s y.text, .isl 3 (Nd.encL y.kids)]) K)  : HBody Tryz.prog TT 10 [x.enc, .isl 1 [], y.enc] [] (fun v _ => v = .tup [.agg [.i .i64 y.kind, .s y.text, .isl 3 (Nd.encL y.kids)], .i .i64 0]) := by
  refine ⟨Tryz.f10, _, rfl, rfl, by simp [Tryz.f10], ?_⟩
  have h0 : (Tm.init Tryz.f10.ntmps [x.enc, .isl 1 [], y.enc]).get 0 = x.enc := by rw [get_init]; rfl
  have h1 : (Tm.init Tryz.f10.ntmps [x.enc, .isl 1 [], y.enc]).get 1 = .isl 1 [] := by rw [get_init]; rfl
  have h2 : (Tm.init Tryz.f10.ntmps [x.enc, .isl 1 [], y.enc]).get 2 = y.enc := by rw [get_init]; rfl
  have hw : (Tm.init Tryz.f10.ntmps [x.enc, .isl 1 [], y.enc]).wid = 49 := rfl
  generalize Tm.init Tryz.f10.ntmps [x.enc, .isl 1 [], y.enc] = t at *
  try simp only [Nd.enc_eq] at *
  refine Tri.seq' ?_
  refine Tri.regN (t' := ?t1) (H' := ?H1) TT_ok hC ?e1 ?q1
  case e1 =>
    refine go_false ?_
    refine evSeq_go rfl (by simp [h0, h1, h2, hs12, hs19] <;> rfl) (by rfl) (by simp [hw]) ?_
    refine evSeq_go rfl (by simp [h0, h1, h2, hs12, hs19] <;> rfl) (by rfl) (by simp [hw]) ?_
    refine evSeq_go rfl (by simp [h0, h1, h2, hs12, hs19] <;> rfl) (by rfl) (by simp [hw]) ?_
    refine evSeq_go rfl (by simp [h0, h1, h2, hs12, hs19] <;> rfl) (by rfl) (by simp [hw]) ?_
    exact evSeq_nil
  refine inSeq_norm ?_
  refine Tri.seq' ?_
  refine Tri.seq' ?_
  refine Tri.regN (t' := ?t2) (H' := ?H2) TT_ok hC ?e2 ?q2
  case e2 =>
    refine go_false ?_
    refine evSeq_go rfl (by simp [h0, h1, h2, hs12, hs19] <;> rfl) (by rfl) (by simp [hw]) ?_
    refine evSeq_go rfl (by simp [h0, h1, h2, hs12, hs19] <;> rfl) (by rfl) (by simp [hw]) ?_
    refine evSeq_go rfl (by simp [h0, h1, h2, hs12, hs19] <;> rfl) (by rfl) (by simp [hw]) ?_
    refine evSeq_go rfl (by simp [h0, h1, h2, hs12, hs19] <;> rfl) (by rfl) (by simp [hw]) ?_
    refine evSeq_go rfl (by simp [h0, h1, h2, hs12, hs19] <;> rfl) (by rfl) (by simp [hw]) ?_
    refine evSeq_go rfl (by simp [h0, h1, h2, hs12, hs19] <;> rfl) (by rfl) (by simp [hw]) ?_
    refine evSeq_go rfl (by simp [h0, h1, h2, hs12, hs19] <;> rfl) (by rfl) (by simp [hw]) ?_
    refine evSeq_go rfl (by simp [h0, h1, h2, hs12, hs19] <;> rfl) (by rfl) (by simp [hw]) ?_
    refine evSeq_go rfl (by simp [h0, h1, h2, hs12, hs19] <;> rfl) (by rfl) (by simp [hw]) ?_
    exact evSeq_nil
  refine inSeq_norm ?_
  refine Tri.seq' ?_
  refine Tri.regN (t' := ?t3) (H' := ?H3) TT_ok hC ?e3 ?q3
  case e3 =>
    refine go_false ?_
    refine evSeq_go rfl (by simp [h0, h1, h2, hs12, hs19] <;> rfl) (by rfl) (by simp [hw]) ?_
    refine evSeq_go rfl (by simp [h0, h1, h2, hs12, hs19] <;> rfl) (by rfl) (by simp [hw]) ?_
    exact evSeq_nil
  refine inSeq_norm ?_
  refine Tri.condG (o := ?o4) (b := ?b4) ?g4 ?r4 ?y4 ?n4
  case g4 => simp [h0, h1, h2, hs12, hs19] <;> rfl
  case r4 => rfl
  case y4 =>
    intro hy4
    exact absurd hy4 (by simp [h0, h1, h2, hs12, hs19])
  case n4 =>
    intro hn4
    refine Tri.skip ?_
    refine inSeq_norm ?_
    refine Tri.seq' ?_
    refine Tri.seq' ?_
    refine Tri.regN (t' := ?t5) (H' := ?H5) TT_ok hC ?e5 ?q5
    case e5 =>
      refine go_false ?_
      refine evSeq_go rfl (by simp [h0, h1, h2, hs12, hs19] <;> rfl) (by rfl) (by simp [hw]) ?_
      refine evSeq_go rfl (by simp [h0, h1, h2, hs12, hs19] <;> rfl) (by rfl) (by simp [hw]) ?_
      refine evSeq_go rfl (by simp [h0, h1, h2, hs12, hs19] <;> rfl) (by rfl) (by simp [hw]) ?_
      exact evSeq_nil
    refine inSeq_norm ?_
    refine Tri.condG (o := ?o6) (b := ?b6) ?g6 ?r6 ?y6 ?n6
    case g6 => simp [h0, h1, h2, hs12, hs19] <;> rfl
    case r6 => rfl
    case y6 =>
      intro hy6
      refine Tri.seq' ?_
      refine Tri.regN (t' := ?t7) (H' := ?H7) TT_ok hC ?e7 ?q7
      case e7 =>
        refine go_false ?_
        refine evSeq_go rfl (by simp [h0, h1, h2, hs12, hs19] <;> rfl) (by rfl) (by simp [hw]) ?_
        refine evSeq_go rfl (by simp [h0, h1, h2, hs12, hs19] <;> rfl) (by rfl) (by simp [hw]) ?_
        refine evSeq_go rfl (by simp [h0, h1, h2, hs12, hs19] <;> rfl) (by rfl) (by simp [hw]) ?_
        refine evSeq_go rfl (by simp [h0, h1, h2, hs12, hs19] <;> rfl) (by rfl) (by simp [hw]) ?_
        exact evSeq_nil
      refine inSeq_norm ?_
      refine Tri.ret ?_
      refine inSeq_ret ?_
      exact endsH (by simp [finish, evResults, evResult, Tryz.f10] <;> rfl) (by rfl) rfl
    case n6 =>
      intro hn6
      exact absurd hn6 (by simp [h0, h1, h2, hs12, hs19])
end Go.Ev
