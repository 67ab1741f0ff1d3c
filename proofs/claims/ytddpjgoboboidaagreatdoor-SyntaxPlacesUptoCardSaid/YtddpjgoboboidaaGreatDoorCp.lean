/- Walks over the copying of a tree. -/
import Derived.Test.YtddpjgoboboidaaGreatDoorNodes
import Derived.Test.YtddpjgoboboidaaGreatDoorEvIter
namespace Go.Ev
open Go Go.Proofs
set_option maxRecDepth 100000
set_option linter.unusedSimpArgs false
/-- The cells of a row of nodes. -/
def cellsN : List Nd → List V
  | [] => []
  | .mk k s l :: r => .i .i64 k :: .s s :: .isl 3 (Nd.encL l) :: cellsN r
theorem cellsN_eq : ∀ l : List Nd, (Nd.encL l).flatMap V.cells = cellsN l
  | [] => rfl
  | .mk k s l :: r => by
    have ih := cellsN_eq r
    simp only [Nd.encL, Nd.enc, List.flatMap_cons, V.cells, cellsN, ih]
    rfl
theorem cellsN_flat : ∀ l : List Nd, (cellsN l).all flat = true
  | [] => rfl
  | .mk k s l :: r => by
    have ih := cellsN_flat r
    simp [cellsN, flat, ih]
theorem encL_three (l : List Nd) : ((Nd.encL l).all fun v => decide (v.cells.length = 3)) = true := by
  induction l with
  | nil => rfl
  | cons x l ih => cases x; simpa [Nd.encL, Nd.enc, V.cells] using ih
theorem build_none (H : Heap) : evBuildSlice TT 22 0 [] H = .val (.sl H.length 3 0 0 (some 0)) (H ++ [some ⟨24, [], .all⟩]) := by
  simp only [evBuildSlice, tU, Tryz.underlying22, tS24, tZ24]
  simp [reps, fillV, newB_eq, V.cells]
theorem append_enc (H : Heap) (l : List Nd) (hl : l ≠ []) (hlen : l.length < 1100000) : evAppend TT 22 (.sl H.length 3 0 0 (some 0)) (.isl 3 (Nd.encL l)) (H ++ [some ⟨24, [], .all⟩]) = .val (.sl (H.length + 1) 3 0 l.length none) (H ++ [some ⟨24, [], .all⟩, some ⟨24, cellsN l, .more⟩]) := by
  have h1 := encL_three l
  have h2 := cellsN_flat l
  have h3 := cellsN_eq l
  have h4 : l.length ≠ 0 := by simpa using hl
  have h5 : l.length * 48 ≤ 1099511627776 := by omega
  have h6 : l.length ≤ 1099511627776 := by omega
  have hA : appended TT 24 3 (H ++ [some ⟨24, [], .all⟩]) (.isl 3 (Nd.encL l)) = some (cellsN l, l.length) := by
    simp only [appended, h1, h3, Nd.encL_length, and_self, if_true]
  have hc : cellsAt (H ++ [some ⟨24, [], .all⟩]) H.length = some ⟨24, [], .all⟩ := by simp [cellsAt]
  simp only [evAppend, tU, Tryz.underlying22, tS24, tB24, tZ24, hA, h2]
  rw [if_pos ⟨by decide, rfl, by decide, trivial⟩]
  rw [if_pos ⟨trivial, by omega, by omega⟩]
  simp only [hc, cut, newB_eq]
  have e : ¬ (0 + l.length ≤ 0) := by omega
  simp [h4, e]
end Go.Ev

namespace Go.Ev
open Go Go.Proofs
set_option maxRecDepth 100000
set_option linter.unusedSimpArgs false
set_option linter.unusedVariables false
theorem body_46n {call : CallF} (hC : call.Sound Tryz.prog TT) (x : Nd) (l : List Nd) (H : Heap) (hap : evAppend TT 22 (.sl H.length 3 0 0 (some 0)) (.isl 3 (Nd.encL (x :: l))) (H ++ [some ⟨24, [], .all⟩]) = .val (.sl (H.length + 1) 3 0 (l.length + 1) none) (H ++ [some ⟨24, [], .all⟩, some ⟨24, cellsN (x :: l), .more⟩]))  : HBody Tryz.prog TT 36 [.isl 3 (Nd.encL (x :: l))] H (fun v K => v = .sl (H.length + 1) 3 0 (l.length + 1) none ∧ K = H ++ [some ⟨24, [], .all⟩, some ⟨24, cellsN (x :: l), .more⟩]) := by
  refine ⟨Tryz.f36, _, rfl, rfl, by simp [Tryz.f36], ?_⟩
  have h0 : (Tm.init Tryz.f36.ntmps [.isl 3 (Nd.encL (x :: l))]).get 0 = .isl 3 (Nd.encL (x :: l)) := by rw [get_init]; rfl
  have hw : (Tm.init Tryz.f36.ntmps [.isl 3 (Nd.encL (x :: l))]).wid = 8 := rfl
  generalize Tm.init Tryz.f36.ntmps [.isl 3 (Nd.encL (x :: l))] = t at *
  try simp only [Nd.enc_eq] at *
  refine Tri.seq' ?_
  refine Tri.regN (t' := ?t1) (H' := ?H1) TT_ok hC ?e1 ?q1
  case e1 =>
    refine go_false ?_
    refine evSeq_go rfl (by simp [h0, build_none, hap] <;> rfl) (by rfl) (by simp [hw]) ?_
    exact evSeq_nil
  refine inSeq_norm ?_
  refine Tri.seq' ?_
  refine Tri.seq' ?_
  refine Tri.regN (t' := ?t2) (H' := ?H2) TT_ok hC ?e2 ?q2
  case e2 =>
    refine go_false ?_
    refine evSeq_go rfl (by simp [h0, build_none, hap] <;> rfl) (by rfl) (by simp [hw]) ?_
    refine evSeq_go rfl (by simp [h0, build_none, hap] <;> rfl) (by rfl) (by simp [hw]) ?_
    exact evSeq_nil
  refine inSeq_norm ?_
  refine Tri.condG (o := ?o3) (b := ?b3) ?g3 ?r3 ?y3 ?n3
  case g3 => simp [h0, build_none, hap] <;> rfl
  case r3 => rfl
  case y3 =>
    intro hy3
    exact absurd hy3 (by simp [h0, build_none, hap])
  case n3 =>
    intro hn3
    refine Tri.skip ?_
    refine inSeq_norm ?_
    refine Tri.seq' ?_
    refine Tri.regN (t' := ?t4) (H' := ?H4) TT_ok hC ?e4 ?q4
    case e4 =>
      refine go_false ?_
      refine evSeq_go rfl (by simp [h0, build_none, hap] <;> rfl) (by rfl) (by simp [hw]) ?_
      refine evSeq_go rfl (by simp [h0, build_none, hap] <;> rfl) (by rfl) (by simp [hw]) ?_
      refine evSeq_go rfl (by simp [h0, build_none, hap] <;> rfl) (by rfl) (by simp [hw]) ?_
      refine evSeq_go rfl (by simp [h0, build_none, hap] <;> rfl) (by rfl) (by simp [hw]) ?_
      exact evSeq_nil
    refine inSeq_norm ?_
    refine Tri.ret ?_
    refine ⟨_, ⟨rfl, rfl⟩, ?_⟩
    simp [finish, evResults, evResult, Tryz.f36]
theorem body_46e {call : CallF} (hC : call.Sound Tryz.prog TT) (H : Heap) (hap : evAppend TT 22 (.sl H.length 3 0 0 (some 0)) .emp (H ++ [some ⟨24, [], .all⟩]) = .val (.sl H.length 3 0 0 (some 0)) (H ++ [some ⟨24, [], .all⟩]))  : HBody Tryz.prog TT 36 [.emp] H (fun v K => v = .sl H.length 3 0 0 (some 0) ∧ K = H ++ [some ⟨24, [], .all⟩]) := by
  refine ⟨Tryz.f36, _, rfl, rfl, by simp [Tryz.f36], ?_⟩
  have h0 : (Tm.init Tryz.f36.ntmps [.emp]).get 0 = .emp := by rw [get_init]; rfl
  have hw : (Tm.init Tryz.f36.ntmps [.emp]).wid = 8 := rfl
  generalize Tm.init Tryz.f36.ntmps [.emp] = t at *
  try simp only [Nd.enc_eq] at *
  refine Tri.seq' ?_
  refine Tri.regN (t' := ?t1) (H' := ?H1) TT_ok hC ?e1 ?q1
  case e1 =>
    refine go_false ?_
    refine evSeq_go rfl (by simp [h0, build_none, hap] <;> rfl) (by rfl) (by simp [hw]) ?_
    exact evSeq_nil
  refine inSeq_norm ?_
  refine Tri.seq' ?_
  refine Tri.seq' ?_
  refine Tri.regN (t' := ?t2) (H' := ?H2) TT_ok hC ?e2 ?q2
  case e2 =>
    refine go_false ?_
    refine evSeq_go rfl (by simp [h0, build_none, hap] <;> rfl) (by rfl) (by simp [hw]) ?_
    refine evSeq_go rfl (by simp [h0, build_none, hap] <;> rfl) (by rfl) (by simp [hw]) ?_
    exact evSeq_nil
  refine inSeq_norm ?_
  refine Tri.condG (o := ?o3) (b := ?b3) ?g3 ?r3 ?y3 ?n3
  case g3 => simp [h0, build_none, hap] <;> rfl
  case r3 => rfl
  case y3 =>
    intro hy3
    exact absurd hy3 (by simp [h0, build_none, hap])
  case n3 =>
    intro hn3
    refine Tri.skip ?_
    refine inSeq_norm ?_
    refine Tri.seq' ?_
    refine Tri.regN (t' := ?t4) (H' := ?H4) TT_ok hC ?e4 ?q4
    case e4 =>
      refine go_false ?_
      refine evSeq_go rfl (by simp [h0, build_none, hap] <;> rfl) (by rfl) (by simp [hw]) ?_
      refine evSeq_go rfl (by simp [h0, build_none, hap] <;> rfl) (by rfl) (by simp [hw]) ?_
      refine evSeq_go rfl (by simp [h0, build_none, hap] <;> rfl) (by rfl) (by simp [hw]) ?_
      refine evSeq_go rfl (by simp [h0, build_none, hap] <;> rfl) (by rfl) (by simp [hw]) ?_
      exact evSeq_nil
    refine inSeq_norm ?_
    refine Tri.ret ?_
    refine ⟨_, ⟨rfl, rfl⟩, ?_⟩
    simp [finish, evResults, evResult, Tryz.f36]
theorem body_46z {call : CallF} (hC : call.Sound Tryz.prog TT) (H : Heap)  : HBody Tryz.prog TT 36 [.nils] H (fun v K => v = .nils ∧ K = H) := by
  refine ⟨Tryz.f36, _, rfl, rfl, by simp [Tryz.f36], ?_⟩
  have h0 : (Tm.init Tryz.f36.ntmps [.nils]).get 0 = .nils := by rw [get_init]; rfl
  have hw : (Tm.init Tryz.f36.ntmps [.nils]).wid = 8 := rfl
  generalize Tm.init Tryz.f36.ntmps [.nils] = t at *
  try simp only [Nd.enc_eq] at *
  refine Tri.seq' ?_
  refine Tri.regN (t' := ?t1) (H' := ?H1) TT_ok hC ?e1 ?q1
  case e1 =>
    refine go_false ?_
    refine evSeq_go rfl (by simp [h0] <;> rfl) (by rfl) (by simp [hw]) ?_
    exact evSeq_nil
  refine inSeq_norm ?_
  refine Tri.seq' ?_
  refine Tri.seq' ?_
  refine Tri.regN (t' := ?t2) (H' := ?H2) TT_ok hC ?e2 ?q2
  case e2 =>
    refine go_false ?_
    refine evSeq_go rfl (by simp [h0] <;> rfl) (by rfl) (by simp [hw]) ?_
    refine evSeq_go rfl (by simp [h0] <;> rfl) (by rfl) (by simp [hw]) ?_
    exact evSeq_nil
  refine inSeq_norm ?_
  refine Tri.condG (o := ?o3) (b := ?b3) ?g3 ?r3 ?y3 ?n3
  case g3 => simp [h0] <;> rfl
  case r3 => rfl
  case y3 =>
    intro hy3
    refine Tri.seq' ?_
    refine Tri.regN (t' := ?t4) (H' := ?H4) TT_ok hC ?e4 ?q4
    case e4 =>
      refine go_false ?_
      refine evSeq_go rfl (by simp [h0] <;> rfl) (by rfl) (by simp [hw]) ?_
      exact evSeq_nil
    refine inSeq_norm ?_
    refine Tri.ret ?_
    refine inSeq_ret ?_
    refine ⟨_, ⟨rfl, rfl⟩, ?_⟩
    simp [finish, evResults, evResult, Tryz.f36]
  case n3 =>
    intro hn3
    exact absurd hn3 (by simp [h0])
end Go.Ev

namespace Go.Ev
open Go Go.Proofs
set_option maxRecDepth 100000
set_option linter.unusedSimpArgs false
set_option linter.unusedVariables false
theorem beq_longer {H1 H : Heap} (h : H.length < H1.length) : Heap.beq H1 H = false := by
  cases hb : Heap.beq H1 H with
  | false => rfl
  | true => have := Heap.beq_eq _ _ hb; subst this; omega
theorem reg19_5 {call : CallF} (hC : call.Sound Tryz.prog TT) {t : Tm} {H H1 : Heap} {a kb c n i : Nat} {k : Int} {s : List UInt8} {C : List V} {y : Nd} {p q r : V} (hw : t.wid = 25) (h1 : t.get 1 = .ptr a 0) (h3 : t.get 3 = .i .i64 i) (h4 : t.get 4 = .ptr kb 0)
    (ga : H[a]? = some (some ⟨24, [.i .i64 k, .s s, .sl c 3 0 n none], .all⟩)) (gk : H[kb]? = some (some ⟨24, [.i .i64 y.kind, .s y.text, .isl 3 (Nd.encL y.kids)], .all⟩)) (gc : H[c]? = some (some ⟨24, C, .more⟩)) (hin : i < n) (hle : i * 3 + 3 ≤ C.length)
    (hcall : call 28 [.agg [.i .i64 y.kind, .s y.text, .isl 3 (Nd.encL y.kids)]] H = .val (.agg [p, q, r]) H1) (fp : flat p = true) (fq : flat q = true) (fr : flat r = true) (ga1 : H1[a]? = some (some ⟨24, [.i .i64 k, .s s, .sl c 3 0 n none], .all⟩)) (gc1 : H1[c]? = some (some ⟨24, C, .more⟩)) (hlt : H.length < H1.length)
    {Q : Out → Prop} (hQ : ∀ t' : Tm, t'.wid = t.wid → (∀ j, j < 17 → t'.get j = t.get j) → Q (.norm t' (H1.set c (some ⟨24, C.take (i * 3) ++ [p, q, r] ++ C.drop (i * 3 + 3), .more⟩)))) :
    Tri Tryz.prog TT (sub [true, true, false, true, false, false, true, true, false, false, true] (bodyOf Tryz.f28)) t H Q := by
  refine Tri.regN (t' := ?t1) (H' := ?H1) TT_ok hC ?e1 ?q1
  case e1 =>
    show evDraw (evOp TT call) _ t H = _
    refine draw_call7 (v6 := .un) (H2 := H1.set c (some ⟨24, C.take (i * 3) ++ [p, q, r] ++ C.drop (i * 3 + 3), .more⟩)) rfl (by kernel_rfl) (by kernel_rfl) rfl (by simp [h1] <;> rfl) (by simp [fits_some, hw, Nat.blt_eq]) rfl
      rfl rfl (by simp [h1, ga] <;> rfl) (by simp [fits_some, hw, Nat.blt_eq]) (by simp [h1, ga1] <;> rfl)
      rfl rfl (by simp [h3] <;> rfl) (by simp [fits_some, hw, Nat.blt_eq]) rfl
      rfl rfl (by simp [h4, gk] <;> rfl) (by simp [fits_some, hw, Nat.blt_eq])
      rfl rfl (by simp [hcall] <;> rfl) (by simp [fits_some, hw, Nat.blt_eq]) rfl (beq_longer hlt)
      rfl rfl (by simp [h3, hin] <;> rfl) (by simp [fits_some, hw, Nat.blt_eq]) rfl
      rfl rfl (by simp [gc1, fp, fq, fr, hle, -flat]) (by simp [fits_none, hw, Nat.blt_eq]) rfl ?o
    case o => exact rfl
  refine hQ _ (by simp) ?_
  intro j hj
  have : ¬ j = 17 ∧ ¬ j = 18 ∧ ¬ j = 19 ∧ ¬ j = 20 ∧ ¬ j = 21 ∧ ¬ j = 22 := by omega
  simp [this]
end Go.Ev

namespace Go.Ev
open Go Go.Proofs
set_option maxRecDepth 100000
set_option linter.unusedSimpArgs false
set_option linter.unusedVariables false
mutual
/-- A tree that lies in named blocks. -/
def TreeIn (H : Heap) : Nd → V → List Nat → Prop
  | .mk k s l, v, bs => ∃ kv, v = .agg [.i .i64 k, .s s, kv] ∧ ((l = [] ∧ kv = .isl 3 [] ∧ bs = []) ∨ ∃ b vs bs', l ≠ [] ∧ kv = .sl b 3 0 l.length none ∧ H[b]? = some (some ⟨24, vs.flatMap V.cells, .more⟩) ∧ bs = b :: bs' ∧ RowIn H l vs bs')
def RowIn (H : Heap) : List Nd → List V → List Nat → Prop
  | [], vs, bs => vs = [] ∧ bs = []
  | x :: l, vs, bs => ∃ v r b1 b2, vs = v :: r ∧ bs = b1 ++ b2 ∧ TreeIn H x v b1 ∧ RowIn H l r b2
end
mutual
theorem TreeIn.keep {H H' : Heap} : ∀ (x : Nd) (v : V) (bs : List Nat), TreeIn H x v bs → (∀ b ∈ bs, H'[b]? = H[b]?) → TreeIn H' x v bs
  | .mk k s l, v, bs, h, hk => by
    simp only [TreeIn] at h ⊢
    obtain ⟨kv, h1, h2 | ⟨b, vs, bs', h2, h3, h4, h5, h6⟩⟩ := h
    · exact ⟨kv, h1, .inl h2⟩
    · subst h5
      exact ⟨kv, h1, .inr ⟨b, vs, bs', h2, h3, (hk b (by simp)).trans h4, rfl, RowIn.keep l vs bs' h6 fun c hc => hk c (by simp [hc])⟩⟩
theorem RowIn.keep {H H' : Heap} : ∀ (l : List Nd) (vs : List V) (bs : List Nat), RowIn H l vs bs → (∀ b ∈ bs, H'[b]? = H[b]?) → RowIn H' l vs bs
  | [], vs, bs, h, hk => by simpa only [RowIn] using h
  | x :: l, vs, bs, h, hk => by
    simp only [RowIn] at h ⊢
    obtain ⟨v, r, b1, b2, h1, h2, h3, h4⟩ := h
    subst h2
    exact ⟨v, r, b1, b2, h1, rfl, TreeIn.keep x v b1 h3 fun c hc => hk c (by simp [hc]), RowIn.keep l r b2 h4 fun c hc => hk c (by simp [hc])⟩
end
theorem RowIn.snoc {H : Heap} {y : Nd} {v : V} {b1 : List Nat} (hy : TreeIn H y v b1) : ∀ (l : List Nd) (vs : List V) (bs : List Nat), RowIn H l vs bs → RowIn H (l ++ [y]) (vs ++ [v]) (bs ++ b1)
  | [], vs, bs, h => by
    simp only [RowIn] at h
    obtain ⟨rfl, rfl⟩ := h
    simp only [List.nil_append, RowIn]
    exact ⟨v, [], b1, [], rfl, by simp, hy, rfl, rfl⟩
  | x :: l, vs, bs, h => by
    simp only [RowIn] at h
    obtain ⟨u, r, c1, c2, rfl, rfl, h3, h4⟩ := h
    simp only [List.cons_append, RowIn]
    exact ⟨u, r ++ [v], c1, c2 ++ b1, rfl, by simp, h3, RowIn.snoc hy l r c2 h4⟩
theorem TreeIn.agg {H : Heap} : ∀ {x : Nd} {v : V} {bs : List Nat}, TreeIn H x v bs → ∃ kv, v = .agg [.i .i64 x.kind, .s x.text, kv] ∧ flat kv = true
  | .mk k s l, v, bs, h => by
    simp only [TreeIn] at h
    obtain ⟨kv, h1, ⟨_, h2, _⟩ | ⟨b, vs, bs', _, h3, _⟩⟩ := h
    · exact ⟨kv, h1, by subst h2; rfl⟩
    · exact ⟨kv, h1, by subst h3; rfl⟩
theorem RowIn.cells {H : Heap} : ∀ (l : List Nd) (vs : List V) (bs : List Nat), RowIn H l vs bs → vs.length = l.length ∧ (vs.flatMap V.cells).length = l.length * 3
  | [], vs, bs, h => by
    simp only [RowIn] at h
    obtain ⟨rfl, rfl⟩ := h
    simp
  | x :: l, vs, bs, h => by
    simp only [RowIn] at h
    obtain ⟨v, r, c1, c2, rfl, rfl, h3, h4⟩ := h
    obtain ⟨i1, i2⟩ := RowIn.cells l r c2 h4
    obtain ⟨kv, rfl, _⟩ := h3.agg
    refine ⟨by simp [i1], ?_⟩
    simp [V.cells, i2]
    omega
theorem cellsN_length : ∀ l : List Nd, (cellsN l).length = l.length * 3
  | [] => rfl
  | .mk k s l' :: l => by
    have := cellsN_length l
    simp [cellsN, this]
    omega
theorem cellsN_cons (y : Nd) (l : List Nd) : cellsN (y :: l) = .i .i64 y.kind :: .s y.text :: .isl 3 (Nd.encL y.kids) :: cellsN l := by cases y; rfl
/-- What a copy leaves. -/
def CpOut (K : Heap) (y : Nd) (v : V) (K' : Heap) : Prop := ∃ bs, K.length < K'.length ∧ (∀ i, i < K.length → K'[i]? = K[i]?) ∧ TreeIn K' y v bs ∧ bs.Nodup ∧ ∀ b ∈ bs, K.length ≤ b ∧ b < K'.length
/-- How far a copy has come. -/
def CpInv (H0 : Heap) (x : Nd) (pre L : List Nd) (H : Heap) : Prop := ∃ (vs : List V) (bs : List Nat),
  H0.length + 4 ≤ H.length ∧ (∀ i, i < H0.length → H[i]? = H0[i]?) ∧
  H[H0.length]? = some (some ⟨24, [.i .i64 x.kind, .s x.text, .sl (H0.length + 3) 3 0 x.kids.length none], .all⟩) ∧
  H[H0.length + 1]? = some (some ⟨24, [.i .i64 0, .s [], .nils], .all⟩) ∧
  H[H0.length + 3]? = some (some ⟨24, vs.flatMap V.cells ++ cellsN L, .more⟩) ∧
  RowIn H pre vs bs ∧ bs.Nodup ∧ (∀ b ∈ bs, H0.length + 4 ≤ b ∧ b < H.length)
/-- One part more. -/
theorem CpInv.next {H0 : Heap} {x y : Nd} {pre L : List Nd} {H H4 H1 : Heap} {C : List V} {p q r : V} (hC : H[H0.length + 3]? = some (some ⟨24, C, .more⟩)) (h : CpInv H0 x pre (y :: L) H) (h4 : H.length < H4.length) (hk : ∀ i, i < H.length → H4[i]? = H[i]?) (ho : CpOut H4 y (.agg [p, q, r]) H1) :
    CpInv H0 x (pre ++ [y]) L (H1.set (H0.length + 3) (some ⟨24, C.take (pre.length * 3) ++ [p, q, r] ++ C.drop (pre.length * 3 + 3), .more⟩)) := by
  obtain ⟨vs, bs, g1, g2, g3, g4, g5, g6, g7, g8⟩ := h
  obtain ⟨b1, o1, o2, o3, o4, o5⟩ := ho
  have eC : C = vs.flatMap V.cells ++ cellsN (y :: L) := by
    rw [g5] at hC
    simpa using hC.symm
  obtain ⟨c1, c2⟩ := RowIn.cells pre vs bs g6
  have hn : ∀ i, i < H.length → H1[i]? = H[i]? := fun i hi => (o2 i (by omega)).trans (hk i hi)
  have ks : ∀ (K : Heap) (u : Option Blk) (i : Nat), i ≠ H0.length + 3 → (K.set (H0.length + 3) u)[i]? = K[i]? := fun K u i hi => by
    rw [List.getElem?_set_ne (by omega)]
  refine ⟨vs ++ [.agg [p, q, r]], bs ++ b1, by simp; omega, fun i hi => ?_, ?_, ?_, ?_, ?_, ?_, ?_⟩
  · rw [ks _ _ _ (by omega), hn i (by omega)]; exact g2 i hi
  · rw [ks _ _ _ (by omega), hn _ (by omega)]; exact g3
  · rw [ks _ _ _ (by omega), hn _ (by omega)]; exact g4
  · rw [List.getElem?_set_self (by omega), eC]
    have e : (vs.flatMap V.cells ++ cellsN (y :: L)).take (pre.length * 3) ++ [p, q, r] ++ (vs.flatMap V.cells ++ cellsN (y :: L)).drop (pre.length * 3 + 3) = (vs ++ [V.agg [p, q, r]]).flatMap V.cells ++ cellsN L := by
      rw [List.take_append_of_le_length (by omega), List.take_of_length_le (by omega), List.drop_append, List.drop_of_length_le (by omega), c2, cellsN_cons]
      rw [show pre.length * 3 + 3 - pre.length * 3 = 3 from by omega]
      simp [V.cells]
    rw [e]
  · refine RowIn.snoc ?_ pre vs bs ?_
    · refine TreeIn.keep _ _ _ o3 fun b hb => ?_
      have := o5 b hb
      rw [ks _ _ _ (by omega)]
    · refine RowIn.keep _ _ _ g6 fun b hb => ?_
      have := g8 b hb
      rw [ks _ _ _ (by omega), hn b (by omega)]
  · rw [List.nodup_append]
    refine ⟨g7, o4, fun a ha b hb => ?_⟩
    have := g8 a ha
    have := o5 b hb
    omega
  · intro b hb
    rcases List.mem_append.1 hb with hb | hb
    · have := g8 b hb
      simp
      omega
    · have := o5 b hb
      simp
      omega
/-- The last of it. -/
theorem CpInv.out {H0 : Heap} {x : Nd} {H : Heap} {u : Option Blk} (hx : x.kids ≠ []) (h : CpInv H0 x x.kids [] H) : CpOut H0 x (.agg [.i .i64 x.kind, .s x.text, .sl (H0.length + 3) 3 0 x.kids.length none]) (H.set (H0.length + 1) u) := by
  obtain ⟨vs, bs, g1, g2, g3, g4, g5, g6, g7, g8⟩ := h
  have ks : ∀ (i : Nat), i ≠ H0.length + 1 → (H.set (H0.length + 1) u)[i]? = H[i]? := fun i hi => by
    rw [List.getElem?_set_ne (by omega)]
  cases x with
  | mk k s l =>
    simp only [Nd.kids, Nd.kind, Nd.text] at *
    refine ⟨(H0.length + 3) :: bs, by simp; omega, fun i hi => ?_, ?_, ?_, ?_⟩
    · rw [ks _ (by omega)]; exact g2 i hi
    · simp only [TreeIn]
      refine ⟨_, rfl, .inr ⟨_, vs, bs, hx, rfl, ?_, rfl, ?_⟩⟩
      · rw [ks _ (by omega), g5]
        simp [cellsN]
      · refine RowIn.keep _ _ _ g6 fun b hb => ?_
        have := g8 b hb
        rw [ks _ (by omega)]
    · rw [List.nodup_cons]
      exact ⟨fun hm => by have := g8 _ hm; omega, g7⟩
    · intro b hb
      rcases List.mem_cons.1 hb with rfl | hb
      · simp; omega
      · have := g8 b hb
        simp
        omega
end Go.Ev

namespace Go.Ev
open Go Go.Proofs
set_option maxRecDepth 100000
set_option linter.unusedSimpArgs false
set_option linter.unusedVariables false
theorem reg19_4 {call : CallF} (hC : call.Sound Tryz.prog TT) {t : Tm} {H : Heap} {c n i : Nat} {C : List V} {y : Nd} (hw : t.wid = 25) (h10 : t.get 10 = .sl c 3 0 n none) (h12 : t.get 12 = .i .i64 i) (hlt : i < n) (gc : H[c]? = some (some ⟨24, C, .more⟩)) (hle : i * 3 + 3 ≤ C.length)
    (hdt : (C.drop (i * 3)).take 3 = [.i .i64 y.kind, .s y.text, .isl 3 (Nd.encL y.kids)]) {Q : Out → Prop}
    (hQ : ∀ t' : Tm, t'.wid = 25 → t'.get 3 = .i .i64 i → t'.get 4 = .ptr H.length 0 → (∀ j, j ≠ 3 ∧ j ≠ 4 ∧ ¬ (14 ≤ j ∧ j ≤ 16) → t'.get j = t.get j) → Q (.norm t' (H ++ [some ⟨24, [.i .i64 y.kind, .s y.text, .isl 3 (Nd.encL y.kids)], .all⟩]))) :
    Tri Tryz.prog TT (sub [true, true, false, true, false, false, true, true, false, false, false] (bodyOf Tryz.f28)) t H Q := by
  refine Tri.regN (t' := ?t1) (H' := ?H1) TT_ok hC ?e1 ?q1
  case e1 =>
    refine go_false ?_
    refine evSeq_go rfl (by simp [h10, h12, hlt, gc, hle, hdt] <;> rfl) (by rfl) (by simp [hw]) ?_
    refine evSeq_go rfl (by simp [h10, h12, hlt, gc, hle, hdt] <;> rfl) (by rfl) (by simp [hw]) ?_
    refine evSeq_go rfl (by simp [h10, h12, hlt, gc, hle, hdt] <;> rfl) (by rfl) (by simp [hw]) ?_
    refine evSeq_go rfl (by simp [h10, h12, hlt, gc, hle, hdt] <;> rfl) (by rfl) (by simp [hw]) ?_
    refine evSeq_go rfl (by simp [h10, h12, hlt, gc, hle, hdt] <;> rfl) (by rfl) (by simp [hw]) ?_
    refine evSeq_go rfl (by simp [h10, h12, hlt, gc, hle, hdt] <;> rfl) (by rfl) (by simp [hw]) ?_
    exact evSeq_nil
  refine hQ _ (by simp [hw]) (by simp [h12]) (by simp) ?_
  intro j hj
  have : ¬ j = 14 ∧ ¬ j = 15 ∧ ¬ j = 16 ∧ ¬ j = 3 ∧ ¬ j = 4 := by omega
  simp [this]
theorem CpOut.agg {K : Heap} {y : Nd} {v : V} {K' : Heap} (h : CpOut K y v K') : ∃ kv, v = .agg [.i .i64 y.kind, .s y.text, kv] ∧ flat kv = true := by
  obtain ⟨_, _, _, h, _⟩ := h
  exact h.agg
theorem CpOut.keep {K : Heap} {y : Nd} {v : V} {K' : Heap} (h : CpOut K y v K') : ∀ i, i < K.length → K'[i]? = K[i]? := by
  obtain ⟨_, _, h, _⟩ := h
  exact h
theorem CpOut.longer {K : Heap} {y : Nd} {v : V} {K' : Heap} (h : CpOut K y v K') : K.length < K'.length := by
  obtain ⟨_, h, _⟩ := h
  exact h
theorem loop19 {call : CallF} (hC : call.Sound Tryz.prog TT) (H0 : Heap) (x : Nd) (hrec : ∀ y ∈ x.kids, ∀ K : Heap, ∃ v K', call 28 [y.enc] K = .val v K' ∧ CpOut K y v K') (hlen : x.kids.length < 1100000) {Q : Out → Prop} : ∀ (L pre : List Nd) (t : Tm) (H : Heap), pre ++ L = x.kids → CpInv H0 x pre L H →
    t.wid = 25 → t.get 1 = .ptr H0.length 0 → t.get 2 = .ptr (H0.length + 1) 0 → t.get 10 = .sl (H0.length + 3) 3 0 x.kids.length none → t.get 11 = .i .i64 x.kids.length → t.get 12 = .i .i64 pre.length →
    (∀ t' H', t'.wid = 25 → t'.get 1 = .ptr H0.length 0 → t'.get 2 = .ptr (H0.length + 1) 0 → CpInv H0 x x.kids [] H' → Q (.exit 0 t' H')) → LTri Tryz.prog TT (sub [true, true, false, true, false, false] (bodyOf Tryz.f28)) t H Q := by
  intro L
  induction L with
  | nil =>
    intro pre t H hpl hI hw h1 h2 h10 h11 h12 hE
    have hpl : pre = x.kids := by simpa using hpl
    subst hpl
    refine LTri.round' ?_
    refine Tri.seq' ?_
    refine Tri.regN (t' := ?tz1) (H' := ?Hz1) TT_ok hC ?ez1 ?qz1
    case ez1 =>
      refine go_false ?_
      refine evSeq_go rfl (by simp [h1, h2, h10, h11, h12] <;> rfl) (by rfl) (by simp [hw]) ?_
      exact evSeq_nil
    refine inSeq_norm ?_
    refine Tri.seq' ?_
    refine Tri.condG (o := ?oz2) (b := ?bz2) ?gz2 ?rz2 ?yz2 ?nz2
    case gz2 => simp [h1, h2, h10, h11, h12] <;> rfl
    case rz2 => rfl
    case yz2 =>
      intro hy2
      simp at hy2
    case nz2 =>
      intro hn2
      refine Tri.exit ?_
      refine inSeq_exit ?_
      refine inLoop_exit ?_
      exact hE _ _ (by simp [hw]) (by simp [h1]) (by simp [h2]) (by simpa using hI)
  | cons y L ih =>
    intro pre t H hpl hI hw h1 h2 h10 h11 h12 hE
    have hlt : pre.length < x.kids.length := by rw [← hpl]; simp
    have hy : y ∈ x.kids := by rw [← hpl]; simp
    obtain ⟨vs, bs, g1, g2, ga, g4, gc0, g6, g7, g8⟩ := hI
    obtain ⟨c1, c2⟩ := RowIn.cells pre vs bs g6
    obtain ⟨C, hC0⟩ : ∃ C, C = vs.flatMap V.cells ++ cellsN (y :: L) := ⟨_, rfl⟩
    have gc : H[H0.length + 3]? = some (some ⟨24, C, .more⟩) := by rw [hC0]; exact gc0
    have hle : pre.length * 3 + 3 ≤ C.length := by rw [hC0, List.length_append, c2, cellsN_length]; simp; omega
    have hdt : (C.drop (pre.length * 3)).take 3 = [.i .i64 y.kind, .s y.text, .isl 3 (Nd.encL y.kids)] := by
      rw [hC0, List.drop_append_of_le_length (by omega), List.drop_of_length_le (by omega), cellsN_cons]
      rfl
    have hI : CpInv H0 x pre (y :: L) H := ⟨vs, bs, g1, g2, ga, g4, gc0, g6, g7, g8⟩
    refine LTri.round' ?_
    refine Tri.seq' ?_
    refine Tri.regN (t' := ?t1) (H' := ?H1) TT_ok hC ?e1 ?q1
    case e1 =>
      refine go_false ?_
      refine evSeq_go rfl (by simp [h1, h2, h10, h11, h12, hlt] <;> rfl) (by rfl) (by simp [hw]) ?_
      exact evSeq_nil
    refine inSeq_norm ?_
    refine Tri.seq' ?_
    refine Tri.condG (o := ?o2) (b := ?b2) ?g2 ?r2 ?y2 ?n2
    case g2 => simp [h1, h2, h10, h11, h12, hlt] <;> rfl
    case r2 => rfl
    case y2 =>
      intro hy2
      refine Tri.skip ?_
      refine inSeq_norm ?_
      refine Tri.seq' ?_
      refine Tri.block' ?_
      refine Tri.seq' ?_
      refine reg19_4 hC (y := y) (C := C) (i := pre.length) (by simp [hw]) (by simp [h10]) (by simp [h12]) hlt gc hle hdt ?_
      intro t4 hw4 h43 h44 hk4
      refine inSeq_norm ?_
      obtain ⟨v, H1, hcall, ho⟩ := hrec y hy (H ++ [some ⟨24, [.i .i64 y.kind, .s y.text, .isl 3 (Nd.encL y.kids)], .all⟩])
      obtain ⟨kv, rfl, hf⟩ := ho.agg
      rw [Nd.enc_eq] at hcall
      have hk : ∀ i, i < H.length → (H ++ [some ⟨24, [.i .i64 y.kind, .s y.text, .isl 3 (Nd.encL y.kids)], .all⟩])[i]? = H[i]? := fun i hi => List.getElem?_append_left hi
      have ho1 : ∀ i, i < H.length → H1[i]? = H[i]? := fun i hi => (ho.keep i (by simp; omega)).trans (hk i hi)
      refine reg19_5 hC (y := y) (a := H0.length) (kb := H.length) (c := H0.length + 3) (n := x.kids.length) (i := pre.length) (C := C) hw4 (by rw [hk4 1 (by omega)]; simp [h1]) h43 h44 ((hk _ (by omega)).trans ga) (by simp) ((hk _ (by omega)).trans gc) hlt hle hcall rfl rfl hf ((ho1 _ (by omega)).trans ga) ((ho1 _ (by omega)).trans gc) ho.longer ?_
      intro t5 hw5 hk5
      have hw := hw5.trans hw4
      have g : ∀ j, j < 13 → j ≠ 3 ∧ j ≠ 4 → t5.get j = t.get j := fun j hj h => (hk5 j (by omega)).trans ((hk4 j (by omega)).trans (by simp [show ¬ j = 13 from by omega]))
      have h1 : t5.get 1 = _ := (g 1 (by omega) (by omega)).trans h1
      have h2 : t5.get 2 = _ := (g 2 (by omega) (by omega)).trans h2
      have h10 : t5.get 10 = _ := (g 10 (by omega) (by omega)).trans h10
      have h11 : t5.get 11 = _ := (g 11 (by omega) (by omega)).trans h11
      have h12 : t5.get 12 = _ := (g 12 (by omega) (by omega)).trans h12
      refine inBlk_norm ?_
      refine inSeq_norm ?_
      refine Tri.regN (t' := ?t5) (H' := ?H5) TT_ok hC ?e5 ?q5
      case e5 =>
        refine go_false ?_
        refine evSeq_go rfl (by simp [h1, h2, h10, h11, h12, hlt] <;> rfl) (by rfl) (by simp [hw]) ?_
        refine evSeq_go rfl (by simp [h1, h2, h10, h11, h12, hlt] <;> rfl) (by rfl) (by simp [hw]) ?_
        exact evSeq_nil
      refine inLoop_norm ?_
      refine ih (pre ++ [y]) _ _ (by simpa using hpl) (by simpa using CpInv.next gc hI (by simp) hk ho) (by simp [hw]) (by simp [h1]) (by simp [h2]) (by simp [h10]) (by simp [h11]) (by simp; exact wrap_i64 (by omega) (by omega)) hE
    case n2 =>
      intro hn2
      exfalso
      simp at hn2 <;> omega
end Go.Ev

namespace Go.Ev
open Go Go.Proofs
set_option maxRecDepth 100000
set_option linter.unusedSimpArgs false
set_option linter.unusedVariables false
theorem loop19z {call : CallF} (hC : call.Sound Tryz.prog TT) {Q : Out → Prop} (t : Tm) (H : Heap) (hw : t.wid = 25) (h11 : t.get 11 = .i .i64 0) (h12 : t.get 12 = .i .i64 0) (hE : ∀ t', t'.wid = 25 → t'.get 1 = t.get 1 → t'.get 2 = t.get 2 → Q (.exit 0 t' H)) : LTri Tryz.prog TT (sub [true, true, false, true, false, false] (bodyOf Tryz.f28)) t H Q := by
  refine LTri.round' ?_
  refine Tri.seq' ?_
  refine Tri.regN (t' := ?tz1) (H' := ?Hz1) TT_ok hC ?ez1 ?qz1
  case ez1 =>
    refine go_false ?_
    refine evSeq_go rfl (by simp [h11, h12] <;> rfl) (by rfl) (by simp [hw]) ?_
    exact evSeq_nil
  refine inSeq_norm ?_
  refine Tri.seq' ?_
  refine Tri.condG (o := ?oz2) (b := ?bz2) ?gz2 ?rz2 ?yz2 ?nz2
  case gz2 => simp [h11, h12] <;> rfl
  case rz2 => rfl
  case yz2 =>
    intro hy2
    simp at hy2
  case nz2 =>
    intro hn2
    refine Tri.exit ?_
    refine inSeq_exit ?_
    refine inLoop_exit ?_
    exact hE _ (by simp [hw]) (by simp) (by simp)
theorem body_19z {call : CallF} (hC : call.Sound Tryz.prog TT) (x : Nd) (H : Heap) (hk : x.kids = []) (hcl : ∀ K, call 36 [.isl 3 []] K = .val (.isl 3 []) K)  : HBody Tryz.prog TT 28 [x.enc] H (CpOut H x) := by
  refine ⟨Tryz.f28, _, rfl, rfl, by simp [Tryz.f28], ?_⟩
  have h0 : (Tm.init Tryz.f28.ntmps [x.enc]).get 0 = x.enc := by rw [get_init]; rfl
  have hw : (Tm.init Tryz.f28.ntmps [x.enc]).wid = 25 := rfl
  generalize Tm.init Tryz.f28.ntmps [x.enc] = t at *
  try simp only [Nd.enc_eq] at *
  refine Tri.seq' ?_
  refine Tri.regN (t' := ?t1) (H' := ?H1) TT_ok hC ?e1 ?q1
  case e1 =>
    refine go_false ?_
    refine evSeq_go rfl (by simp [h0, hcl, hk, Nd.encL] <;> rfl) (by rfl) (by simp [hw]) ?_
    refine evSeq_go rfl (by simp [h0, hcl, hk, Nd.encL] <;> rfl) (by rfl) (by simp [hw]) ?_
    exact evSeq_nil
  refine inSeq_norm ?_
  refine Tri.seq' ?_
  refine Tri.regN (t' := ?t2) (H' := ?H2) TT_ok hC ?e2 ?q2
  case e2 =>
    refine go_false ?_
    refine evSeq_go rfl (by simp [h0, hcl, hk, Nd.encL] <;> rfl) (by rfl) (by simp [hw]) ?_
    refine evSeq_go rfl (by simp [h0, hcl, hk, Nd.encL] <;> rfl) (by rfl) (by simp [hw]) ?_
    refine evSeq_go rfl (by simp [h0, hcl, hk, Nd.encL] <;> rfl) (by rfl) (by simp [hw]) ?_
    refine evSeq_go rfl (by simp [h0, hcl, hk, Nd.encL] <;> rfl) (by rfl) (by simp [hw]) ?_
    refine evSeq_go rfl (by simp [h0, hcl, hk, Nd.encL] <;> rfl) (by rfl) (by simp [hw]) ?_
    exact evSeq_nil
  refine inSeq_norm ?_
  refine Tri.seq' ?_
  refine Tri.seq' ?_
  refine Tri.regN (t' := ?t3) (H' := ?H3) TT_ok hC ?e3 ?q3
  case e3 =>
    refine go_false ?_
    refine evSeq_go rfl (by simp [h0, hcl, hk, Nd.encL] <;> rfl) (by rfl) (by simp [hw]) ?_
    refine evSeq_go rfl (by simp [h0, hcl, hk, Nd.encL] <;> rfl) (by rfl) (by simp [hw]) ?_
    refine evSeq_go rfl (by simp [h0, hcl, hk, Nd.encL] <;> rfl) (by rfl) (by simp [hw]) ?_
    refine evSeq_go rfl (by simp [h0, hcl, hk, Nd.encL] <;> rfl) (by rfl) (by simp [hw]) ?_
    exact evSeq_nil
  refine inSeq_norm ?_
  refine Tri.block' ?_
  refine Tri.loop ?_
  refine loop19z hC _ _ (by simp [hw]) (by simp) (by simp) ?exit
  case exit =>
    intro t2 hw h1 h2
    simp at h1 h2
    refine inBlk_exit ?_
    refine inSeq_norm ?_
    refine Tri.seq' ?_
    refine Tri.regN (t' := ?t4) (H' := ?H4) TT_ok hC ?e4 ?q4
    case e4 =>
      refine go_false ?_
      refine evSeq_go rfl (by simp [h0, hcl, hk, Nd.encL, h1, h2] <;> rfl) (by rfl) (by simp [hw]) ?_
      refine evSeq_go rfl (by simp [h0, hcl, hk, Nd.encL, h1, h2] <;> rfl) (by rfl) (by simp [hw]) ?_
      exact evSeq_nil
    refine inSeq_norm ?_
    refine Tri.ret ?_
    refine ⟨.agg [.i .i64 x.kind, .s x.text, .isl 3 []], ?_, ?_⟩
    · refine ⟨[], by simp, fun i hi => ?_, ?_, by simp, by simp⟩
      · simp [List.getElem?_append_left hi, show ¬ i = H.length from by omega, show ¬ i = H.length + 1 from by omega]
      · cases x
        simp only [Nd.kids] at hk
        subst hk
        simp only [TreeIn]
        exact ⟨_, rfl, .inl ⟨by trivial, rfl, by trivial⟩⟩
    · simp [finish, evResults, evResult, Tryz.f28, h1, h2]
theorem body_19c {call : CallF} (hC : call.Sound Tryz.prog TT) (x : Nd) (H : Heap) (hx : x.kids ≠ []) (hlen : x.kids.length < 1100000) (hcl : ∀ K : Heap, call 36 [.isl 3 (Nd.encL x.kids)] K = .val (.sl (K.length + 1) 3 0 x.kids.length none) (K ++ [some ⟨24, [], .all⟩, some ⟨24, cellsN x.kids, .more⟩])) (hrec : ∀ y ∈ x.kids, ∀ K : Heap, ∃ v K', call 28 [y.enc] K = .val v K' ∧ CpOut K y v K')  : HBody Tryz.prog TT 28 [x.enc] H (CpOut H x) := by
  refine ⟨Tryz.f28, _, rfl, rfl, by simp [Tryz.f28], ?_⟩
  have h0 : (Tm.init Tryz.f28.ntmps [x.enc]).get 0 = x.enc := by rw [get_init]; rfl
  have hw : (Tm.init Tryz.f28.ntmps [x.enc]).wid = 25 := rfl
  generalize Tm.init Tryz.f28.ntmps [x.enc] = t at *
  try simp only [Nd.enc_eq] at *
  refine Tri.seq' ?_
  refine Tri.regN (t' := ?t1) (H' := ?H1) TT_ok hC ?e1 ?q1
  case e1 =>
    refine go_false ?_
    refine evSeq_go rfl (by simp [h0, hcl, Nd.encL_length] <;> rfl) (by rfl) (by simp [hw]) ?_
    refine evSeq_go rfl (by simp [h0, hcl, Nd.encL_length] <;> rfl) (by rfl) (by simp [hw]) ?_
    exact evSeq_nil
  refine inSeq_norm ?_
  refine Tri.seq' ?_
  refine Tri.regN (t' := ?t2) (H' := ?H2) TT_ok hC ?e2 ?q2
  case e2 =>
    refine go_false ?_
    refine evSeq_go rfl (by simp [h0, hcl, Nd.encL_length] <;> rfl) (by rfl) (by simp [hw]) ?_
    refine evSeq_go rfl (by simp [h0, hcl, Nd.encL_length] <;> rfl) (by rfl) (by simp [hw]) ?_
    refine evSeq_go rfl (by simp [h0, hcl, Nd.encL_length] <;> rfl) (by rfl) (by simp [hw]) ?_
    refine evSeq_go rfl (by simp [h0, hcl, Nd.encL_length] <;> rfl) (by rfl) (by simp [hw]) ?_
    refine evSeq_go rfl (by simp [h0, hcl, Nd.encL_length] <;> rfl) (by rfl) (by simp [hw]) ?_
    exact evSeq_nil
  refine inSeq_norm ?_
  refine Tri.seq' ?_
  refine Tri.seq' ?_
  refine Tri.regN (t' := ?t3) (H' := ?H3) TT_ok hC ?e3 ?q3
  case e3 =>
    refine go_false ?_
    refine evSeq_go rfl (by simp [h0, hcl, Nd.encL_length] <;> rfl) (by rfl) (by simp [hw]) ?_
    refine evSeq_go rfl (by simp [h0, hcl, Nd.encL_length] <;> rfl) (by rfl) (by simp [hw]) ?_
    refine evSeq_go rfl (by simp [h0, hcl, Nd.encL_length] <;> rfl) (by rfl) (by simp [hw]) ?_
    refine evSeq_go rfl (by simp [h0, hcl, Nd.encL_length] <;> rfl) (by rfl) (by simp [hw]) ?_
    exact evSeq_nil
  refine inSeq_norm ?_
  refine Tri.block' ?_
  refine Tri.loop ?_
  refine loop19 hC H x (by intro y hy; rw [Nd.enc_eq]; exact hrec y hy) hlen x.kids [] _ _ rfl ?inv (by simp [hw]) (by simp) (by simp) (by simp) (by simp) (by simp) ?exit
  case inv =>
    refine ⟨[], [], by simp, fun i hi => ?_, ?_, ?_, ?_, by simp [RowIn], by simp, by simp⟩
    · simp [List.getElem?_append_left hi, show ¬ i = H.length from by omega, show ¬ i = H.length + 1 from by omega]
    · simp
    · simp
    · simp
  case exit =>
    intro t2 H2 hw h1 h2 hI
    obtain ⟨vs, bs, g1, g2, gA, gR, gC, g6, g7, g8⟩ := hI
    have gl : H.length + 1 < H2.length := by omega
    refine inBlk_exit ?_
    refine inSeq_norm ?_
    refine Tri.seq' ?_
    refine Tri.regN (t' := ?t4) (H' := ?H4) TT_ok hC ?e4 ?q4
    case e4 =>
      refine go_false ?_
      refine evSeq_go rfl (by simp [h0, hcl, Nd.encL_length, h1, h2, gA, gR] <;> rfl) (by rfl) (by simp [hw]) ?_
      refine evSeq_go rfl (by simp [h0, hcl, Nd.encL_length, h1, h2, gA, gR] <;> rfl) (by rfl) (by simp [hw]) ?_
      exact evSeq_nil
    refine inSeq_norm ?_
    refine Tri.ret ?_
    refine ⟨_, CpInv.out hx ⟨vs, bs, g1, g2, gA, gR, gC, g6, g7, g8⟩, ?_⟩
    simp [finish, evResults, evResult, Tryz.f28, h1, h2, gl]
end Go.Ev
