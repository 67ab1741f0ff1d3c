/- Too many parts, or too deep: what the count returns, for every tree. -/
import Derived.Test.YtddpjgoboboidaaGreatDoorNodes
import Derived.Test.YtddpjgoboboidaaGreatDoorWC
import Derived.Test.YtddpjgoboboidaaGreatDoorSg
namespace Go.Ev
open Go Go.Proofs
set_option maxRecDepth 100000
set_option linter.unusedSimpArgs false
set_option linter.unusedVariables false
theorem loop66p {call : CallF} (hC : call.Sound Tryz.prog TT) (g : FuncId) (cs : List V) (hx0 : TT.ext g = none) (S : List Nd → Heap → Prop) (B : Heap → Prop) (hstep : ∀ x L K, S (x :: L) K → ∃ q K', call g (x.enc :: cs) K = .val (.b q) K' ∧ (q = false → S L K') ∧ (q = true → B K')) {Q : Out → Prop} : ∀ (L pre : List Nd) (t : Tm) (H : Heap), S L H →
    (pre ++ L).length < 1100000 → t.wid = 19 → t.get 0 = .isl 3 (Nd.encL (pre ++ L)) → t.get 1 = .fn g cs → t.get 7 = .i .i64 (pre ++ L).length → t.get 8 = .i .i64 pre.length →
    (∀ t' H', t'.wid = 19 → S [] H' → Q (.exit 0 t' H')) →
    (∀ t' H' (i : Nat), t'.wid = 19 → B H' → t'.get 4 = .i .i64 i → Q (.ret t' H')) →
    LTri Tryz.prog TT (sub [true, false, true, false, false] (bodyOf Tryz.f79)) t H Q := by
  intro L
  induction L with
  | nil =>
    intro pre t H hS hlen hw h0 h1 h7 h8 hE hR
    refine LTri.round' ?_
    refine Tri.seq' ?_
    refine Tri.regN (t' := ?tz1) (H' := ?Hz1) TT_ok hC ?ez1 ?qz1
    case ez1 =>
      refine go_false ?_
      refine evSeq_go rfl (by simp [h0, h1, h7, h8, Nd.encL_length, Nd.enc_eq, hx0] <;> rfl) (by rfl) (by simp [hw]) ?_
      exact evSeq_nil
    refine inSeq_norm ?_
    refine Tri.seq' ?_
    refine Tri.condG (o := ?oz2) (b := ?bz2) ?gz2 ?rz2 ?yz2 ?nz2
    case gz2 => simp [h0, h1, h7, h8, Nd.encL_length, Nd.enc_eq, hx0] <;> rfl
    case rz2 => rfl
    case yz2 =>
      intro hy2
      simp at hy2
    case nz2 =>
      intro hn2
      refine Tri.exit ?_
      refine inSeq_exit ?_
      refine inLoop_exit ?_
      exact hE _ _ (by simp [hw]) hS
  | cons x L ih =>
    intro pre t H hS hlen hw h0 h1 h7 h8 hE hR
    have hlt := fin_len pre.length L.length
    have hat := encL_at pre x L
    have hat2 := encL_at2 pre x L
    obtain ⟨q, K', hr, hS2, hB2⟩ := hstep x L H hS
    simp only [Nd.enc_eq] at hr
    refine LTri.round' ?_
    refine Tri.seq' ?_
    refine Tri.regN (t' := ?t1) (H' := ?H1) TT_ok hC ?e1 ?q1
    case e1 =>
      refine go_false ?_
      refine evSeq_go rfl (by simp [h0, h1, h7, h8, Nd.encL_length, Nd.enc_eq, hx0, hlt, hat, hat2, hr] <;> rfl) (by rfl) (by simp [hw]) ?_
      exact evSeq_nil
    refine inSeq_norm ?_
    refine Tri.seq' ?_
    refine Tri.condG (o := ?o2) (b := ?b2) ?g2 ?r2 ?y2 ?n2
    case g2 => simp [h0, h1, h7, h8, Nd.encL_length, Nd.enc_eq, hx0, hlt, hat, hat2, hr] <;> rfl
    case r2 => rfl
    case y2 =>
      intro hy2
      refine Tri.skip ?_
      refine inSeq_norm ?_
      refine Tri.seq' ?_
      refine Tri.block' ?_
      refine Tri.seq' ?_
      refine Tri.regN (t' := ?t3) (H' := ?H3) TT_ok hC ?e3 ?q3
      case e3 =>
        refine go_false ?_
        refine evSeq_go rfl (by simp [h0, h1, h7, h8, Nd.encL_length, Nd.enc_eq, hx0, hlt, hat, hat2, hr] <;> rfl) (by rfl) (by simp [hw]) ?_
        refine evSeq_go rfl (by simp [h0, h1, h7, h8, Nd.encL_length, Nd.enc_eq, hx0, hlt, hat, hat2, hr] <;> rfl) (by rfl) (by simp [hw]) ?_
        exact evSeq_nil
      refine inSeq_norm ?_
      refine Tri.seq' ?_
      refine Tri.regN (t' := ?t4) (H' := ?H4) TT_ok hC ?e4 ?q4
      case e4 =>
        refine go_false ?_
        refine evSeq_go rfl (by simp [h0, h1, h7, h8, Nd.encL_length, Nd.enc_eq, hx0, hlt, hat, hat2, hr] <;> rfl) (by rfl) (by simp [hw]) ?_
        refine evSeq_go rfl (by simp [h0, h1, h7, h8, Nd.encL_length, Nd.enc_eq, hx0, hlt, hat, hat2, hr] <;> rfl) (by rfl) (by simp [hw]) ?_
        refine evSeq_go rfl (by simp [h0, h1, h7, h8, Nd.encL_length, Nd.enc_eq, hx0, hlt, hat, hat2, hr] <;> rfl) (by rfl) (by simp [hw]) ?_
        refine evSeq_go rfl (by simp [h0, h1, h7, h8, Nd.encL_length, Nd.enc_eq, hx0, hlt, hat, hat2, hr] <;> rfl) (by rfl) (by simp [hw]) ?_
        refine evSeq_go rfl (by simp [h0, h1, h7, h8, Nd.encL_length, Nd.enc_eq, hx0, hlt, hat, hat2, hr] <;> rfl) (by rfl) (by simp [hw]) ?_
        refine evSeq_go rfl (by simp [h0, h1, h7, h8, Nd.encL_length, Nd.enc_eq, hx0, hlt, hat, hat2, hr] <;> rfl) (by rfl) (by simp [hw]) ?_
        exact evSeq_nil
      refine inSeq_norm ?_
      refine Tri.condG (o := ?o5) (b := ?b5) ?g5 ?r5 ?y5 ?n5
      case g5 => simp [h0, h1, h7, h8, Nd.encL_length, Nd.enc_eq, hx0, hlt, hat, hat2, hr] <;> rfl
      case r5 => rfl
      case y5 =>
        intro hy5
        refine Tri.seq' ?_
        refine Tri.regN (t' := ?t6) (H' := ?H6) TT_ok hC ?e6 ?q6
        case e6 =>
          refine go_false ?_
          refine evSeq_go rfl (by simp [h0, h1, h7, h8, Nd.encL_length, Nd.enc_eq, hx0, hlt, hat, hat2, hr] <;> rfl) (by rfl) (by simp [hw]) ?_
          refine evSeq_go rfl (by simp [h0, h1, h7, h8, Nd.encL_length, Nd.enc_eq, hx0, hlt, hat, hat2, hr] <;> rfl) (by rfl) (by simp [hw]) ?_
          exact evSeq_nil
        refine inSeq_norm ?_
        refine Tri.ret ?_
        refine inBlk_ret ?_
        refine inSeq_ret ?_
        refine inLoop_ret ?_
        exact hR _ _ pre.length (by simp [hw]) (hB2 (by simpa using hy5)) (by simp)
      case n5 =>
        intro hn5
        refine Tri.skip ?_
        refine inBlk_norm ?_
        refine inSeq_norm ?_
        refine Tri.regN (t' := ?t7) (H' := ?H7) TT_ok hC ?e7 ?q7
        case e7 =>
          refine go_false ?_
          refine evSeq_go rfl (by simp [h0, h1, h7, h8, Nd.encL_length, Nd.enc_eq, hx0, hlt, hat, hat2, hr] <;> rfl) (by rfl) (by simp [hw]) ?_
          refine evSeq_go rfl (by simp [h0, h1, h7, h8, Nd.encL_length, Nd.enc_eq, hx0, hlt, hat, hat2, hr] <;> rfl) (by rfl) (by simp [hw]) ?_
          exact evSeq_nil
        refine inLoop_norm ?_
        refine ih (pre ++ [x]) _ _ (hS2 (by simpa using hn5)) (by simpa using hlen) (by simp [hw]) (by simp [h0]) (by simp [h1]) (by simp [h7]) (by simp; exact wrap_i64 (by omega) (by simp at hlen; omega)) hE hR
    case n2 =>
      intro hn2
      exfalso
      simp at hn2

theorem body_66p {call : CallF} (hC : call.Sound Tryz.prog TT) (l : List Nd) (hlen : l.length < 1100000) (g : FuncId) (cs : List V) (hx0 : TT.ext g = none) (S : List Nd → Heap → Prop) (B : Heap → Prop) (hstep : ∀ x L K, S (x :: L) K → ∃ q K', call g (x.enc :: cs) K = .val (.b q) K' ∧ (q = false → S L K') ∧ (q = true → B K')) (H : Heap) (hS : S l H)  : HBody Tryz.prog TT 79 [.isl 3 (Nd.encL l), .fn g cs] H (fun v H' => ∃ i : Int, v = .i .i64 i ∧ ((i = -1 ∧ S [] H') ∨ (0 ≤ i ∧ B H'))) := by
  refine ⟨Tryz.f79, _, rfl, rfl, by simp [Tryz.f79], ?_⟩
  have h0 : (Tm.init Tryz.f79.ntmps [.isl 3 (Nd.encL l), .fn g cs]).get 0 = .isl 3 (Nd.encL l) := by rw [get_init]; rfl
  have h1 : (Tm.init Tryz.f79.ntmps [.isl 3 (Nd.encL l), .fn g cs]).get 1 = .fn g cs := by rw [get_init]; rfl
  have hw : (Tm.init Tryz.f79.ntmps [.isl 3 (Nd.encL l), .fn g cs]).wid = 19 := rfl
  generalize Tm.init Tryz.f79.ntmps [.isl 3 (Nd.encL l), .fn g cs] = t at *
  skip
  refine Tri.seq' ?_
  refine Tri.regN (t' := ?t1) (H' := ?H1) TT_ok hC ?e1 ?q1
  case e1 =>
    refine go_false ?_
    refine evSeq_go rfl (by simp [h0, h1, Nd.encL_length] <;> rfl) (by rfl) (by simp [hw]) ?_
    exact evSeq_nil
  refine inSeq_norm ?_
  refine Tri.seq' ?_
  refine Tri.seq' ?_
  refine Tri.regN (t' := ?t2) (H' := ?H2) TT_ok hC ?e2 ?q2
  case e2 =>
    refine go_false ?_
    refine evSeq_go rfl (by simp [h0, h1, Nd.encL_length] <;> rfl) (by rfl) (by simp [hw]) ?_
    refine evSeq_go rfl (by simp [h0, h1, Nd.encL_length] <;> rfl) (by rfl) (by simp [hw]) ?_
    refine evSeq_go rfl (by simp [h0, h1, Nd.encL_length] <;> rfl) (by rfl) (by simp [hw]) ?_
    exact evSeq_nil
  refine inSeq_norm ?_
  refine Tri.block' ?_
  refine Tri.loop ?_
  refine loop66p hC g cs hx0 S B hstep l [] _ _ hS (by simpa using hlen) (by simp [hw]) (by simp [h0]) (by simp [h1]) (by simp [Nd.encL_length]) (by simp) ?exit ?ret
  case exit =>
    intro t2 H2 hw hS2
    have h4 : True := trivial
    have hres : ((-1 : Int) = -1 ∧ S [] H2) ∨ ((0 : Int) ≤ -1 ∧ B H2) := .inl ⟨rfl, hS2⟩
    refine inBlk_exit ?_
    refine inSeq_norm ?_
    refine Tri.seq' ?_
    refine Tri.regN (t' := ?t3) (H' := ?H3) TT_ok hC ?e3 ?q3
    case e3 =>
      refine go_false ?_
      refine evSeq_go rfl (by simp [h0, h1, Nd.encL_length] <;> rfl) (by rfl) (by simp [hw]) ?_
      exact evSeq_nil
    refine inSeq_norm ?_
    refine Tri.ret ?_
    exact endsH (by simp [finish, evResults, evResult, Tryz.f79, h4] <;> rfl) (by rfl) ⟨_, rfl, hres⟩
  case ret =>
    intro t2 H2 i hw hS2 h4
    have hres : ((i : Int) = -1 ∧ S [] H2) ∨ (0 ≤ (i : Int) ∧ B H2) := .inr ⟨by omega, hS2⟩
    refine inBlk_ret ?_
    refine inSeq_ret ?_
    exact endsH (by simp [finish, evResults, evResult, Tryz.f79, h4] <;> rfl) (by rfl) ⟨_, rfl, hres⟩
theorem body_41p {call : CallF} (hC : call.Sound Tryz.prog TT) (l : List Nd) (g : FuncId) (cs : List V) (H K : Heap) (i : Int) (hs : call 79 [.isl 3 (Nd.encL l), .fn g cs] H = .val (.i .i64 i) K)  : HBody Tryz.prog TT 55 [.isl 3 (Nd.encL l), .fn g cs] H (fun v H' => v = .b (decide (0 ≤ i)) ∧ H' = K) := by
  refine ⟨Tryz.f55, _, rfl, rfl, by simp [Tryz.f55], ?_⟩
  have h0 : (Tm.init Tryz.f55.ntmps [.isl 3 (Nd.encL l), .fn g cs]).get 0 = .isl 3 (Nd.encL l) := by rw [get_init]; rfl
  have h1 : (Tm.init Tryz.f55.ntmps [.isl 3 (Nd.encL l), .fn g cs]).get 1 = .fn g cs := by rw [get_init]; rfl
  have hw : (Tm.init Tryz.f55.ntmps [.isl 3 (Nd.encL l), .fn g cs]).wid = 9 := rfl
  generalize Tm.init Tryz.f55.ntmps [.isl 3 (Nd.encL l), .fn g cs] = t at *
  skip
  refine Tri.seq' ?_
  refine Tri.regN (t' := ?t1) (H' := ?H1) TT_ok hC ?e1 ?q1
  case e1 =>
    refine go_false ?_
    refine evSeq_go rfl (by simp [h0, h1, hs] <;> rfl) (by rfl) (by simp [hw]) ?_
    exact evSeq_nil
  refine inSeq_norm ?_
  refine Tri.seq' ?_
  refine Tri.regN (t' := ?t2) (H' := ?H2) TT_ok hC ?e2 ?q2
  case e2 =>
    refine go_false ?_
    refine evSeq_go rfl (by simp [h0, h1, hs] <;> rfl) (by rfl) (by simp [hw]) ?_
    refine evSeq_go rfl (by simp [h0, h1, hs] <;> rfl) (by rfl) (by simp [hw]) ?_
    refine evSeq_go rfl (by simp [h0, h1, hs] <;> rfl) (by rfl) (by simp [hw]) ?_
    refine evSeq_go rfl (by simp [h0, h1, hs] <;> rfl) (by rfl) (by simp [hw]) ?_
    refine evSeq_go rfl (by simp [h0, h1, hs] <;> rfl) (by rfl) (by simp [hw]) ?_
    exact evSeq_nil
  refine inSeq_norm ?_
  refine Tri.ret ?_
  exact endsH (by simp [finish, evResults, evResult, Tryz.f55] <;> rfl) (by rfl) ⟨rfl, rfl⟩
theorem body_47p {call : CallF} (hC : call.Sound Tryz.prog TT) (x : Nd) (p e b : Nat) (d : Int) (K K2 : Heap) (q : Bool) (hp : ∀ z, (K ++ [z])[p]? = some (some ⟨63, [.ptr b 0], .all⟩)) (he : ∀ z, (K ++ [z])[e]? = some (some ⟨3, [.i .i64 d], .all⟩)) (hlast : ∀ z : Option Blk, (K ++ [z])[K.length]? = some z) (hwr : IntKind.i64.wrap (d + 1) = d + 1)
  (hs : call 37 [x.enc, .ptr b 0, .i .i64 (d + 1)] (K ++ [some ⟨24, [.i .i64 x.kind, .s x.text, .isl 3 (Nd.encL x.kids)], .all⟩]) = .val (.b q) K2)  : HBody Tryz.prog TT 60 [x.enc, .ptr p 0, .ptr e 0] K (fun v H' => v = .b q ∧ H' = K2) := by
  refine ⟨Tryz.f60, _, rfl, rfl, by simp [Tryz.f60], ?_⟩
  have h0 : (Tm.init Tryz.f60.ntmps [x.enc, .ptr p 0, .ptr e 0]).get 0 = x.enc := by rw [get_init]; rfl
  have h1 : (Tm.init Tryz.f60.ntmps [x.enc, .ptr p 0, .ptr e 0]).get 1 = .ptr p 0 := by rw [get_init]; rfl
  have h2 : (Tm.init Tryz.f60.ntmps [x.enc, .ptr p 0, .ptr e 0]).get 2 = .ptr e 0 := by rw [get_init]; rfl
  have hw : (Tm.init Tryz.f60.ntmps [x.enc, .ptr p 0, .ptr e 0]).wid = 10 := rfl
  generalize Tm.init Tryz.f60.ntmps [x.enc, .ptr p 0, .ptr e 0] = t at *
  try simp only [Nd.enc_eq] at *
  refine Tri.seq' ?_
  refine Tri.regN (t' := ?t1) (H' := ?H1) TT_ok hC ?e1 ?q1
  case e1 =>
    refine go_false ?_
    refine evSeq_go rfl (by simp [h0, h1, h2, hs, hp, he, hwr, hlast] <;> rfl) (by rfl) (by simp [hw]) ?_
    refine evSeq_go rfl (by simp [h0, h1, h2, hs, hp, he, hwr, hlast] <;> rfl) (by rfl) (by simp [hw]) ?_
    exact evSeq_nil
  refine inSeq_norm ?_
  refine Tri.seq' ?_
  refine Tri.regN (t' := ?t2) (H' := ?H2) TT_ok hC ?e2 ?q2
  case e2 =>
    refine go_false ?_
    refine evSeq_go rfl (by simp [h0, h1, h2, hs, hp, he, hwr, hlast] <;> rfl) (by rfl) (by simp [hw]) ?_
    refine evSeq_go rfl (by simp [h0, h1, h2, hs, hp, he, hwr, hlast] <;> rfl) (by rfl) (by simp [hw]) ?_
    refine evSeq_go rfl (by simp [h0, h1, h2, hs, hp, he, hwr, hlast] <;> rfl) (by rfl) (by simp [hw]) ?_
    refine evSeq_go rfl (by simp [h0, h1, h2, hs, hp, he, hwr, hlast] <;> rfl) (by rfl) (by simp [hw]) ?_
    refine evSeq_go rfl (by simp [h0, h1, h2, hs, hp, he, hwr, hlast] <;> rfl) (by rfl) (by simp [hw]) ?_
    refine evSeq_go rfl (by simp [h0, h1, h2, hs, hp, he, hwr, hlast] <;> rfl) (by rfl) (by simp [hw]) ?_
    exact evSeq_nil
  refine inSeq_norm ?_
  refine Tri.ret ?_
  exact endsH (by simp [finish, evResults, evResult, Tryz.f60] <;> rfl) (by rfl) ⟨rfl, rfl⟩
theorem rest20pa {call : CallF} (hC : call.Sound Tryz.prog TT) (x : Nd) (b p3 p4 p5 : Nat) (d v : Int) (K : Heap) (t : Tm) (hw : t.wid = 24) (h3 : t.get 3 = .ptr p3 0) (h4 : t.get 4 = .ptr p4 0) (h5 : t.get 5 = .ptr p5 0)
  (g3 : K[p3]? = some (some ⟨24, [.i .i64 x.kind, .s x.text, .isl 3 (Nd.encL x.kids)], .all⟩)) (g4 : K[p4]? = some (some ⟨63, [.ptr b 0], .all⟩)) (g5 : K[p5]? = some (some ⟨3, [.i .i64 d], .all⟩)) (gb : K[b]? = some (some ⟨3, [.i .i64 v], .all⟩))
  (s3 : ∀ c, (K.set b c)[p3]? = some (some ⟨24, [.i .i64 x.kind, .s x.text, .isl 3 (Nd.encL x.kids)], .all⟩)) (s4 : ∀ c, (K.set b c)[p4]? = some (some ⟨63, [.ptr b 0], .all⟩)) (s5 : ∀ c, (K.set b c)[p5]? = some (some ⟨3, [.i .i64 d], .all⟩)) (sb : ∀ c, (K.set b c)[b]? = some c)
  (hwv : IntKind.i64.wrap (v - 1) = v - 1) (hv : v - 1 < 0) : Tri Tryz.prog TT (sub [true] (bodyOf Tryz.f37)) t K (EndsH TT Tryz.f37 fun r H' => r = .b true ∧ H' = K.set b (some ⟨3, [.i .i64 (v - 1)], .all⟩)) := by
  refine Tri.seq' ?_
  refine Tri.seq' ?_
  refine Tri.regN (t' := ?t1) (H' := ?H1) TT_ok hC ?e1 ?q1
  case e1 =>
    refine go_false ?_
    refine evSeq_go rfl (by simp [h3, h4, h5, g3, g4, g5, gb, s3, s4, s5, sb, hwv, hv] <;> rfl) (by rfl) (by simp [hw]) ?_
    refine evSeq_go rfl (by simp [h3, h4, h5, g3, g4, g5, gb, s3, s4, s5, sb, hwv, hv] <;> rfl) (by rfl) (by simp [hw]) ?_
    refine evSeq_go rfl (by simp [h3, h4, h5, g3, g4, g5, gb, s3, s4, s5, sb, hwv, hv] <;> rfl) (by rfl) (by simp [hw]) ?_
    refine evSeq_go rfl (by simp [h3, h4, h5, g3, g4, g5, gb, s3, s4, s5, sb, hwv, hv] <;> rfl) (by rfl) (by simp [hw]) ?_
    refine evSeq_go rfl (by simp [h3, h4, h5, g3, g4, g5, gb, s3, s4, s5, sb, hwv, hv] <;> rfl) (by rfl) (by simp [hw]) ?_
    refine evSeq_go rfl (by simp [h3, h4, h5, g3, g4, g5, gb, s3, s4, s5, sb, hwv, hv] <;> rfl) (by rfl) (by simp [hw]) ?_
    exact evSeq_nil
  refine inSeq_norm ?_
  refine Tri.seq' ?_
  refine Tri.regN (t' := ?t2) (H' := ?H2) TT_ok hC ?e2 ?q2
  case e2 =>
    refine go_false ?_
    refine evSeq_go rfl (by simp [h3, h4, h5, g3, g4, g5, gb, s3, s4, s5, sb, hwv, hv] <;> rfl) (by rfl) (by simp [hw]) ?_
    refine evSeq_go rfl (by simp [h3, h4, h5, g3, g4, g5, gb, s3, s4, s5, sb, hwv, hv] <;> rfl) (by rfl) (by simp [hw]) ?_
    refine evSeq_go rfl (by simp [h3, h4, h5, g3, g4, g5, gb, s3, s4, s5, sb, hwv, hv] <;> rfl) (by rfl) (by simp [hw]) ?_
    refine evSeq_go rfl (by simp [h3, h4, h5, g3, g4, g5, gb, s3, s4, s5, sb, hwv, hv] <;> rfl) (by rfl) (by simp [hw]) ?_
    refine evSeq_go rfl (by simp [h3, h4, h5, g3, g4, g5, gb, s3, s4, s5, sb, hwv, hv] <;> rfl) (by rfl) (by simp [hw]) ?_
    refine evSeq_off (by simp [wants, h3, h4, h5, g3, g4, g5, gb, s3, s4, s5, sb, hwv, hv]) (by simp [hw]) ?_
    refine evSeq_off (by simp [wants, h3, h4, h5, g3, g4, g5, gb, s3, s4, s5, sb, hwv, hv]) (by simp [hw]) ?_
    refine evSeq_go rfl (by simp [h3, h4, h5, g3, g4, g5, gb, s3, s4, s5, sb, hwv, hv] <;> rfl) (by rfl) (by simp [hw]) ?_
    exact evSeq_nil
  refine inSeq_norm ?_
  refine Tri.condG (o := ?o3) (b := ?b3) ?g3 ?r3 ?y3 ?n3
  case g3 => simp [h3, h4, h5, g3, g4, g5, gb, s3, s4, s5, sb, hwv, hv] <;> rfl
  case r3 => rfl
  case y3 =>
    intro hy3
    refine Tri.seq' ?_
    refine Tri.regN (t' := ?t4) (H' := ?H4) TT_ok hC ?e4 ?q4
    case e4 =>
      refine go_false ?_
      refine evSeq_go rfl (by simp [h3, h4, h5, g3, g4, g5, gb, s3, s4, s5, sb, hwv, hv] <;> rfl) (by rfl) (by simp [hw]) ?_
      exact evSeq_nil
    refine inSeq_norm ?_
    refine Tri.ret ?_
    refine inSeq_ret ?_
    exact endsH (by simp [finish, evResults, evResult, Tryz.f37] <;> rfl) (by rfl) ⟨rfl, rfl⟩
  case n3 =>
    intro hn3
    exact absurd hn3 (by simp [h3, h4, h5, g3, g4, g5, gb, s3, s4, s5, sb, hwv, hv])
theorem rest20pb {call : CallF} (hC : call.Sound Tryz.prog TT) (x : Nd) (b p3 p4 p5 : Nat) (d v : Int) (K : Heap) (t : Tm) (hw : t.wid = 24) (h3 : t.get 3 = .ptr p3 0) (h4 : t.get 4 = .ptr p4 0) (h5 : t.get 5 = .ptr p5 0)
  (g3 : K[p3]? = some (some ⟨24, [.i .i64 x.kind, .s x.text, .isl 3 (Nd.encL x.kids)], .all⟩)) (g4 : K[p4]? = some (some ⟨63, [.ptr b 0], .all⟩)) (g5 : K[p5]? = some (some ⟨3, [.i .i64 d], .all⟩)) (gb : K[b]? = some (some ⟨3, [.i .i64 v], .all⟩))
  (s3 : ∀ c, (K.set b c)[p3]? = some (some ⟨24, [.i .i64 x.kind, .s x.text, .isl 3 (Nd.encL x.kids)], .all⟩)) (s4 : ∀ c, (K.set b c)[p4]? = some (some ⟨63, [.ptr b 0], .all⟩)) (s5 : ∀ c, (K.set b c)[p5]? = some (some ⟨3, [.i .i64 d], .all⟩)) (sb : ∀ c, (K.set b c)[b]? = some c)
  (hwv : IntKind.i64.wrap (v - 1) = v - 1) (hv : ¬ v - 1 < 0) (hd : 100 < d) : Tri Tryz.prog TT (sub [true] (bodyOf Tryz.f37)) t K (EndsH TT Tryz.f37 fun r H' => r = .b true ∧ H' = K.set b (some ⟨3, [.i .i64 (v - 1)], .all⟩)) := by
  refine Tri.seq' ?_
  refine Tri.seq' ?_
  refine Tri.regN (t' := ?t1) (H' := ?H1) TT_ok hC ?e1 ?q1
  case e1 =>
    refine go_false ?_
    refine evSeq_go rfl (by simp [h3, h4, h5, g3, g4, g5, gb, s3, s4, s5, sb, hwv, hv, hd] <;> rfl) (by rfl) (by simp [hw]) ?_
    refine evSeq_go rfl (by simp [h3, h4, h5, g3, g4, g5, gb, s3, s4, s5, sb, hwv, hv, hd] <;> rfl) (by rfl) (by simp [hw]) ?_
    refine evSeq_go rfl (by simp [h3, h4, h5, g3, g4, g5, gb, s3, s4, s5, sb, hwv, hv, hd] <;> rfl) (by rfl) (by simp [hw]) ?_
    refine evSeq_go rfl (by simp [h3, h4, h5, g3, g4, g5, gb, s3, s4, s5, sb, hwv, hv, hd] <;> rfl) (by rfl) (by simp [hw]) ?_
    refine evSeq_go rfl (by simp [h3, h4, h5, g3, g4, g5, gb, s3, s4, s5, sb, hwv, hv, hd] <;> rfl) (by rfl) (by simp [hw]) ?_
    refine evSeq_go rfl (by simp [h3, h4, h5, g3, g4, g5, gb, s3, s4, s5, sb, hwv, hv, hd] <;> rfl) (by rfl) (by simp [hw]) ?_
    exact evSeq_nil
  refine inSeq_norm ?_
  refine Tri.seq' ?_
  refine Tri.regN (t' := ?t2) (H' := ?H2) TT_ok hC ?e2 ?q2
  case e2 =>
    refine go_false ?_
    refine evSeq_go rfl (by simp [h3, h4, h5, g3, g4, g5, gb, s3, s4, s5, sb, hwv, hv, hd] <;> rfl) (by rfl) (by simp [hw]) ?_
    refine evSeq_go rfl (by simp [h3, h4, h5, g3, g4, g5, gb, s3, s4, s5, sb, hwv, hv, hd] <;> rfl) (by rfl) (by simp [hw]) ?_
    refine evSeq_go rfl (by simp [h3, h4, h5, g3, g4, g5, gb, s3, s4, s5, sb, hwv, hv, hd] <;> rfl) (by rfl) (by simp [hw]) ?_
    refine evSeq_go rfl (by simp [h3, h4, h5, g3, g4, g5, gb, s3, s4, s5, sb, hwv, hv, hd] <;> rfl) (by rfl) (by simp [hw]) ?_
    refine evSeq_go rfl (by simp [h3, h4, h5, g3, g4, g5, gb, s3, s4, s5, sb, hwv, hv, hd] <;> rfl) (by rfl) (by simp [hw]) ?_
    refine evSeq_go (by simp [wants, h3, h4, h5, g3, g4, g5, gb, s3, s4, s5, sb, hwv, hv, hd]) (by simp [h3, h4, h5, g3, g4, g5, gb, s3, s4, s5, sb, hwv, hv, hd] <;> rfl) (by rfl) (by simp [hw]) ?_
    refine evSeq_go (by simp [wants, h3, h4, h5, g3, g4, g5, gb, s3, s4, s5, sb, hwv, hv, hd]) (by simp [h3, h4, h5, g3, g4, g5, gb, s3, s4, s5, sb, hwv, hv, hd] <;> rfl) (by rfl) (by simp [hw]) ?_
    refine evSeq_go rfl (by simp [h3, h4, h5, g3, g4, g5, gb, s3, s4, s5, sb, hwv, hv, hd] <;> rfl) (by rfl) (by simp [hw]) ?_
    exact evSeq_nil
  refine inSeq_norm ?_
  refine Tri.condG (o := ?o3) (b := ?b3) ?g3 ?r3 ?y3 ?n3
  case g3 => simp [h3, h4, h5, g3, g4, g5, gb, s3, s4, s5, sb, hwv, hv, hd] <;> rfl
  case r3 => rfl
  case y3 =>
    intro hy3
    refine Tri.seq' ?_
    refine Tri.regN (t' := ?t4) (H' := ?H4) TT_ok hC ?e4 ?q4
    case e4 =>
      refine go_false ?_
      refine evSeq_go rfl (by simp [h3, h4, h5, g3, g4, g5, gb, s3, s4, s5, sb, hwv, hv, hd] <;> rfl) (by rfl) (by simp [hw]) ?_
      exact evSeq_nil
    refine inSeq_norm ?_
    refine Tri.ret ?_
    refine inSeq_ret ?_
    exact endsH (by simp [finish, evResults, evResult, Tryz.f37] <;> rfl) (by rfl) ⟨rfl, rfl⟩
  case n3 =>
    intro hn3
    exact absurd hn3 (by simp [h3, h4, h5, g3, g4, g5, gb, s3, s4, s5, sb, hwv, hv, hd])
theorem rest20pc {call : CallF} (hC : call.Sound Tryz.prog TT) (x : Nd) (b p3 p4 p5 : Nat) (d v : Int) (K : Heap) (t : Tm) (hw : t.wid = 24) (h3 : t.get 3 = .ptr p3 0) (h4 : t.get 4 = .ptr p4 0) (h5 : t.get 5 = .ptr p5 0)
  (g3 : K[p3]? = some (some ⟨24, [.i .i64 x.kind, .s x.text, .isl 3 (Nd.encL x.kids)], .all⟩)) (g4 : K[p4]? = some (some ⟨63, [.ptr b 0], .all⟩)) (g5 : K[p5]? = some (some ⟨3, [.i .i64 d], .all⟩)) (gb : K[b]? = some (some ⟨3, [.i .i64 v], .all⟩))
  (s3 : ∀ c, (K.set b c)[p3]? = some (some ⟨24, [.i .i64 x.kind, .s x.text, .isl 3 (Nd.encL x.kids)], .all⟩)) (s4 : ∀ c, (K.set b c)[p4]? = some (some ⟨63, [.ptr b 0], .all⟩)) (s5 : ∀ c, (K.set b c)[p5]? = some (some ⟨3, [.i .i64 d], .all⟩)) (sb : ∀ c, (K.set b c)[b]? = some c)
  (hwv : IntKind.i64.wrap (v - 1) = v - 1) (hv : ¬ v - 1 < 0) (hd : ¬ 100 < d) (q : Bool) (K2 : Heap) (hs : call 55 [.isl 3 (Nd.encL x.kids), .fn 60 [.ptr p4 0, .ptr p5 0]] (K.set b (some ⟨3, [.i .i64 (v - 1)], .all⟩)) = .val (.b q) K2) : Tri Tryz.prog TT (sub [true] (bodyOf Tryz.f37)) t K (EndsH TT Tryz.f37 fun r H' => r = .b q ∧ H' = K2) := by
  refine Tri.seq' ?_
  refine Tri.seq' ?_
  refine Tri.regN (t' := ?t1) (H' := ?H1) TT_ok hC ?e1 ?q1
  case e1 =>
    refine go_false ?_
    refine evSeq_go rfl (by simp [h3, h4, h5, g3, g4, g5, gb, s3, s4, s5, sb, hwv, hv, hd, hs] <;> rfl) (by rfl) (by simp [hw]) ?_
    refine evSeq_go rfl (by simp [h3, h4, h5, g3, g4, g5, gb, s3, s4, s5, sb, hwv, hv, hd, hs] <;> rfl) (by rfl) (by simp [hw]) ?_
    refine evSeq_go rfl (by simp [h3, h4, h5, g3, g4, g5, gb, s3, s4, s5, sb, hwv, hv, hd, hs] <;> rfl) (by rfl) (by simp [hw]) ?_
    refine evSeq_go rfl (by simp [h3, h4, h5, g3, g4, g5, gb, s3, s4, s5, sb, hwv, hv, hd, hs] <;> rfl) (by rfl) (by simp [hw]) ?_
    refine evSeq_go rfl (by simp [h3, h4, h5, g3, g4, g5, gb, s3, s4, s5, sb, hwv, hv, hd, hs] <;> rfl) (by rfl) (by simp [hw]) ?_
    refine evSeq_go rfl (by simp [h3, h4, h5, g3, g4, g5, gb, s3, s4, s5, sb, hwv, hv, hd, hs] <;> rfl) (by rfl) (by simp [hw]) ?_
    exact evSeq_nil
  refine inSeq_norm ?_
  refine Tri.seq' ?_
  refine Tri.regN (t' := ?t2) (H' := ?H2) TT_ok hC ?e2 ?q2
  case e2 =>
    refine go_false ?_
    refine evSeq_go rfl (by simp [h3, h4, h5, g3, g4, g5, gb, s3, s4, s5, sb, hwv, hv, hd, hs] <;> rfl) (by rfl) (by simp [hw]) ?_
    refine evSeq_go rfl (by simp [h3, h4, h5, g3, g4, g5, gb, s3, s4, s5, sb, hwv, hv, hd, hs] <;> rfl) (by rfl) (by simp [hw]) ?_
    refine evSeq_go rfl (by simp [h3, h4, h5, g3, g4, g5, gb, s3, s4, s5, sb, hwv, hv, hd, hs] <;> rfl) (by rfl) (by simp [hw]) ?_
    refine evSeq_go rfl (by simp [h3, h4, h5, g3, g4, g5, gb, s3, s4, s5, sb, hwv, hv, hd, hs] <;> rfl) (by rfl) (by simp [hw]) ?_
    refine evSeq_go rfl (by simp [h3, h4, h5, g3, g4, g5, gb, s3, s4, s5, sb, hwv, hv, hd, hs] <;> rfl) (by rfl) (by simp [hw]) ?_
    refine evSeq_go (by simp [wants, h3, h4, h5, g3, g4, g5, gb, s3, s4, s5, sb, hwv, hv, hd, hs]) (by simp [h3, h4, h5, g3, g4, g5, gb, s3, s4, s5, sb, hwv, hv, hd, hs] <;> rfl) (by rfl) (by simp [hw]) ?_
    refine evSeq_go (by simp [wants, h3, h4, h5, g3, g4, g5, gb, s3, s4, s5, sb, hwv, hv, hd, hs]) (by simp [h3, h4, h5, g3, g4, g5, gb, s3, s4, s5, sb, hwv, hv, hd, hs] <;> rfl) (by rfl) (by simp [hw]) ?_
    refine evSeq_go rfl (by simp [h3, h4, h5, g3, g4, g5, gb, s3, s4, s5, sb, hwv, hv, hd, hs] <;> rfl) (by rfl) (by simp [hw]) ?_
    exact evSeq_nil
  refine inSeq_norm ?_
  refine Tri.condG (o := ?o3) (b := ?b3) ?g3 ?r3 ?y3 ?n3
  case g3 => simp [h3, h4, h5, g3, g4, g5, gb, s3, s4, s5, sb, hwv, hv, hd, hs] <;> rfl
  case r3 => rfl
  case y3 =>
    intro hy3
    exact absurd hy3 (by simp [h3, h4, h5, g3, g4, g5, gb, s3, s4, s5, sb, hwv, hv, hd, hs])
  case n3 =>
    intro hn3
    refine Tri.skip ?_
    refine inSeq_norm ?_
    refine Tri.seq' ?_
    refine Tri.regN (t' := ?t4) (H' := ?H4) TT_ok hC ?e4 ?q4
    case e4 =>
      refine go_false ?_
      refine evSeq_go rfl (by simp [h3, h4, h5, g3, g4, g5, gb, s3, s4, s5, sb, hwv, hv, hd, hs] <;> rfl) (by rfl) (by simp [hw]) ?_
      refine evSeq_go rfl (by simp [h3, h4, h5, g3, g4, g5, gb, s3, s4, s5, sb, hwv, hv, hd, hs] <;> rfl) (by rfl) (by simp [hw]) ?_
      refine evSeq_go rfl (by simp [h3, h4, h5, g3, g4, g5, gb, s3, s4, s5, sb, hwv, hv, hd, hs] <;> rfl) (by rfl) (by simp [hw]) ?_
      refine evSeq_go rfl (by simp [h3, h4, h5, g3, g4, g5, gb, s3, s4, s5, sb, hwv, hv, hd, hs] <;> rfl) (by rfl) (by simp [hw]) ?_
      refine evSeq_go rfl (by simp [h3, h4, h5, g3, g4, g5, gb, s3, s4, s5, sb, hwv, hv, hd, hs] <;> rfl) (by rfl) (by simp [hw]) ?_
      exact evSeq_nil
    refine inSeq_norm ?_
    refine Tri.ret ?_
    exact endsH (by simp [finish, evResults, evResult, Tryz.f37] <;> rfl) (by rfl) ⟨rfl, rfl⟩
theorem body_20 {call : CallF} (hC : call.Sound Tryz.prog TT) (x : Nd) (b : Nat) (d : Int) (H : Heap) (R : V → Heap → Prop) (hrest : ∀ t : Tm, t.wid = 24 → t.get 3 = .ptr H.length 0 → t.get 4 = .ptr (H.length + 1) 0 → t.get 5 = .ptr (H.length + 2) 0 → Tri Tryz.prog TT (sub [true] (bodyOf Tryz.f37)) t (H ++ [some ⟨24, [.i .i64 x.kind, .s x.text, .isl 3 (Nd.encL x.kids)], .all⟩, some ⟨63, [.ptr b 0], .all⟩, some ⟨3, [.i .i64 d], .all⟩]) (EndsH TT Tryz.f37 R))  : HBody Tryz.prog TT 37 [x.enc, .ptr b 0, .i .i64 d] H R := by
  refine ⟨Tryz.f37, _, rfl, rfl, by simp [Tryz.f37], ?_⟩
  have h0 : (Tm.init Tryz.f37.ntmps [x.enc, .ptr b 0, .i .i64 d]).get 0 = x.enc := by rw [get_init]; rfl
  have h1 : (Tm.init Tryz.f37.ntmps [x.enc, .ptr b 0, .i .i64 d]).get 1 = .ptr b 0 := by rw [get_init]; rfl
  have h2 : (Tm.init Tryz.f37.ntmps [x.enc, .ptr b 0, .i .i64 d]).get 2 = .i .i64 d := by rw [get_init]; rfl
  have hw : (Tm.init Tryz.f37.ntmps [x.enc, .ptr b 0, .i .i64 d]).wid = 24 := rfl
  generalize Tm.init Tryz.f37.ntmps [x.enc, .ptr b 0, .i .i64 d] = t at *
  try simp only [Nd.enc_eq] at *
  refine Tri.seq' ?_
  refine Tri.regN (t' := ?t1) (H' := ?H1) TT_ok hC ?e1 ?q1
  case e1 =>
    refine go_false ?_
    refine evSeq_go rfl (by simp [h0, h1, h2, Nat.add_assoc] <;> rfl) (by rfl) (by simp [hw]) ?_
    refine evSeq_go rfl (by simp [h0, h1, h2, Nat.add_assoc] <;> rfl) (by rfl) (by simp [hw]) ?_
    refine evSeq_go rfl (by simp [h0, h1, h2, Nat.add_assoc] <;> rfl) (by rfl) (by simp [hw]) ?_
    refine evSeq_go rfl (by simp [h0, h1, h2, Nat.add_assoc] <;> rfl) (by rfl) (by simp [hw]) ?_
    exact evSeq_nil
  refine inSeq_norm ?_
  exact hrest _ (by simp [hw]) (by simp) (by simp) (by simp [Nat.add_assoc])
theorem body_14p {call : CallF} (hC : call.Sound Tryz.prog TT) (x : Nd) (q : Bool) (K : Heap) (hs : call 37 [x.enc, .ptr 1 0, .i .i64 1] [some ⟨24, [.i .i64 x.kind, .s x.text, .isl 3 (Nd.encL x.kids)], .all⟩, some ⟨3, [.i .i64 4000], .all⟩] = .val (.b q) K)  : EBody Tryz.prog TT 30 [x.enc] (fun r => r = .val (.b q)) := by
  refine ⟨Tryz.f30, _, rfl, rfl, by simp [Tryz.f30], ?_⟩
  have h0 : (Tm.init Tryz.f30.ntmps [x.enc]).get 0 = x.enc := by rw [get_init]; rfl
  have hw : (Tm.init Tryz.f30.ntmps [x.enc]).wid = 6 := rfl
  generalize Tm.init Tryz.f30.ntmps [x.enc] = t at *
  try simp only [Nd.enc_eq] at *
  refine Tri.seq' ?_
  refine Tri.regN (t' := ?t1) (H' := ?H1) TT_ok hC ?e1 ?q1
  case e1 =>
    refine go_false ?_
    refine evSeq_go rfl (by simp [h0, hs] <;> rfl) (by rfl) (by simp [hw]) ?_
    refine evSeq_go rfl (by simp [h0, hs] <;> rfl) (by rfl) (by simp [hw]) ?_
    exact evSeq_nil
  refine inSeq_norm ?_
  refine Tri.seq' ?_
  refine Tri.regN (t' := ?t2) (H' := ?H2) TT_ok hC ?e2 ?q2
  case e2 =>
    refine go_false ?_
    refine evSeq_go rfl (by simp [h0, hs] <;> rfl) (by rfl) (by simp [hw]) ?_
    refine evSeq_go rfl (by simp [h0, hs] <;> rfl) (by rfl) (by simp [hw]) ?_
    exact evSeq_nil
  refine inSeq_norm ?_
  refine Tri.seq' ?_
  refine Tri.regN (t' := ?t3) (H' := ?H3) TT_ok hC ?e3 ?q3
  case e3 =>
    refine go_false ?_
    refine evSeq_go rfl (by simp [h0, hs] <;> rfl) (by rfl) (by simp [hw]) ?_
    refine evSeq_go rfl (by simp [h0, hs] <;> rfl) (by rfl) (by simp [hw]) ?_
    refine evSeq_go rfl (by simp [h0, hs] <;> rfl) (by rfl) (by simp [hw]) ?_
    exact evSeq_nil
  refine inSeq_norm ?_
  refine Tri.ret ?_
  refine endsE (by simp [finish, evResults, evResult, Tryz.f30] <;> rfl) (by rfl) ?_
  exact rfl
end Go.Ev

namespace Go.Ev
open Go Go.Proofs
set_option maxRecDepth 100000
set_option linter.unusedSimpArgs false
set_option linter.unusedVariables false
theorem EndsH.mono {T : Tab} {fn : Func} {R R' : V → Heap → Prop} {o : Out} (h : EndsH T fn R o) (hr : ∀ v H, R v H → R' v H) : EndsH T fn R' o := by
  cases o <;> simp only [EndsH] at h ⊢
  · obtain ⟨v, h1, h2⟩ := h; exact ⟨v, hr _ _ h1, h2⟩
  · obtain ⟨v, h1, h2⟩ := h; exact ⟨v, hr _ _ h1, h2⟩
theorem HBody.mono {F : FuncId} {vs : List V} {H : Heap} {R R' : V → Heap → Prop} (h : HBody Tryz.prog TT F vs H R) (hr : ∀ v H, R v H → R' v H) : HBody Tryz.prog TT F vs H R' := by
  obtain ⟨fn, c, h1, h2, h3, o, h4, h5⟩ := h
  exact ⟨fn, c, h1, h2, h3, o, h4.mono hr, h5⟩
/-- A counter's cell. -/
abbrev cell (v : Int) : Option Blk := some ⟨3, [.i .i64 v], .all⟩
/-- Nothing old has turned but a counter, which has gone down by at most so much. -/
def Down (b : Nat) (H H' : Heap) (v : Int) (n : Nat) : Prop := H.length ≤ H'.length ∧ (∀ k, k < H.length → k ≠ b → H'[k]? = H[k]?) ∧ ∃ v' : Int, H'[b]? = some (cell v') ∧ v' ≤ v ∧ v - n ≤ v'
/-- What large is called with. -/
def LargeIn (k : Nat) (x : Nd) (b : Nat) (d v : Int) (H : Heap) : Prop := x.num = k ∧ x.num < NT ∧ b < H.length ∧ H[b]? = some (cell v) ∧ -1000000000 ≤ v - x.num ∧ v ≤ 1000000000 ∧ 0 ≤ d ∧ d + x.num ≤ 1000000000
/-- No more nodes than are left, and not too deep. -/
def fitL (d v : Int) (x : Nd) : Prop := (x.num : Int) ≤ v ∧ d + x.dep ≤ 101
theorem depL_le_iff : ∀ (l : List Nd) (d m : Nat), Nd.depL l d ≤ m ↔ d ≤ m ∧ ∀ y ∈ l, y.dep ≤ m
  | [], d, m => by simp [Nd.depL]
  | x :: l, d, m => by
    simp only [Nd.depL, depL_le_iff l, List.mem_cons, forall_eq_or_imp]
    by_cases h : x.dep > d
    · rw [if_pos h]
      constructor
      · rintro ⟨h1, h2⟩; exact ⟨by omega, h1, h2⟩
      · rintro ⟨h1, h2, h3⟩; exact ⟨h2, h3⟩
    · rw [if_neg h]
      constructor
      · rintro ⟨h1, h2⟩; exact ⟨h1, by omega, h2⟩
      · rintro ⟨h1, h2, h3⟩; exact ⟨h1, h3⟩
theorem dep_eq (x : Nd) : x.dep = Nd.depL x.kids 0 + 1 := by cases x; rfl
theorem dep_kid {x y : Nd} (h : y ∈ x.kids) : y.dep + 1 ≤ x.dep := by
  have := ((depL_le_iff x.kids 0 _).1 (Nat.le_refl _)).2 y h
  have := dep_eq x
  omega
theorem dep_bound {x : Nd} {d : Int} (hd : 0 ≤ d) (hle : ¬ 100 < d) (h : ∀ y ∈ x.kids, d + 1 + y.dep ≤ 101) : d + x.dep ≤ 101 := by
  have h1 : Nd.depL x.kids 0 ≤ (100 - d).toNat := (depL_le_iff _ _ _).2 ⟨Nat.zero_le _, fun y hy => by have := h y hy; omega⟩
  have := dep_eq x
  omega
theorem numL_suffix : ∀ (pre L : List Nd), Nd.numL (pre ++ L) = Nd.numL pre + Nd.numL L
  | [], L => by simp [Nd.numL]
  | x :: pre, L => by simp only [List.cons_append, Nd.numL, numL_suffix pre L]; omega
theorem sp20p : ∃ g, SpecOK Tryz.prog TT 37 g ∧ ∀ x b d v H, LargeIn x.num x b d v H → ∃ q H', Down b H H' v x.num ∧ (q = false → fitL d v x ∧ H'[b]? = some (cell (v - x.num))) ∧ (q = true → ¬ fitL d v x) ∧ g [x.enc, .ptr b 0, .i .i64 d] H = .val (.b q) H' := by
  obtain ⟨g, hg, hs⟩ := spec_heap TT_ok 37 (fun k vs H => ∃ x b d v, LargeIn k x b d v H ∧ vs = [x.enc, .ptr b 0, .i .i64 d])
    (fun vs H r H' => ∃ q : Bool, r = .b q ∧ ∀ x b d v, LargeIn x.num x b d v H → vs = [x.enc, .ptr b 0, .i .i64 d] → Down b H H' v x.num ∧ (q = false → fitL d v x ∧ H'[b]? = some (cell (v - x.num))) ∧ (q = true → ¬ fitL d v x)) (by
    rintro k vs H ⟨x, b, d, v, ⟨rfl, hx, hbl, hb, hv1, hv2, hd1, hd2⟩, rfl⟩ g hg hrec
    have hnum := x.num_eq
    have hlen := Nd.numL_length x.kids
    have hN : NT = 1090000 := rfl
    have fin : ∀ (q : Bool) H', (Down b H H' v x.num ∧ (q = false → fitL d v x ∧ H'[b]? = some (cell (v - x.num))) ∧ (q = true → ¬ fitL d v x)) → ∀ y c e w, LargeIn y.num y c e w H → [x.enc, V.ptr b 0, V.i .i64 d] = [y.enc, .ptr c 0, .i .i64 e] → Down c H H' w y.num ∧ (q = false → fitL e w y ∧ H'[c]? = some (cell (w - y.num))) ∧ (q = true → ¬ fitL e w y) := by
      intro q H' hD y c e w hL he
      simp only [List.cons.injEq, V.ptr.injEq, V.i.injEq, true_and, and_true] at he
      obtain ⟨e1, e2, e3⟩ := he
      have := Nd.enc_inj _ _ e1
      subst this e2 e3
      have h4 := hL.2.2.2.1
      rw [hb] at h4
      simp only [cell, Option.some.injEq, Blk.mk.injEq, List.cons.injEq, V.i.injEq, and_true, true_and] at h4
      subst h4
      exact hD
    -- the heap behind the boxes
    obtain ⟨K, hK⟩ : ∃ K, H ++ [some ⟨24, [.i .i64 x.kind, .s x.text, .isl 3 (Nd.encL x.kids)], .all⟩, some ⟨63, [.ptr b 0], .all⟩, some ⟨3, [.i .i64 d], .all⟩] = K := ⟨_, rfl⟩
    have kl : K.length = H.length + 3 := by rw [← hK]; simp
    have kold : ∀ n, n < H.length → K[n]? = H[n]? := fun n hn => by rw [← hK, List.getElem?_append_left hn]
    have g3 : K[H.length]? = some (some ⟨24, [.i .i64 x.kind, .s x.text, .isl 3 (Nd.encL x.kids)], .all⟩) := by rw [← hK, List.getElem?_append_right (Nat.le_refl _)]; simp
    have g4 : K[H.length + 1]? = some (some ⟨63, [.ptr b 0], .all⟩) := by rw [← hK, List.getElem?_append_right (by omega)]; simp
    have g5 : K[H.length + 2]? = some (some ⟨3, [.i .i64 d], .all⟩) := by rw [← hK, List.getElem?_append_right (by omega)]; simp
    have gb : K[b]? = some (cell v) := by rw [kold b hbl]; exact hb
    have sne : ∀ (c : Option Blk) n, n ≠ b → (K.set b c)[n]? = K[n]? := fun c n hn => by rw [List.getElem?_set]; rw [if_neg (by omega)]
    have sb : ∀ c : Option Blk, (K.set b c)[b]? = some c := fun c => by rw [List.getElem?_set]; simp; omega
    have hwv : IntKind.i64.wrap (v - 1) = v - 1 := wrap_i64 (by omega) (by omega)
    have dset : Down b H (K.set b (cell (v - 1))) v x.num := ⟨by simp; omega, fun n hn hne => by rw [sne _ _ hne, kold n hn], v - 1, sb _, by omega, by omega⟩
    have hdep : 1 ≤ x.dep := by rw [dep_eq]; omega
    have key : HBody Tryz.prog TT 37 [x.enc, .ptr b 0, .i .i64 d] H (fun r H' => ∃ q : Bool, r = .b q ∧ Down b H H' v x.num ∧ (q = false → fitL d v x ∧ H'[b]? = some (cell (v - x.num))) ∧ (q = true → ¬ fitL d v x)) := by
      by_cases hneg : v - 1 < 0
      · refine body_20 n0 x b d H _ fun t hw h3 h4 h5 => ?_
        rw [hK]
        refine (rest20pa n0 x b H.length (H.length + 1) (H.length + 2) d v K t hw h3 h4 h5 g3 g4 g5 gb (fun c => by rw [sne _ _ (by omega)]; exact g3) (fun c => by rw [sne _ _ (by omega)]; exact g4) (fun c => by rw [sne _ _ (by omega)]; exact g5) sb hwv hneg).mono fun o ho => ho.mono ?_
        rintro r H' ⟨rfl, rfl⟩
        exact ⟨true, rfl, dset, (fun h => by cases h), fun _ hf => by have := hf.1; omega⟩
      by_cases hdeep : 100 < d
      · refine body_20 n0 x b d H _ fun t hw h3 h4 h5 => ?_
        rw [hK]
        refine (rest20pb n0 x b H.length (H.length + 1) (H.length + 2) d v K t hw h3 h4 h5 g3 g4 g5 gb (fun c => by rw [sne _ _ (by omega)]; exact g3) (fun c => by rw [sne _ _ (by omega)]; exact g4) (fun c => by rw [sne _ _ (by omega)]; exact g5) sb hwv hneg hdeep).mono fun o ho => ho.mono ?_
        rintro r H' ⟨rfl, rfl⟩
        exact ⟨true, rfl, dset, (fun h => by cases h), fun _ hf => by have := hf.2; omega⟩
      -- the closure on a kid
      obtain ⟨g47, k47, s47⟩ := spec_heap TT_ok 60 (fun _ vs J => ∃ (y : Nd) (w : Int), y ∈ x.kids ∧ vs = [y.enc, .ptr (H.length + 1) 0, .ptr (H.length + 2) 0] ∧ H.length + 3 ≤ J.length ∧ J[H.length + 1]? = some (some ⟨63, [.ptr b 0], .all⟩) ∧ J[H.length + 2]? = some (some ⟨3, [.i .i64 d], .all⟩) ∧ J[b]? = some (cell w) ∧ -1000000000 ≤ w - y.num ∧ w ≤ 1000000000)
        (fun vs J r J' => ∃ q : Bool, r = .b q ∧ ∀ (y : Nd) (w : Int), vs = [y.enc, .ptr (H.length + 1) 0, .ptr (H.length + 2) 0] → J[b]? = some (cell w) → Down b J J' w y.num ∧ (q = false → fitL (d + 1) w y ∧ J'[b]? = some (cell (w - y.num))) ∧ (q = true → ¬ fitL (d + 1) w y)) (by
        rintro _ vs J ⟨y, w, hy, rfl, hJ, j1, j2, jb, w1, w2⟩ g' _ _
        have hyn := Nd.num_mem hy
        have hJb : b < J.length := by omega
        have hin : LargeIn y.num y b (d + 1) w (J ++ [some ⟨24, [.i .i64 y.kind, .s y.text, .isl 3 (Nd.encL y.kids)], .all⟩]) :=
          ⟨rfl, by omega, by simp; omega, by rw [List.getElem?_append_left hJb]; exact jb, w1, w2, by omega, by omega⟩
        obtain ⟨r, J2, ⟨q, rfl, hD⟩, hc⟩ := hrec y.num (by omega) _ _ ⟨y, b, d + 1, w, hin, rfl⟩
        have hD' := hD y b (d + 1) w hin rfl
        refine (body_47p (ws n0 hg) y (H.length + 1) (H.length + 2) b d J J2 q (fun z => by rw [List.getElem?_append_left (by omega)]; exact j1) (fun z => by rw [List.getElem?_append_left (by omega)]; exact j2) (fun z => by simp) (wrap_i64 (by omega) (by omega)) (by rw [w_here]; exact hc)).mono ?_
        rintro r H' ⟨rfl, rfl⟩
        refine ⟨q, rfl, fun y' w' he hw' => ?_⟩
        simp only [List.cons.injEq, and_true] at he
        have := Nd.enc_inj _ _ he
        subst this
        rw [jb] at hw'
        simp only [cell, Option.some.injEq, Blk.mk.injEq, List.cons.injEq, V.i.injEq, and_true, true_and] at hw'
        subst hw'
        obtain ⟨⟨d1, d2, d3⟩, d4⟩ := hD'
        refine ⟨⟨by simp at d1; omega, fun n hn hne => ?_, d3⟩, d4⟩
        rw [d2 n (by simp; omega) hne, List.getElem?_append_left hn]) 1
      -- the heap ahead of the search
      let K1 := K.set b (cell (v - 1))
      have k1l : K1.length = H.length + 3 := by simp [K1, kl]
      let S : List Nd → Heap → Prop := fun L J => (∃ pre, x.kids = pre ++ L ∧ ∀ y ∈ pre, d + 1 + y.dep ≤ 101) ∧ K1.length ≤ J.length ∧ (∀ n, n < K1.length → n ≠ b → J[n]? = K1[n]?) ∧ J[b]? = some (cell (v - 1 - (Nd.numL x.kids - Nd.numL L : Int))) ∧ (Nd.numL x.kids - Nd.numL L : Int) ≤ v - 1
      let B : Heap → Prop := fun J => K1.length ≤ J.length ∧ (∀ n, n < K1.length → n ≠ b → J[n]? = K1[n]?) ∧ (∃ w : Int, J[b]? = some (cell w) ∧ w ≤ v - 1 ∧ v - 1 - Nd.numL x.kids ≤ w) ∧ ¬ ((Nd.numL x.kids : Int) ≤ v - 1 ∧ ∀ y ∈ x.kids, d + 1 + y.dep ≤ 101)
      have hS0 : S x.kids K1 := ⟨⟨[], rfl, by simp⟩, Nat.le_refl _, fun _ _ _ => rfl, by rw [show v - 1 - ((Nd.numL x.kids : Int) - Nd.numL x.kids) = v - 1 from by omega]; exact sb _, by omega⟩
      have hstep : ∀ y L J, S (y :: L) J → ∃ q J', (CallF.none.with 60 g47) 60 (y.enc :: [.ptr (H.length + 1) 0, .ptr (H.length + 2) 0]) J = .val (.b q) J' ∧ (q = false → S L J') ∧ (q = true → B J') := by
        rintro y L J ⟨⟨pre, hpre, hpd⟩, hJl, hJo, hw, w2⟩
        have hy : y ∈ x.kids := by rw [hpre]; simp
        have hyn := Nd.num_mem hy
        have hLn : Nd.numL (y :: L) = y.num + Nd.numL L := rfl
        have hsuf : Nd.numL x.kids = Nd.numL pre + Nd.numL (y :: L) := by rw [hpre]; exact numL_suffix _ _
        obtain ⟨r, J', ⟨q, rfl, hD⟩, hc⟩ := s47 0 (by omega) [y.enc, .ptr (H.length + 1) 0, .ptr (H.length + 2) 0] J ⟨y, _, hy, rfl, by omega, by rw [hJo _ (by omega) (by omega)]; simp only [K1]; rw [sne _ _ (by omega)]; exact g4, by rw [hJo _ (by omega) (by omega)]; simp only [K1]; rw [sne _ _ (by omega)]; exact g5, hw, by omega, by omega⟩
        obtain ⟨⟨d1, d2, v', d3, d4, d5⟩, d6, d7⟩ := hD y _ rfl hw
        refine ⟨q, J', by rw [w_here]; exact hc, fun hq => ?_, fun hq => ?_⟩
        · obtain ⟨⟨f1, f2⟩, f3⟩ := d6 hq
          refine ⟨⟨pre ++ [y], by simpa using hpre, fun z hz => ?_⟩, by omega, fun n hn hne => by rw [d2 n (by omega) hne]; exact hJo n hn hne, ?_, by omega⟩
          · rcases List.mem_append.1 hz with hz | hz
            · exact hpd z hz
            · obtain rfl : z = y := by simpa using hz
              exact f2
          · rw [f3, show v - 1 - ((Nd.numL x.kids : Int) - Nd.numL (y :: L)) - y.num = v - 1 - ((Nd.numL x.kids : Int) - Nd.numL L) from by omega]
        · refine ⟨by omega, fun n hn hne => by rw [d2 n (by omega) hne]; exact hJo n hn hne, ⟨v', d3, by omega, by omega⟩, fun ⟨e1, e2⟩ => d7 hq ⟨by omega, e2 y hy⟩⟩
      obtain ⟨g66, k66, s66⟩ := spec_heap TT_ok 79 (fun _ vs J => vs = [.isl 3 (Nd.encL x.kids), .fn 60 [.ptr (H.length + 1) 0, .ptr (H.length + 2) 0]] ∧ J = K1) (fun _ _ r J' => ∃ i : Int, r = .i .i64 i ∧ ((i = -1 ∧ S [] J') ∨ (0 ≤ i ∧ B J'))) (by
        rintro _ vs J ⟨rfl, rfl⟩ g' _ _
        exact body_66p (ws n0 k47) x.kids (by omega) _ _ (by rfl) S B hstep K1 hS0) 1
      obtain ⟨r, K2, ⟨i, rfl, hSL⟩, hi⟩ := s66 0 (by omega) _ _ ⟨rfl, rfl⟩
      obtain ⟨g41, k41, s41⟩ := spec_heap TT_ok 55 (fun _ vs J => vs = [.isl 3 (Nd.encL x.kids), .fn 60 [.ptr (H.length + 1) 0, .ptr (H.length + 2) 0]] ∧ J = K1) (fun _ _ r J' => r = .b (decide (0 ≤ i)) ∧ J' = K2) (by
        rintro _ vs J ⟨rfl, rfl⟩ g' _ _
        exact body_41p (ws n0 k66) x.kids _ _ K1 K2 i (by rw [w_here]; exact hi)) 1
      obtain ⟨r, J', ⟨rfl, rfl⟩, hq⟩ := s41 0 (by omega) _ _ ⟨rfl, rfl⟩
      refine body_20 (ws n0 k41) x b d H _ fun t hw h3 h4 h5 => ?_
      rw [hK]
      refine (rest20pc (ws n0 k41) x b H.length (H.length + 1) (H.length + 2) d v K t hw h3 h4 h5 g3 g4 g5 gb (fun c => by rw [sne _ _ (by omega)]; exact g3) (fun c => by rw [sne _ _ (by omega)]; exact g4) (fun c => by rw [sne _ _ (by omega)]; exact g5) sb hwv hneg hdeep _ J' (by rw [w_here]; exact hq)).mono fun o ho => ho.mono ?_
      rintro r H' ⟨rfl, rfl⟩
      rcases hSL with ⟨rfl, ⟨pre, hpre, hpd⟩, z1, z2, z3, z4⟩ | ⟨hi0, z1, z2, ⟨w, z3, z4, z5⟩, z6⟩
      · have e0 : Nd.numL ([] : List Nd) = 0 := rfl
        rw [e0] at z3 z4
        have ep : x.kids = pre := by simpa using hpre
        rw [← ep] at hpd
        refine ⟨false, by simp, ⟨by omega, fun n hn hne => by rw [z2 n (by omega) hne]; simp only [K1]; rw [sne _ _ hne, kold n hn], _, z3, by omega, by omega⟩, fun _ => ⟨⟨by omega, dep_bound hd1 hdeep hpd⟩, ?_⟩, fun h => by cases h⟩
        rw [z3, show v - 1 - ((Nd.numL x.kids : Int) - (0 : Nat)) = v - x.num from by omega]
      · refine ⟨true, by simp [hi0], ⟨by omega, fun n hn hne => by rw [z2 n (by omega) hne]; simp only [K1]; rw [sne _ _ hne, kold n hn], w, z3, by omega, by omega⟩, (fun h => by cases h), fun _ hf => z6 ⟨by have := hf.1; omega, fun y hy => ?_⟩⟩
        have := dep_kid hy
        have := hf.2
        omega
    refine key.mono ?_
    rintro r H' ⟨q, rfl, hD⟩
    exact ⟨q, rfl, fin q H' hD⟩) NT
  refine ⟨g, hg, fun x b d v H hL => ?_⟩
  obtain ⟨r, H', ⟨q, rfl, hD⟩, h⟩ := hs x.num hL.2.1 _ H ⟨x, b, d, v, hL, rfl⟩
  obtain ⟨h1, h2, h3⟩ := hD x b d v hL rfl
  exact ⟨q, H', h1, h2, h3, h⟩
/-- Too many nodes, or too deep. -/
def tooL (x : Nd) : Bool := decide (4000 < x.num ∨ 100 < x.dep)
theorem sp14p : ∃ g, SpecOK Tryz.prog TT 30 g ∧ ∀ x : Nd, x.num < NT → ∀ H, g [x.enc] H = .val (.b (tooL x)) H := by
  obtain ⟨g20, k20, s20⟩ := sp20p
  refine spec_val TT_ok TT_plain 30 (fun x : Nd => [x.enc]) (fun x => x.num < NT) (fun x => .b (tooL x)) (fun x _ => by simp [nlL, Nd.enc_nl]) (fun _ => rfl) (fun a b h => by
    simp only [List.cons.injEq, and_true] at h; rw [Nd.enc_inj _ _ h]) fun x hx => ?_
  have hN : NT = 1090000 := rfl
  obtain ⟨q, K, _, h1, h2, hq⟩ := s20 x 1 1 4000 [some ⟨24, [.i .i64 x.kind, .s x.text, .isl 3 (Nd.encL x.kids)], .all⟩, some ⟨3, [.i .i64 4000], .all⟩] ⟨rfl, hx, by simp, rfl, by omega, by omega, by omega, by omega⟩
  have e : q = tooL x := by
    cases q with
    | false =>
      have := (h1 rfl).1
      simp only [fitL] at this
      simp only [tooL]
      symm
      rw [decide_eq_false_iff_not]
      omega
    | true =>
      have := h2 rfl
      simp only [fitL] at this
      simp only [tooL]
      symm
      rw [decide_eq_true_eq]
      omega
  rw [← e]
  obtain ⟨fn, c, k1, k2, k3, o, ⟨r', rfl, k4⟩, hx'⟩ := body_14p (ws n0 k20) x q K (by rw [w_here]; exact hq)
  exact ⟨fn, c, k1, k2, k3, o, k4, hx'⟩
end Go.Ev
