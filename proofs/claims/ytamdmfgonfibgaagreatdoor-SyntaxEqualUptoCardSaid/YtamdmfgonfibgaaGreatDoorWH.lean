/- Rounds over parts with another state ahead and behind. -/
import Derived.Test.YtamdmfgonfibgaaGreatDoorWG
namespace Go.Ev
open Go Go.Proofs
set_option maxRecDepth 100000
set_option linter.unusedSimpArgs false
set_option linter.unusedVariables false
theorem loop66h {call : CallF} (hC : call.Sound Tryz.prog TT) (g : FuncId) (cs : List V) (hx0 : TT.ext g = none) (S : List Nd → Heap → Prop) (hstep : ∀ x L K, S (x :: L) K → ∃ q K', call g (x.enc :: cs) K = .val (.b q) K' ∧ S L K') {Q : Out → Prop} : ∀ (L pre : List Nd) (t : Tm) (H : Heap), S L H →
    (pre ++ L).length < 1100000 → t.wid = 19 → t.get 0 = .isl 3 (Nd.encL (pre ++ L)) → t.get 1 = .fn g cs → t.get 7 = .i .i64 (pre ++ L).length → t.get 8 = .i .i64 pre.length →
    (∀ t' H', t'.wid = 19 → (∃ L', S L' H') → Q (.exit 0 t' H')) →
    (∀ t' H' (i : Nat), t'.wid = 19 → (∃ L', S L' H') → t'.get 4 = .i .i64 i → Q (.ret t' H')) →
    LTri Tryz.prog TT (sub [true, false, true, false, false] (bodyOf Tryz.f66)) t H Q := by
  intro L
  induction L with
  | nil =>
    intro pre t H hS hlen hw h0 h1 h7 h8 hE hR
    refine LTri.round' ?_
    refine Tri.seq' ?_
    refine Tri.regN (t' := ?tz1) (H' := ?Hz1) TT_ok hC ?ez1 ?qz1
    case ez1 =>
      refine go_false ?_
      refine evSeq_go rfl (by simp [h0, h1, h7, h8, Nd.encL_length, Nd.enc_eq, hx0] <;> rfl) (by rfl) (by simp [fits_some, fits_none, hw, Nat.blt_eq]) ?_
      exact evSeq_nil
    refine inSeq_norm ?_
    refine Tri.seq' ?_
    refine Tri.condG (o := ?oz2) (b := ?bz2) ?gz2 ?rz2 ?yz2 ?nz2
    case gz2 => simp [h0, h1, h7, h8, Nd.encL_length, Nd.enc_eq, hx0] <;> rfl
    case rz2 => rfl
    case yz2 =>
      intro hy2
      simp at hy2
    case nz2 =>
      intro hn2
      refine Tri.exit ?_
      refine inSeq_exit ?_
      refine inLoop_exit ?_
      exact hE _ _ (by simp [hw]) ⟨_, hS⟩
  | cons x L ih =>
    intro pre t H hS hlen hw h0 h1 h7 h8 hE hR
    have hlt := fin_len pre.length L.length
    have hat := encL_at pre x L
    have hat2 := encL_at2 pre x L
    obtain ⟨q, K', hr, hS2⟩ := hstep x L H hS
    simp only [Nd.enc_eq] at hr
    refine LTri.round' ?_
    refine Tri.seq' ?_
    refine Tri.regN (t' := ?t1) (H' := ?H1) TT_ok hC ?e1 ?q1
    case e1 =>
      refine go_false ?_
      refine evSeq_go rfl (by simp [h0, h1, h7, h8, Nd.encL_length, Nd.enc_eq, hx0, hlt, hat, hat2, hr] <;> rfl) (by rfl) (by simp [fits_some, fits_none, hw, Nat.blt_eq]) ?_
      exact evSeq_nil
    refine inSeq_norm ?_
    refine Tri.seq' ?_
    refine Tri.condG (o := ?o2) (b := ?b2) ?g2 ?r2 ?y2 ?n2
    case g2 => simp [h0, h1, h7, h8, Nd.encL_length, Nd.enc_eq, hx0, hlt, hat, hat2, hr] <;> rfl
    case r2 => rfl
    case y2 =>
      intro hy2
      refine Tri.skip ?_
      refine inSeq_norm ?_
      refine Tri.seq' ?_
      refine Tri.block' ?_
      refine Tri.seq' ?_
      refine Tri.regN (t' := ?t3) (H' := ?H3) TT_ok hC ?e3 ?q3
      case e3 =>
        refine go_false ?_
        refine evSeq_go rfl (by simp [h0, h1, h7, h8, Nd.encL_length, Nd.enc_eq, hx0, hlt, hat, hat2, hr] <;> rfl) (by rfl) (by simp [fits_some, fits_none, hw, Nat.blt_eq]) ?_
        refine evSeq_go rfl (by simp [h0, h1, h7, h8, Nd.encL_length, Nd.enc_eq, hx0, hlt, hat, hat2, hr] <;> rfl) (by rfl) (by simp [fits_some, fits_none, hw, Nat.blt_eq]) ?_
        exact evSeq_nil
      refine inSeq_norm ?_
      refine Tri.seq' ?_
      refine Tri.regN (t' := ?t4) (H' := ?H4) TT_ok hC ?e4 ?q4
      case e4 =>
        refine go_false ?_
        refine evSeq_go rfl (by simp [h0, h1, h7, h8, Nd.encL_length, Nd.enc_eq, hx0, hlt, hat, hat2, hr] <;> rfl) (by rfl) (by simp [fits_some, fits_none, hw, Nat.blt_eq]) ?_
        refine evSeq_go rfl (by simp [h0, h1, h7, h8, Nd.encL_length, Nd.enc_eq, hx0, hlt, hat, hat2, hr] <;> rfl) (by rfl) (by simp [fits_some, fits_none, hw, Nat.blt_eq]) ?_
        refine evSeq_go rfl (by simp [h0, h1, h7, h8, Nd.encL_length, Nd.enc_eq, hx0, hlt, hat, hat2, hr] <;> rfl) (by rfl) (by simp [fits_some, fits_none, hw, Nat.blt_eq]) ?_
        refine evSeq_go rfl (by simp [h0, h1, h7, h8, Nd.encL_length, Nd.enc_eq, hx0, hlt, hat, hat2, hr] <;> rfl) (by rfl) (by simp [fits_some, fits_none, hw, Nat.blt_eq]) ?_
        refine evSeq_go rfl (by simp [h0, h1, h7, h8, Nd.encL_length, Nd.enc_eq, hx0, hlt, hat, hat2, hr] <;> rfl) (by rfl) (by simp [fits_some, fits_none, hw, Nat.blt_eq]) ?_
        refine evSeq_go rfl (by simp [h0, h1, h7, h8, Nd.encL_length, Nd.enc_eq, hx0, hlt, hat, hat2, hr] <;> rfl) (by rfl) (by simp [fits_some, fits_none, hw, Nat.blt_eq]) ?_
        exact evSeq_nil
      refine inSeq_norm ?_
      refine Tri.condG (o := ?o5) (b := ?b5) ?g5 ?r5 ?y5 ?n5
      case g5 => simp [h0, h1, h7, h8, Nd.encL_length, Nd.enc_eq, hx0, hlt, hat, hat2, hr] <;> rfl
      case r5 => rfl
      case y5 =>
        intro hy5
        refine Tri.seq' ?_
        refine Tri.regN (t' := ?t6) (H' := ?H6) TT_ok hC ?e6 ?q6
        case e6 =>
          refine go_false ?_
          refine evSeq_go rfl (by simp [h0, h1, h7, h8, Nd.encL_length, Nd.enc_eq, hx0, hlt, hat, hat2, hr] <;> rfl) (by rfl) (by simp [fits_some, fits_none, hw, Nat.blt_eq]) ?_
          refine evSeq_go rfl (by simp [h0, h1, h7, h8, Nd.encL_length, Nd.enc_eq, hx0, hlt, hat, hat2, hr] <;> rfl) (by rfl) (by simp [fits_some, fits_none, hw, Nat.blt_eq]) ?_
          exact evSeq_nil
        refine inSeq_norm ?_
        refine Tri.ret ?_
        refine inBlk_ret ?_
        refine inSeq_ret ?_
        refine inLoop_ret ?_
        exact hR _ _ pre.length (by simp [hw]) ⟨_, hS2⟩ (by simp)
      case n5 =>
        intro hn5
        refine Tri.skip ?_
        refine inBlk_norm ?_
        refine inSeq_norm ?_
        refine Tri.regN (t' := ?t7) (H' := ?H7) TT_ok hC ?e7 ?q7
        case e7 =>
          refine go_false ?_
          refine evSeq_go rfl (by simp [h0, h1, h7, h8, Nd.encL_length, Nd.enc_eq, hx0, hlt, hat, hat2, hr] <;> rfl) (by rfl) (by simp [fits_some, fits_none, hw, Nat.blt_eq]) ?_
          refine evSeq_go rfl (by simp [h0, h1, h7, h8, Nd.encL_length, Nd.enc_eq, hx0, hlt, hat, hat2, hr] <;> rfl) (by rfl) (by simp [fits_some, fits_none, hw, Nat.blt_eq]) ?_
          exact evSeq_nil
        refine inLoop_norm ?_
        refine ih (pre ++ [x]) _ _ hS2 (by simpa using hlen) (by simp [hw]) (by simp [h0]) (by simp [h1]) (by simp [h7]) (by simp; exact wrap_i64 (by omega) (by simp at hlen; omega)) hE hR
    case n2 =>
      intro hn2
      exfalso
      simp at hn2

theorem body_66h {call : CallF} (hC : call.Sound Tryz.prog TT) (l : List Nd) (hlen : l.length < 1100000) (g : FuncId) (cs : List V) (hx0 : TT.ext g = none) (S : List Nd → Heap → Prop) (hstep : ∀ x L K, S (x :: L) K → ∃ q K', call g (x.enc :: cs) K = .val (.b q) K' ∧ S L K') (H : Heap) (hS : S l H)  : HBody Tryz.prog TT 66 [.isl 3 (Nd.encL l), .fn g cs] H (fun v H' => ∃ i : Int, v = .i .i64 i ∧ ∃ L', S L' H') := by
  refine ⟨Tryz.f66, _, rfl, rfl, by simp [Tryz.f66], ?_⟩
  have h0 : (Tm.init Tryz.f66.ntmps [.isl 3 (Nd.encL l), .fn g cs]).get 0 = .isl 3 (Nd.encL l) := by rw [get_init]; rfl
  have h1 : (Tm.init Tryz.f66.ntmps [.isl 3 (Nd.encL l), .fn g cs]).get 1 = .fn g cs := by rw [get_init]; rfl
  have hw : (Tm.init Tryz.f66.ntmps [.isl 3 (Nd.encL l), .fn g cs]).wid = 19 := rfl
  generalize Tm.init Tryz.f66.ntmps [.isl 3 (Nd.encL l), .fn g cs] = t at *
  skip
  refine Tri.seq' ?_
  refine Tri.regN (t' := ?t1) (H' := ?H1) TT_ok hC ?e1 ?q1
  case e1 =>
    refine go_false ?_
    refine evSeq_go rfl (by simp [h0, h1, Nd.encL_length] <;> rfl) (by rfl) (by simp [fits_some, fits_none, hw, Nat.blt_eq]) ?_
    exact evSeq_nil
  refine inSeq_norm ?_
  refine Tri.seq' ?_
  refine Tri.seq' ?_
  refine Tri.regN (t' := ?t2) (H' := ?H2) TT_ok hC ?e2 ?q2
  case e2 =>
    refine go_false ?_
    refine evSeq_go rfl (by simp [h0, h1, Nd.encL_length] <;> rfl) (by rfl) (by simp [fits_some, fits_none, hw, Nat.blt_eq]) ?_
    refine evSeq_go rfl (by simp [h0, h1, Nd.encL_length] <;> rfl) (by rfl) (by simp [fits_some, fits_none, hw, Nat.blt_eq]) ?_
    refine evSeq_go rfl (by simp [h0, h1, Nd.encL_length] <;> rfl) (by rfl) (by simp [fits_some, fits_none, hw, Nat.blt_eq]) ?_
    exact evSeq_nil
  refine inSeq_norm ?_
  refine Tri.block' ?_
  refine Tri.loop ?_
  refine loop66h hC g cs hx0 S hstep l [] _ _ hS (by simpa using hlen) (by simp [hw]) (by simp [h0]) (by simp [h1]) (by simp [Nd.encL_length]) (by simp) ?exit ?ret
  case exit =>
    intro t2 H2 hw hS2
    have h4 : True := trivial
    refine inBlk_exit ?_
    refine inSeq_norm ?_
    refine Tri.seq' ?_
    refine Tri.regN (t' := ?t3) (H' := ?H3) TT_ok hC ?e3 ?q3
    case e3 =>
      refine go_false ?_
      refine evSeq_go rfl (by simp [h0, h1, Nd.encL_length] <;> rfl) (by rfl) (by simp [fits_some, fits_none, hw, Nat.blt_eq]) ?_
      exact evSeq_nil
    refine inSeq_norm ?_
    refine Tri.ret ?_
    exact endsH (by simp [finish, evResults, evResult, Tryz.f66, h4] <;> rfl) (by rfl) ⟨_, rfl, hS2⟩
  case ret =>
    intro t2 H2 i hw hS2 h4
    refine inBlk_ret ?_
    refine inSeq_ret ?_
    exact endsH (by simp [finish, evResults, evResult, Tryz.f66, h4] <;> rfl) (by rfl) ⟨_, rfl, hS2⟩
theorem body_41h {call : CallF} (hC : call.Sound Tryz.prog TT) (l : List Nd) (g : FuncId) (cs : List V) (H K : Heap) (i : Int) (hs : call 66 [.isl 3 (Nd.encL l), .fn g cs] H = .val (.i .i64 i) K)  : HBody Tryz.prog TT 41 [.isl 3 (Nd.encL l), .fn g cs] H (fun v H' => ∃ q : Bool, v = .b q ∧ H' = K) := by
  refine ⟨Tryz.f41, _, rfl, rfl, by simp [Tryz.f41], ?_⟩
  have h0 : (Tm.init Tryz.f41.ntmps [.isl 3 (Nd.encL l), .fn g cs]).get 0 = .isl 3 (Nd.encL l) := by rw [get_init]; rfl
  have h1 : (Tm.init Tryz.f41.ntmps [.isl 3 (Nd.encL l), .fn g cs]).get 1 = .fn g cs := by rw [get_init]; rfl
  have hw : (Tm.init Tryz.f41.ntmps [.isl 3 (Nd.encL l), .fn g cs]).wid = 9 := rfl
  generalize Tm.init Tryz.f41.ntmps [.isl 3 (Nd.encL l), .fn g cs] = t at *
  skip
  refine Tri.seq' ?_
  refine Tri.regN (t' := ?t1) (H' := ?H1) TT_ok hC ?e1 ?q1
  case e1 =>
    refine go_false ?_
    refine evSeq_go rfl (by simp [h0, h1, hs] <;> rfl) (by rfl) (by simp [fits_some, fits_none, hw, Nat.blt_eq]) ?_
    exact evSeq_nil
  refine inSeq_norm ?_
  refine Tri.seq' ?_
  refine Tri.regN (t' := ?t2) (H' := ?H2) TT_ok hC ?e2 ?q2
  case e2 =>
    refine go_false ?_
    refine evSeq_go rfl (by simp [h0, h1, hs] <;> rfl) (by rfl) (by simp [fits_some, fits_none, hw, Nat.blt_eq]) ?_
    refine evSeq_go rfl (by simp [h0, h1, hs] <;> rfl) (by rfl) (by simp [fits_some, fits_none, hw, Nat.blt_eq]) ?_
    refine evSeq_go rfl (by simp [h0, h1, hs] <;> rfl) (by rfl) (by simp [fits_some, fits_none, hw, Nat.blt_eq]) ?_
    refine evSeq_go rfl (by simp [h0, h1, hs] <;> rfl) (by rfl) (by simp [fits_some, fits_none, hw, Nat.blt_eq]) ?_
    refine evSeq_go rfl (by simp [h0, h1, hs] <;> rfl) (by rfl) (by simp [fits_some, fits_none, hw, Nat.blt_eq]) ?_
    exact evSeq_nil
  refine inSeq_norm ?_
  refine Tri.ret ?_
  exact endsH (by simp [finish, evResults, evResult, Tryz.f41] <;> rfl) (by rfl) ⟨_, rfl, rfl⟩
theorem body_47 {call : CallF} (hC : call.Sound Tryz.prog TT) (x : Nd) (p e b : Nat) (d : Int) (K K2 : Heap) (q : Bool) (hp : ∀ z, (K ++ [z])[p]? = some (some ⟨57, [.ptr b 0], .all⟩)) (he : ∀ z, (K ++ [z])[e]? = some (some ⟨3, [.i .i64 d], .all⟩)) (hlast : ∀ z : Option Blk, (K ++ [z])[K.length]? = some z) (hwr : IntKind.i64.wrap (d + 1) = d + 1)
  (hs : call 20 [x.enc, .ptr b 0, .i .i64 (d + 1)] (K ++ [some ⟨24, [.i .i64 x.kind, .s x.text, .isl 3 (Nd.encL x.kids)], .all⟩]) = .val (.b q) K2)  : HBody Tryz.prog TT 47 [x.enc, .ptr p 0, .ptr e 0] K (fun v H' => ∃ q : Bool, v = .b q ∧ H' = K2) := by
  refine ⟨Tryz.f47, _, rfl, rfl, by simp [Tryz.f47], ?_⟩
  have h0 : (Tm.init Tryz.f47.ntmps [x.enc, .ptr p 0, .ptr e 0]).get 0 = x.enc := by rw [get_init]; rfl
  have h1 : (Tm.init Tryz.f47.ntmps [x.enc, .ptr p 0, .ptr e 0]).get 1 = .ptr p 0 := by rw [get_init]; rfl
  have h2 : (Tm.init Tryz.f47.ntmps [x.enc, .ptr p 0, .ptr e 0]).get 2 = .ptr e 0 := by rw [get_init]; rfl
  have hw : (Tm.init Tryz.f47.ntmps [x.enc, .ptr p 0, .ptr e 0]).wid = 10 := rfl
  generalize Tm.init Tryz.f47.ntmps [x.enc, .ptr p 0, .ptr e 0] = t at *
  try simp only [Nd.enc_eq] at *
  refine Tri.seq' ?_
  refine Tri.regN (t' := ?t1) (H' := ?H1) TT_ok hC ?e1 ?q1
  case e1 =>
    refine go_false ?_
    refine evSeq_go rfl (by simp [h0, h1, h2, hs, hp, he, hwr, hlast] <;> rfl) (by rfl) (by simp [fits_some, fits_none, hw, Nat.blt_eq]) ?_
    refine evSeq_go rfl (by simp [h0, h1, h2, hs, hp, he, hwr, hlast] <;> rfl) (by rfl) (by simp [fits_some, fits_none, hw, Nat.blt_eq]) ?_
    exact evSeq_nil
  refine inSeq_norm ?_
  refine Tri.seq' ?_
  refine Tri.regN (t' := ?t2) (H' := ?H2) TT_ok hC ?e2 ?q2
  case e2 =>
    refine go_false ?_
    refine evSeq_go rfl (by simp [h0, h1, h2, hs, hp, he, hwr, hlast] <;> rfl) (by rfl) (by simp [fits_some, fits_none, hw, Nat.blt_eq]) ?_
    refine evSeq_go rfl (by simp [h0, h1, h2, hs, hp, he, hwr, hlast] <;> rfl) (by rfl) (by simp [fits_some, fits_none, hw, Nat.blt_eq]) ?_
    refine evSeq_go rfl (by simp [h0, h1, h2, hs, hp, he, hwr, hlast] <;> rfl) (by rfl) (by simp [fits_some, fits_none, hw, Nat.blt_eq]) ?_
    refine evSeq_go rfl (by simp [h0, h1, h2, hs, hp, he, hwr, hlast] <;> rfl) (by rfl) (by simp [fits_some, fits_none, hw, Nat.blt_eq]) ?_
    refine evSeq_go rfl (by simp [h0, h1, h2, hs, hp, he, hwr, hlast] <;> rfl) (by rfl) (by simp [fits_some, fits_none, hw, Nat.blt_eq]) ?_
    refine evSeq_go rfl (by simp [h0, h1, h2, hs, hp, he, hwr, hlast] <;> rfl) (by rfl) (by simp [fits_some, fits_none, hw, Nat.blt_eq]) ?_
    exact evSeq_nil
  refine inSeq_norm ?_
  refine Tri.ret ?_
  exact endsH (by simp [finish, evResults, evResult, Tryz.f47] <;> rfl) (by rfl) ⟨_, rfl, rfl⟩
theorem rest20a {call : CallF} (hC : call.Sound Tryz.prog TT) (x : Nd) (b p3 p4 p5 : Nat) (d v : Int) (K : Heap) (t : Tm) (hw : t.wid = 24) (h3 : t.get 3 = .ptr p3 0) (h4 : t.get 4 = .ptr p4 0) (h5 : t.get 5 = .ptr p5 0)
  (g3 : K[p3]? = some (some ⟨24, [.i .i64 x.kind, .s x.text, .isl 3 (Nd.encL x.kids)], .all⟩)) (g4 : K[p4]? = some (some ⟨57, [.ptr b 0], .all⟩)) (g5 : K[p5]? = some (some ⟨3, [.i .i64 d], .all⟩)) (gb : K[b]? = some (some ⟨3, [.i .i64 v], .all⟩))
  (s3 : ∀ c, (K.set b c)[p3]? = some (some ⟨24, [.i .i64 x.kind, .s x.text, .isl 3 (Nd.encL x.kids)], .all⟩)) (s4 : ∀ c, (K.set b c)[p4]? = some (some ⟨57, [.ptr b 0], .all⟩)) (s5 : ∀ c, (K.set b c)[p5]? = some (some ⟨3, [.i .i64 d], .all⟩)) (sb : ∀ c, (K.set b c)[b]? = some c)
  (hwv : IntKind.i64.wrap (v - 1) = v - 1) (hv : v - 1 < 0) : Tri Tryz.prog TT (sub [true] (bodyOf Tryz.f20)) t K (EndsH TT Tryz.f20 fun r H' => ∃ q : Bool, r = .b q ∧ H' = K.set b (some ⟨3, [.i .i64 (v - 1)], .all⟩)) := by
  refine Tri.seq' ?_
  refine Tri.seq' ?_
  refine Tri.regN (t' := ?t1) (H' := ?H1) TT_ok hC ?e1 ?q1
  case e1 =>
    refine go_false ?_
    refine evSeq_go rfl (by simp [h3, h4, h5, g3, g4, g5, gb, s3, s4, s5, sb, hwv, hv] <;> rfl) (by rfl) (by simp [fits_some, fits_none, hw, Nat.blt_eq]) ?_
    refine evSeq_go rfl (by simp [h3, h4, h5, g3, g4, g5, gb, s3, s4, s5, sb, hwv, hv] <;> rfl) (by rfl) (by simp [fits_some, fits_none, hw, Nat.blt_eq]) ?_
    refine evSeq_go rfl (by simp [h3, h4, h5, g3, g4, g5, gb, s3, s4, s5, sb, hwv, hv] <;> rfl) (by rfl) (by simp [fits_some, fits_none, hw, Nat.blt_eq]) ?_
    refine evSeq_go rfl (by simp [h3, h4, h5, g3, g4, g5, gb, s3, s4, s5, sb, hwv, hv] <;> rfl) (by rfl) (by simp [fits_some, fits_none, hw, Nat.blt_eq]) ?_
    refine evSeq_go rfl (by simp [h3, h4, h5, g3, g4, g5, gb, s3, s4, s5, sb, hwv, hv] <;> rfl) (by rfl) (by simp [fits_some, fits_none, hw, Nat.blt_eq]) ?_
    refine evSeq_go rfl (by simp [h3, h4, h5, g3, g4, g5, gb, s3, s4, s5, sb, hwv, hv] <;> rfl) (by rfl) (by simp [fits_some, fits_none, hw, Nat.blt_eq]) ?_
    exact evSeq_nil
  refine inSeq_norm ?_
  refine Tri.seq' ?_
  refine Tri.regN (t' := ?t2) (H' := ?H2) TT_ok hC ?e2 ?q2
  case e2 =>
    refine go_false ?_
    refine evSeq_go rfl (by simp [h3, h4, h5, g3, g4, g5, gb, s3, s4, s5, sb, hwv, hv] <;> rfl) (by rfl) (by simp [fits_some, fits_none, hw, Nat.blt_eq]) ?_
    refine evSeq_go rfl (by simp [h3, h4, h5, g3, g4, g5, gb, s3, s4, s5, sb, hwv, hv] <;> rfl) (by rfl) (by simp [fits_some, fits_none, hw, Nat.blt_eq]) ?_
    refine evSeq_go rfl (by simp [h3, h4, h5, g3, g4, g5, gb, s3, s4, s5, sb, hwv, hv] <;> rfl) (by rfl) (by simp [fits_some, fits_none, hw, Nat.blt_eq]) ?_
    refine evSeq_go rfl (by simp [h3, h4, h5, g3, g4, g5, gb, s3, s4, s5, sb, hwv, hv] <;> rfl) (by rfl) (by simp [fits_some, fits_none, hw, Nat.blt_eq]) ?_
    refine evSeq_go rfl (by simp [h3, h4, h5, g3, g4, g5, gb, s3, s4, s5, sb, hwv, hv] <;> rfl) (by rfl) (by simp [fits_some, fits_none, hw, Nat.blt_eq]) ?_
    refine evSeq_off (by simp [wants, h3, h4, h5, g3, g4, g5, gb, s3, s4, s5, sb, hwv, hv]) (by simp [fits_some, fits_none, hw, Nat.blt_eq]) ?_
    refine evSeq_off (by simp [wants, h3, h4, h5, g3, g4, g5, gb, s3, s4, s5, sb, hwv, hv]) (by simp [fits_some, fits_none, hw, Nat.blt_eq]) ?_
    refine evSeq_go rfl (by simp [h3, h4, h5, g3, g4, g5, gb, s3, s4, s5, sb, hwv, hv] <;> rfl) (by rfl) (by simp [fits_some, fits_none, hw, Nat.blt_eq]) ?_
    exact evSeq_nil
  refine inSeq_norm ?_
  refine Tri.condG (o := ?o3) (b := ?b3) ?g3 ?r3 ?y3 ?n3
  case g3 => simp [h3, h4, h5, g3, g4, g5, gb, s3, s4, s5, sb, hwv, hv] <;> rfl
  case r3 => rfl
  case y3 =>
    intro hy3
    refine Tri.seq' ?_
    refine Tri.regN (t' := ?t4) (H' := ?H4) TT_ok hC ?e4 ?q4
    case e4 =>
      refine go_false ?_
      refine evSeq_go rfl (by simp [h3, h4, h5, g3, g4, g5, gb, s3, s4, s5, sb, hwv, hv] <;> rfl) (by rfl) (by simp [fits_some, fits_none, hw, Nat.blt_eq]) ?_
      exact evSeq_nil
    refine inSeq_norm ?_
    refine Tri.ret ?_
    refine inSeq_ret ?_
    exact endsH (by simp [finish, evResults, evResult, Tryz.f20] <;> rfl) (by rfl) ⟨_, rfl, rfl⟩
  case n3 =>
    intro hn3
    exact absurd hn3 (by simp [h3, h4, h5, g3, g4, g5, gb, s3, s4, s5, sb, hwv, hv])
theorem rest20b {call : CallF} (hC : call.Sound Tryz.prog TT) (x : Nd) (b p3 p4 p5 : Nat) (d v : Int) (K : Heap) (t : Tm) (hw : t.wid = 24) (h3 : t.get 3 = .ptr p3 0) (h4 : t.get 4 = .ptr p4 0) (h5 : t.get 5 = .ptr p5 0)
  (g3 : K[p3]? = some (some ⟨24, [.i .i64 x.kind, .s x.text, .isl 3 (Nd.encL x.kids)], .all⟩)) (g4 : K[p4]? = some (some ⟨57, [.ptr b 0], .all⟩)) (g5 : K[p5]? = some (some ⟨3, [.i .i64 d], .all⟩)) (gb : K[b]? = some (some ⟨3, [.i .i64 v], .all⟩))
  (s3 : ∀ c, (K.set b c)[p3]? = some (some ⟨24, [.i .i64 x.kind, .s x.text, .isl 3 (Nd.encL x.kids)], .all⟩)) (s4 : ∀ c, (K.set b c)[p4]? = some (some ⟨57, [.ptr b 0], .all⟩)) (s5 : ∀ c, (K.set b c)[p5]? = some (some ⟨3, [.i .i64 d], .all⟩)) (sb : ∀ c, (K.set b c)[b]? = some c)
  (hwv : IntKind.i64.wrap (v - 1) = v - 1) (hv : ¬ v - 1 < 0) (hd : 100 < d) : Tri Tryz.prog TT (sub [true] (bodyOf Tryz.f20)) t K (EndsH TT Tryz.f20 fun r H' => ∃ q : Bool, r = .b q ∧ H' = K.set b (some ⟨3, [.i .i64 (v - 1)], .all⟩)) := by
  refine Tri.seq' ?_
  refine Tri.seq' ?_
  refine Tri.regN (t' := ?t1) (H' := ?H1) TT_ok hC ?e1 ?q1
  case e1 =>
    refine go_false ?_
    refine evSeq_go rfl (by simp [h3, h4, h5, g3, g4, g5, gb, s3, s4, s5, sb, hwv, hv, hd] <;> rfl) (by rfl) (by simp [fits_some, fits_none, hw, Nat.blt_eq]) ?_
    refine evSeq_go rfl (by simp [h3, h4, h5, g3, g4, g5, gb, s3, s4, s5, sb, hwv, hv, hd] <;> rfl) (by rfl) (by simp [fits_some, fits_none, hw, Nat.blt_eq]) ?_
    refine evSeq_go rfl (by simp [h3, h4, h5, g3, g4, g5, gb, s3, s4, s5, sb, hwv, hv, hd] <;> rfl) (by rfl) (by simp [fits_some, fits_none, hw, Nat.blt_eq]) ?_
    refine evSeq_go rfl (by simp [h3, h4, h5, g3, g4, g5, gb, s3, s4, s5, sb, hwv, hv, hd] <;> rfl) (by rfl) (by simp [fits_some, fits_none, hw, Nat.blt_eq]) ?_
    refine evSeq_go rfl (by simp [h3, h4, h5, g3, g4, g5, gb, s3, s4, s5, sb, hwv, hv, hd] <;> rfl) (by rfl) (by simp [fits_some, fits_none, hw, Nat.blt_eq]) ?_
    refine evSeq_go rfl (by simp [h3, h4, h5, g3, g4, g5, gb, s3, s4, s5, sb, hwv, hv, hd] <;> rfl) (by rfl) (by simp [fits_some, fits_none, hw, Nat.blt_eq]) ?_
    exact evSeq_nil
  refine inSeq_norm ?_
  refine Tri.seq' ?_
  refine Tri.regN (t' := ?t2) (H' := ?H2) TT_ok hC ?e2 ?q2
  case e2 =>
    refine go_false ?_
    refine evSeq_go rfl (by simp [h3, h4, h5, g3, g4, g5, gb, s3, s4, s5, sb, hwv, hv, hd] <;> rfl) (by rfl) (by simp [fits_some, fits_none, hw, Nat.blt_eq]) ?_
    refine evSeq_go rfl (by simp [h3, h4, h5, g3, g4, g5, gb, s3, s4, s5, sb, hwv, hv, hd] <;> rfl) (by rfl) (by simp [fits_some, fits_none, hw, Nat.blt_eq]) ?_
    refine evSeq_go rfl (by simp [h3, h4, h5, g3, g4, g5, gb, s3, s4, s5, sb, hwv, hv, hd] <;> rfl) (by rfl) (by simp [fits_some, fits_none, hw, Nat.blt_eq]) ?_
    refine evSeq_go rfl (by simp [h3, h4, h5, g3, g4, g5, gb, s3, s4, s5, sb, hwv, hv, hd] <;> rfl) (by rfl) (by simp [fits_some, fits_none, hw, Nat.blt_eq]) ?_
    refine evSeq_go rfl (by simp [h3, h4, h5, g3, g4, g5, gb, s3, s4, s5, sb, hwv, hv, hd] <;> rfl) (by rfl) (by simp [fits_some, fits_none, hw, Nat.blt_eq]) ?_
    refine evSeq_go (by simp [wants, h3, h4, h5, g3, g4, g5, gb, s3, s4, s5, sb, hwv, hv, hd]) (by simp [h3, h4, h5, g3, g4, g5, gb, s3, s4, s5, sb, hwv, hv, hd] <;> rfl) (by rfl) (by simp [fits_some, fits_none, hw, Nat.blt_eq]) ?_
    refine evSeq_go (by simp [wants, h3, h4, h5, g3, g4, g5, gb, s3, s4, s5, sb, hwv, hv, hd]) (by simp [h3, h4, h5, g3, g4, g5, gb, s3, s4, s5, sb, hwv, hv, hd] <;> rfl) (by rfl) (by simp [fits_some, fits_none, hw, Nat.blt_eq]) ?_
    refine evSeq_go rfl (by simp [h3, h4, h5, g3, g4, g5, gb, s3, s4, s5, sb, hwv, hv, hd] <;> rfl) (by rfl) (by simp [fits_some, fits_none, hw, Nat.blt_eq]) ?_
    exact evSeq_nil
  refine inSeq_norm ?_
  refine Tri.condG (o := ?o3) (b := ?b3) ?g3 ?r3 ?y3 ?n3
  case g3 => simp [h3, h4, h5, g3, g4, g5, gb, s3, s4, s5, sb, hwv, hv, hd] <;> rfl
  case r3 => rfl
  case y3 =>
    intro hy3
    refine Tri.seq' ?_
    refine Tri.regN (t' := ?t4) (H' := ?H4) TT_ok hC ?e4 ?q4
    case e4 =>
      refine go_false ?_
      refine evSeq_go rfl (by simp [h3, h4, h5, g3, g4, g5, gb, s3, s4, s5, sb, hwv, hv, hd] <;> rfl) (by rfl) (by simp [fits_some, fits_none, hw, Nat.blt_eq]) ?_
      exact evSeq_nil
    refine inSeq_norm ?_
    refine Tri.ret ?_
    refine inSeq_ret ?_
    exact endsH (by simp [finish, evResults, evResult, Tryz.f20] <;> rfl) (by rfl) ⟨_, rfl, rfl⟩
  case n3 =>
    intro hn3
    exact absurd hn3 (by simp [h3, h4, h5, g3, g4, g5, gb, s3, s4, s5, sb, hwv, hv, hd])
theorem rest20c {call : CallF} (hC : call.Sound Tryz.prog TT) (x : Nd) (b p3 p4 p5 : Nat) (d v : Int) (K : Heap) (t : Tm) (hw : t.wid = 24) (h3 : t.get 3 = .ptr p3 0) (h4 : t.get 4 = .ptr p4 0) (h5 : t.get 5 = .ptr p5 0)
  (g3 : K[p3]? = some (some ⟨24, [.i .i64 x.kind, .s x.text, .isl 3 (Nd.encL x.kids)], .all⟩)) (g4 : K[p4]? = some (some ⟨57, [.ptr b 0], .all⟩)) (g5 : K[p5]? = some (some ⟨3, [.i .i64 d], .all⟩)) (gb : K[b]? = some (some ⟨3, [.i .i64 v], .all⟩))
  (s3 : ∀ c, (K.set b c)[p3]? = some (some ⟨24, [.i .i64 x.kind, .s x.text, .isl 3 (Nd.encL x.kids)], .all⟩)) (s4 : ∀ c, (K.set b c)[p4]? = some (some ⟨57, [.ptr b 0], .all⟩)) (s5 : ∀ c, (K.set b c)[p5]? = some (some ⟨3, [.i .i64 d], .all⟩)) (sb : ∀ c, (K.set b c)[b]? = some c)
  (hwv : IntKind.i64.wrap (v - 1) = v - 1) (hv : ¬ v - 1 < 0) (hd : ¬ 100 < d) (q : Bool) (K2 : Heap) (hs : call 41 [.isl 3 (Nd.encL x.kids), .fn 47 [.ptr p4 0, .ptr p5 0]] (K.set b (some ⟨3, [.i .i64 (v - 1)], .all⟩)) = .val (.b q) K2) : Tri Tryz.prog TT (sub [true] (bodyOf Tryz.f20)) t K (EndsH TT Tryz.f20 fun r H' => ∃ q : Bool, r = .b q ∧ H' = K2) := by
  refine Tri.seq' ?_
  refine Tri.seq' ?_
  refine Tri.regN (t' := ?t1) (H' := ?H1) TT_ok hC ?e1 ?q1
  case e1 =>
    refine go_false ?_
    refine evSeq_go rfl (by simp [h3, h4, h5, g3, g4, g5, gb, s3, s4, s5, sb, hwv, hv, hd, hs] <;> rfl) (by rfl) (by simp [fits_some, fits_none, hw, Nat.blt_eq]) ?_
    refine evSeq_go rfl (by simp [h3, h4, h5, g3, g4, g5, gb, s3, s4, s5, sb, hwv, hv, hd, hs] <;> rfl) (by rfl) (by simp [fits_some, fits_none, hw, Nat.blt_eq]) ?_
    refine evSeq_go rfl (by simp [h3, h4, h5, g3, g4, g5, gb, s3, s4, s5, sb, hwv, hv, hd, hs] <;> rfl) (by rfl) (by simp [fits_some, fits_none, hw, Nat.blt_eq]) ?_
    refine evSeq_go rfl (by simp [h3, h4, h5, g3, g4, g5, gb, s3, s4, s5, sb, hwv, hv, hd, hs] <;> rfl) (by rfl) (by simp [fits_some, fits_none, hw, Nat.blt_eq]) ?_
    refine evSeq_go rfl (by simp [h3, h4, h5, g3, g4, g5, gb, s3, s4, s5, sb, hwv, hv, hd, hs] <;> rfl) (by rfl) (by simp [fits_some, fits_none, hw, Nat.blt_eq]) ?_
    refine evSeq_go rfl (by simp [h3, h4, h5, g3, g4, g5, gb, s3, s4, s5, sb, hwv, hv, hd, hs] <;> rfl) (by rfl) (by simp [fits_some, fits_none, hw, Nat.blt_eq]) ?_
    exact evSeq_nil
  refine inSeq_norm ?_
  refine Tri.seq' ?_
  refine Tri.regN (t' := ?t2) (H' := ?H2) TT_ok hC ?e2 ?q2
  case e2 =>
    refine go_false ?_
    refine evSeq_go rfl (by simp [h3, h4, h5, g3, g4, g5, gb, s3, s4, s5, sb, hwv, hv, hd, hs] <;> rfl) (by rfl) (by simp [fits_some, fits_none, hw, Nat.blt_eq]) ?_
    refine evSeq_go rfl (by simp [h3, h4, h5, g3, g4, g5, gb, s3, s4, s5, sb, hwv, hv, hd, hs] <;> rfl) (by rfl) (by simp [fits_some, fits_none, hw, Nat.blt_eq]) ?_
    refine evSeq_go rfl (by simp [h3, h4, h5, g3, g4, g5, gb, s3, s4, s5, sb, hwv, hv, hd, hs] <;> rfl) (by rfl) (by simp [fits_some, fits_none, hw, Nat.blt_eq]) ?_
    refine evSeq_go rfl (by simp [h3, h4, h5, g3, g4, g5, gb, s3, s4, s5, sb, hwv, hv, hd, hs] <;> rfl) (by rfl) (by simp [fits_some, fits_none, hw, Nat.blt_eq]) ?_
    refine evSeq_go rfl (by simp [h3, h4, h5, g3, g4, g5, gb, s3, s4, s5, sb, hwv, hv, hd, hs] <;> rfl) (by rfl) (by simp [fits_some, fits_none, hw, Nat.blt_eq]) ?_
    refine evSeq_go (by simp [wants, h3, h4, h5, g3, g4, g5, gb, s3, s4, s5, sb, hwv, hv, hd, hs]) (by simp [h3, h4, h5, g3, g4, g5, gb, s3, s4, s5, sb, hwv, hv, hd, hs] <;> rfl) (by rfl) (by simp [fits_some, fits_none, hw, Nat.blt_eq]) ?_
    refine evSeq_go (by simp [wants, h3, h4, h5, g3, g4, g5, gb, s3, s4, s5, sb, hwv, hv, hd, hs]) (by simp [h3, h4, h5, g3, g4, g5, gb, s3, s4, s5, sb, hwv, hv, hd, hs] <;> rfl) (by rfl) (by simp [fits_some, fits_none, hw, Nat.blt_eq]) ?_
    refine evSeq_go rfl (by simp [h3, h4, h5, g3, g4, g5, gb, s3, s4, s5, sb, hwv, hv, hd, hs] <;> rfl) (by rfl) (by simp [fits_some, fits_none, hw, Nat.blt_eq]) ?_
    exact evSeq_nil
  refine inSeq_norm ?_
  refine Tri.condG (o := ?o3) (b := ?b3) ?g3 ?r3 ?y3 ?n3
  case g3 => simp [h3, h4, h5, g3, g4, g5, gb, s3, s4, s5, sb, hwv, hv, hd, hs] <;> rfl
  case r3 => rfl
  case y3 =>
    intro hy3
    exact absurd hy3 (by simp [h3, h4, h5, g3, g4, g5, gb, s3, s4, s5, sb, hwv, hv, hd, hs])
  case n3 =>
    intro hn3
    refine Tri.skip ?_
    refine inSeq_norm ?_
    refine Tri.seq' ?_
    refine Tri.regN (t' := ?t4) (H' := ?H4) TT_ok hC ?e4 ?q4
    case e4 =>
      refine go_false ?_
      refine evSeq_go rfl (by simp [h3, h4, h5, g3, g4, g5, gb, s3, s4, s5, sb, hwv, hv, hd, hs] <;> rfl) (by rfl) (by simp [fits_some, fits_none, hw, Nat.blt_eq]) ?_
      refine evSeq_go rfl (by simp [h3, h4, h5, g3, g4, g5, gb, s3, s4, s5, sb, hwv, hv, hd, hs] <;> rfl) (by rfl) (by simp [fits_some, fits_none, hw, Nat.blt_eq]) ?_
      refine evSeq_go rfl (by simp [h3, h4, h5, g3, g4, g5, gb, s3, s4, s5, sb, hwv, hv, hd, hs] <;> rfl) (by rfl) (by simp [fits_some, fits_none, hw, Nat.blt_eq]) ?_
      refine evSeq_go rfl (by simp [h3, h4, h5, g3, g4, g5, gb, s3, s4, s5, sb, hwv, hv, hd, hs] <;> rfl) (by rfl) (by simp [fits_some, fits_none, hw, Nat.blt_eq]) ?_
      refine evSeq_go rfl (by simp [h3, h4, h5, g3, g4, g5, gb, s3, s4, s5, sb, hwv, hv, hd, hs] <;> rfl) (by rfl) (by simp [fits_some, fits_none, hw, Nat.blt_eq]) ?_
      exact evSeq_nil
    refine inSeq_norm ?_
    refine Tri.ret ?_
    exact endsH (by simp [finish, evResults, evResult, Tryz.f20] <;> rfl) (by rfl) ⟨_, rfl, rfl⟩
theorem body_20 {call : CallF} (hC : call.Sound Tryz.prog TT) (x : Nd) (b : Nat) (d : Int) (H : Heap) (R : V → Heap → Prop) (hrest : ∀ t : Tm, t.wid = 24 → t.get 3 = .ptr H.length 0 → t.get 4 = .ptr (H.length + 1) 0 → t.get 5 = .ptr (H.length + 2) 0 → Tri Tryz.prog TT (sub [true] (bodyOf Tryz.f20)) t (H ++ [some ⟨24, [.i .i64 x.kind, .s x.text, .isl 3 (Nd.encL x.kids)], .all⟩, some ⟨57, [.ptr b 0], .all⟩, some ⟨3, [.i .i64 d], .all⟩]) (EndsH TT Tryz.f20 R))  : HBody Tryz.prog TT 20 [x.enc, .ptr b 0, .i .i64 d] H R := by
  refine ⟨Tryz.f20, _, rfl, rfl, by simp [Tryz.f20], ?_⟩
  have h0 : (Tm.init Tryz.f20.ntmps [x.enc, .ptr b 0, .i .i64 d]).get 0 = x.enc := by rw [get_init]; rfl
  have h1 : (Tm.init Tryz.f20.ntmps [x.enc, .ptr b 0, .i .i64 d]).get 1 = .ptr b 0 := by rw [get_init]; rfl
  have h2 : (Tm.init Tryz.f20.ntmps [x.enc, .ptr b 0, .i .i64 d]).get 2 = .i .i64 d := by rw [get_init]; rfl
  have hw : (Tm.init Tryz.f20.ntmps [x.enc, .ptr b 0, .i .i64 d]).wid = 24 := rfl
  generalize Tm.init Tryz.f20.ntmps [x.enc, .ptr b 0, .i .i64 d] = t at *
  try simp only [Nd.enc_eq] at *
  refine Tri.seq' ?_
  refine Tri.regN (t' := ?t1) (H' := ?H1) TT_ok hC ?e1 ?q1
  case e1 =>
    refine go_false ?_
    refine evSeq_go rfl (by simp [h0, h1, h2, Nat.add_assoc] <;> rfl) (by rfl) (by simp [fits_some, fits_none, hw, Nat.blt_eq]) ?_
    refine evSeq_go rfl (by simp [h0, h1, h2, Nat.add_assoc] <;> rfl) (by rfl) (by simp [fits_some, fits_none, hw, Nat.blt_eq]) ?_
    refine evSeq_go rfl (by simp [h0, h1, h2, Nat.add_assoc] <;> rfl) (by rfl) (by simp [fits_some, fits_none, hw, Nat.blt_eq]) ?_
    refine evSeq_go rfl (by simp [h0, h1, h2, Nat.add_assoc] <;> rfl) (by rfl) (by simp [fits_some, fits_none, hw, Nat.blt_eq]) ?_
    exact evSeq_nil
  refine inSeq_norm ?_
  exact hrest _ (by simp [hw]) (by simp) (by simp) (by simp [Nat.add_assoc])
end Go.Ev
