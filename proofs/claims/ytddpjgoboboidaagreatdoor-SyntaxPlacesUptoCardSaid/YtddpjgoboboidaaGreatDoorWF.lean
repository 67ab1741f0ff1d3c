/- Walks over the parts of a node. -/
import Derived.Test.YtddpjgoboboidaaGreatDoorWE2
namespace Go.Ev
open Go Go.Proofs
set_option maxRecDepth 100000
set_option linter.unusedSimpArgs false
set_option linter.unusedVariables false
theorem encL_take (l : List Nd) : (Nd.encL l).take l.length = Nd.encL l := by rw [← Nd.encL_length l, List.take_length]
theorem encL_drop : ∀ (n : Nat) (l : List Nd), (Nd.encL l).drop n = Nd.encL (l.drop n)
  | 0, l => by simp
  | n + 1, [] => by simp [Nd.encL]
  | n + 1, x :: l => by simpa [Nd.encL] using encL_drop n l

theorem body_78a {call : CallF} (hC : call.Sound Tryz.prog TT) (l : List Nd) (k : Int) (hs : ∀ H, call 79 [.isl 3 (Nd.encL l), .fn 121 [.ipt 1 [.agg [.i .i64 k]] 0 0]] H = .val (.i .i64 (-1)) H)  : EBody Tryz.prog TT 96 [.isl 3 (Nd.encL l), .i .i64 k] (fun r => ∃ b : Bool, r = .val (.b b)) := by
  refine ⟨Tryz.f96, _, rfl, rfl, by simp [Tryz.f96], ?_⟩
  have h0 : (Tm.init Tryz.f96.ntmps [.isl 3 (Nd.encL l), .i .i64 k]).get 0 = .isl 3 (Nd.encL l) := by rw [get_init]; rfl
  have h1 : (Tm.init Tryz.f96.ntmps [.isl 3 (Nd.encL l), .i .i64 k]).get 1 = .i .i64 k := by rw [get_init]; rfl
  have hw : (Tm.init Tryz.f96.ntmps [.isl 3 (Nd.encL l), .i .i64 k]).wid = 19 := rfl
  generalize Tm.init Tryz.f96.ntmps [.isl 3 (Nd.encL l), .i .i64 k] = t at *
  skip
  refine Tri.seq' ?_
  refine Tri.regN (t' := ?t1) (H' := ?H1) TT_ok hC ?e1 ?q1
  case e1 =>
    refine go_false ?_
    refine evSeq_go rfl (by simp [h0, h1, hs] <;> rfl) (by rfl) (by simp [hw]) ?_
    refine evSeq_go rfl (by simp [h0, h1, hs] <;> rfl) (by rfl) (by simp [hw]) ?_
    exact evSeq_nil
  refine inSeq_norm ?_
  refine Tri.seq' ?_
  refine Tri.freeze_put 3 30 (v := .ipt 1 [.agg [.i .i64 k]] 0 0) (by simp [fz, fzL, nl, Nd.encL_nl, h0, h1] <;> rfl) ?_
  refine Tri.regN (t' := ?t2) (H' := ?H2) TT_ok hC ?e2 ?q2
  case e2 =>
    refine go_false ?_
    refine evSeq_go rfl (by simp [h0, h1, hs] <;> rfl) (by rfl) (by simp [hw]) ?_
    refine evSeq_go rfl (by simp [h0, h1, hs] <;> rfl) (by rfl) (by simp [hw]) ?_
    refine evSeq_go rfl (by simp [h0, h1, hs] <;> rfl) (by rfl) (by simp [hw]) ?_
    refine evSeq_go rfl (by simp [h0, h1, hs] <;> rfl) (by rfl) (by simp [hw]) ?_
    exact evSeq_nil
  refine inSeq_norm ?_
  refine Tri.seq' ?_
  refine Tri.regN (t' := ?t3) (H' := ?H3) TT_ok hC ?e3 ?q3
  case e3 =>
    refine go_false ?_
    refine evSeq_go rfl (by simp [h0, h1, hs] <;> rfl) (by rfl) (by simp [hw]) ?_
    refine evSeq_go rfl (by simp [h0, h1, hs] <;> rfl) (by rfl) (by simp [hw]) ?_
    refine evSeq_go rfl (by simp [h0, h1, hs] <;> rfl) (by rfl) (by simp [hw]) ?_
    refine evSeq_off (by simp [wants, h0, h1, hs]) (by simp [hw]) ?_
    refine evSeq_off (by simp [wants, h0, h1, hs]) (by simp [hw]) ?_
    refine evSeq_off (by simp [wants, h0, h1, hs]) (by simp [hw]) ?_
    refine evSeq_off (by simp [wants, h0, h1, hs]) (by simp [hw]) ?_
    refine evSeq_off (by simp [wants, h0, h1, hs]) (by simp [hw]) ?_
    refine evSeq_off (by simp [wants, h0, h1, hs]) (by simp [hw]) ?_
    refine evSeq_go rfl (by simp [h0, h1, hs] <;> rfl) (by rfl) (by simp [hw]) ?_
    refine evSeq_go rfl (by simp [h0, h1, hs] <;> rfl) (by rfl) (by simp [hw]) ?_
    exact evSeq_nil
  refine inSeq_norm ?_
  refine Tri.ret ?_
  exact endsB (by simp [finish, evResults, evResult, Tryz.f96] <;> rfl) (by rfl)
theorem body_78b {call : CallF} (hC : call.Sound Tryz.prog TT) (l : List Nd) (k : Int) (n : Nat) (q : Bool) (hn : n < l.length) (hn2 : n ≤ l.length) (hs : ∀ H, call 79 [.isl 3 (Nd.encL l), .fn 121 [.ipt 1 [.agg [.i .i64 k]] 0 0]] H = .val (.i .i64 n) H) (hq : ∀ H, call 55 [.isl 3 (Nd.encL (l.drop n)), .fn 122 [.ipt 1 [.agg [.i .i64 k]] 0 0]] H = .val (.b q) H)  : EBody Tryz.prog TT 96 [.isl 3 (Nd.encL l), .i .i64 k] (fun r => ∃ b : Bool, r = .val (.b b)) := by
  refine ⟨Tryz.f96, _, rfl, rfl, by simp [Tryz.f96], ?_⟩
  have h0 : (Tm.init Tryz.f96.ntmps [.isl 3 (Nd.encL l), .i .i64 k]).get 0 = .isl 3 (Nd.encL l) := by rw [get_init]; rfl
  have h1 : (Tm.init Tryz.f96.ntmps [.isl 3 (Nd.encL l), .i .i64 k]).get 1 = .i .i64 k := by rw [get_init]; rfl
  have hw : (Tm.init Tryz.f96.ntmps [.isl 3 (Nd.encL l), .i .i64 k]).wid = 19 := rfl
  generalize Tm.init Tryz.f96.ntmps [.isl 3 (Nd.encL l), .i .i64 k] = t at *
  skip
  refine Tri.seq' ?_
  refine Tri.regN (t' := ?t1) (H' := ?H1) TT_ok hC ?e1 ?q1
  case e1 =>
    refine go_false ?_
    refine evSeq_go rfl (by simp [h0, h1, hs, hq, hn, hn2, Nd.encL_length, encL_take, encL_drop] <;> rfl) (by rfl) (by simp [hw]) ?_
    refine evSeq_go rfl (by simp [h0, h1, hs, hq, hn, hn2, Nd.encL_length, encL_take, encL_drop] <;> rfl) (by rfl) (by simp [hw]) ?_
    exact evSeq_nil
  refine inSeq_norm ?_
  refine Tri.seq' ?_
  refine Tri.freeze_put 3 30 (v := .ipt 1 [.agg [.i .i64 k]] 0 0) (by simp [fz, fzL, nl, Nd.encL_nl, h0, h1] <;> rfl) ?_
  refine Tri.regN (t' := ?t2) (H' := ?H2) TT_ok hC ?e2 ?q2
  case e2 =>
    refine go_false ?_
    refine evSeq_go rfl (by simp [h0, h1, hs, hq, hn, hn2, Nd.encL_length, encL_take, encL_drop] <;> rfl) (by rfl) (by simp [hw]) ?_
    refine evSeq_go rfl (by simp [h0, h1, hs, hq, hn, hn2, Nd.encL_length, encL_take, encL_drop] <;> rfl) (by rfl) (by simp [hw]) ?_
    refine evSeq_go rfl (by simp [h0, h1, hs, hq, hn, hn2, Nd.encL_length, encL_take, encL_drop] <;> rfl) (by rfl) (by simp [hw]) ?_
    refine evSeq_go rfl (by simp [h0, h1, hs, hq, hn, hn2, Nd.encL_length, encL_take, encL_drop] <;> rfl) (by rfl) (by simp [hw]) ?_
    exact evSeq_nil
  refine inSeq_norm ?_
  refine Tri.seq' ?_
  refine Tri.regN (t' := ?t3) (H' := ?H3) TT_ok hC ?e3 ?q3
  case e3 =>
    refine go_false ?_
    refine evSeq_go rfl (by simp [h0, h1, hs, hq, hn, hn2, Nd.encL_length, encL_take, encL_drop] <;> rfl) (by rfl) (by simp [hw]) ?_
    refine evSeq_go rfl (by simp [h0, h1, hs, hq, hn, hn2, Nd.encL_length, encL_take, encL_drop] <;> rfl) (by rfl) (by simp [hw]) ?_
    refine evSeq_go rfl (by simp [h0, h1, hs, hq, hn, hn2, Nd.encL_length, encL_take, encL_drop] <;> rfl) (by rfl) (by simp [hw]) ?_
    refine evSeq_go (by simp [wants, h0, h1, hs, hq, hn, hn2, Nd.encL_length, encL_take, encL_drop]) (by simp [h0, h1, hs, hq, hn, hn2, Nd.encL_length, encL_take, encL_drop] <;> rfl) (by rfl) (by simp [hw]) ?_
    refine evSeq_go (by simp [wants, h0, h1, hs, hq, hn, hn2, Nd.encL_length, encL_take, encL_drop]) (by simp [h0, h1, hs, hq, hn, hn2, Nd.encL_length, encL_take, encL_drop] <;> rfl) (by rfl) (by simp [hw]) ?_
    refine evSeq_go (by simp [wants, h0, h1, hs, hq, hn, hn2, Nd.encL_length, encL_take, encL_drop]) (by simp [h0, h1, hs, hq, hn, hn2, Nd.encL_length, encL_take, encL_drop] <;> rfl) (by rfl) (by simp [hw]) ?_
    refine evSeq_go (by simp [wants, h0, h1, hs, hq, hn, hn2, Nd.encL_length, encL_take, encL_drop]) (by simp [h0, h1, hs, hq, hn, hn2, Nd.encL_length, encL_take, encL_drop] <;> rfl) (by rfl) (by simp [hw]) ?_
    refine evSeq_go (by simp [wants, h0, h1, hs, hq, hn, hn2, Nd.encL_length, encL_take, encL_drop]) (by simp [h0, h1, hs, hq, hn, hn2, Nd.encL_length, encL_take, encL_drop] <;> rfl) (by rfl) (by simp [hw]) ?_
    refine evSeq_go (by simp [wants, h0, h1, hs, hq, hn, hn2, Nd.encL_length, encL_take, encL_drop]) (by simp [h0, h1, hs, hq, hn, hn2, Nd.encL_length, encL_take, encL_drop] <;> rfl) (by rfl) (by simp [hw]) ?_
    refine evSeq_go rfl (by simp [h0, h1, hs, hq, hn, hn2, Nd.encL_length, encL_take, encL_drop] <;> rfl) (by rfl) (by simp [hw]) ?_
    refine evSeq_go rfl (by simp [h0, h1, hs, hq, hn, hn2, Nd.encL_length, encL_take, encL_drop] <;> rfl) (by rfl) (by simp [hw]) ?_
    exact evSeq_nil
  refine inSeq_norm ?_
  refine Tri.ret ?_
  exact endsB (by simp [finish, evResults, evResult, Tryz.f96] <;> rfl) (by rfl)
theorem body_65m {call : CallF} (hC : call.Sound Tryz.prog TT) (x : Nd) (hk : x.kind = 1) (q : Bool) (hq : ∀ H, call 96 [.isl 3 (Nd.encL x.kids), .i .i64 3] H = .val (.b q) H)  : EBody Tryz.prog TT 78 [.ipt 285 [.agg shCells] 0 0, x.enc] (fun r => ∃ b : Bool, r = .val (.b b)) := by
  refine ⟨Tryz.f78, _, rfl, rfl, by simp [Tryz.f78], ?_⟩
  have h0 : (Tm.init Tryz.f78.ntmps [.ipt 285 [.agg shCells] 0 0, x.enc]).get 0 = .ipt 285 [.agg shCells] 0 0 := by rw [get_init]; rfl
  have h1 : (Tm.init Tryz.f78.ntmps [.ipt 285 [.agg shCells] 0 0, x.enc]).get 1 = x.enc := by rw [get_init]; rfl
  have hw : (Tm.init Tryz.f78.ntmps [.ipt 285 [.agg shCells] 0 0, x.enc]).wid = 40 := rfl
  generalize Tm.init Tryz.f78.ntmps [.ipt 285 [.agg shCells] 0 0, x.enc] = t at *
  try simp only [Nd.enc_eq] at *
  refine Tri.seq' ?_
  refine Tri.regN (t' := ?t1) (H' := ?H1) TT_ok hC ?e1 ?q1
  case e1 =>
    refine go_false ?_
    refine evSeq_go rfl (by simp [h0, h1, hk, hq] <;> rfl) (by rfl) (by simp [hw]) ?_
    refine evSeq_go rfl (by simp [h0, h1, hk, hq] <;> rfl) (by rfl) (by simp [hw]) ?_
    exact evSeq_nil
  refine inSeq_norm ?_
  refine Tri.seq' ?_
  refine Tri.seq' ?_
  refine Tri.regN (t' := ?t2) (H' := ?H2) TT_ok hC ?e2 ?q2
  case e2 =>
    refine go_false ?_
    refine evSeq_go rfl (by simp [h0, h1, hk, hq] <;> rfl) (by rfl) (by simp [hw]) ?_
    refine evSeq_go rfl (by simp [h0, h1, hk, hq] <;> rfl) (by rfl) (by simp [hw]) ?_
    exact evSeq_nil
  refine inSeq_norm ?_
  refine Tri.block' ?_
  refine Tri.seq' ?_
  refine Tri.regN (t' := ?t3) (H' := ?H3) TT_ok hC ?e3 ?q3
  case e3 =>
    refine go_false ?_
    refine evSeq_go rfl (by simp [h0, h1, hk, hq] <;> rfl) (by rfl) (by simp [hw]) ?_
    refine evSeq_go rfl (by simp [h0, h1, hk, hq] <;> rfl) (by rfl) (by simp [hw]) ?_
    exact evSeq_nil
  refine inSeq_norm ?_
  refine Tri.condG (o := ?o4) (b := ?b4) ?g4 ?r4 ?y4 ?n4
  case g4 => simp [h0, h1, hk, hq] <;> rfl
  case r4 => rfl
  case y4 =>
    intro hy4
    refine Tri.seq' ?_
    refine Tri.regN (t' := ?t5) (H' := ?H5) TT_ok hC ?e5 ?q5
    case e5 =>
      refine go_false ?_
      refine evSeq_go rfl (by simp [h0, h1, hk, hq] <;> rfl) (by rfl) (by simp [hw]) ?_
      refine evSeq_go rfl (by simp [h0, h1, hk, hq] <;> rfl) (by rfl) (by simp [hw]) ?_
      refine evSeq_go rfl (by simp [h0, h1, hk, hq] <;> rfl) (by rfl) (by simp [hw]) ?_
      refine evSeq_go rfl (by simp [h0, h1, hk, hq] <;> rfl) (by rfl) (by simp [hw]) ?_
      exact evSeq_nil
    refine inSeq_norm ?_
    refine Tri.ret ?_
    refine inBlk_ret ?_
    refine inSeq_ret ?_
    exact endsB (by simp [finish, evResults, evResult, Tryz.f78] <;> rfl) (by rfl)
  case n4 =>
    intro hn4
    exact absurd hn4 (by simp [h0, h1, hk, hq])
theorem body_65c {call : CallF} (hC : call.Sound Tryz.prog TT) (x : Nd) (hk : x.kind = 31) (q : Bool) (hl : (2 : Int) ≤ x.kids.length) (hq : ∀ H, call 96 [.isl 3 (Nd.encL (x.kids.drop 2)), .i .i64 32] H = .val (.b q) H)  : EBody Tryz.prog TT 78 [.ipt 285 [.agg shCells] 0 0, x.enc] (fun r => ∃ b : Bool, r = .val (.b b)) := by
  refine ⟨Tryz.f78, _, rfl, rfl, by simp [Tryz.f78], ?_⟩
  have h0 : (Tm.init Tryz.f78.ntmps [.ipt 285 [.agg shCells] 0 0, x.enc]).get 0 = .ipt 285 [.agg shCells] 0 0 := by rw [get_init]; rfl
  have h1 : (Tm.init Tryz.f78.ntmps [.ipt 285 [.agg shCells] 0 0, x.enc]).get 1 = x.enc := by rw [get_init]; rfl
  have hw : (Tm.init Tryz.f78.ntmps [.ipt 285 [.agg shCells] 0 0, x.enc]).wid = 40 := rfl
  generalize Tm.init Tryz.f78.ntmps [.ipt 285 [.agg shCells] 0 0, x.enc] = t at *
  try simp only [Nd.enc_eq] at *
  refine Tri.seq' ?_
  refine Tri.regN (t' := ?t1) (H' := ?H1) TT_ok hC ?e1 ?q1
  case e1 =>
    refine go_false ?_
    refine evSeq_go rfl (by simp [h0, h1, hk, hq, hl, Nd.encL_length, encL_take, encL_drop] <;> rfl) (by rfl) (by simp [hw]) ?_
    refine evSeq_go rfl (by simp [h0, h1, hk, hq, hl, Nd.encL_length, encL_take, encL_drop] <;> rfl) (by rfl) (by simp [hw]) ?_
    exact evSeq_nil
  refine inSeq_norm ?_
  refine Tri.seq' ?_
  refine Tri.seq' ?_
  refine Tri.regN (t' := ?t2) (H' := ?H2) TT_ok hC ?e2 ?q2
  case e2 =>
    refine go_false ?_
    refine evSeq_go rfl (by simp [h0, h1, hk, hq, hl, Nd.encL_length, encL_take, encL_drop] <;> rfl) (by rfl) (by simp [hw]) ?_
    refine evSeq_go rfl (by simp [h0, h1, hk, hq, hl, Nd.encL_length, encL_take, encL_drop] <;> rfl) (by rfl) (by simp [hw]) ?_
    exact evSeq_nil
  refine inSeq_norm ?_
  refine Tri.block' ?_
  refine Tri.seq' ?_
  refine Tri.regN (t' := ?t3) (H' := ?H3) TT_ok hC ?e3 ?q3
  case e3 =>
    refine go_false ?_
    refine evSeq_go rfl (by simp [h0, h1, hk, hq, hl, Nd.encL_length, encL_take, encL_drop] <;> rfl) (by rfl) (by simp [hw]) ?_
    refine evSeq_go rfl (by simp [h0, h1, hk, hq, hl, Nd.encL_length, encL_take, encL_drop] <;> rfl) (by rfl) (by simp [hw]) ?_
    exact evSeq_nil
  refine inSeq_norm ?_
  refine Tri.condG (o := ?o4) (b := ?b4) ?g4 ?r4 ?y4 ?n4
  case g4 => simp [h0, h1, hk, hq, hl, Nd.encL_length, encL_take, encL_drop] <;> rfl
  case r4 => rfl
  case y4 =>
    intro hy4
    exact absurd hy4 (by simp [h0, h1, hk, hq, hl, Nd.encL_length, encL_take, encL_drop])
  case n4 =>
    intro hn4
    refine Tri.seq' ?_
    refine Tri.regN (t' := ?t5) (H' := ?H5) TT_ok hC ?e5 ?q5
    case e5 =>
      refine go_false ?_
      refine evSeq_go rfl (by simp [h0, h1, hk, hq, hl, Nd.encL_length, encL_take, encL_drop] <;> rfl) (by rfl) (by simp [hw]) ?_
      refine evSeq_go rfl (by simp [h0, h1, hk, hq, hl, Nd.encL_length, encL_take, encL_drop] <;> rfl) (by rfl) (by simp [hw]) ?_
      exact evSeq_nil
    refine inSeq_norm ?_
    refine Tri.condG (o := ?o6) (b := ?b6) ?g6 ?r6 ?y6 ?n6
    case g6 => simp [h0, h1, hk, hq, hl, Nd.encL_length, encL_take, encL_drop] <;> rfl
    case r6 => rfl
    case y6 =>
      intro hy6
      refine Tri.seq' ?_
      refine Tri.regN (t' := ?t7) (H' := ?H7) TT_ok hC ?e7 ?q7
      case e7 =>
        refine go_false ?_
        refine evSeq_go rfl (by simp [h0, h1, hk, hq, hl, Nd.encL_length, encL_take, encL_drop] <;> rfl) (by rfl) (by simp [hw]) ?_
        refine evSeq_go rfl (by simp [h0, h1, hk, hq, hl, Nd.encL_length, encL_take, encL_drop] <;> rfl) (by rfl) (by simp [hw]) ?_
        refine evSeq_go rfl (by simp [h0, h1, hk, hq, hl, Nd.encL_length, encL_take, encL_drop] <;> rfl) (by rfl) (by simp [hw]) ?_
        refine evSeq_go rfl (by simp [h0, h1, hk, hq, hl, Nd.encL_length, encL_take, encL_drop] <;> rfl) (by rfl) (by simp [hw]) ?_
        refine evSeq_go rfl (by simp [h0, h1, hk, hq, hl, Nd.encL_length, encL_take, encL_drop] <;> rfl) (by rfl) (by simp [hw]) ?_
        exact evSeq_nil
      refine inSeq_norm ?_
      refine Tri.ret ?_
      refine inBlk_ret ?_
      refine inSeq_ret ?_
      exact endsB (by simp [finish, evResults, evResult, Tryz.f78] <;> rfl) (by rfl)
    case n6 =>
      intro hn6
      exact absurd hn6 (by simp [h0, h1, hk, hq, hl, Nd.encL_length, encL_take, encL_drop])
theorem body_65o {call : CallF} (hC : call.Sound Tryz.prog TT) (x : Nd) (k1 : ¬ x.kind = 1) (k2 : ¬ x.kind = 31) (k3 : ¬ x.kind = 3)  : EBody Tryz.prog TT 78 [.ipt 285 [.agg shCells] 0 0, x.enc] (fun r => ∃ b : Bool, r = .val (.b b)) := by
  refine ⟨Tryz.f78, _, rfl, rfl, by simp [Tryz.f78], ?_⟩
  have h0 : (Tm.init Tryz.f78.ntmps [.ipt 285 [.agg shCells] 0 0, x.enc]).get 0 = .ipt 285 [.agg shCells] 0 0 := by rw [get_init]; rfl
  have h1 : (Tm.init Tryz.f78.ntmps [.ipt 285 [.agg shCells] 0 0, x.enc]).get 1 = x.enc := by rw [get_init]; rfl
  have hw : (Tm.init Tryz.f78.ntmps [.ipt 285 [.agg shCells] 0 0, x.enc]).wid = 40 := rfl
  generalize Tm.init Tryz.f78.ntmps [.ipt 285 [.agg shCells] 0 0, x.enc] = t at *
  try simp only [Nd.enc_eq] at *
  refine Tri.seq' ?_
  refine Tri.regN (t' := ?t1) (H' := ?H1) TT_ok hC ?e1 ?q1
  case e1 =>
    refine go_false ?_
    refine evSeq_go rfl (by simp [h0, h1, k1, k2, k3] <;> rfl) (by rfl) (by simp [hw]) ?_
    refine evSeq_go rfl (by simp [h0, h1, k1, k2, k3] <;> rfl) (by rfl) (by simp [hw]) ?_
    exact evSeq_nil
  refine inSeq_norm ?_
  refine Tri.seq' ?_
  refine Tri.seq' ?_
  refine Tri.regN (t' := ?t2) (H' := ?H2) TT_ok hC ?e2 ?q2
  case e2 =>
    refine go_false ?_
    refine evSeq_go rfl (by simp [h0, h1, k1, k2, k3] <;> rfl) (by rfl) (by simp [hw]) ?_
    refine evSeq_go rfl (by simp [h0, h1, k1, k2, k3] <;> rfl) (by rfl) (by simp [hw]) ?_
    exact evSeq_nil
  refine inSeq_norm ?_
  refine Tri.block' ?_
  refine Tri.seq' ?_
  refine Tri.regN (t' := ?t3) (H' := ?H3) TT_ok hC ?e3 ?q3
  case e3 =>
    refine go_false ?_
    refine evSeq_go rfl (by simp [h0, h1, k1, k2, k3] <;> rfl) (by rfl) (by simp [hw]) ?_
    refine evSeq_go rfl (by simp [h0, h1, k1, k2, k3] <;> rfl) (by rfl) (by simp [hw]) ?_
    exact evSeq_nil
  refine inSeq_norm ?_
  refine Tri.condG (o := ?o4) (b := ?b4) ?g4 ?r4 ?y4 ?n4
  case g4 => simp [h0, h1, k1, k2, k3] <;> rfl
  case r4 => rfl
  case y4 =>
    intro hy4
    exact absurd hy4 (by simp [h0, h1, k1, k2, k3])
  case n4 =>
    intro hn4
    refine Tri.seq' ?_
    refine Tri.regN (t' := ?t5) (H' := ?H5) TT_ok hC ?e5 ?q5
    case e5 =>
      refine go_false ?_
      refine evSeq_go rfl (by simp [h0, h1, k1, k2, k3] <;> rfl) (by rfl) (by simp [hw]) ?_
      refine evSeq_go rfl (by simp [h0, h1, k1, k2, k3] <;> rfl) (by rfl) (by simp [hw]) ?_
      exact evSeq_nil
    refine inSeq_norm ?_
    refine Tri.condG (o := ?o6) (b := ?b6) ?g6 ?r6 ?y6 ?n6
    case g6 => simp [h0, h1, k1, k2, k3] <;> rfl
    case r6 => rfl
    case y6 =>
      intro hy6
      exact absurd hy6 (by simp [h0, h1, k1, k2, k3])
    case n6 =>
      intro hn6
      refine Tri.seq' ?_
      refine Tri.regN (t' := ?t7) (H' := ?H7) TT_ok hC ?e7 ?q7
      case e7 =>
        refine go_false ?_
        refine evSeq_go rfl (by simp [h0, h1, k1, k2, k3] <;> rfl) (by rfl) (by simp [hw]) ?_
        refine evSeq_go rfl (by simp [h0, h1, k1, k2, k3] <;> rfl) (by rfl) (by simp [hw]) ?_
        exact evSeq_nil
      refine inSeq_norm ?_
      refine Tri.condG (o := ?o8) (b := ?b8) ?g8 ?r8 ?y8 ?n8
      case g8 => simp [h0, h1, k1, k2, k3] <;> rfl
      case r8 => rfl
      case y8 =>
        intro hy8
        exact absurd hy8 (by simp [h0, h1, k1, k2, k3])
      case n8 =>
        intro hn8
        refine Tri.skip ?_
        refine inBlk_norm ?_
        refine inSeq_norm ?_
        refine Tri.seq' ?_
        refine Tri.regN (t' := ?t9) (H' := ?H9) TT_ok hC ?e9 ?q9
        case e9 =>
          refine go_false ?_
          refine evSeq_go rfl (by simp [h0, h1, k1, k2, k3] <;> rfl) (by rfl) (by simp [hw]) ?_
          exact evSeq_nil
        refine inSeq_norm ?_
        refine Tri.ret ?_
        exact endsB (by simp [finish, evResults, evResult, Tryz.f78] <;> rfl) (by rfl)
theorem body_65e {call : CallF} (hC : call.Sound Tryz.prog TT) (x : Nd) (a b c d : Nd) (r : List Nd) (hk : x.kind = 3) (hl : x.kids = a :: b :: c :: d :: r) (hp0 : (0 : Int) < r.length + 1 + 1 + 1 + 1) (hp3 : (3 : Int) < r.length + 1 + 1 + 1 + 1)  : EBody Tryz.prog TT 78 [.ipt 285 [.agg shCells] 0 0, x.enc] (fun r => ∃ b : Bool, r = .val (.b b)) := by
  refine ⟨Tryz.f78, _, rfl, rfl, by simp [Tryz.f78], ?_⟩
  have h0 : (Tm.init Tryz.f78.ntmps [.ipt 285 [.agg shCells] 0 0, x.enc]).get 0 = .ipt 285 [.agg shCells] 0 0 := by rw [get_init]; rfl
  have h1 : (Tm.init Tryz.f78.ntmps [.ipt 285 [.agg shCells] 0 0, x.enc]).get 1 = x.enc := by rw [get_init]; rfl
  have hw : (Tm.init Tryz.f78.ntmps [.ipt 285 [.agg shCells] 0 0, x.enc]).wid = 40 := rfl
  generalize Tm.init Tryz.f78.ntmps [.ipt 285 [.agg shCells] 0 0, x.enc] = t at *
  try simp only [Nd.enc_eq] at *
  refine Tri.seq' ?_
  refine Tri.regN (t' := ?t1) (H' := ?H1) TT_ok hC ?e1 ?q1
  case e1 =>
    refine go_false ?_
    refine evSeq_go rfl (by simp [h0, h1, hk, hl, hp0, hp3, Nd.encL, Nd.encL_length, Nd.enc_eq] <;> rfl) (by rfl) (by simp [hw]) ?_
    refine evSeq_go rfl (by simp [h0, h1, hk, hl, hp0, hp3, Nd.encL, Nd.encL_length, Nd.enc_eq] <;> rfl) (by rfl) (by simp [hw]) ?_
    exact evSeq_nil
  refine inSeq_norm ?_
  refine Tri.seq' ?_
  refine Tri.seq' ?_
  refine Tri.regN (t' := ?t2) (H' := ?H2) TT_ok hC ?e2 ?q2
  case e2 =>
    refine go_false ?_
    refine evSeq_go rfl (by simp [h0, h1, hk, hl, hp0, hp3, Nd.encL, Nd.encL_length, Nd.enc_eq] <;> rfl) (by rfl) (by simp [hw]) ?_
    refine evSeq_go rfl (by simp [h0, h1, hk, hl, hp0, hp3, Nd.encL, Nd.encL_length, Nd.enc_eq] <;> rfl) (by rfl) (by simp [hw]) ?_
    exact evSeq_nil
  refine inSeq_norm ?_
  refine Tri.block' ?_
  refine Tri.seq' ?_
  refine Tri.regN (t' := ?t3) (H' := ?H3) TT_ok hC ?e3 ?q3
  case e3 =>
    refine go_false ?_
    refine evSeq_go rfl (by simp [h0, h1, hk, hl, hp0, hp3, Nd.encL, Nd.encL_length, Nd.enc_eq] <;> rfl) (by rfl) (by simp [hw]) ?_
    refine evSeq_go rfl (by simp [h0, h1, hk, hl, hp0, hp3, Nd.encL, Nd.encL_length, Nd.enc_eq] <;> rfl) (by rfl) (by simp [hw]) ?_
    exact evSeq_nil
  refine inSeq_norm ?_
  refine Tri.condG (o := ?o4) (b := ?b4) ?g4 ?r4 ?y4 ?n4
  case g4 => simp [h0, h1, hk, hl, hp0, hp3, Nd.encL, Nd.encL_length, Nd.enc_eq] <;> rfl
  case r4 => rfl
  case y4 =>
    intro hy4
    exact absurd hy4 (by simp [h0, h1, hk, hl, hp0, hp3, Nd.encL, Nd.encL_length, Nd.enc_eq])
  case n4 =>
    intro hn4
    refine Tri.seq' ?_
    refine Tri.regN (t' := ?t5) (H' := ?H5) TT_ok hC ?e5 ?q5
    case e5 =>
      refine go_false ?_
      refine evSeq_go rfl (by simp [h0, h1, hk, hl, hp0, hp3, Nd.encL, Nd.encL_length, Nd.enc_eq] <;> rfl) (by rfl) (by simp [hw]) ?_
      refine evSeq_go rfl (by simp [h0, h1, hk, hl, hp0, hp3, Nd.encL, Nd.encL_length, Nd.enc_eq] <;> rfl) (by rfl) (by simp [hw]) ?_
      exact evSeq_nil
    refine inSeq_norm ?_
    refine Tri.condG (o := ?o6) (b := ?b6) ?g6 ?r6 ?y6 ?n6
    case g6 => simp [h0, h1, hk, hl, hp0, hp3, Nd.encL, Nd.encL_length, Nd.enc_eq] <;> rfl
    case r6 => rfl
    case y6 =>
      intro hy6
      exact absurd hy6 (by simp [h0, h1, hk, hl, hp0, hp3, Nd.encL, Nd.encL_length, Nd.enc_eq])
    case n6 =>
      intro hn6
      refine Tri.seq' ?_
      refine Tri.regN (t' := ?t7) (H' := ?H7) TT_ok hC ?e7 ?q7
      case e7 =>
        refine go_false ?_
        refine evSeq_go rfl (by simp [h0, h1, hk, hl, hp0, hp3, Nd.encL, Nd.encL_length, Nd.enc_eq] <;> rfl) (by rfl) (by simp [hw]) ?_
        refine evSeq_go rfl (by simp [h0, h1, hk, hl, hp0, hp3, Nd.encL, Nd.encL_length, Nd.enc_eq] <;> rfl) (by rfl) (by simp [hw]) ?_
        exact evSeq_nil
      refine inSeq_norm ?_
      refine Tri.condG (o := ?o8) (b := ?b8) ?g8 ?r8 ?y8 ?n8
      case g8 => simp [h0, h1, hk, hl, hp0, hp3, Nd.encL, Nd.encL_length, Nd.enc_eq] <;> rfl
      case r8 => rfl
      case y8 =>
        intro hy8
        refine Tri.seq' ?_
        cases hB1 : (!(a.text == [116, 121, 112, 101]) : Bool)
        case false =>
          cases hB2 : (d.kind != 5 : Bool)
          case false =>
            refine Tri.regN (t' := ?tq1fq2f9) (H' := ?Hq1fq2f9) TT_ok hC ?eq1fq2f9 ?qq1fq2f9
            case eq1fq2f9 =>
              refine go_false ?_
              refine evSeq_go rfl (by simp [h0, h1, hk, hl, hp0, hp3, Nd.encL, Nd.encL_length, Nd.enc_eq, hB1, hB2] <;> rfl) (by rfl) (by simp [hw]) ?_
              refine evSeq_go rfl (by simp [h0, h1, hk, hl, hp0, hp3, Nd.encL, Nd.encL_length, Nd.enc_eq, hB1, hB2] <;> rfl) (by rfl) (by simp [hw]) ?_
              refine evSeq_go rfl (by simp [h0, h1, hk, hl, hp0, hp3, Nd.encL, Nd.encL_length, Nd.enc_eq, hB1, hB2] <;> rfl) (by rfl) (by simp [hw]) ?_
              refine evSeq_go rfl (by simp [h0, h1, hk, hl, hp0, hp3, Nd.encL, Nd.encL_length, Nd.enc_eq, hB1, hB2] <;> rfl) (by rfl) (by simp [hw]) ?_
              refine evSeq_go rfl (by simp [h0, h1, hk, hl, hp0, hp3, Nd.encL, Nd.encL_length, Nd.enc_eq, hB1, hB2] <;> rfl) (by rfl) (by simp [hw]) ?_
              refine evSeq_go rfl (by simp [h0, h1, hk, hl, hp0, hp3, Nd.encL, Nd.encL_length, Nd.enc_eq, hB1, hB2] <;> rfl) (by rfl) (by simp [hw]) ?_
              refine evSeq_go rfl (by simp [h0, h1, hk, hl, hp0, hp3, Nd.encL, Nd.encL_length, Nd.enc_eq, hB1, hB2] <;> rfl) (by rfl) (by simp [hw]) ?_
              refine evSeq_go (by simp [wants, h0, h1, hk, hl, hp0, hp3, Nd.encL, Nd.encL_length, Nd.enc_eq, hB1, hB2]) (by simp [h0, h1, hk, hl, hp0, hp3, Nd.encL, Nd.encL_length, Nd.enc_eq, hB1, hB2] <;> rfl) (by rfl) (by simp [hw]) ?_
              refine evSeq_go (by simp [wants, h0, h1, hk, hl, hp0, hp3, Nd.encL, Nd.encL_length, Nd.enc_eq, hB1, hB2]) (by simp [h0, h1, hk, hl, hp0, hp3, Nd.encL, Nd.encL_length, Nd.enc_eq, hB1, hB2] <;> rfl) (by rfl) (by simp [hw]) ?_
              refine evSeq_go (by simp [wants, h0, h1, hk, hl, hp0, hp3, Nd.encL, Nd.encL_length, Nd.enc_eq, hB1, hB2]) (by simp [h0, h1, hk, hl, hp0, hp3, Nd.encL, Nd.encL_length, Nd.enc_eq, hB1, hB2] <;> rfl) (by rfl) (by simp [hw]) ?_
              refine evSeq_go (by simp [wants, h0, h1, hk, hl, hp0, hp3, Nd.encL, Nd.encL_length, Nd.enc_eq, hB1, hB2]) (by simp [h0, h1, hk, hl, hp0, hp3, Nd.encL, Nd.encL_length, Nd.enc_eq, hB1, hB2] <;> rfl) (by rfl) (by simp [hw]) ?_
              refine evSeq_go (by simp [wants, h0, h1, hk, hl, hp0, hp3, Nd.encL, Nd.encL_length, Nd.enc_eq, hB1, hB2]) (by simp [h0, h1, hk, hl, hp0, hp3, Nd.encL, Nd.encL_length, Nd.enc_eq, hB1, hB2] <;> rfl) (by rfl) (by simp [hw]) ?_
              refine evSeq_go (by simp [wants, h0, h1, hk, hl, hp0, hp3, Nd.encL, Nd.encL_length, Nd.enc_eq, hB1, hB2]) (by simp [h0, h1, hk, hl, hp0, hp3, Nd.encL, Nd.encL_length, Nd.enc_eq, hB1, hB2] <;> rfl) (by rfl) (by simp [hw]) ?_
              refine evSeq_go (by simp [wants, h0, h1, hk, hl, hp0, hp3, Nd.encL, Nd.encL_length, Nd.enc_eq, hB1, hB2]) (by simp [h0, h1, hk, hl, hp0, hp3, Nd.encL, Nd.encL_length, Nd.enc_eq, hB1, hB2] <;> rfl) (by rfl) (by simp [hw]) ?_
              refine evSeq_off (by simp [wants, h0, h1, hk, hl, hp0, hp3, Nd.encL, Nd.encL_length, Nd.enc_eq, hB1, hB2]) (by simp [hw]) ?_
              refine evSeq_off (by simp [wants, h0, h1, hk, hl, hp0, hp3, Nd.encL, Nd.encL_length, Nd.enc_eq, hB1, hB2]) (by simp [hw]) ?_
              refine evSeq_off (by simp [wants, h0, h1, hk, hl, hp0, hp3, Nd.encL, Nd.encL_length, Nd.enc_eq, hB1, hB2]) (by simp [hw]) ?_
              refine evSeq_off (by simp [wants, h0, h1, hk, hl, hp0, hp3, Nd.encL, Nd.encL_length, Nd.enc_eq, hB1, hB2]) (by simp [hw]) ?_
              refine evSeq_go (by simp [wants, h0, h1, hk, hl, hp0, hp3, Nd.encL, Nd.encL_length, Nd.enc_eq, hB1, hB2]) (by simp [h0, h1, hk, hl, hp0, hp3, Nd.encL, Nd.encL_length, Nd.enc_eq, hB1, hB2] <;> rfl) (by rfl) (by simp [hw]) ?_
              refine evSeq_go rfl (by simp [h0, h1, hk, hl, hp0, hp3, Nd.encL, Nd.encL_length, Nd.enc_eq, hB1, hB2] <;> rfl) (by rfl) (by simp [hw]) ?_
              refine evSeq_go rfl (by simp [h0, h1, hk, hl, hp0, hp3, Nd.encL, Nd.encL_length, Nd.enc_eq, hB1, hB2] <;> rfl) (by rfl) (by simp [hw]) ?_
              exact evSeq_nil
            refine inSeq_norm ?_
            refine Tri.ret ?_
            refine inBlk_ret ?_
            refine inSeq_ret ?_
            exact endsB (by simp [finish, evResults, evResult, Tryz.f78] <;> rfl) (by rfl)
          case true =>
            refine Tri.regN (t' := ?tq1fq2t9) (H' := ?Hq1fq2t9) TT_ok hC ?eq1fq2t9 ?qq1fq2t9
            case eq1fq2t9 =>
              refine go_false ?_
              refine evSeq_go rfl (by simp [h0, h1, hk, hl, hp0, hp3, Nd.encL, Nd.encL_length, Nd.enc_eq, hB1, hB2] <;> rfl) (by rfl) (by simp [hw]) ?_
              refine evSeq_go rfl (by simp [h0, h1, hk, hl, hp0, hp3, Nd.encL, Nd.encL_length, Nd.enc_eq, hB1, hB2] <;> rfl) (by rfl) (by simp [hw]) ?_
              refine evSeq_go rfl (by simp [h0, h1, hk, hl, hp0, hp3, Nd.encL, Nd.encL_length, Nd.enc_eq, hB1, hB2] <;> rfl) (by rfl) (by simp [hw]) ?_
              refine evSeq_go rfl (by simp [h0, h1, hk, hl, hp0, hp3, Nd.encL, Nd.encL_length, Nd.enc_eq, hB1, hB2] <;> rfl) (by rfl) (by simp [hw]) ?_
              refine evSeq_go rfl (by simp [h0, h1, hk, hl, hp0, hp3, Nd.encL, Nd.encL_length, Nd.enc_eq, hB1, hB2] <;> rfl) (by rfl) (by simp [hw]) ?_
              refine evSeq_go rfl (by simp [h0, h1, hk, hl, hp0, hp3, Nd.encL, Nd.encL_length, Nd.enc_eq, hB1, hB2] <;> rfl) (by rfl) (by simp [hw]) ?_
              refine evSeq_go rfl (by simp [h0, h1, hk, hl, hp0, hp3, Nd.encL, Nd.encL_length, Nd.enc_eq, hB1, hB2] <;> rfl) (by rfl) (by simp [hw]) ?_
              refine evSeq_go (by simp [wants, h0, h1, hk, hl, hp0, hp3, Nd.encL, Nd.encL_length, Nd.enc_eq, hB1, hB2]) (by simp [h0, h1, hk, hl, hp0, hp3, Nd.encL, Nd.encL_length, Nd.enc_eq, hB1, hB2] <;> rfl) (by rfl) (by simp [hw]) ?_
              refine evSeq_go (by simp [wants, h0, h1, hk, hl, hp0, hp3, Nd.encL, Nd.encL_length, Nd.enc_eq, hB1, hB2]) (by simp [h0, h1, hk, hl, hp0, hp3, Nd.encL, Nd.encL_length, Nd.enc_eq, hB1, hB2] <;> rfl) (by rfl) (by simp [hw]) ?_
              refine evSeq_go (by simp [wants, h0, h1, hk, hl, hp0, hp3, Nd.encL, Nd.encL_length, Nd.enc_eq, hB1, hB2]) (by simp [h0, h1, hk, hl, hp0, hp3, Nd.encL, Nd.encL_length, Nd.enc_eq, hB1, hB2] <;> rfl) (by rfl) (by simp [hw]) ?_
              refine evSeq_go (by simp [wants, h0, h1, hk, hl, hp0, hp3, Nd.encL, Nd.encL_length, Nd.enc_eq, hB1, hB2]) (by simp [h0, h1, hk, hl, hp0, hp3, Nd.encL, Nd.encL_length, Nd.enc_eq, hB1, hB2] <;> rfl) (by rfl) (by simp [hw]) ?_
              refine evSeq_go (by simp [wants, h0, h1, hk, hl, hp0, hp3, Nd.encL, Nd.encL_length, Nd.enc_eq, hB1, hB2]) (by simp [h0, h1, hk, hl, hp0, hp3, Nd.encL, Nd.encL_length, Nd.enc_eq, hB1, hB2] <;> rfl) (by rfl) (by simp [hw]) ?_
              refine evSeq_go (by simp [wants, h0, h1, hk, hl, hp0, hp3, Nd.encL, Nd.encL_length, Nd.enc_eq, hB1, hB2]) (by simp [h0, h1, hk, hl, hp0, hp3, Nd.encL, Nd.encL_length, Nd.enc_eq, hB1, hB2] <;> rfl) (by rfl) (by simp [hw]) ?_
              refine evSeq_go (by simp [wants, h0, h1, hk, hl, hp0, hp3, Nd.encL, Nd.encL_length, Nd.enc_eq, hB1, hB2]) (by simp [h0, h1, hk, hl, hp0, hp3, Nd.encL, Nd.encL_length, Nd.enc_eq, hB1, hB2] <;> rfl) (by rfl) (by simp [hw]) ?_
              refine evSeq_go (by simp [wants, h0, h1, hk, hl, hp0, hp3, Nd.encL, Nd.encL_length, Nd.enc_eq, hB1, hB2]) (by simp [h0, h1, hk, hl, hp0, hp3, Nd.encL, Nd.encL_length, Nd.enc_eq, hB1, hB2] <;> rfl) (by rfl) (by simp [hw]) ?_
              refine evSeq_go (by simp [wants, h0, h1, hk, hl, hp0, hp3, Nd.encL, Nd.encL_length, Nd.enc_eq, hB1, hB2]) (by simp [h0, h1, hk, hl, hp0, hp3, Nd.encL, Nd.encL_length, Nd.enc_eq, hB1, hB2] <;> rfl) (by rfl) (by simp [hw]) ?_
              refine evSeq_go (by simp [wants, h0, h1, hk, hl, hp0, hp3, Nd.encL, Nd.encL_length, Nd.enc_eq, hB1, hB2]) (by simp [h0, h1, hk, hl, hp0, hp3, Nd.encL, Nd.encL_length, Nd.enc_eq, hB1, hB2] <;> rfl) (by rfl) (by simp [hw]) ?_
              refine evSeq_go (by simp [wants, h0, h1, hk, hl, hp0, hp3, Nd.encL, Nd.encL_length, Nd.enc_eq, hB1, hB2]) (by simp [h0, h1, hk, hl, hp0, hp3, Nd.encL, Nd.encL_length, Nd.enc_eq, hB1, hB2] <;> rfl) (by rfl) (by simp [hw]) ?_
              refine evSeq_go (by simp [wants, h0, h1, hk, hl, hp0, hp3, Nd.encL, Nd.encL_length, Nd.enc_eq, hB1, hB2]) (by simp [h0, h1, hk, hl, hp0, hp3, Nd.encL, Nd.encL_length, Nd.enc_eq, hB1, hB2] <;> rfl) (by rfl) (by simp [hw]) ?_
              refine evSeq_go rfl (by simp [h0, h1, hk, hl, hp0, hp3, Nd.encL, Nd.encL_length, Nd.enc_eq, hB1, hB2] <;> rfl) (by rfl) (by simp [hw]) ?_
              refine evSeq_go rfl (by simp [h0, h1, hk, hl, hp0, hp3, Nd.encL, Nd.encL_length, Nd.enc_eq, hB1, hB2] <;> rfl) (by rfl) (by simp [hw]) ?_
              exact evSeq_nil
            refine inSeq_norm ?_
            refine Tri.ret ?_
            refine inBlk_ret ?_
            refine inSeq_ret ?_
            exact endsB (by simp [finish, evResults, evResult, Tryz.f78] <;> rfl) (by rfl)
        case true =>
          refine Tri.regN (t' := ?tq1t9) (H' := ?Hq1t9) TT_ok hC ?eq1t9 ?qq1t9
          case eq1t9 =>
            refine go_false ?_
            refine evSeq_go rfl (by simp [h0, h1, hk, hl, hp0, hp3, Nd.encL, Nd.encL_length, Nd.enc_eq, hB1] <;> rfl) (by rfl) (by simp [hw]) ?_
            refine evSeq_go rfl (by simp [h0, h1, hk, hl, hp0, hp3, Nd.encL, Nd.encL_length, Nd.enc_eq, hB1] <;> rfl) (by rfl) (by simp [hw]) ?_
            refine evSeq_go rfl (by simp [h0, h1, hk, hl, hp0, hp3, Nd.encL, Nd.encL_length, Nd.enc_eq, hB1] <;> rfl) (by rfl) (by simp [hw]) ?_
            refine evSeq_go rfl (by simp [h0, h1, hk, hl, hp0, hp3, Nd.encL, Nd.encL_length, Nd.enc_eq, hB1] <;> rfl) (by rfl) (by simp [hw]) ?_
            refine evSeq_go rfl (by simp [h0, h1, hk, hl, hp0, hp3, Nd.encL, Nd.encL_length, Nd.enc_eq, hB1] <;> rfl) (by rfl) (by simp [hw]) ?_
            refine evSeq_go rfl (by simp [h0, h1, hk, hl, hp0, hp3, Nd.encL, Nd.encL_length, Nd.enc_eq, hB1] <;> rfl) (by rfl) (by simp [hw]) ?_
            refine evSeq_go rfl (by simp [h0, h1, hk, hl, hp0, hp3, Nd.encL, Nd.encL_length, Nd.enc_eq, hB1] <;> rfl) (by rfl) (by simp [hw]) ?_
            refine evSeq_off (by simp [wants, h0, h1, hk, hl, hp0, hp3, Nd.encL, Nd.encL_length, Nd.enc_eq, hB1]) (by simp [hw]) ?_
            refine evSeq_off (by simp [wants, h0, h1, hk, hl, hp0, hp3, Nd.encL, Nd.encL_length, Nd.enc_eq, hB1]) (by simp [hw]) ?_
            refine evSeq_off (by simp [wants, h0, h1, hk, hl, hp0, hp3, Nd.encL, Nd.encL_length, Nd.enc_eq, hB1]) (by simp [hw]) ?_
            refine evSeq_off (by simp [wants, h0, h1, hk, hl, hp0, hp3, Nd.encL, Nd.encL_length, Nd.enc_eq, hB1]) (by simp [hw]) ?_
            refine evSeq_off (by simp [wants, h0, h1, hk, hl, hp0, hp3, Nd.encL, Nd.encL_length, Nd.enc_eq, hB1]) (by simp [hw]) ?_
            refine evSeq_off (by simp [wants, h0, h1, hk, hl, hp0, hp3, Nd.encL, Nd.encL_length, Nd.enc_eq, hB1]) (by simp [hw]) ?_
            refine evSeq_off (by simp [wants, h0, h1, hk, hl, hp0, hp3, Nd.encL, Nd.encL_length, Nd.enc_eq, hB1]) (by simp [hw]) ?_
            refine evSeq_off (by simp [wants, h0, h1, hk, hl, hp0, hp3, Nd.encL, Nd.encL_length, Nd.enc_eq, hB1]) (by simp [hw]) ?_
            refine evSeq_off (by simp [wants, h0, h1, hk, hl, hp0, hp3, Nd.encL, Nd.encL_length, Nd.enc_eq, hB1]) (by simp [hw]) ?_
            refine evSeq_off (by simp [wants, h0, h1, hk, hl, hp0, hp3, Nd.encL, Nd.encL_length, Nd.enc_eq, hB1]) (by simp [hw]) ?_
            refine evSeq_off (by simp [wants, h0, h1, hk, hl, hp0, hp3, Nd.encL, Nd.encL_length, Nd.enc_eq, hB1]) (by simp [hw]) ?_
            refine evSeq_off (by simp [wants, h0, h1, hk, hl, hp0, hp3, Nd.encL, Nd.encL_length, Nd.enc_eq, hB1]) (by simp [hw]) ?_
            refine evSeq_go rfl (by simp [h0, h1, hk, hl, hp0, hp3, Nd.encL, Nd.encL_length, Nd.enc_eq, hB1] <;> rfl) (by rfl) (by simp [hw]) ?_
            refine evSeq_go rfl (by simp [h0, h1, hk, hl, hp0, hp3, Nd.encL, Nd.encL_length, Nd.enc_eq, hB1] <;> rfl) (by rfl) (by simp [hw]) ?_
            exact evSeq_nil
          refine inSeq_norm ?_
          refine Tri.ret ?_
          refine inBlk_ret ?_
          refine inSeq_ret ?_
          exact endsB (by simp [finish, evResults, evResult, Tryz.f78] <;> rfl) (by rfl)
      case n8 =>
        intro hn8
        exact absurd hn8 (by simp [h0, h1, hk, hl, hp0, hp3, Nd.encL, Nd.encL_length, Nd.enc_eq])
theorem body_38 {call : CallF} (hC : call.Sound Tryz.prog TT) (x : Nd) (q : Bool) (hq : ∀ H, call 55 [.isl 3 (Nd.encL x.kids), .fn 77 []] H = .val (.b q) H)  : EBody Tryz.prog TT 52 [x.enc] (fun r => ∃ b : Bool, r = .val (.b b)) := by
  refine ⟨Tryz.f52, _, rfl, rfl, by simp [Tryz.f52], ?_⟩
  have h0 : (Tm.init Tryz.f52.ntmps [x.enc]).get 0 = x.enc := by rw [get_init]; rfl
  have hw : (Tm.init Tryz.f52.ntmps [x.enc]).wid = 19 := rfl
  generalize Tm.init Tryz.f52.ntmps [x.enc] = t at *
  try simp only [Nd.enc_eq] at *
  refine Tri.seq' ?_
  refine Tri.regN (t' := ?t1) (H' := ?H1) TT_ok hC ?e1 ?q1
  case e1 =>
    refine go_false ?_
    refine evSeq_go rfl (by simp [h0, hq] <;> rfl) (by rfl) (by simp [hw]) ?_
    refine evSeq_go rfl (by simp [h0, hq] <;> rfl) (by rfl) (by simp [hw]) ?_
    exact evSeq_nil
  refine inSeq_norm ?_
  refine Tri.seq' ?_
  refine Tri.seq' ?_
  refine Tri.regN (t' := ?t2) (H' := ?H2) TT_ok hC ?e2 ?q2
  case e2 =>
    refine go_false ?_
    refine evSeq_go rfl (by simp [h0, hq] <;> rfl) (by rfl) (by simp [hw]) ?_
    refine evSeq_go rfl (by simp [h0, hq] <;> rfl) (by rfl) (by simp [hw]) ?_
    exact evSeq_nil
  refine inSeq_norm ?_
  refine Tri.block' ?_
  refine Tri.seq' ?_
  refine Tri.seq' ?_
  refine Tri.regN (t' := ?t3) (H' := ?H3) TT_ok hC ?e3 ?q3
  case e3 =>
    refine go_false ?_
    refine evSeq_go rfl (by simp [h0, hq] <;> rfl) (by rfl) (by simp [hw]) ?_
    refine evSeq_go rfl (by simp [h0, hq] <;> rfl) (by rfl) (by simp [hw]) ?_
    exact evSeq_nil
  refine inSeq_norm ?_
  refine Tri.condG (o := ?o4) (b := ?b4) ?g4 ?r4 ?y4 ?n4
  case g4 => simp [h0, hq] <;> rfl
  case r4 => rfl
  case y4 =>
    intro hy4
    refine Tri.skip ?_
    refine inSeq_norm ?_
    refine Tri.condG (o := ?o5) (b := ?b5) ?g5 ?r5 ?y5 ?n5
    case g5 => simp [h0, hq] <;> rfl
    case r5 => rfl
    case y5 =>
      intro hy5
      refine Tri.seq' ?_
      refine Tri.regN (t' := ?t6) (H' := ?H6) TT_ok hC ?e6 ?q6
      case e6 =>
        refine go_false ?_
        refine evSeq_go rfl (by simp [h0, hq] <;> rfl) (by rfl) (by simp [hw]) ?_
        exact evSeq_nil
      refine inSeq_norm ?_
      refine Tri.ret ?_
      refine inBlk_ret ?_
      refine inSeq_ret ?_
      exact endsB (by simp [finish, evResults, evResult, Tryz.f52] <;> rfl) (by rfl)
    case n5 =>
      intro hn5
      refine Tri.skip ?_
      refine inBlk_norm ?_
      refine inSeq_norm ?_
      refine Tri.seq' ?_
      cases hB1 : (x.kind == 34 : Bool)
      case false =>
        refine Tri.regN (t' := ?tq1f7) (H' := ?Hq1f7) TT_ok hC ?eq1f7 ?qq1f7
        case eq1f7 =>
          refine go_false ?_
          refine evSeq_go rfl (by simp [h0, hq, hB1] <;> rfl) (by rfl) (by simp [hw]) ?_
          refine evSeq_go rfl (by simp [h0, hq, hB1] <;> rfl) (by rfl) (by simp [hw]) ?_
          refine evSeq_go rfl (by simp [h0, hq, hB1] <;> rfl) (by rfl) (by simp [hw]) ?_
          refine evSeq_go rfl (by simp [h0, hq, hB1] <;> rfl) (by rfl) (by simp [hw]) ?_
          refine evSeq_off (by simp [wants, h0, hq, hB1]) (by simp [hw]) ?_
          refine evSeq_off (by simp [wants, h0, hq, hB1]) (by simp [hw]) ?_
          refine evSeq_off (by simp [wants, h0, hq, hB1]) (by simp [hw]) ?_
          refine evSeq_off (by simp [wants, h0, hq, hB1]) (by simp [hw]) ?_
          refine evSeq_go rfl (by simp [h0, hq, hB1] <;> rfl) (by rfl) (by simp [hw]) ?_
          refine evSeq_go rfl (by simp [h0, hq, hB1] <;> rfl) (by rfl) (by simp [hw]) ?_
          exact evSeq_nil
        refine inSeq_norm ?_
        refine Tri.ret ?_
        exact endsB (by simp [finish, evResults, evResult, Tryz.f52] <;> rfl) (by rfl)
      case true =>
        refine Tri.regN (t' := ?tq1t7) (H' := ?Hq1t7) TT_ok hC ?eq1t7 ?qq1t7
        case eq1t7 =>
          refine go_false ?_
          refine evSeq_go rfl (by simp [h0, hq, hB1] <;> rfl) (by rfl) (by simp [hw]) ?_
          refine evSeq_go rfl (by simp [h0, hq, hB1] <;> rfl) (by rfl) (by simp [hw]) ?_
          refine evSeq_go rfl (by simp [h0, hq, hB1] <;> rfl) (by rfl) (by simp [hw]) ?_
          refine evSeq_go rfl (by simp [h0, hq, hB1] <;> rfl) (by rfl) (by simp [hw]) ?_
          refine evSeq_go (by simp [wants, h0, hq, hB1]) (by simp [h0, hq, hB1] <;> rfl) (by rfl) (by simp [hw]) ?_
          refine evSeq_go (by simp [wants, h0, hq, hB1]) (by simp [h0, hq, hB1] <;> rfl) (by rfl) (by simp [hw]) ?_
          refine evSeq_go (by simp [wants, h0, hq, hB1]) (by simp [h0, hq, hB1] <;> rfl) (by rfl) (by simp [hw]) ?_
          refine evSeq_go (by simp [wants, h0, hq, hB1]) (by simp [h0, hq, hB1] <;> rfl) (by rfl) (by simp [hw]) ?_
          refine evSeq_go rfl (by simp [h0, hq, hB1] <;> rfl) (by rfl) (by simp [hw]) ?_
          refine evSeq_go rfl (by simp [h0, hq, hB1] <;> rfl) (by rfl) (by simp [hw]) ?_
          exact evSeq_nil
        refine inSeq_norm ?_
        refine Tri.ret ?_
        exact endsB (by simp [finish, evResults, evResult, Tryz.f52] <;> rfl) (by rfl)
  case n4 =>
    intro hn4
    refine Tri.seq' ?_
    refine Tri.regN (t' := ?t8) (H' := ?H8) TT_ok hC ?e8 ?q8
    case e8 =>
      refine go_false ?_
      refine evSeq_go rfl (by simp [h0, hq] <;> rfl) (by rfl) (by simp [hw]) ?_
      refine evSeq_go rfl (by simp [h0, hq] <;> rfl) (by rfl) (by simp [hw]) ?_
      exact evSeq_nil
    refine inSeq_norm ?_
    refine Tri.condG (o := ?o9) (b := ?b9) ?g9 ?r9 ?y9 ?n9
    case g9 => simp [h0, hq] <;> rfl
    case r9 => rfl
    case y9 =>
      intro hy9
      refine Tri.skip ?_
      refine inSeq_norm ?_
      refine Tri.condG (o := ?o10) (b := ?b10) ?g10 ?r10 ?y10 ?n10
      case g10 => simp [h0, hq] <;> rfl
      case r10 => rfl
      case y10 =>
        intro hy10
        refine Tri.seq' ?_
        refine Tri.regN (t' := ?t11) (H' := ?H11) TT_ok hC ?e11 ?q11
        case e11 =>
          refine go_false ?_
          refine evSeq_go rfl (by simp [h0, hq] <;> rfl) (by rfl) (by simp [hw]) ?_
          exact evSeq_nil
        refine inSeq_norm ?_
        refine Tri.ret ?_
        refine inBlk_ret ?_
        refine inSeq_ret ?_
        exact endsB (by simp [finish, evResults, evResult, Tryz.f52] <;> rfl) (by rfl)
      case n10 =>
        intro hn10
        refine Tri.skip ?_
        refine inBlk_norm ?_
        refine inSeq_norm ?_
        refine Tri.seq' ?_
        cases hB2 : (x.kind == 34 : Bool)
        case false =>
          refine Tri.regN (t' := ?tq2f12) (H' := ?Hq2f12) TT_ok hC ?eq2f12 ?qq2f12
          case eq2f12 =>
            refine go_false ?_
            refine evSeq_go rfl (by simp [h0, hq, hB2] <;> rfl) (by rfl) (by simp [hw]) ?_
            refine evSeq_go rfl (by simp [h0, hq, hB2] <;> rfl) (by rfl) (by simp [hw]) ?_
            refine evSeq_go rfl (by simp [h0, hq, hB2] <;> rfl) (by rfl) (by simp [hw]) ?_
            refine evSeq_go rfl (by simp [h0, hq, hB2] <;> rfl) (by rfl) (by simp [hw]) ?_
            refine evSeq_off (by simp [wants, h0, hq, hB2]) (by simp [hw]) ?_
            refine evSeq_off (by simp [wants, h0, hq, hB2]) (by simp [hw]) ?_
            refine evSeq_off (by simp [wants, h0, hq, hB2]) (by simp [hw]) ?_
            refine evSeq_off (by simp [wants, h0, hq, hB2]) (by simp [hw]) ?_
            refine evSeq_go rfl (by simp [h0, hq, hB2] <;> rfl) (by rfl) (by simp [hw]) ?_
            refine evSeq_go rfl (by simp [h0, hq, hB2] <;> rfl) (by rfl) (by simp [hw]) ?_
            exact evSeq_nil
          refine inSeq_norm ?_
          refine Tri.ret ?_
          exact endsB (by simp [finish, evResults, evResult, Tryz.f52] <;> rfl) (by rfl)
        case true =>
          refine Tri.regN (t' := ?tq2t12) (H' := ?Hq2t12) TT_ok hC ?eq2t12 ?qq2t12
          case eq2t12 =>
            refine go_false ?_
            refine evSeq_go rfl (by simp [h0, hq, hB2] <;> rfl) (by rfl) (by simp [hw]) ?_
            refine evSeq_go rfl (by simp [h0, hq, hB2] <;> rfl) (by rfl) (by simp [hw]) ?_
            refine evSeq_go rfl (by simp [h0, hq, hB2] <;> rfl) (by rfl) (by simp [hw]) ?_
            refine evSeq_go rfl (by simp [h0, hq, hB2] <;> rfl) (by rfl) (by simp [hw]) ?_
            refine evSeq_go (by simp [wants, h0, hq, hB2]) (by simp [h0, hq, hB2] <;> rfl) (by rfl) (by simp [hw]) ?_
            refine evSeq_go (by simp [wants, h0, hq, hB2]) (by simp [h0, hq, hB2] <;> rfl) (by rfl) (by simp [hw]) ?_
            refine evSeq_go (by simp [wants, h0, hq, hB2]) (by simp [h0, hq, hB2] <;> rfl) (by rfl) (by simp [hw]) ?_
            refine evSeq_go (by simp [wants, h0, hq, hB2]) (by simp [h0, hq, hB2] <;> rfl) (by rfl) (by simp [hw]) ?_
            refine evSeq_go rfl (by simp [h0, hq, hB2] <;> rfl) (by rfl) (by simp [hw]) ?_
            refine evSeq_go rfl (by simp [h0, hq, hB2] <;> rfl) (by rfl) (by simp [hw]) ?_
            exact evSeq_nil
          refine inSeq_norm ?_
          refine Tri.ret ?_
          exact endsB (by simp [finish, evResults, evResult, Tryz.f52] <;> rfl) (by rfl)
    case n9 =>
      intro hn9
      refine Tri.seq' ?_
      refine Tri.regN (t' := ?t13) (H' := ?H13) TT_ok hC ?e13 ?q13
      case e13 =>
        refine go_false ?_
        refine evSeq_go rfl (by simp [h0, hq] <;> rfl) (by rfl) (by simp [hw]) ?_
        refine evSeq_go rfl (by simp [h0, hq] <;> rfl) (by rfl) (by simp [hw]) ?_
        exact evSeq_nil
      refine inSeq_norm ?_
      refine Tri.condG (o := ?o14) (b := ?b14) ?g14 ?r14 ?y14 ?n14
      case g14 => simp [h0, hq] <;> rfl
      case r14 => rfl
      case y14 =>
        intro hy14
        refine Tri.skip ?_
        refine inSeq_norm ?_
        refine Tri.condG (o := ?o15) (b := ?b15) ?g15 ?r15 ?y15 ?n15
        case g15 => simp [h0, hq] <;> rfl
        case r15 => rfl
        case y15 =>
          intro hy15
          refine Tri.seq' ?_
          refine Tri.regN (t' := ?t16) (H' := ?H16) TT_ok hC ?e16 ?q16
          case e16 =>
            refine go_false ?_
            refine evSeq_go rfl (by simp [h0, hq] <;> rfl) (by rfl) (by simp [hw]) ?_
            exact evSeq_nil
          refine inSeq_norm ?_
          refine Tri.ret ?_
          refine inBlk_ret ?_
          refine inSeq_ret ?_
          exact endsB (by simp [finish, evResults, evResult, Tryz.f52] <;> rfl) (by rfl)
        case n15 =>
          intro hn15
          refine Tri.skip ?_
          refine inBlk_norm ?_
          refine inSeq_norm ?_
          refine Tri.seq' ?_
          cases hB3 : (x.kind == 34 : Bool)
          case false =>
            refine Tri.regN (t' := ?tq3f17) (H' := ?Hq3f17) TT_ok hC ?eq3f17 ?qq3f17
            case eq3f17 =>
              refine go_false ?_
              refine evSeq_go rfl (by simp [h0, hq, hB3] <;> rfl) (by rfl) (by simp [hw]) ?_
              refine evSeq_go rfl (by simp [h0, hq, hB3] <;> rfl) (by rfl) (by simp [hw]) ?_
              refine evSeq_go rfl (by simp [h0, hq, hB3] <;> rfl) (by rfl) (by simp [hw]) ?_
              refine evSeq_go rfl (by simp [h0, hq, hB3] <;> rfl) (by rfl) (by simp [hw]) ?_
              refine evSeq_off (by simp [wants, h0, hq, hB3]) (by simp [hw]) ?_
              refine evSeq_off (by simp [wants, h0, hq, hB3]) (by simp [hw]) ?_
              refine evSeq_off (by simp [wants, h0, hq, hB3]) (by simp [hw]) ?_
              refine evSeq_off (by simp [wants, h0, hq, hB3]) (by simp [hw]) ?_
              refine evSeq_go rfl (by simp [h0, hq, hB3] <;> rfl) (by rfl) (by simp [hw]) ?_
              refine evSeq_go rfl (by simp [h0, hq, hB3] <;> rfl) (by rfl) (by simp [hw]) ?_
              exact evSeq_nil
            refine inSeq_norm ?_
            refine Tri.ret ?_
            exact endsB (by simp [finish, evResults, evResult, Tryz.f52] <;> rfl) (by rfl)
          case true =>
            refine Tri.regN (t' := ?tq3t17) (H' := ?Hq3t17) TT_ok hC ?eq3t17 ?qq3t17
            case eq3t17 =>
              refine go_false ?_
              refine evSeq_go rfl (by simp [h0, hq, hB3] <;> rfl) (by rfl) (by simp [hw]) ?_
              refine evSeq_go rfl (by simp [h0, hq, hB3] <;> rfl) (by rfl) (by simp [hw]) ?_
              refine evSeq_go rfl (by simp [h0, hq, hB3] <;> rfl) (by rfl) (by simp [hw]) ?_
              refine evSeq_go rfl (by simp [h0, hq, hB3] <;> rfl) (by rfl) (by simp [hw]) ?_
              refine evSeq_go (by simp [wants, h0, hq, hB3]) (by simp [h0, hq, hB3] <;> rfl) (by rfl) (by simp [hw]) ?_
              refine evSeq_go (by simp [wants, h0, hq, hB3]) (by simp [h0, hq, hB3] <;> rfl) (by rfl) (by simp [hw]) ?_
              refine evSeq_go (by simp [wants, h0, hq, hB3]) (by simp [h0, hq, hB3] <;> rfl) (by rfl) (by simp [hw]) ?_
              refine evSeq_go (by simp [wants, h0, hq, hB3]) (by simp [h0, hq, hB3] <;> rfl) (by rfl) (by simp [hw]) ?_
              refine evSeq_go rfl (by simp [h0, hq, hB3] <;> rfl) (by rfl) (by simp [hw]) ?_
              refine evSeq_go rfl (by simp [h0, hq, hB3] <;> rfl) (by rfl) (by simp [hw]) ?_
              exact evSeq_nil
            refine inSeq_norm ?_
            refine Tri.ret ?_
            exact endsB (by simp [finish, evResults, evResult, Tryz.f52] <;> rfl) (by rfl)
      case n14 =>
        intro hn14
        refine Tri.regN (t' := ?t18) (H' := ?H18) TT_ok hC ?e18 ?q18
        case e18 =>
          refine go_false ?_
          refine evSeq_go rfl (by simp [h0, hq] <;> rfl) (by rfl) (by simp [hw]) ?_
          refine evSeq_go rfl (by simp [h0, hq] <;> rfl) (by rfl) (by simp [hw]) ?_
          exact evSeq_nil
        refine inSeq_norm ?_
        refine Tri.condG (o := ?o19) (b := ?b19) ?g19 ?r19 ?y19 ?n19
        case g19 => simp [h0, hq] <;> rfl
        case r19 => rfl
        case y19 =>
          intro hy19
          refine Tri.seq' ?_
          refine Tri.regN (t' := ?t20) (H' := ?H20) TT_ok hC ?e20 ?q20
          case e20 =>
            refine go_false ?_
            refine evSeq_go rfl (by simp [h0, hq] <;> rfl) (by rfl) (by simp [hw]) ?_
            exact evSeq_nil
          refine inSeq_norm ?_
          refine Tri.ret ?_
          refine inBlk_ret ?_
          refine inSeq_ret ?_
          exact endsB (by simp [finish, evResults, evResult, Tryz.f52] <;> rfl) (by rfl)
        case n19 =>
          intro hn19
          refine Tri.skip ?_
          refine inBlk_norm ?_
          refine inSeq_norm ?_
          refine Tri.seq' ?_
          cases hB4 : (x.kind == 34 : Bool)
          case false =>
            refine Tri.regN (t' := ?tq4f21) (H' := ?Hq4f21) TT_ok hC ?eq4f21 ?qq4f21
            case eq4f21 =>
              refine go_false ?_
              refine evSeq_go rfl (by simp [h0, hq, hB4] <;> rfl) (by rfl) (by simp [hw]) ?_
              refine evSeq_go rfl (by simp [h0, hq, hB4] <;> rfl) (by rfl) (by simp [hw]) ?_
              refine evSeq_go rfl (by simp [h0, hq, hB4] <;> rfl) (by rfl) (by simp [hw]) ?_
              refine evSeq_go rfl (by simp [h0, hq, hB4] <;> rfl) (by rfl) (by simp [hw]) ?_
              refine evSeq_off (by simp [wants, h0, hq, hB4]) (by simp [hw]) ?_
              refine evSeq_off (by simp [wants, h0, hq, hB4]) (by simp [hw]) ?_
              refine evSeq_off (by simp [wants, h0, hq, hB4]) (by simp [hw]) ?_
              refine evSeq_off (by simp [wants, h0, hq, hB4]) (by simp [hw]) ?_
              refine evSeq_go rfl (by simp [h0, hq, hB4] <;> rfl) (by rfl) (by simp [hw]) ?_
              refine evSeq_go rfl (by simp [h0, hq, hB4] <;> rfl) (by rfl) (by simp [hw]) ?_
              exact evSeq_nil
            refine inSeq_norm ?_
            refine Tri.ret ?_
            exact endsB (by simp [finish, evResults, evResult, Tryz.f52] <;> rfl) (by rfl)
          case true =>
            refine Tri.regN (t' := ?tq4t21) (H' := ?Hq4t21) TT_ok hC ?eq4t21 ?qq4t21
            case eq4t21 =>
              refine go_false ?_
              refine evSeq_go rfl (by simp [h0, hq, hB4] <;> rfl) (by rfl) (by simp [hw]) ?_
              refine evSeq_go rfl (by simp [h0, hq, hB4] <;> rfl) (by rfl) (by simp [hw]) ?_
              refine evSeq_go rfl (by simp [h0, hq, hB4] <;> rfl) (by rfl) (by simp [hw]) ?_
              refine evSeq_go rfl (by simp [h0, hq, hB4] <;> rfl) (by rfl) (by simp [hw]) ?_
              refine evSeq_go (by simp [wants, h0, hq, hB4]) (by simp [h0, hq, hB4] <;> rfl) (by rfl) (by simp [hw]) ?_
              refine evSeq_go (by simp [wants, h0, hq, hB4]) (by simp [h0, hq, hB4] <;> rfl) (by rfl) (by simp [hw]) ?_
              refine evSeq_go (by simp [wants, h0, hq, hB4]) (by simp [h0, hq, hB4] <;> rfl) (by rfl) (by simp [hw]) ?_
              refine evSeq_go (by simp [wants, h0, hq, hB4]) (by simp [h0, hq, hB4] <;> rfl) (by rfl) (by simp [hw]) ?_
              refine evSeq_go rfl (by simp [h0, hq, hB4] <;> rfl) (by rfl) (by simp [hw]) ?_
              refine evSeq_go rfl (by simp [h0, hq, hB4] <;> rfl) (by rfl) (by simp [hw]) ?_
              exact evSeq_nil
            refine inSeq_norm ?_
            refine Tri.ret ?_
            exact endsB (by simp [finish, evResults, evResult, Tryz.f52] <;> rfl) (by rfl)
theorem shCells_nl : nlL shCells = true := by kernel_rfl

theorem body_16f {call : CallF} (hC : call.Sound Tryz.prog TT) (x : Nd) (hs : ∀ H, call 54 [.ipt 285 [.agg shCells] 0 0, x.enc] H = .val (.b false) H)  : EBody Tryz.prog TT 32 [.ipt 285 [.agg shCells] 0 0, x.enc] (fun r => ∃ b : Bool, r = .val (.b b)) := by
  refine ⟨Tryz.f32, _, rfl, rfl, by simp [Tryz.f32], ?_⟩
  have h0 : (Tm.init Tryz.f32.ntmps [.ipt 285 [.agg shCells] 0 0, x.enc]).get 0 = .ipt 285 [.agg shCells] 0 0 := by rw [get_init]; rfl
  have h1 : (Tm.init Tryz.f32.ntmps [.ipt 285 [.agg shCells] 0 0, x.enc]).get 1 = x.enc := by rw [get_init]; rfl
  have hw : (Tm.init Tryz.f32.ntmps [.ipt 285 [.agg shCells] 0 0, x.enc]).wid = 15 := rfl
  generalize Tm.init Tryz.f32.ntmps [.ipt 285 [.agg shCells] 0 0, x.enc] = t at *
  try simp only [Nd.enc_eq] at *
  refine Tri.seq' ?_
  refine Tri.regN (t' := ?t1) (H' := ?H1) TT_ok hC ?e1 ?q1
  case e1 =>
    refine go_false ?_
    refine evSeq_go rfl (by simp [h0, h1, hs] <;> rfl) (by rfl) (by simp [hw]) ?_
    refine evSeq_go rfl (by simp [h0, h1, hs] <;> rfl) (by rfl) (by simp [hw]) ?_
    refine evSeq_go rfl (by simp [h0, h1, hs] <;> rfl) (by rfl) (by simp [hw]) ?_
    exact evSeq_nil
  refine inSeq_norm ?_
  refine Tri.seq' ?_
  refine Tri.regN (t' := ?t2) (H' := ?H2) TT_ok hC ?e2 ?q2
  case e2 =>
    refine go_false ?_
    refine evSeq_go rfl (by simp [h0, h1, hs] <;> rfl) (by rfl) (by simp [hw]) ?_
    refine evSeq_go rfl (by simp [h0, h1, hs] <;> rfl) (by rfl) (by simp [hw]) ?_
    refine evSeq_go rfl (by simp [h0, h1, hs] <;> rfl) (by rfl) (by simp [hw]) ?_
    refine evSeq_go rfl (by simp [h0, h1, hs] <;> rfl) (by rfl) (by simp [hw]) ?_
    refine evSeq_off (by simp [wants, h0, h1, hs]) (by simp [hw]) ?_
    refine evSeq_off (by simp [wants, h0, h1, hs]) (by simp [hw]) ?_
    refine evSeq_off (by simp [wants, h0, h1, hs]) (by simp [hw]) ?_
    refine evSeq_off (by simp [wants, h0, h1, hs]) (by simp [hw]) ?_
    refine evSeq_off (by simp [wants, h0, h1, hs]) (by simp [hw]) ?_
    refine evSeq_go rfl (by simp [h0, h1, hs] <;> rfl) (by rfl) (by simp [hw]) ?_
    refine evSeq_go rfl (by simp [h0, h1, hs] <;> rfl) (by rfl) (by simp [hw]) ?_
    exact evSeq_nil
  refine inSeq_norm ?_
  refine Tri.ret ?_
  exact endsB (by simp [finish, evResults, evResult, Tryz.f32] <;> rfl) (by rfl)
theorem body_16t {call : CallF} (hC : call.Sound Tryz.prog TT) (x : Nd) (q : Bool) (hs : ∀ H, call 54 [.ipt 285 [.agg shCells] 0 0, x.enc] H = .val (.b true) H) (hq : ∀ H, call 55 [.isl 3 (Nd.encL x.kids), .fn 56 [.ipt 1 [.agg [.ipt 285 [.agg shCells] 0 0]] 0 0]] H = .val (.b q) H)  : EBody Tryz.prog TT 32 [.ipt 285 [.agg shCells] 0 0, x.enc] (fun r => ∃ b : Bool, r = .val (.b b)) := by
  refine ⟨Tryz.f32, _, rfl, rfl, by simp [Tryz.f32], ?_⟩
  have h0 : (Tm.init Tryz.f32.ntmps [.ipt 285 [.agg shCells] 0 0, x.enc]).get 0 = .ipt 285 [.agg shCells] 0 0 := by rw [get_init]; rfl
  have h1 : (Tm.init Tryz.f32.ntmps [.ipt 285 [.agg shCells] 0 0, x.enc]).get 1 = x.enc := by rw [get_init]; rfl
  have hw : (Tm.init Tryz.f32.ntmps [.ipt 285 [.agg shCells] 0 0, x.enc]).wid = 15 := rfl
  generalize Tm.init Tryz.f32.ntmps [.ipt 285 [.agg shCells] 0 0, x.enc] = t at *
  try simp only [Nd.enc_eq] at *
  refine Tri.seq' ?_
  refine Tri.regN (t' := ?t1) (H' := ?H1) TT_ok hC ?e1 ?q1
  case e1 =>
    refine go_false ?_
    refine evSeq_go rfl (by simp [h0, h1, hs, hq] <;> rfl) (by rfl) (by simp [hw]) ?_
    refine evSeq_go rfl (by simp [h0, h1, hs, hq] <;> rfl) (by rfl) (by simp [hw]) ?_
    refine evSeq_go rfl (by simp [h0, h1, hs, hq] <;> rfl) (by rfl) (by simp [hw]) ?_
    exact evSeq_nil
  refine inSeq_norm ?_
  refine Tri.seq' ?_
  refine Tri.freeze_put2 2 3 30 (v := .ipt 1 [.agg [.ipt 285 [.agg shCells] 0 0]] 0 0) (u := .ipt 3 [.agg [.i .i64 x.kind, .s x.text, .isl 3 (Nd.encL x.kids)]] 0 0) (by simp [fz, fzL, nl, nlL, shCells_nl, Nd.encL_nl, h0, h1] <;> rfl) (by simp [fz, fzL, nl, nlL, Nd.encL_nl, h0, h1] <;> rfl) ?_
  refine Tri.regN (t' := ?t2) (H' := ?H2) TT_ok hC ?e2 ?q2
  case e2 =>
    refine go_false ?_
    refine evSeq_go rfl (by simp [h0, h1, hs, hq] <;> rfl) (by rfl) (by simp [hw]) ?_
    refine evSeq_go rfl (by simp [h0, h1, hs, hq] <;> rfl) (by rfl) (by simp [hw]) ?_
    refine evSeq_go rfl (by simp [h0, h1, hs, hq] <;> rfl) (by rfl) (by simp [hw]) ?_
    refine evSeq_go rfl (by simp [h0, h1, hs, hq] <;> rfl) (by rfl) (by simp [hw]) ?_
    refine evSeq_go (by simp [wants, h0, h1, hs, hq]) (by simp [h0, h1, hs, hq] <;> rfl) (by rfl) (by simp [hw]) ?_
    refine evSeq_go (by simp [wants, h0, h1, hs, hq]) (by simp [h0, h1, hs, hq] <;> rfl) (by rfl) (by simp [hw]) ?_
    refine evSeq_go (by simp [wants, h0, h1, hs, hq]) (by simp [h0, h1, hs, hq] <;> rfl) (by rfl) (by simp [hw]) ?_
    refine evSeq_go (by simp [wants, h0, h1, hs, hq]) (by simp [h0, h1, hs, hq] <;> rfl) (by rfl) (by simp [hw]) ?_
    refine evSeq_go (by simp [wants, h0, h1, hs, hq]) (by simp [h0, h1, hs, hq] <;> rfl) (by rfl) (by simp [hw]) ?_
    refine evSeq_go rfl (by simp [h0, h1, hs, hq] <;> rfl) (by rfl) (by simp [hw]) ?_
    refine evSeq_go rfl (by simp [h0, h1, hs, hq] <;> rfl) (by rfl) (by simp [hw]) ?_
    exact evSeq_nil
  refine inSeq_norm ?_
  refine Tri.ret ?_
  exact endsB (by simp [finish, evResults, evResult, Tryz.f32] <;> rfl) (by rfl)
end Go.Ev
