/- Walks over the law. -/
import Derived.Test.YtddpjgoboboidaaGreatDoorRfS
import Derived.Test.YtddpjgoboboidaaGreatDoorAw
namespace Go.Ev
open Go Go.Proofs
set_option maxRecDepth 100000
set_option linter.unusedSimpArgs false
set_option linter.unusedVariables false
theorem body_1003n1 {call : CallF} (hC : call.Sound Tryz.prog TT) (x y : Nd) (p : List Int) (sx : ∀ H, call 6 [x.enc, .i .i64 200] H = .val (.b false) H) (sw : ∀ H, call 7 [] H = .val (.b true) H)   : Body Tryz.prog TT 3 [x.enc, y.enc, .isl 1 (encI p)] (.val (.b true)) := by
  refine ⟨Tryz.f3, _, rfl, rfl, by simp [Tryz.f3], ?_⟩
  have h0 : (Tm.init Tryz.f3.ntmps [x.enc, y.enc, .isl 1 (encI p)]).get 0 = x.enc := by rw [get_init]; rfl
  have h1 : (Tm.init Tryz.f3.ntmps [x.enc, y.enc, .isl 1 (encI p)]).get 1 = y.enc := by rw [get_init]; rfl
  have h2 : (Tm.init Tryz.f3.ntmps [x.enc, y.enc, .isl 1 (encI p)]).get 2 = .isl 1 (encI p) := by rw [get_init]; rfl
  have hw : (Tm.init Tryz.f3.ntmps [x.enc, y.enc, .isl 1 (encI p)]).wid = 85 := rfl
  generalize Tm.init Tryz.f3.ntmps [x.enc, y.enc, .isl 1 (encI p)] = t at *
  try simp only [Nd.enc_eq] at *
  refine Tri.seq' ?_
  refine Tri.regN (t' := ?t1) (H' := ?H1) TT_ok hC ?e1 ?q1
  case e1 =>
    refine go_false ?_
    refine evSeq_go rfl (by simp [h0, h1, h2, sx, sw] <;> rfl) (by rfl) (by simp [fits_some, fits_none, hw, Nat.blt_eq]) ?_
    refine evSeq_go rfl (by simp [h0, h1, h2, sx, sw] <;> rfl) (by rfl) (by simp [fits_some, fits_none, hw, Nat.blt_eq]) ?_
    refine evSeq_go rfl (by simp [h0, h1, h2, sx, sw] <;> rfl) (by rfl) (by simp [fits_some, fits_none, hw, Nat.blt_eq]) ?_
    exact evSeq_nil
  refine inSeq_norm ?_
  refine Tri.seq' ?_
  refine Tri.seq' ?_
  refine Tri.regN (t' := ?t2) (H' := ?H2) TT_ok hC ?e2 ?q2
  case e2 =>
    refine go_false ?_
    refine evSeq_go rfl (by simp [h0, h1, h2, sx, sw] <;> rfl) (by rfl) (by simp [fits_some, fits_none, hw, Nat.blt_eq]) ?_
    refine evSeq_go rfl (by simp [h0, h1, h2, sx, sw] <;> rfl) (by rfl) (by simp [fits_some, fits_none, hw, Nat.blt_eq]) ?_
    refine evSeq_go rfl (by simp [h0, h1, h2, sx, sw] <;> rfl) (by rfl) (by simp [fits_some, fits_none, hw, Nat.blt_eq]) ?_
    refine evSeq_go rfl (by simp [h0, h1, h2, sx, sw] <;> rfl) (by rfl) (by simp [fits_some, fits_none, hw, Nat.blt_eq]) ?_
    refine evSeq_off (by simp [wants, h0, h1, h2, sx, sw]) (by simp [fits_some, fits_none, hw, Nat.blt_eq]) ?_
    refine evSeq_off (by simp [wants, h0, h1, h2, sx, sw]) (by simp [fits_some, fits_none, hw, Nat.blt_eq]) ?_
    refine evSeq_off (by simp [wants, h0, h1, h2, sx, sw]) (by simp [fits_some, fits_none, hw, Nat.blt_eq]) ?_
    refine evSeq_go rfl (by simp [h0, h1, h2, sx, sw] <;> rfl) (by rfl) (by simp [fits_some, fits_none, hw, Nat.blt_eq]) ?_
    refine evSeq_go rfl (by simp [h0, h1, h2, sx, sw] <;> rfl) (by rfl) (by simp [fits_some, fits_none, hw, Nat.blt_eq]) ?_
    refine evSeq_off (by simp [wants, h0, h1, h2, sx, sw]) (by simp [fits_some, fits_none, hw, Nat.blt_eq]) ?_
    refine evSeq_off (by simp [wants, h0, h1, h2, sx, sw]) (by simp [fits_some, fits_none, hw, Nat.blt_eq]) ?_
    refine evSeq_off (by simp [wants, h0, h1, h2, sx, sw]) (by simp [fits_some, fits_none, hw, Nat.blt_eq]) ?_
    refine evSeq_go rfl (by simp [h0, h1, h2, sx, sw] <;> rfl) (by rfl) (by simp [fits_some, fits_none, hw, Nat.blt_eq]) ?_
    exact evSeq_nil
  refine inSeq_norm ?_
  refine Tri.condG (o := ?o3) (b := ?b3) ?g3 ?r3 ?y3 ?n3
  case g3 => simp [h0, h1, h2, sx, sw] <;> rfl
  case r3 => rfl
  case y3 =>
    intro hy3
    refine Tri.seq' ?_
    refine Tri.regN (t' := ?t4) (H' := ?H4) TT_ok hC ?e4 ?q4
    case e4 =>
      refine go_false ?_
      refine evSeq_go rfl (by simp [h0, h1, h2, sx, sw] <;> rfl) (by rfl) (by simp [fits_some, fits_none, hw, Nat.blt_eq]) ?_
      refine evSeq_go rfl (by simp [h0, h1, h2, sx, sw] <;> rfl) (by rfl) (by simp [fits_some, fits_none, hw, Nat.blt_eq]) ?_
      exact evSeq_nil
    refine inSeq_norm ?_
    refine Tri.ret ?_
    refine inSeq_ret ?_
    simp [Ends, finish, evResults, evResult, Tryz.f3, h0, h1, h2, sx, sw]
  case n3 =>
    intro hn3
    exact absurd hn3 (by simp [h0, h1, h2, sx, sw])
theorem body_1003n2 {call : CallF} (hC : call.Sound Tryz.prog TT) (x y : Nd) (p : List Int) (sx : ∀ H, call 6 [x.enc, .i .i64 200] H = .val (.b true) H) (sy : ∀ H, call 6 [y.enc, .i .i64 200] H = .val (.b false) H) (sw : ∀ H, call 7 [] H = .val (.b true) H)   : Body Tryz.prog TT 3 [x.enc, y.enc, .isl 1 (encI p)] (.val (.b true)) := by
  refine ⟨Tryz.f3, _, rfl, rfl, by simp [Tryz.f3], ?_⟩
  have h0 : (Tm.init Tryz.f3.ntmps [x.enc, y.enc, .isl 1 (encI p)]).get 0 = x.enc := by rw [get_init]; rfl
  have h1 : (Tm.init Tryz.f3.ntmps [x.enc, y.enc, .isl 1 (encI p)]).get 1 = y.enc := by rw [get_init]; rfl
  have h2 : (Tm.init Tryz.f3.ntmps [x.enc, y.enc, .isl 1 (encI p)]).get 2 = .isl 1 (encI p) := by rw [get_init]; rfl
  have hw : (Tm.init Tryz.f3.ntmps [x.enc, y.enc, .isl 1 (encI p)]).wid = 85 := rfl
  generalize Tm.init Tryz.f3.ntmps [x.enc, y.enc, .isl 1 (encI p)] = t at *
  try simp only [Nd.enc_eq] at *
  refine Tri.seq' ?_
  refine Tri.regN (t' := ?t1) (H' := ?H1) TT_ok hC ?e1 ?q1
  case e1 =>
    refine go_false ?_
    refine evSeq_go rfl (by simp [h0, h1, h2, sx, sy, sw] <;> rfl) (by rfl) (by simp [fits_some, fits_none, hw, Nat.blt_eq]) ?_
    refine evSeq_go rfl (by simp [h0, h1, h2, sx, sy, sw] <;> rfl) (by rfl) (by simp [fits_some, fits_none, hw, Nat.blt_eq]) ?_
    refine evSeq_go rfl (by simp [h0, h1, h2, sx, sy, sw] <;> rfl) (by rfl) (by simp [fits_some, fits_none, hw, Nat.blt_eq]) ?_
    exact evSeq_nil
  refine inSeq_norm ?_
  refine Tri.seq' ?_
  refine Tri.seq' ?_
  refine Tri.regN (t' := ?t2) (H' := ?H2) TT_ok hC ?e2 ?q2
  case e2 =>
    refine go_false ?_
    refine evSeq_go rfl (by simp [h0, h1, h2, sx, sy, sw] <;> rfl) (by rfl) (by simp [fits_some, fits_none, hw, Nat.blt_eq]) ?_
    refine evSeq_go rfl (by simp [h0, h1, h2, sx, sy, sw] <;> rfl) (by rfl) (by simp [fits_some, fits_none, hw, Nat.blt_eq]) ?_
    refine evSeq_go rfl (by simp [h0, h1, h2, sx, sy, sw] <;> rfl) (by rfl) (by simp [fits_some, fits_none, hw, Nat.blt_eq]) ?_
    refine evSeq_go rfl (by simp [h0, h1, h2, sx, sy, sw] <;> rfl) (by rfl) (by simp [fits_some, fits_none, hw, Nat.blt_eq]) ?_
    refine evSeq_go (by simp [wants, h0, h1, h2, sx, sy, sw]) (by simp [h0, h1, h2, sx, sy, sw] <;> rfl) (by rfl) (by simp [fits_some, fits_none, hw, Nat.blt_eq]) ?_
    refine evSeq_go (by simp [wants, h0, h1, h2, sx, sy, sw]) (by simp [h0, h1, h2, sx, sy, sw] <;> rfl) (by rfl) (by simp [fits_some, fits_none, hw, Nat.blt_eq]) ?_
    refine evSeq_go (by simp [wants, h0, h1, h2, sx, sy, sw]) (by simp [h0, h1, h2, sx, sy, sw] <;> rfl) (by rfl) (by simp [fits_some, fits_none, hw, Nat.blt_eq]) ?_
    refine evSeq_go rfl (by simp [h0, h1, h2, sx, sy, sw] <;> rfl) (by rfl) (by simp [fits_some, fits_none, hw, Nat.blt_eq]) ?_
    refine evSeq_go rfl (by simp [h0, h1, h2, sx, sy, sw] <;> rfl) (by rfl) (by simp [fits_some, fits_none, hw, Nat.blt_eq]) ?_
    refine evSeq_off (by simp [wants, h0, h1, h2, sx, sy, sw]) (by simp [fits_some, fits_none, hw, Nat.blt_eq]) ?_
    refine evSeq_off (by simp [wants, h0, h1, h2, sx, sy, sw]) (by simp [fits_some, fits_none, hw, Nat.blt_eq]) ?_
    refine evSeq_off (by simp [wants, h0, h1, h2, sx, sy, sw]) (by simp [fits_some, fits_none, hw, Nat.blt_eq]) ?_
    refine evSeq_go rfl (by simp [h0, h1, h2, sx, sy, sw] <;> rfl) (by rfl) (by simp [fits_some, fits_none, hw, Nat.blt_eq]) ?_
    exact evSeq_nil
  refine inSeq_norm ?_
  refine Tri.condG (o := ?o3) (b := ?b3) ?g3 ?r3 ?y3 ?n3
  case g3 => simp [h0, h1, h2, sx, sy, sw] <;> rfl
  case r3 => rfl
  case y3 =>
    intro hy3
    refine Tri.seq' ?_
    refine Tri.regN (t' := ?t4) (H' := ?H4) TT_ok hC ?e4 ?q4
    case e4 =>
      refine go_false ?_
      refine evSeq_go rfl (by simp [h0, h1, h2, sx, sy, sw] <;> rfl) (by rfl) (by simp [fits_some, fits_none, hw, Nat.blt_eq]) ?_
      refine evSeq_go rfl (by simp [h0, h1, h2, sx, sy, sw] <;> rfl) (by rfl) (by simp [fits_some, fits_none, hw, Nat.blt_eq]) ?_
      exact evSeq_nil
    refine inSeq_norm ?_
    refine Tri.ret ?_
    refine inSeq_ret ?_
    simp [Ends, finish, evResults, evResult, Tryz.f3, h0, h1, h2, sx, sy, sw]
  case n3 =>
    intro hn3
    exact absurd hn3 (by simp [h0, h1, h2, sx, sy, sw])
theorem body_1003n3 {call : CallF} (hC : call.Sound Tryz.prog TT) (x y : Nd) (p : List Int) (sx : ∀ H, call 6 [x.enc, .i .i64 200] H = .val (.b true) H) (sy : ∀ H, call 6 [y.enc, .i .i64 200] H = .val (.b true) H) (sw : ∀ H, call 7 [] H = .val (.b true) H) (hl : (30 : Int) < p.length)   : Body Tryz.prog TT 3 [x.enc, y.enc, .isl 1 (encI p)] (.val (.b true)) := by
  refine ⟨Tryz.f3, _, rfl, rfl, by simp [Tryz.f3], ?_⟩
  have h0 : (Tm.init Tryz.f3.ntmps [x.enc, y.enc, .isl 1 (encI p)]).get 0 = x.enc := by rw [get_init]; rfl
  have h1 : (Tm.init Tryz.f3.ntmps [x.enc, y.enc, .isl 1 (encI p)]).get 1 = y.enc := by rw [get_init]; rfl
  have h2 : (Tm.init Tryz.f3.ntmps [x.enc, y.enc, .isl 1 (encI p)]).get 2 = .isl 1 (encI p) := by rw [get_init]; rfl
  have hw : (Tm.init Tryz.f3.ntmps [x.enc, y.enc, .isl 1 (encI p)]).wid = 85 := rfl
  generalize Tm.init Tryz.f3.ntmps [x.enc, y.enc, .isl 1 (encI p)] = t at *
  try simp only [Nd.enc_eq] at *
  refine Tri.seq' ?_
  refine Tri.regN (t' := ?t1) (H' := ?H1) TT_ok hC ?e1 ?q1
  case e1 =>
    refine go_false ?_
    refine evSeq_go rfl (by simp [h0, h1, h2, sx, sy, sw, hl, encI_length] <;> rfl) (by rfl) (by simp [fits_some, fits_none, hw, Nat.blt_eq]) ?_
    refine evSeq_go rfl (by simp [h0, h1, h2, sx, sy, sw, hl, encI_length] <;> rfl) (by rfl) (by simp [fits_some, fits_none, hw, Nat.blt_eq]) ?_
    refine evSeq_go rfl (by simp [h0, h1, h2, sx, sy, sw, hl, encI_length] <;> rfl) (by rfl) (by simp [fits_some, fits_none, hw, Nat.blt_eq]) ?_
    exact evSeq_nil
  refine inSeq_norm ?_
  refine Tri.seq' ?_
  refine Tri.seq' ?_
  refine Tri.regN (t' := ?t2) (H' := ?H2) TT_ok hC ?e2 ?q2
  case e2 =>
    refine go_false ?_
    refine evSeq_go rfl (by simp [h0, h1, h2, sx, sy, sw, hl, encI_length] <;> rfl) (by rfl) (by simp [fits_some, fits_none, hw, Nat.blt_eq]) ?_
    refine evSeq_go rfl (by simp [h0, h1, h2, sx, sy, sw, hl, encI_length] <;> rfl) (by rfl) (by simp [fits_some, fits_none, hw, Nat.blt_eq]) ?_
    refine evSeq_go rfl (by simp [h0, h1, h2, sx, sy, sw, hl, encI_length] <;> rfl) (by rfl) (by simp [fits_some, fits_none, hw, Nat.blt_eq]) ?_
    refine evSeq_go rfl (by simp [h0, h1, h2, sx, sy, sw, hl, encI_length] <;> rfl) (by rfl) (by simp [fits_some, fits_none, hw, Nat.blt_eq]) ?_
    refine evSeq_go (by simp [wants, h0, h1, h2, sx, sy, sw, hl, encI_length]) (by simp [h0, h1, h2, sx, sy, sw, hl, encI_length] <;> rfl) (by rfl) (by simp [fits_some, fits_none, hw, Nat.blt_eq]) ?_
    refine evSeq_go (by simp [wants, h0, h1, h2, sx, sy, sw, hl, encI_length]) (by simp [h0, h1, h2, sx, sy, sw, hl, encI_length] <;> rfl) (by rfl) (by simp [fits_some, fits_none, hw, Nat.blt_eq]) ?_
    refine evSeq_go (by simp [wants, h0, h1, h2, sx, sy, sw, hl, encI_length]) (by simp [h0, h1, h2, sx, sy, sw, hl, encI_length] <;> rfl) (by rfl) (by simp [fits_some, fits_none, hw, Nat.blt_eq]) ?_
    refine evSeq_go rfl (by simp [h0, h1, h2, sx, sy, sw, hl, encI_length] <;> rfl) (by rfl) (by simp [fits_some, fits_none, hw, Nat.blt_eq]) ?_
    refine evSeq_go rfl (by simp [h0, h1, h2, sx, sy, sw, hl, encI_length] <;> rfl) (by rfl) (by simp [fits_some, fits_none, hw, Nat.blt_eq]) ?_
    refine evSeq_go (by simp [wants, h0, h1, h2, sx, sy, sw, hl, encI_length]) (by simp [h0, h1, h2, sx, sy, sw, hl, encI_length] <;> rfl) (by rfl) (by simp [fits_some, fits_none, hw, Nat.blt_eq]) ?_
    refine evSeq_go (by simp [wants, h0, h1, h2, sx, sy, sw, hl, encI_length]) (by simp [h0, h1, h2, sx, sy, sw, hl, encI_length] <;> rfl) (by rfl) (by simp [fits_some, fits_none, hw, Nat.blt_eq]) ?_
    refine evSeq_go (by simp [wants, h0, h1, h2, sx, sy, sw, hl, encI_length]) (by simp [h0, h1, h2, sx, sy, sw, hl, encI_length] <;> rfl) (by rfl) (by simp [fits_some, fits_none, hw, Nat.blt_eq]) ?_
    refine evSeq_go rfl (by simp [h0, h1, h2, sx, sy, sw, hl, encI_length] <;> rfl) (by rfl) (by simp [fits_some, fits_none, hw, Nat.blt_eq]) ?_
    exact evSeq_nil
  refine inSeq_norm ?_
  refine Tri.condG (o := ?o3) (b := ?b3) ?g3 ?r3 ?y3 ?n3
  case g3 => simp [h0, h1, h2, sx, sy, sw, hl, encI_length] <;> rfl
  case r3 => rfl
  case y3 =>
    intro hy3
    refine Tri.seq' ?_
    refine Tri.regN (t' := ?t4) (H' := ?H4) TT_ok hC ?e4 ?q4
    case e4 =>
      refine go_false ?_
      refine evSeq_go rfl (by simp [h0, h1, h2, sx, sy, sw, hl, encI_length] <;> rfl) (by rfl) (by simp [fits_some, fits_none, hw, Nat.blt_eq]) ?_
      refine evSeq_go rfl (by simp [h0, h1, h2, sx, sy, sw, hl, encI_length] <;> rfl) (by rfl) (by simp [fits_some, fits_none, hw, Nat.blt_eq]) ?_
      exact evSeq_nil
    refine inSeq_norm ?_
    refine Tri.ret ?_
    refine inSeq_ret ?_
    simp [Ends, finish, evResults, evResult, Tryz.f3, h0, h1, h2, sx, sy, sw, hl, encI_length]
  case n3 =>
    intro hn3
    exact absurd hn3 (by simp [h0, h1, h2, sx, sy, sw, hl, encI_length])
theorem body_1003y {call : CallF} (hC : call.Sound Tryz.prog TT) (x y : Nd) (p : List Int) (sx : ∀ H, call 6 [x.enc, .i .i64 200] H = .val (.b true) H) (sy : ∀ H, call 6 [y.enc, .i .i64 200] H = .val (.b true) H) (sw : ∀ H, call 7 [] H = .val (.b true) H) (hl : ¬ (30 : Int) < p.length) (A B : Nd) (e f : Int) (q : Bool)
    (c1 : ∀ H, call 8 [x.enc, .isl 1 (encI p)] H = .val (.tup [A.enc, .i .i64 e]) H) (c2 : ∀ H, call 9 [x.enc, .isl 1 (encI p)] H = .val (.tup [A.enc, .i .i64 e]) H)
    (c3 : ∀ H, call 10 [x.enc, .isl 1 (encI p), y.enc] H = .val (.tup [B.enc, .i .i64 f]) H) (c4 : ∀ H, call 11 [x.enc, .isl 1 (encI p), y.enc] H = .val (.tup [B.enc, .i .i64 f]) H)
    (c5 : ∀ H, call 12 [A.enc, A.enc] H = .val (.b true) H) (c6 : ∀ H, call 12 [B.enc, B.enc] H = .val (.b true) H) (c7 : ∀ H, call 13 [x.enc, y.enc] H = .val (.b q) H) (c8 : ∀ H, call 12 [x.enc, y.enc] H = .val (.b q) H)   : Body Tryz.prog TT 3 [x.enc, y.enc, .isl 1 (encI p)] (.val (.b true)) := by
  refine ⟨Tryz.f3, _, rfl, rfl, by simp [Tryz.f3], ?_⟩
  have h0 : (Tm.init Tryz.f3.ntmps [x.enc, y.enc, .isl 1 (encI p)]).get 0 = x.enc := by rw [get_init]; rfl
  have h1 : (Tm.init Tryz.f3.ntmps [x.enc, y.enc, .isl 1 (encI p)]).get 1 = y.enc := by rw [get_init]; rfl
  have h2 : (Tm.init Tryz.f3.ntmps [x.enc, y.enc, .isl 1 (encI p)]).get 2 = .isl 1 (encI p) := by rw [get_init]; rfl
  have hw : (Tm.init Tryz.f3.ntmps [x.enc, y.enc, .isl 1 (encI p)]).wid = 85 := rfl
  generalize Tm.init Tryz.f3.ntmps [x.enc, y.enc, .isl 1 (encI p)] = t at *
  try simp only [Nd.enc_eq] at *
  refine Tri.seq' ?_
  refine Tri.regN (t' := ?t1) (H' := ?H1) TT_ok hC ?e1 ?q1
  case e1 =>
    refine go_false ?_
    refine evSeq_go rfl (by simp [h0, h1, h2, sx, sy, sw, hl, encI_length, c1, c2, c3, c4, c5, c6, c7, c8] <;> rfl) (by rfl) (by simp [fits_some, fits_none, hw, Nat.blt_eq]) ?_
    refine evSeq_go rfl (by simp [h0, h1, h2, sx, sy, sw, hl, encI_length, c1, c2, c3, c4, c5, c6, c7, c8] <;> rfl) (by rfl) (by simp [fits_some, fits_none, hw, Nat.blt_eq]) ?_
    refine evSeq_go rfl (by simp [h0, h1, h2, sx, sy, sw, hl, encI_length, c1, c2, c3, c4, c5, c6, c7, c8] <;> rfl) (by rfl) (by simp [fits_some, fits_none, hw, Nat.blt_eq]) ?_
    exact evSeq_nil
  refine inSeq_norm ?_
  refine Tri.seq' ?_
  refine Tri.seq' ?_
  refine Tri.regN (t' := ?t2) (H' := ?H2) TT_ok hC ?e2 ?q2
  case e2 =>
    refine go_false ?_
    refine evSeq_go rfl (by simp [h0, h1, h2, sx, sy, sw, hl, encI_length, c1, c2, c3, c4, c5, c6, c7, c8] <;> rfl) (by rfl) (by simp [fits_some, fits_none, hw, Nat.blt_eq]) ?_
    refine evSeq_go rfl (by simp [h0, h1, h2, sx, sy, sw, hl, encI_length, c1, c2, c3, c4, c5, c6, c7, c8] <;> rfl) (by rfl) (by simp [fits_some, fits_none, hw, Nat.blt_eq]) ?_
    refine evSeq_go rfl (by simp [h0, h1, h2, sx, sy, sw, hl, encI_length, c1, c2, c3, c4, c5, c6, c7, c8] <;> rfl) (by rfl) (by simp [fits_some, fits_none, hw, Nat.blt_eq]) ?_
    refine evSeq_go rfl (by simp [h0, h1, h2, sx, sy, sw, hl, encI_length, c1, c2, c3, c4, c5, c6, c7, c8] <;> rfl) (by rfl) (by simp [fits_some, fits_none, hw, Nat.blt_eq]) ?_
    refine evSeq_go (by simp [wants, h0, h1, h2, sx, sy, sw, hl, encI_length, c1, c2, c3, c4, c5, c6, c7, c8]) (by simp [h0, h1, h2, sx, sy, sw, hl, encI_length, c1, c2, c3, c4, c5, c6, c7, c8] <;> rfl) (by rfl) (by simp [fits_some, fits_none, hw, Nat.blt_eq]) ?_
    refine evSeq_go (by simp [wants, h0, h1, h2, sx, sy, sw, hl, encI_length, c1, c2, c3, c4, c5, c6, c7, c8]) (by simp [h0, h1, h2, sx, sy, sw, hl, encI_length, c1, c2, c3, c4, c5, c6, c7, c8] <;> rfl) (by rfl) (by simp [fits_some, fits_none, hw, Nat.blt_eq]) ?_
    refine evSeq_go (by simp [wants, h0, h1, h2, sx, sy, sw, hl, encI_length, c1, c2, c3, c4, c5, c6, c7, c8]) (by simp [h0, h1, h2, sx, sy, sw, hl, encI_length, c1, c2, c3, c4, c5, c6, c7, c8] <;> rfl) (by rfl) (by simp [fits_some, fits_none, hw, Nat.blt_eq]) ?_
    refine evSeq_go rfl (by simp [h0, h1, h2, sx, sy, sw, hl, encI_length, c1, c2, c3, c4, c5, c6, c7, c8] <;> rfl) (by rfl) (by simp [fits_some, fits_none, hw, Nat.blt_eq]) ?_
    refine evSeq_go rfl (by simp [h0, h1, h2, sx, sy, sw, hl, encI_length, c1, c2, c3, c4, c5, c6, c7, c8] <;> rfl) (by rfl) (by simp [fits_some, fits_none, hw, Nat.blt_eq]) ?_
    refine evSeq_go (by simp [wants, h0, h1, h2, sx, sy, sw, hl, encI_length, c1, c2, c3, c4, c5, c6, c7, c8]) (by simp [h0, h1, h2, sx, sy, sw, hl, encI_length, c1, c2, c3, c4, c5, c6, c7, c8] <;> rfl) (by rfl) (by simp [fits_some, fits_none, hw, Nat.blt_eq]) ?_
    refine evSeq_go (by simp [wants, h0, h1, h2, sx, sy, sw, hl, encI_length, c1, c2, c3, c4, c5, c6, c7, c8]) (by simp [h0, h1, h2, sx, sy, sw, hl, encI_length, c1, c2, c3, c4, c5, c6, c7, c8] <;> rfl) (by rfl) (by simp [fits_some, fits_none, hw, Nat.blt_eq]) ?_
    refine evSeq_go (by simp [wants, h0, h1, h2, sx, sy, sw, hl, encI_length, c1, c2, c3, c4, c5, c6, c7, c8]) (by simp [h0, h1, h2, sx, sy, sw, hl, encI_length, c1, c2, c3, c4, c5, c6, c7, c8] <;> rfl) (by rfl) (by simp [fits_some, fits_none, hw, Nat.blt_eq]) ?_
    refine evSeq_go rfl (by simp [h0, h1, h2, sx, sy, sw, hl, encI_length, c1, c2, c3, c4, c5, c6, c7, c8] <;> rfl) (by rfl) (by simp [fits_some, fits_none, hw, Nat.blt_eq]) ?_
    exact evSeq_nil
  refine inSeq_norm ?_
  refine Tri.condG (o := ?o3) (b := ?b3) ?g3 ?r3 ?y3 ?n3
  case g3 => simp [h0, h1, h2, sx, sy, sw, hl, encI_length, c1, c2, c3, c4, c5, c6, c7, c8] <;> rfl
  case r3 => rfl
  case y3 =>
    intro hy3
    exact absurd hy3 (by simp [h0, h1, h2, sx, sy, sw, hl, encI_length, c1, c2, c3, c4, c5, c6, c7, c8])
  case n3 =>
    intro hn3
    refine Tri.skip ?_
    refine inSeq_norm ?_
    refine Tri.seq' ?_
    refine Tri.regN (t' := ?t4) (H' := ?H4) TT_ok hC ?e4 ?q4
    case e4 =>
      refine go_false ?_
      refine evSeq_go rfl (by simp [h0, h1, h2, sx, sy, sw, hl, encI_length, c1, c2, c3, c4, c5, c6, c7, c8] <;> rfl) (by rfl) (by simp [fits_some, fits_none, hw, Nat.blt_eq]) ?_
      refine evSeq_go rfl (by simp [h0, h1, h2, sx, sy, sw, hl, encI_length, c1, c2, c3, c4, c5, c6, c7, c8] <;> rfl) (by rfl) (by simp [fits_some, fits_none, hw, Nat.blt_eq]) ?_
      refine evSeq_go rfl (by simp [h0, h1, h2, sx, sy, sw, hl, encI_length, c1, c2, c3, c4, c5, c6, c7, c8] <;> rfl) (by rfl) (by simp [fits_some, fits_none, hw, Nat.blt_eq]) ?_
      refine evSeq_go rfl (by simp [h0, h1, h2, sx, sy, sw, hl, encI_length, c1, c2, c3, c4, c5, c6, c7, c8] <;> rfl) (by rfl) (by simp [fits_some, fits_none, hw, Nat.blt_eq]) ?_
      refine evSeq_go rfl (by simp [h0, h1, h2, sx, sy, sw, hl, encI_length, c1, c2, c3, c4, c5, c6, c7, c8] <;> rfl) (by rfl) (by simp [fits_some, fits_none, hw, Nat.blt_eq]) ?_
      refine evSeq_go rfl (by simp [h0, h1, h2, sx, sy, sw, hl, encI_length, c1, c2, c3, c4, c5, c6, c7, c8] <;> rfl) (by rfl) (by simp [fits_some, fits_none, hw, Nat.blt_eq]) ?_
      refine evSeq_go rfl (by simp [h0, h1, h2, sx, sy, sw, hl, encI_length, c1, c2, c3, c4, c5, c6, c7, c8] <;> rfl) (by rfl) (by simp [fits_some, fits_none, hw, Nat.blt_eq]) ?_
      refine evSeq_go rfl (by simp [h0, h1, h2, sx, sy, sw, hl, encI_length, c1, c2, c3, c4, c5, c6, c7, c8] <;> rfl) (by rfl) (by simp [fits_some, fits_none, hw, Nat.blt_eq]) ?_
      refine evSeq_go rfl (by simp [h0, h1, h2, sx, sy, sw, hl, encI_length, c1, c2, c3, c4, c5, c6, c7, c8] <;> rfl) (by rfl) (by simp [fits_some, fits_none, hw, Nat.blt_eq]) ?_
      exact evSeq_nil
    refine inSeq_norm ?_
    refine Tri.seq' ?_
    refine Tri.regN (t' := ?t5) (H' := ?H5) TT_ok hC ?e5 ?q5
    case e5 =>
      refine go_false ?_
      refine evSeq_go rfl (by simp [h0, h1, h2, sx, sy, sw, hl, encI_length, c1, c2, c3, c4, c5, c6, c7, c8] <;> rfl) (by rfl) (by simp [fits_some, fits_none, hw, Nat.blt_eq]) ?_
      refine evSeq_go rfl (by simp [h0, h1, h2, sx, sy, sw, hl, encI_length, c1, c2, c3, c4, c5, c6, c7, c8] <;> rfl) (by rfl) (by simp [fits_some, fits_none, hw, Nat.blt_eq]) ?_
      refine evSeq_go rfl (by simp [h0, h1, h2, sx, sy, sw, hl, encI_length, c1, c2, c3, c4, c5, c6, c7, c8] <;> rfl) (by rfl) (by simp [fits_some, fits_none, hw, Nat.blt_eq]) ?_
      refine evSeq_go rfl (by simp [h0, h1, h2, sx, sy, sw, hl, encI_length, c1, c2, c3, c4, c5, c6, c7, c8] <;> rfl) (by rfl) (by simp [fits_some, fits_none, hw, Nat.blt_eq]) ?_
      refine evSeq_go rfl (by simp [h0, h1, h2, sx, sy, sw, hl, encI_length, c1, c2, c3, c4, c5, c6, c7, c8] <;> rfl) (by rfl) (by simp [fits_some, fits_none, hw, Nat.blt_eq]) ?_
      refine evSeq_go rfl (by simp [h0, h1, h2, sx, sy, sw, hl, encI_length, c1, c2, c3, c4, c5, c6, c7, c8] <;> rfl) (by rfl) (by simp [fits_some, fits_none, hw, Nat.blt_eq]) ?_
      refine evSeq_go rfl (by simp [h0, h1, h2, sx, sy, sw, hl, encI_length, c1, c2, c3, c4, c5, c6, c7, c8] <;> rfl) (by rfl) (by simp [fits_some, fits_none, hw, Nat.blt_eq]) ?_
      refine evSeq_go rfl (by simp [h0, h1, h2, sx, sy, sw, hl, encI_length, c1, c2, c3, c4, c5, c6, c7, c8] <;> rfl) (by rfl) (by simp [fits_some, fits_none, hw, Nat.blt_eq]) ?_
      refine evSeq_go rfl (by simp [h0, h1, h2, sx, sy, sw, hl, encI_length, c1, c2, c3, c4, c5, c6, c7, c8] <;> rfl) (by rfl) (by simp [fits_some, fits_none, hw, Nat.blt_eq]) ?_
      exact evSeq_nil
    refine inSeq_norm ?_
    refine Tri.seq' ?_
    refine Tri.regN (t' := ?t6) (H' := ?H6) TT_ok hC ?e6 ?q6
    case e6 =>
      refine go_false ?_
      refine evSeq_go rfl (by simp [h0, h1, h2, sx, sy, sw, hl, encI_length, c1, c2, c3, c4, c5, c6, c7, c8] <;> rfl) (by rfl) (by simp [fits_some, fits_none, hw, Nat.blt_eq]) ?_
      refine evSeq_go rfl (by simp [h0, h1, h2, sx, sy, sw, hl, encI_length, c1, c2, c3, c4, c5, c6, c7, c8] <;> rfl) (by rfl) (by simp [fits_some, fits_none, hw, Nat.blt_eq]) ?_
      refine evSeq_go rfl (by simp [h0, h1, h2, sx, sy, sw, hl, encI_length, c1, c2, c3, c4, c5, c6, c7, c8] <;> rfl) (by rfl) (by simp [fits_some, fits_none, hw, Nat.blt_eq]) ?_
      refine evSeq_go rfl (by simp [h0, h1, h2, sx, sy, sw, hl, encI_length, c1, c2, c3, c4, c5, c6, c7, c8] <;> rfl) (by rfl) (by simp [fits_some, fits_none, hw, Nat.blt_eq]) ?_
      refine evSeq_go rfl (by simp [h0, h1, h2, sx, sy, sw, hl, encI_length, c1, c2, c3, c4, c5, c6, c7, c8] <;> rfl) (by rfl) (by simp [fits_some, fits_none, hw, Nat.blt_eq]) ?_
      refine evSeq_go rfl (by simp [h0, h1, h2, sx, sy, sw, hl, encI_length, c1, c2, c3, c4, c5, c6, c7, c8] <;> rfl) (by rfl) (by simp [fits_some, fits_none, hw, Nat.blt_eq]) ?_
      refine evSeq_go rfl (by simp [h0, h1, h2, sx, sy, sw, hl, encI_length, c1, c2, c3, c4, c5, c6, c7, c8] <;> rfl) (by rfl) (by simp [fits_some, fits_none, hw, Nat.blt_eq]) ?_
      refine evSeq_go rfl (by simp [h0, h1, h2, sx, sy, sw, hl, encI_length, c1, c2, c3, c4, c5, c6, c7, c8] <;> rfl) (by rfl) (by simp [fits_some, fits_none, hw, Nat.blt_eq]) ?_
      refine evSeq_go rfl (by simp [h0, h1, h2, sx, sy, sw, hl, encI_length, c1, c2, c3, c4, c5, c6, c7, c8] <;> rfl) (by rfl) (by simp [fits_some, fits_none, hw, Nat.blt_eq]) ?_
      refine evSeq_go rfl (by simp [h0, h1, h2, sx, sy, sw, hl, encI_length, c1, c2, c3, c4, c5, c6, c7, c8] <;> rfl) (by rfl) (by simp [fits_some, fits_none, hw, Nat.blt_eq]) ?_
      exact evSeq_nil
    refine inSeq_norm ?_
    refine Tri.seq' ?_
    refine Tri.regN (t' := ?t7) (H' := ?H7) TT_ok hC ?e7 ?q7
    case e7 =>
      refine go_false ?_
      refine evSeq_go rfl (by simp [h0, h1, h2, sx, sy, sw, hl, encI_length, c1, c2, c3, c4, c5, c6, c7, c8] <;> rfl) (by rfl) (by simp [fits_some, fits_none, hw, Nat.blt_eq]) ?_
      refine evSeq_go rfl (by simp [h0, h1, h2, sx, sy, sw, hl, encI_length, c1, c2, c3, c4, c5, c6, c7, c8] <;> rfl) (by rfl) (by simp [fits_some, fits_none, hw, Nat.blt_eq]) ?_
      refine evSeq_go rfl (by simp [h0, h1, h2, sx, sy, sw, hl, encI_length, c1, c2, c3, c4, c5, c6, c7, c8] <;> rfl) (by rfl) (by simp [fits_some, fits_none, hw, Nat.blt_eq]) ?_
      refine evSeq_go rfl (by simp [h0, h1, h2, sx, sy, sw, hl, encI_length, c1, c2, c3, c4, c5, c6, c7, c8] <;> rfl) (by rfl) (by simp [fits_some, fits_none, hw, Nat.blt_eq]) ?_
      refine evSeq_go rfl (by simp [h0, h1, h2, sx, sy, sw, hl, encI_length, c1, c2, c3, c4, c5, c6, c7, c8] <;> rfl) (by rfl) (by simp [fits_some, fits_none, hw, Nat.blt_eq]) ?_
      refine evSeq_go rfl (by simp [h0, h1, h2, sx, sy, sw, hl, encI_length, c1, c2, c3, c4, c5, c6, c7, c8] <;> rfl) (by rfl) (by simp [fits_some, fits_none, hw, Nat.blt_eq]) ?_
      refine evSeq_go rfl (by simp [h0, h1, h2, sx, sy, sw, hl, encI_length, c1, c2, c3, c4, c5, c6, c7, c8] <;> rfl) (by rfl) (by simp [fits_some, fits_none, hw, Nat.blt_eq]) ?_
      refine evSeq_go rfl (by simp [h0, h1, h2, sx, sy, sw, hl, encI_length, c1, c2, c3, c4, c5, c6, c7, c8] <;> rfl) (by rfl) (by simp [fits_some, fits_none, hw, Nat.blt_eq]) ?_
      refine evSeq_go rfl (by simp [h0, h1, h2, sx, sy, sw, hl, encI_length, c1, c2, c3, c4, c5, c6, c7, c8] <;> rfl) (by rfl) (by simp [fits_some, fits_none, hw, Nat.blt_eq]) ?_
      refine evSeq_go rfl (by simp [h0, h1, h2, sx, sy, sw, hl, encI_length, c1, c2, c3, c4, c5, c6, c7, c8] <;> rfl) (by rfl) (by simp [fits_some, fits_none, hw, Nat.blt_eq]) ?_
      exact evSeq_nil
    refine inSeq_norm ?_
    refine Tri.seq' ?_
    refine Tri.regN (t' := ?t8) (H' := ?H8) TT_ok hC ?e8 ?q8
    case e8 =>
      refine evReg_quiet (t' := ?t8) (by kernel_rfl) ?_ ?r908
      refine QR.val rfl (by simp [h0, h1, h2, sx, sy, sw, hl, encI_length, c1, c2, c3, c4, c5, c6, c7, c8] <;> rfl) (by rfl) (by simp [fits_some, fits_none, hw, Nat.blt_eq]) ?_
      refine QR.val rfl (by simp [h0, h1, h2, sx, sy, sw, hl, encI_length, c1, c2, c3, c4, c5, c6, c7, c8] <;> rfl) (by rfl) (by simp [fits_some, fits_none, hw, Nat.blt_eq]) ?_
      refine QR.val rfl (by simp [h0, h1, h2, sx, sy, sw, hl, encI_length, c1, c2, c3, c4, c5, c6, c7, c8] <;> rfl) (by rfl) (by simp [fits_some, fits_none, hw, Nat.blt_eq]) ?_
      refine QR.val rfl (by simp [h0, h1, h2, sx, sy, sw, hl, encI_length, c1, c2, c3, c4, c5, c6, c7, c8] <;> rfl) (by rfl) (by simp [fits_some, fits_none, hw, Nat.blt_eq]) ?_
      refine QR.val (by simp [wants, h0, h1, h2, sx, sy, sw, hl, encI_length, c1, c2, c3, c4, c5, c6, c7, c8]) (by simp [h0, h1, h2, sx, sy, sw, hl, encI_length, c1, c2, c3, c4, c5, c6, c7, c8] <;> rfl) (by rfl) (by simp [fits_some, fits_none, hw, Nat.blt_eq]) ?_
      refine QR.val (by simp [wants, h0, h1, h2, sx, sy, sw, hl, encI_length, c1, c2, c3, c4, c5, c6, c7, c8]) (by simp [h0, h1, h2, sx, sy, sw, hl, encI_length, c1, c2, c3, c4, c5, c6, c7, c8] <;> rfl) (by rfl) (by simp [fits_some, fits_none, hw, Nat.blt_eq]) ?_
      refine QR.val (by simp [wants, h0, h1, h2, sx, sy, sw, hl, encI_length, c1, c2, c3, c4, c5, c6, c7, c8]) (by simp [h0, h1, h2, sx, sy, sw, hl, encI_length, c1, c2, c3, c4, c5, c6, c7, c8] <;> rfl) (by rfl) (by simp [fits_some, fits_none, hw, Nat.blt_eq]) ?_
      refine QR.val rfl (by simp [h0, h1, h2, sx, sy, sw, hl, encI_length, c1, c2, c3, c4, c5, c6, c7, c8] <;> rfl) (by rfl) (by simp [fits_some, fits_none, hw, Nat.blt_eq]) ?_
      refine QR.val rfl (by simp [h0, h1, h2, sx, sy, sw, hl, encI_length, c1, c2, c3, c4, c5, c6, c7, c8] <;> rfl) (by rfl) (by simp [fits_some, fits_none, hw, Nat.blt_eq]) ?_
      refine QR.val (by simp [wants, h0, h1, h2, sx, sy, sw, hl, encI_length, c1, c2, c3, c4, c5, c6, c7, c8]) (by simp [h0, h1, h2, sx, sy, sw, hl, encI_length, c1, c2, c3, c4, c5, c6, c7, c8] <;> rfl) (by rfl) (by simp [fits_some, fits_none, hw, Nat.blt_eq]) ?_
      refine QR.val (by simp [wants, h0, h1, h2, sx, sy, sw, hl, encI_length, c1, c2, c3, c4, c5, c6, c7, c8]) (by simp [h0, h1, h2, sx, sy, sw, hl, encI_length, c1, c2, c3, c4, c5, c6, c7, c8] <;> rfl) (by rfl) (by simp [fits_some, fits_none, hw, Nat.blt_eq]) ?_
      refine QR.val (by simp [wants, h0, h1, h2, sx, sy, sw, hl, encI_length, c1, c2, c3, c4, c5, c6, c7, c8]) (by simp [h0, h1, h2, sx, sy, sw, hl, encI_length, c1, c2, c3, c4, c5, c6, c7, c8] <;> rfl) (by rfl) (by simp [fits_some, fits_none, hw, Nat.blt_eq]) ?_
      refine QR.val rfl (by simp [h0, h1, h2, sx, sy, sw, hl, encI_length, c1, c2, c3, c4, c5, c6, c7, c8] <;> rfl) (by rfl) (by simp [fits_some, fits_none, hw, Nat.blt_eq]) ?_
      refine QR.val rfl (by simp [h0, h1, h2, sx, sy, sw, hl, encI_length, c1, c2, c3, c4, c5, c6, c7, c8] <;> rfl) (by rfl) (by simp [fits_some, fits_none, hw, Nat.blt_eq]) ?_
      refine QR.val (by simp [wants, h0, h1, h2, sx, sy, sw, hl, encI_length, c1, c2, c3, c4, c5, c6, c7, c8]) (by simp [h0, h1, h2, sx, sy, sw, hl, encI_length, c1, c2, c3, c4, c5, c6, c7, c8] <;> rfl) (by rfl) (by simp [fits_some, fits_none, hw, Nat.blt_eq]) ?_
      refine QR.val (by simp [wants, h0, h1, h2, sx, sy, sw, hl, encI_length, c1, c2, c3, c4, c5, c6, c7, c8]) (by simp [h0, h1, h2, sx, sy, sw, hl, encI_length, c1, c2, c3, c4, c5, c6, c7, c8] <;> rfl) (by rfl) (by simp [fits_some, fits_none, hw, Nat.blt_eq]) ?_
      refine QR.val (by simp [wants, h0, h1, h2, sx, sy, sw, hl, encI_length, c1, c2, c3, c4, c5, c6, c7, c8]) (by simp [h0, h1, h2, sx, sy, sw, hl, encI_length, c1, c2, c3, c4, c5, c6, c7, c8] <;> rfl) (by rfl) (by simp [fits_some, fits_none, hw, Nat.blt_eq]) ?_
      refine QR.val rfl (by simp [h0, h1, h2, sx, sy, sw, hl, encI_length, c1, c2, c3, c4, c5, c6, c7, c8] <;> rfl) (by rfl) (by simp [fits_some, fits_none, hw, Nat.blt_eq]) ?_
      refine QR.val rfl (by simp [h0, h1, h2, sx, sy, sw, hl, encI_length, c1, c2, c3, c4, c5, c6, c7, c8] <;> rfl) (by rfl) (by simp [fits_some, fits_none, hw, Nat.blt_eq]) ?_
      refine QR.val (by simp [wants, h0, h1, h2, sx, sy, sw, hl, encI_length, c1, c2, c3, c4, c5, c6, c7, c8]) (by simp [h0, h1, h2, sx, sy, sw, hl, encI_length, c1, c2, c3, c4, c5, c6, c7, c8] <;> rfl) (by rfl) (by simp [fits_some, fits_none, hw, Nat.blt_eq]) ?_
      refine QR.val (by simp [wants, h0, h1, h2, sx, sy, sw, hl, encI_length, c1, c2, c3, c4, c5, c6, c7, c8]) (by simp [h0, h1, h2, sx, sy, sw, hl, encI_length, c1, c2, c3, c4, c5, c6, c7, c8] <;> rfl) (by rfl) (by simp [fits_some, fits_none, hw, Nat.blt_eq]) ?_
      refine QR.val (by simp [wants, h0, h1, h2, sx, sy, sw, hl, encI_length, c1, c2, c3, c4, c5, c6, c7, c8]) (by simp [h0, h1, h2, sx, sy, sw, hl, encI_length, c1, c2, c3, c4, c5, c6, c7, c8] <;> rfl) (by rfl) (by simp [fits_some, fits_none, hw, Nat.blt_eq]) ?_
      refine QR.val (by simp [wants, h0, h1, h2, sx, sy, sw, hl, encI_length, c1, c2, c3, c4, c5, c6, c7, c8]) (by simp [h0, h1, h2, sx, sy, sw, hl, encI_length, c1, c2, c3, c4, c5, c6, c7, c8] <;> rfl) (by rfl) (by simp [fits_some, fits_none, hw, Nat.blt_eq]) ?_
      refine QR.val (by simp [wants, h0, h1, h2, sx, sy, sw, hl, encI_length, c1, c2, c3, c4, c5, c6, c7, c8]) (by simp [h0, h1, h2, sx, sy, sw, hl, encI_length, c1, c2, c3, c4, c5, c6, c7, c8] <;> rfl) (by rfl) (by simp [fits_some, fits_none, hw, Nat.blt_eq]) ?_
      refine QR.val (by simp [wants, h0, h1, h2, sx, sy, sw, hl, encI_length, c1, c2, c3, c4, c5, c6, c7, c8]) (by simp [h0, h1, h2, sx, sy, sw, hl, encI_length, c1, c2, c3, c4, c5, c6, c7, c8] <;> rfl) (by rfl) (by simp [fits_some, fits_none, hw, Nat.blt_eq]) ?_
      refine QR.val (by simp [wants, h0, h1, h2, sx, sy, sw, hl, encI_length, c1, c2, c3, c4, c5, c6, c7, c8]) (by simp [h0, h1, h2, sx, sy, sw, hl, encI_length, c1, c2, c3, c4, c5, c6, c7, c8] <;> rfl) (by rfl) (by simp [fits_some, fits_none, hw, Nat.blt_eq]) ?_
      refine QR.val rfl (by simp [h0, h1, h2, sx, sy, sw, hl, encI_length, c1, c2, c3, c4, c5, c6, c7, c8] <;> rfl) (by rfl) (by simp [fits_some, fits_none, hw, Nat.blt_eq]) ?_
      refine QR.val rfl (by simp [h0, h1, h2, sx, sy, sw, hl, encI_length, c1, c2, c3, c4, c5, c6, c7, c8] <;> rfl) (by rfl) (by simp [fits_some, fits_none, hw, Nat.blt_eq]) ?_
      refine QR.val (by simp [wants, h0, h1, h2, sx, sy, sw, hl, encI_length, c1, c2, c3, c4, c5, c6, c7, c8]) (by simp [h0, h1, h2, sx, sy, sw, hl, encI_length, c1, c2, c3, c4, c5, c6, c7, c8] <;> rfl) (by rfl) (by simp [fits_some, fits_none, hw, Nat.blt_eq]) ?_
      refine QR.val rfl (by simp [h0, h1, h2, sx, sy, sw, hl, encI_length, c1, c2, c3, c4, c5, c6, c7, c8] <;> rfl) (by rfl) (by simp [fits_some, fits_none, hw, Nat.blt_eq]) ?_
      refine QR.val rfl (by simp [h0, h1, h2, sx, sy, sw, hl, encI_length, c1, c2, c3, c4, c5, c6, c7, c8] <;> rfl) (by rfl) (by simp [fits_some, fits_none, hw, Nat.blt_eq]) ?_
      exact QR.nil
      case r908 => exact rfl
    refine inSeq_norm ?_
    refine Tri.ret ?_
    simp [Ends, finish, evResults, evResult, Tryz.f3, h0, h1, h2, sx, sy, sw, hl, encI_length, c1, c2, c3, c4, c5, c6, c7, c8]
end Go.Ev
