/- Walks over the law and over equality. -/
import Derived.Test.YtamdmfgonfibgaaGreatDoorWI
namespace Go.Ev
open Go Go.Proofs
set_option maxRecDepth 100000
set_option linter.unusedSimpArgs false
set_option linter.unusedVariables false
theorem body_3n1 {call : CallF} (hC : call.Sound Tryz.prog TT) (a b c : Nd) (s1 : ∀ H, call 4 [a.enc, .i .i64 200] H = .val (.b false) H) (sw : ∀ H, call 5 [] H = .val (.b true) H)  : Body Tryz.prog TT 3 [a.enc, b.enc, c.enc] (.val (.b true)) := by
  refine ⟨Tryz.f3, _, rfl, rfl, by simp [Tryz.f3], ?_⟩
  have h0 : (Tm.init Tryz.f3.ntmps [a.enc, b.enc, c.enc]).get 0 = a.enc := by rw [get_init]; rfl
  have h1 : (Tm.init Tryz.f3.ntmps [a.enc, b.enc, c.enc]).get 1 = b.enc := by rw [get_init]; rfl
  have h2 : (Tm.init Tryz.f3.ntmps [a.enc, b.enc, c.enc]).get 2 = c.enc := by rw [get_init]; rfl
  have hw : (Tm.init Tryz.f3.ntmps [a.enc, b.enc, c.enc]).wid = 100 := rfl
  generalize Tm.init Tryz.f3.ntmps [a.enc, b.enc, c.enc] = t at *
  try simp only [Nd.enc_eq] at *
  refine Tri.seq' ?_
  refine Tri.regN (t' := ?t1) (H' := ?H1) TT_ok hC ?e1 ?q1
  case e1 =>
    refine go_false ?_
    refine evSeq_go rfl (by simp [h0, h1, h2, s1, sw] <;> rfl) (by rfl) (by simp [fits_some, fits_none, hw, Nat.blt_eq]) ?_
    refine evSeq_go rfl (by simp [h0, h1, h2, s1, sw] <;> rfl) (by rfl) (by simp [fits_some, fits_none, hw, Nat.blt_eq]) ?_
    refine evSeq_go rfl (by simp [h0, h1, h2, s1, sw] <;> rfl) (by rfl) (by simp [fits_some, fits_none, hw, Nat.blt_eq]) ?_
    refine evSeq_go rfl (by simp [h0, h1, h2, s1, sw] <;> rfl) (by rfl) (by simp [fits_some, fits_none, hw, Nat.blt_eq]) ?_
    exact evSeq_nil
  refine inSeq_norm ?_
  refine Tri.seq' ?_
  refine Tri.seq' ?_
  refine Tri.regN (t' := ?t2) (H' := ?H2) TT_ok hC ?e2 ?q2
  case e2 =>
    refine go_false ?_
    refine evSeq_go rfl (by simp [h0, h1, h2, s1, sw] <;> rfl) (by rfl) (by simp [fits_some, fits_none, hw, Nat.blt_eq]) ?_
    refine evSeq_go rfl (by simp [h0, h1, h2, s1, sw] <;> rfl) (by rfl) (by simp [fits_some, fits_none, hw, Nat.blt_eq]) ?_
    refine evSeq_go rfl (by simp [h0, h1, h2, s1, sw] <;> rfl) (by rfl) (by simp [fits_some, fits_none, hw, Nat.blt_eq]) ?_
    refine evSeq_go rfl (by simp [h0, h1, h2, s1, sw] <;> rfl) (by rfl) (by simp [fits_some, fits_none, hw, Nat.blt_eq]) ?_
    refine evSeq_off (by simp [wants, h0, h1, h2, s1, sw]) (by simp [fits_some, fits_none, hw, Nat.blt_eq]) ?_
    refine evSeq_off (by simp [wants, h0, h1, h2, s1, sw]) (by simp [fits_some, fits_none, hw, Nat.blt_eq]) ?_
    refine evSeq_off (by simp [wants, h0, h1, h2, s1, sw]) (by simp [fits_some, fits_none, hw, Nat.blt_eq]) ?_
    refine evSeq_go rfl (by simp [h0, h1, h2, s1, sw] <;> rfl) (by rfl) (by simp [fits_some, fits_none, hw, Nat.blt_eq]) ?_
    refine evSeq_go rfl (by simp [h0, h1, h2, s1, sw] <;> rfl) (by rfl) (by simp [fits_some, fits_none, hw, Nat.blt_eq]) ?_
    refine evSeq_off (by simp [wants, h0, h1, h2, s1, sw]) (by simp [fits_some, fits_none, hw, Nat.blt_eq]) ?_
    refine evSeq_off (by simp [wants, h0, h1, h2, s1, sw]) (by simp [fits_some, fits_none, hw, Nat.blt_eq]) ?_
    refine evSeq_off (by simp [wants, h0, h1, h2, s1, sw]) (by simp [fits_some, fits_none, hw, Nat.blt_eq]) ?_
    refine evSeq_go rfl (by simp [h0, h1, h2, s1, sw] <;> rfl) (by rfl) (by simp [fits_some, fits_none, hw, Nat.blt_eq]) ?_
    exact evSeq_nil
  refine inSeq_norm ?_
  refine Tri.condG (o := ?o3) (b := ?b3) ?g3 ?r3 ?y3 ?n3
  case g3 => simp [h0, h1, h2, s1, sw] <;> rfl
  case r3 => rfl
  case y3 =>
    intro hy3
    refine Tri.seq' ?_
    refine Tri.regN (t' := ?t4) (H' := ?H4) TT_ok hC ?e4 ?q4
    case e4 =>
      refine go_false ?_
      refine evSeq_go rfl (by simp [h0, h1, h2, s1, sw] <;> rfl) (by rfl) (by simp [fits_some, fits_none, hw, Nat.blt_eq]) ?_
      refine evSeq_go rfl (by simp [h0, h1, h2, s1, sw] <;> rfl) (by rfl) (by simp [fits_some, fits_none, hw, Nat.blt_eq]) ?_
      exact evSeq_nil
    refine inSeq_norm ?_
    refine Tri.ret ?_
    refine inSeq_ret ?_
    simp [Ends, finish, evResults, evResult, Tryz.f3, h0, h1, h2, s1, sw]
  case n3 =>
    intro hn3
    exact absurd hn3 (by simp [h0, h1, h2, s1, sw])
theorem body_3n2 {call : CallF} (hC : call.Sound Tryz.prog TT) (a b c : Nd) (s1 : ∀ H, call 4 [a.enc, .i .i64 200] H = .val (.b true) H) (s2 : ∀ H, call 4 [b.enc, .i .i64 200] H = .val (.b false) H) (sw : ∀ H, call 5 [] H = .val (.b true) H)  : Body Tryz.prog TT 3 [a.enc, b.enc, c.enc] (.val (.b true)) := by
  refine ⟨Tryz.f3, _, rfl, rfl, by simp [Tryz.f3], ?_⟩
  have h0 : (Tm.init Tryz.f3.ntmps [a.enc, b.enc, c.enc]).get 0 = a.enc := by rw [get_init]; rfl
  have h1 : (Tm.init Tryz.f3.ntmps [a.enc, b.enc, c.enc]).get 1 = b.enc := by rw [get_init]; rfl
  have h2 : (Tm.init Tryz.f3.ntmps [a.enc, b.enc, c.enc]).get 2 = c.enc := by rw [get_init]; rfl
  have hw : (Tm.init Tryz.f3.ntmps [a.enc, b.enc, c.enc]).wid = 100 := rfl
  generalize Tm.init Tryz.f3.ntmps [a.enc, b.enc, c.enc] = t at *
  try simp only [Nd.enc_eq] at *
  refine Tri.seq' ?_
  refine Tri.regN (t' := ?t1) (H' := ?H1) TT_ok hC ?e1 ?q1
  case e1 =>
    refine go_false ?_
    refine evSeq_go rfl (by simp [h0, h1, h2, s1, s2, sw] <;> rfl) (by rfl) (by simp [fits_some, fits_none, hw, Nat.blt_eq]) ?_
    refine evSeq_go rfl (by simp [h0, h1, h2, s1, s2, sw] <;> rfl) (by rfl) (by simp [fits_some, fits_none, hw, Nat.blt_eq]) ?_
    refine evSeq_go rfl (by simp [h0, h1, h2, s1, s2, sw] <;> rfl) (by rfl) (by simp [fits_some, fits_none, hw, Nat.blt_eq]) ?_
    refine evSeq_go rfl (by simp [h0, h1, h2, s1, s2, sw] <;> rfl) (by rfl) (by simp [fits_some, fits_none, hw, Nat.blt_eq]) ?_
    exact evSeq_nil
  refine inSeq_norm ?_
  refine Tri.seq' ?_
  refine Tri.seq' ?_
  refine Tri.regN (t' := ?t2) (H' := ?H2) TT_ok hC ?e2 ?q2
  case e2 =>
    refine go_false ?_
    refine evSeq_go rfl (by simp [h0, h1, h2, s1, s2, sw] <;> rfl) (by rfl) (by simp [fits_some, fits_none, hw, Nat.blt_eq]) ?_
    refine evSeq_go rfl (by simp [h0, h1, h2, s1, s2, sw] <;> rfl) (by rfl) (by simp [fits_some, fits_none, hw, Nat.blt_eq]) ?_
    refine evSeq_go rfl (by simp [h0, h1, h2, s1, s2, sw] <;> rfl) (by rfl) (by simp [fits_some, fits_none, hw, Nat.blt_eq]) ?_
    refine evSeq_go rfl (by simp [h0, h1, h2, s1, s2, sw] <;> rfl) (by rfl) (by simp [fits_some, fits_none, hw, Nat.blt_eq]) ?_
    refine evSeq_go (by simp [wants, h0, h1, h2, s1, s2, sw]) (by simp [h0, h1, h2, s1, s2, sw] <;> rfl) (by rfl) (by simp [fits_some, fits_none, hw, Nat.blt_eq]) ?_
    refine evSeq_go (by simp [wants, h0, h1, h2, s1, s2, sw]) (by simp [h0, h1, h2, s1, s2, sw] <;> rfl) (by rfl) (by simp [fits_some, fits_none, hw, Nat.blt_eq]) ?_
    refine evSeq_go (by simp [wants, h0, h1, h2, s1, s2, sw]) (by simp [h0, h1, h2, s1, s2, sw] <;> rfl) (by rfl) (by simp [fits_some, fits_none, hw, Nat.blt_eq]) ?_
    refine evSeq_go rfl (by simp [h0, h1, h2, s1, s2, sw] <;> rfl) (by rfl) (by simp [fits_some, fits_none, hw, Nat.blt_eq]) ?_
    refine evSeq_go rfl (by simp [h0, h1, h2, s1, s2, sw] <;> rfl) (by rfl) (by simp [fits_some, fits_none, hw, Nat.blt_eq]) ?_
    refine evSeq_off (by simp [wants, h0, h1, h2, s1, s2, sw]) (by simp [fits_some, fits_none, hw, Nat.blt_eq]) ?_
    refine evSeq_off (by simp [wants, h0, h1, h2, s1, s2, sw]) (by simp [fits_some, fits_none, hw, Nat.blt_eq]) ?_
    refine evSeq_off (by simp [wants, h0, h1, h2, s1, s2, sw]) (by simp [fits_some, fits_none, hw, Nat.blt_eq]) ?_
    refine evSeq_go rfl (by simp [h0, h1, h2, s1, s2, sw] <;> rfl) (by rfl) (by simp [fits_some, fits_none, hw, Nat.blt_eq]) ?_
    exact evSeq_nil
  refine inSeq_norm ?_
  refine Tri.condG (o := ?o3) (b := ?b3) ?g3 ?r3 ?y3 ?n3
  case g3 => simp [h0, h1, h2, s1, s2, sw] <;> rfl
  case r3 => rfl
  case y3 =>
    intro hy3
    refine Tri.seq' ?_
    refine Tri.regN (t' := ?t4) (H' := ?H4) TT_ok hC ?e4 ?q4
    case e4 =>
      refine go_false ?_
      refine evSeq_go rfl (by simp [h0, h1, h2, s1, s2, sw] <;> rfl) (by rfl) (by simp [fits_some, fits_none, hw, Nat.blt_eq]) ?_
      refine evSeq_go rfl (by simp [h0, h1, h2, s1, s2, sw] <;> rfl) (by rfl) (by simp [fits_some, fits_none, hw, Nat.blt_eq]) ?_
      exact evSeq_nil
    refine inSeq_norm ?_
    refine Tri.ret ?_
    refine inSeq_ret ?_
    simp [Ends, finish, evResults, evResult, Tryz.f3, h0, h1, h2, s1, s2, sw]
  case n3 =>
    intro hn3
    exact absurd hn3 (by simp [h0, h1, h2, s1, s2, sw])
theorem body_3n3 {call : CallF} (hC : call.Sound Tryz.prog TT) (a b c : Nd) (s1 : ∀ H, call 4 [a.enc, .i .i64 200] H = .val (.b true) H) (s2 : ∀ H, call 4 [b.enc, .i .i64 200] H = .val (.b true) H) (s3 : ∀ H, call 4 [c.enc, .i .i64 200] H = .val (.b false) H) (sw : ∀ H, call 5 [] H = .val (.b true) H)  : Body Tryz.prog TT 3 [a.enc, b.enc, c.enc] (.val (.b true)) := by
  refine ⟨Tryz.f3, _, rfl, rfl, by simp [Tryz.f3], ?_⟩
  have h0 : (Tm.init Tryz.f3.ntmps [a.enc, b.enc, c.enc]).get 0 = a.enc := by rw [get_init]; rfl
  have h1 : (Tm.init Tryz.f3.ntmps [a.enc, b.enc, c.enc]).get 1 = b.enc := by rw [get_init]; rfl
  have h2 : (Tm.init Tryz.f3.ntmps [a.enc, b.enc, c.enc]).get 2 = c.enc := by rw [get_init]; rfl
  have hw : (Tm.init Tryz.f3.ntmps [a.enc, b.enc, c.enc]).wid = 100 := rfl
  generalize Tm.init Tryz.f3.ntmps [a.enc, b.enc, c.enc] = t at *
  try simp only [Nd.enc_eq] at *
  refine Tri.seq' ?_
  refine Tri.regN (t' := ?t1) (H' := ?H1) TT_ok hC ?e1 ?q1
  case e1 =>
    refine go_false ?_
    refine evSeq_go rfl (by simp [h0, h1, h2, s1, s2, s3, sw] <;> rfl) (by rfl) (by simp [fits_some, fits_none, hw, Nat.blt_eq]) ?_
    refine evSeq_go rfl (by simp [h0, h1, h2, s1, s2, s3, sw] <;> rfl) (by rfl) (by simp [fits_some, fits_none, hw, Nat.blt_eq]) ?_
    refine evSeq_go rfl (by simp [h0, h1, h2, s1, s2, s3, sw] <;> rfl) (by rfl) (by simp [fits_some, fits_none, hw, Nat.blt_eq]) ?_
    refine evSeq_go rfl (by simp [h0, h1, h2, s1, s2, s3, sw] <;> rfl) (by rfl) (by simp [fits_some, fits_none, hw, Nat.blt_eq]) ?_
    exact evSeq_nil
  refine inSeq_norm ?_
  refine Tri.seq' ?_
  refine Tri.seq' ?_
  refine Tri.regN (t' := ?t2) (H' := ?H2) TT_ok hC ?e2 ?q2
  case e2 =>
    refine go_false ?_
    refine evSeq_go rfl (by simp [h0, h1, h2, s1, s2, s3, sw] <;> rfl) (by rfl) (by simp [fits_some, fits_none, hw, Nat.blt_eq]) ?_
    refine evSeq_go rfl (by simp [h0, h1, h2, s1, s2, s3, sw] <;> rfl) (by rfl) (by simp [fits_some, fits_none, hw, Nat.blt_eq]) ?_
    refine evSeq_go rfl (by simp [h0, h1, h2, s1, s2, s3, sw] <;> rfl) (by rfl) (by simp [fits_some, fits_none, hw, Nat.blt_eq]) ?_
    refine evSeq_go rfl (by simp [h0, h1, h2, s1, s2, s3, sw] <;> rfl) (by rfl) (by simp [fits_some, fits_none, hw, Nat.blt_eq]) ?_
    refine evSeq_go (by simp [wants, h0, h1, h2, s1, s2, s3, sw]) (by simp [h0, h1, h2, s1, s2, s3, sw] <;> rfl) (by rfl) (by simp [fits_some, fits_none, hw, Nat.blt_eq]) ?_
    refine evSeq_go (by simp [wants, h0, h1, h2, s1, s2, s3, sw]) (by simp [h0, h1, h2, s1, s2, s3, sw] <;> rfl) (by rfl) (by simp [fits_some, fits_none, hw, Nat.blt_eq]) ?_
    refine evSeq_go (by simp [wants, h0, h1, h2, s1, s2, s3, sw]) (by simp [h0, h1, h2, s1, s2, s3, sw] <;> rfl) (by rfl) (by simp [fits_some, fits_none, hw, Nat.blt_eq]) ?_
    refine evSeq_go rfl (by simp [h0, h1, h2, s1, s2, s3, sw] <;> rfl) (by rfl) (by simp [fits_some, fits_none, hw, Nat.blt_eq]) ?_
    refine evSeq_go rfl (by simp [h0, h1, h2, s1, s2, s3, sw] <;> rfl) (by rfl) (by simp [fits_some, fits_none, hw, Nat.blt_eq]) ?_
    refine evSeq_go (by simp [wants, h0, h1, h2, s1, s2, s3, sw]) (by simp [h0, h1, h2, s1, s2, s3, sw] <;> rfl) (by rfl) (by simp [fits_some, fits_none, hw, Nat.blt_eq]) ?_
    refine evSeq_go (by simp [wants, h0, h1, h2, s1, s2, s3, sw]) (by simp [h0, h1, h2, s1, s2, s3, sw] <;> rfl) (by rfl) (by simp [fits_some, fits_none, hw, Nat.blt_eq]) ?_
    refine evSeq_go (by simp [wants, h0, h1, h2, s1, s2, s3, sw]) (by simp [h0, h1, h2, s1, s2, s3, sw] <;> rfl) (by rfl) (by simp [fits_some, fits_none, hw, Nat.blt_eq]) ?_
    refine evSeq_go rfl (by simp [h0, h1, h2, s1, s2, s3, sw] <;> rfl) (by rfl) (by simp [fits_some, fits_none, hw, Nat.blt_eq]) ?_
    exact evSeq_nil
  refine inSeq_norm ?_
  refine Tri.condG (o := ?o3) (b := ?b3) ?g3 ?r3 ?y3 ?n3
  case g3 => simp [h0, h1, h2, s1, s2, s3, sw] <;> rfl
  case r3 => rfl
  case y3 =>
    intro hy3
    refine Tri.seq' ?_
    refine Tri.regN (t' := ?t4) (H' := ?H4) TT_ok hC ?e4 ?q4
    case e4 =>
      refine go_false ?_
      refine evSeq_go rfl (by simp [h0, h1, h2, s1, s2, s3, sw] <;> rfl) (by rfl) (by simp [fits_some, fits_none, hw, Nat.blt_eq]) ?_
      refine evSeq_go rfl (by simp [h0, h1, h2, s1, s2, s3, sw] <;> rfl) (by rfl) (by simp [fits_some, fits_none, hw, Nat.blt_eq]) ?_
      exact evSeq_nil
    refine inSeq_norm ?_
    refine Tri.ret ?_
    refine inSeq_ret ?_
    simp [Ends, finish, evResults, evResult, Tryz.f3, h0, h1, h2, s1, s2, s3, sw]
  case n3 =>
    intro hn3
    exact absurd hn3 (by simp [h0, h1, h2, s1, s2, s3, sw])
theorem body_3y111 {call : CallF} (hC : call.Sound Tryz.prog TT) (a b c : Nd) (s1 : ∀ H, call 4 [a.enc, .i .i64 200] H = .val (.b true) H) (s2 : ∀ H, call 4 [b.enc, .i .i64 200] H = .val (.b true) H) (s3 : ∀ H, call 4 [c.enc, .i .i64 200] H = .val (.b true) H) (sw : ∀ H, call 5 [] H = .val (.b true) H) (eab : ∀ H, call 6 [a.enc, b.enc] H = .val (.b true) H) (ebc : ∀ H, call 6 [b.enc, c.enc] H = .val (.b true) H) (eac : ∀ H, call 6 [a.enc, c.enc] H = .val (.b true) H) (eaa : ∀ H, call 6 [a.enc, a.enc] H = .val (.b true) H) (eba : ∀ H, call 6 [b.enc, a.enc] H = .val (.b true) H) (na da nb db : Int) (zab : ∀ H, call 7 [a.enc] H = .val (.tup [.i .i64 na, .i .i64 da]) H) (zb : ∀ H, call 7 [b.enc] H = .val (.tup [.i .i64 nb, .i .i64 db]) H) (e1 : na = nb) (e2 : da = db) (k : Int) (k1 : ∀ H, call 8 [a.enc] H = .val (.i .i64 k) H) (k2 : ∀ H, call 8 [b.enc] H = .val (.i .i64 k) H)   : Body Tryz.prog TT 3 [a.enc, b.enc, c.enc] (.val (.b true)) := by
  refine ⟨Tryz.f3, _, rfl, rfl, by simp [Tryz.f3], ?_⟩
  have h0 : (Tm.init Tryz.f3.ntmps [a.enc, b.enc, c.enc]).get 0 = a.enc := by rw [get_init]; rfl
  have h1 : (Tm.init Tryz.f3.ntmps [a.enc, b.enc, c.enc]).get 1 = b.enc := by rw [get_init]; rfl
  have h2 : (Tm.init Tryz.f3.ntmps [a.enc, b.enc, c.enc]).get 2 = c.enc := by rw [get_init]; rfl
  have hw : (Tm.init Tryz.f3.ntmps [a.enc, b.enc, c.enc]).wid = 100 := rfl
  generalize Tm.init Tryz.f3.ntmps [a.enc, b.enc, c.enc] = t at *
  try simp only [Nd.enc_eq] at *
  refine Tri.seq' ?_
  refine Tri.regN (t' := ?t1) (H' := ?H1) TT_ok hC ?e1 ?q1
  case e1 =>
    refine go_false ?_
    refine evSeq_go rfl (by simp [h0, h1, h2, s1, s2, s3, sw, eab, ebc, eac, eaa, eba, zab, zb, e1, e2, k1, k2] <;> rfl) (by rfl) (by simp [fits_some, fits_none, hw, Nat.blt_eq]) ?_
    refine evSeq_go rfl (by simp [h0, h1, h2, s1, s2, s3, sw, eab, ebc, eac, eaa, eba, zab, zb, e1, e2, k1, k2] <;> rfl) (by rfl) (by simp [fits_some, fits_none, hw, Nat.blt_eq]) ?_
    refine evSeq_go rfl (by simp [h0, h1, h2, s1, s2, s3, sw, eab, ebc, eac, eaa, eba, zab, zb, e1, e2, k1, k2] <;> rfl) (by rfl) (by simp [fits_some, fits_none, hw, Nat.blt_eq]) ?_
    refine evSeq_go rfl (by simp [h0, h1, h2, s1, s2, s3, sw, eab, ebc, eac, eaa, eba, zab, zb, e1, e2, k1, k2] <;> rfl) (by rfl) (by simp [fits_some, fits_none, hw, Nat.blt_eq]) ?_
    exact evSeq_nil
  refine inSeq_norm ?_
  refine Tri.seq' ?_
  refine Tri.seq' ?_
  refine Tri.regN (t' := ?t2) (H' := ?H2) TT_ok hC ?e2 ?q2
  case e2 =>
    refine go_false ?_
    refine evSeq_go rfl (by simp [h0, h1, h2, s1, s2, s3, sw, eab, ebc, eac, eaa, eba, zab, zb, e1, e2, k1, k2] <;> rfl) (by rfl) (by simp [fits_some, fits_none, hw, Nat.blt_eq]) ?_
    refine evSeq_go rfl (by simp [h0, h1, h2, s1, s2, s3, sw, eab, ebc, eac, eaa, eba, zab, zb, e1, e2, k1, k2] <;> rfl) (by rfl) (by simp [fits_some, fits_none, hw, Nat.blt_eq]) ?_
    refine evSeq_go rfl (by simp [h0, h1, h2, s1, s2, s3, sw, eab, ebc, eac, eaa, eba, zab, zb, e1, e2, k1, k2] <;> rfl) (by rfl) (by simp [fits_some, fits_none, hw, Nat.blt_eq]) ?_
    refine evSeq_go rfl (by simp [h0, h1, h2, s1, s2, s3, sw, eab, ebc, eac, eaa, eba, zab, zb, e1, e2, k1, k2] <;> rfl) (by rfl) (by simp [fits_some, fits_none, hw, Nat.blt_eq]) ?_
    refine evSeq_go (by simp [wants, h0, h1, h2, s1, s2, s3, sw, eab, ebc, eac, eaa, eba, zab, zb, e1, e2, k1, k2]) (by simp [h0, h1, h2, s1, s2, s3, sw, eab, ebc, eac, eaa, eba, zab, zb, e1, e2, k1, k2] <;> rfl) (by rfl) (by simp [fits_some, fits_none, hw, Nat.blt_eq]) ?_
    refine evSeq_go (by simp [wants, h0, h1, h2, s1, s2, s3, sw, eab, ebc, eac, eaa, eba, zab, zb, e1, e2, k1, k2]) (by simp [h0, h1, h2, s1, s2, s3, sw, eab, ebc, eac, eaa, eba, zab, zb, e1, e2, k1, k2] <;> rfl) (by rfl) (by simp [fits_some, fits_none, hw, Nat.blt_eq]) ?_
    refine evSeq_go (by simp [wants, h0, h1, h2, s1, s2, s3, sw, eab, ebc, eac, eaa, eba, zab, zb, e1, e2, k1, k2]) (by simp [h0, h1, h2, s1, s2, s3, sw, eab, ebc, eac, eaa, eba, zab, zb, e1, e2, k1, k2] <;> rfl) (by rfl) (by simp [fits_some, fits_none, hw, Nat.blt_eq]) ?_
    refine evSeq_go rfl (by simp [h0, h1, h2, s1, s2, s3, sw, eab, ebc, eac, eaa, eba, zab, zb, e1, e2, k1, k2] <;> rfl) (by rfl) (by simp [fits_some, fits_none, hw, Nat.blt_eq]) ?_
    refine evSeq_go rfl (by simp [h0, h1, h2, s1, s2, s3, sw, eab, ebc, eac, eaa, eba, zab, zb, e1, e2, k1, k2] <;> rfl) (by rfl) (by simp [fits_some, fits_none, hw, Nat.blt_eq]) ?_
    refine evSeq_go (by simp [wants, h0, h1, h2, s1, s2, s3, sw, eab, ebc, eac, eaa, eba, zab, zb, e1, e2, k1, k2]) (by simp [h0, h1, h2, s1, s2, s3, sw, eab, ebc, eac, eaa, eba, zab, zb, e1, e2, k1, k2] <;> rfl) (by rfl) (by simp [fits_some, fits_none, hw, Nat.blt_eq]) ?_
    refine evSeq_go (by simp [wants, h0, h1, h2, s1, s2, s3, sw, eab, ebc, eac, eaa, eba, zab, zb, e1, e2, k1, k2]) (by simp [h0, h1, h2, s1, s2, s3, sw, eab, ebc, eac, eaa, eba, zab, zb, e1, e2, k1, k2] <;> rfl) (by rfl) (by simp [fits_some, fits_none, hw, Nat.blt_eq]) ?_
    refine evSeq_go (by simp [wants, h0, h1, h2, s1, s2, s3, sw, eab, ebc, eac, eaa, eba, zab, zb, e1, e2, k1, k2]) (by simp [h0, h1, h2, s1, s2, s3, sw, eab, ebc, eac, eaa, eba, zab, zb, e1, e2, k1, k2] <;> rfl) (by rfl) (by simp [fits_some, fits_none, hw, Nat.blt_eq]) ?_
    refine evSeq_go rfl (by simp [h0, h1, h2, s1, s2, s3, sw, eab, ebc, eac, eaa, eba, zab, zb, e1, e2, k1, k2] <;> rfl) (by rfl) (by simp [fits_some, fits_none, hw, Nat.blt_eq]) ?_
    exact evSeq_nil
  refine inSeq_norm ?_
  refine Tri.condG (o := ?o3) (b := ?b3) ?g3 ?r3 ?y3 ?n3
  case g3 => simp [h0, h1, h2, s1, s2, s3, sw, eab, ebc, eac, eaa, eba, zab, zb, e1, e2, k1, k2] <;> rfl
  case r3 => rfl
  case y3 =>
    intro hy3
    exact absurd hy3 (by simp [h0, h1, h2, s1, s2, s3, sw, eab, ebc, eac, eaa, eba, zab, zb, e1, e2, k1, k2])
  case n3 =>
    intro hn3
    refine Tri.skip ?_
    refine inSeq_norm ?_
    refine Tri.seq' ?_
    refine Tri.regN (t' := ?t4) (H' := ?H4) TT_ok hC ?e4 ?q4
    case e4 =>
      refine evReg_quiet (t' := ?t4) (by kernel_rfl) ?_ ?r904
      refine QR.val rfl (by simp [h0, h1, h2, s1, s2, s3, sw, eab, ebc, eac, eaa, eba, zab, zb, e1, e2, k1, k2] <;> rfl) (by rfl) (by simp [fits_some, fits_none, hw, Nat.blt_eq]) ?_
      refine QR.val rfl (by simp [h0, h1, h2, s1, s2, s3, sw, eab, ebc, eac, eaa, eba, zab, zb, e1, e2, k1, k2] <;> rfl) (by rfl) (by simp [fits_some, fits_none, hw, Nat.blt_eq]) ?_
      refine QR.val rfl (by simp [h0, h1, h2, s1, s2, s3, sw, eab, ebc, eac, eaa, eba, zab, zb, e1, e2, k1, k2] <;> rfl) (by rfl) (by simp [fits_some, fits_none, hw, Nat.blt_eq]) ?_
      refine QR.val rfl (by simp [h0, h1, h2, s1, s2, s3, sw, eab, ebc, eac, eaa, eba, zab, zb, e1, e2, k1, k2] <;> rfl) (by rfl) (by simp [fits_some, fits_none, hw, Nat.blt_eq]) ?_
      refine QR.val rfl (by simp [h0, h1, h2, s1, s2, s3, sw, eab, ebc, eac, eaa, eba, zab, zb, e1, e2, k1, k2] <;> rfl) (by rfl) (by simp [fits_some, fits_none, hw, Nat.blt_eq]) ?_
      refine QR.val rfl (by simp [h0, h1, h2, s1, s2, s3, sw, eab, ebc, eac, eaa, eba, zab, zb, e1, e2, k1, k2] <;> rfl) (by rfl) (by simp [fits_some, fits_none, hw, Nat.blt_eq]) ?_
      refine QR.val rfl (by simp [h0, h1, h2, s1, s2, s3, sw, eab, ebc, eac, eaa, eba, zab, zb, e1, e2, k1, k2] <;> rfl) (by rfl) (by simp [fits_some, fits_none, hw, Nat.blt_eq]) ?_
      refine QR.val rfl (by simp [h0, h1, h2, s1, s2, s3, sw, eab, ebc, eac, eaa, eba, zab, zb, e1, e2, k1, k2] <;> rfl) (by rfl) (by simp [fits_some, fits_none, hw, Nat.blt_eq]) ?_
      refine QR.val rfl (by simp [h0, h1, h2, s1, s2, s3, sw, eab, ebc, eac, eaa, eba, zab, zb, e1, e2, k1, k2] <;> rfl) (by rfl) (by simp [fits_some, fits_none, hw, Nat.blt_eq]) ?_
      refine QR.val rfl (by simp [h0, h1, h2, s1, s2, s3, sw, eab, ebc, eac, eaa, eba, zab, zb, e1, e2, k1, k2] <;> rfl) (by rfl) (by simp [fits_some, fits_none, hw, Nat.blt_eq]) ?_
      refine QR.val rfl (by simp [h0, h1, h2, s1, s2, s3, sw, eab, ebc, eac, eaa, eba, zab, zb, e1, e2, k1, k2] <;> rfl) (by rfl) (by simp [fits_some, fits_none, hw, Nat.blt_eq]) ?_
      refine QR.val rfl (by simp [h0, h1, h2, s1, s2, s3, sw, eab, ebc, eac, eaa, eba, zab, zb, e1, e2, k1, k2] <;> rfl) (by rfl) (by simp [fits_some, fits_none, hw, Nat.blt_eq]) ?_
      exact QR.nil
      case r904 => exact rfl
    refine inSeq_norm ?_
    refine Tri.seq' ?_
    refine Tri.seq' ?_
    refine Tri.regN (t' := ?t5) (H' := ?H5) TT_ok hC ?e5 ?q5
    case e5 =>
      refine go_false ?_
      refine evSeq_go rfl (by simp [h0, h1, h2, s1, s2, s3, sw, eab, ebc, eac, eaa, eba, zab, zb, e1, e2, k1, k2] <;> rfl) (by rfl) (by simp [fits_some, fits_none, hw, Nat.blt_eq]) ?_
      refine evSeq_go rfl (by simp [h0, h1, h2, s1, s2, s3, sw, eab, ebc, eac, eaa, eba, zab, zb, e1, e2, k1, k2] <;> rfl) (by rfl) (by simp [fits_some, fits_none, hw, Nat.blt_eq]) ?_
      refine evSeq_go rfl (by simp [h0, h1, h2, s1, s2, s3, sw, eab, ebc, eac, eaa, eba, zab, zb, e1, e2, k1, k2] <;> rfl) (by rfl) (by simp [fits_some, fits_none, hw, Nat.blt_eq]) ?_
      refine evSeq_go rfl (by simp [h0, h1, h2, s1, s2, s3, sw, eab, ebc, eac, eaa, eba, zab, zb, e1, e2, k1, k2] <;> rfl) (by rfl) (by simp [fits_some, fits_none, hw, Nat.blt_eq]) ?_
      refine evSeq_go rfl (by simp [h0, h1, h2, s1, s2, s3, sw, eab, ebc, eac, eaa, eba, zab, zb, e1, e2, k1, k2] <;> rfl) (by rfl) (by simp [fits_some, fits_none, hw, Nat.blt_eq]) ?_
      refine evSeq_go (by simp [wants, h0, h1, h2, s1, s2, s3, sw, eab, ebc, eac, eaa, eba, zab, zb, e1, e2, k1, k2]) (by simp [h0, h1, h2, s1, s2, s3, sw, eab, ebc, eac, eaa, eba, zab, zb, e1, e2, k1, k2] <;> rfl) (by rfl) (by simp [fits_some, fits_none, hw, Nat.blt_eq]) ?_
      refine evSeq_go (by simp [wants, h0, h1, h2, s1, s2, s3, sw, eab, ebc, eac, eaa, eba, zab, zb, e1, e2, k1, k2]) (by simp [h0, h1, h2, s1, s2, s3, sw, eab, ebc, eac, eaa, eba, zab, zb, e1, e2, k1, k2] <;> rfl) (by rfl) (by simp [fits_some, fits_none, hw, Nat.blt_eq]) ?_
      refine evSeq_go (by simp [wants, h0, h1, h2, s1, s2, s3, sw, eab, ebc, eac, eaa, eba, zab, zb, e1, e2, k1, k2]) (by simp [h0, h1, h2, s1, s2, s3, sw, eab, ebc, eac, eaa, eba, zab, zb, e1, e2, k1, k2] <;> rfl) (by rfl) (by simp [fits_some, fits_none, hw, Nat.blt_eq]) ?_
      refine evSeq_go (by simp [wants, h0, h1, h2, s1, s2, s3, sw, eab, ebc, eac, eaa, eba, zab, zb, e1, e2, k1, k2]) (by simp [h0, h1, h2, s1, s2, s3, sw, eab, ebc, eac, eaa, eba, zab, zb, e1, e2, k1, k2] <;> rfl) (by rfl) (by simp [fits_some, fits_none, hw, Nat.blt_eq]) ?_
      refine evSeq_go (by simp [wants, h0, h1, h2, s1, s2, s3, sw, eab, ebc, eac, eaa, eba, zab, zb, e1, e2, k1, k2]) (by simp [h0, h1, h2, s1, s2, s3, sw, eab, ebc, eac, eaa, eba, zab, zb, e1, e2, k1, k2] <;> rfl) (by rfl) (by simp [fits_some, fits_none, hw, Nat.blt_eq]) ?_
      refine evSeq_go rfl (by simp [h0, h1, h2, s1, s2, s3, sw, eab, ebc, eac, eaa, eba, zab, zb, e1, e2, k1, k2] <;> rfl) (by rfl) (by simp [fits_some, fits_none, hw, Nat.blt_eq]) ?_
      refine evSeq_go rfl (by simp [h0, h1, h2, s1, s2, s3, sw, eab, ebc, eac, eaa, eba, zab, zb, e1, e2, k1, k2] <;> rfl) (by rfl) (by simp [fits_some, fits_none, hw, Nat.blt_eq]) ?_
      refine evSeq_go (by simp [wants, h0, h1, h2, s1, s2, s3, sw, eab, ebc, eac, eaa, eba, zab, zb, e1, e2, k1, k2]) (by simp [h0, h1, h2, s1, s2, s3, sw, eab, ebc, eac, eaa, eba, zab, zb, e1, e2, k1, k2] <;> rfl) (by rfl) (by simp [fits_some, fits_none, hw, Nat.blt_eq]) ?_
      refine evSeq_go (by simp [wants, h0, h1, h2, s1, s2, s3, sw, eab, ebc, eac, eaa, eba, zab, zb, e1, e2, k1, k2]) (by simp [h0, h1, h2, s1, s2, s3, sw, eab, ebc, eac, eaa, eba, zab, zb, e1, e2, k1, k2] <;> rfl) (by rfl) (by simp [fits_some, fits_none, hw, Nat.blt_eq]) ?_
      refine evSeq_go (by simp [wants, h0, h1, h2, s1, s2, s3, sw, eab, ebc, eac, eaa, eba, zab, zb, e1, e2, k1, k2]) (by simp [h0, h1, h2, s1, s2, s3, sw, eab, ebc, eac, eaa, eba, zab, zb, e1, e2, k1, k2] <;> rfl) (by rfl) (by simp [fits_some, fits_none, hw, Nat.blt_eq]) ?_
      refine evSeq_go (by simp [wants, h0, h1, h2, s1, s2, s3, sw, eab, ebc, eac, eaa, eba, zab, zb, e1, e2, k1, k2]) (by simp [h0, h1, h2, s1, s2, s3, sw, eab, ebc, eac, eaa, eba, zab, zb, e1, e2, k1, k2] <;> rfl) (by rfl) (by simp [fits_some, fits_none, hw, Nat.blt_eq]) ?_
      refine evSeq_go (by simp [wants, h0, h1, h2, s1, s2, s3, sw, eab, ebc, eac, eaa, eba, zab, zb, e1, e2, k1, k2]) (by simp [h0, h1, h2, s1, s2, s3, sw, eab, ebc, eac, eaa, eba, zab, zb, e1, e2, k1, k2] <;> rfl) (by rfl) (by simp [fits_some, fits_none, hw, Nat.blt_eq]) ?_
      refine evSeq_go (by simp [wants, h0, h1, h2, s1, s2, s3, sw, eab, ebc, eac, eaa, eba, zab, zb, e1, e2, k1, k2]) (by simp [h0, h1, h2, s1, s2, s3, sw, eab, ebc, eac, eaa, eba, zab, zb, e1, e2, k1, k2] <;> rfl) (by rfl) (by simp [fits_some, fits_none, hw, Nat.blt_eq]) ?_
      refine evSeq_go (by simp [wants, h0, h1, h2, s1, s2, s3, sw, eab, ebc, eac, eaa, eba, zab, zb, e1, e2, k1, k2]) (by simp [h0, h1, h2, s1, s2, s3, sw, eab, ebc, eac, eaa, eba, zab, zb, e1, e2, k1, k2] <;> rfl) (by rfl) (by simp [fits_some, fits_none, hw, Nat.blt_eq]) ?_
      refine evSeq_go (by simp [wants, h0, h1, h2, s1, s2, s3, sw, eab, ebc, eac, eaa, eba, zab, zb, e1, e2, k1, k2]) (by simp [h0, h1, h2, s1, s2, s3, sw, eab, ebc, eac, eaa, eba, zab, zb, e1, e2, k1, k2] <;> rfl) (by rfl) (by simp [fits_some, fits_none, hw, Nat.blt_eq]) ?_
      refine evSeq_go rfl (by simp [h0, h1, h2, s1, s2, s3, sw, eab, ebc, eac, eaa, eba, zab, zb, e1, e2, k1, k2] <;> rfl) (by rfl) (by simp [fits_some, fits_none, hw, Nat.blt_eq]) ?_
      refine evSeq_go rfl (by simp [h0, h1, h2, s1, s2, s3, sw, eab, ebc, eac, eaa, eba, zab, zb, e1, e2, k1, k2] <;> rfl) (by rfl) (by simp [fits_some, fits_none, hw, Nat.blt_eq]) ?_
      refine evSeq_go (by simp [wants, h0, h1, h2, s1, s2, s3, sw, eab, ebc, eac, eaa, eba, zab, zb, e1, e2, k1, k2]) (by simp [h0, h1, h2, s1, s2, s3, sw, eab, ebc, eac, eaa, eba, zab, zb, e1, e2, k1, k2] <;> rfl) (by rfl) (by simp [fits_some, fits_none, hw, Nat.blt_eq]) ?_
      refine evSeq_go (by simp [wants, h0, h1, h2, s1, s2, s3, sw, eab, ebc, eac, eaa, eba, zab, zb, e1, e2, k1, k2]) (by simp [h0, h1, h2, s1, s2, s3, sw, eab, ebc, eac, eaa, eba, zab, zb, e1, e2, k1, k2] <;> rfl) (by rfl) (by simp [fits_some, fits_none, hw, Nat.blt_eq]) ?_
      refine evSeq_go (by simp [wants, h0, h1, h2, s1, s2, s3, sw, eab, ebc, eac, eaa, eba, zab, zb, e1, e2, k1, k2]) (by simp [h0, h1, h2, s1, s2, s3, sw, eab, ebc, eac, eaa, eba, zab, zb, e1, e2, k1, k2] <;> rfl) (by rfl) (by simp [fits_some, fits_none, hw, Nat.blt_eq]) ?_
      refine evSeq_go (by simp [wants, h0, h1, h2, s1, s2, s3, sw, eab, ebc, eac, eaa, eba, zab, zb, e1, e2, k1, k2]) (by simp [h0, h1, h2, s1, s2, s3, sw, eab, ebc, eac, eaa, eba, zab, zb, e1, e2, k1, k2] <;> rfl) (by rfl) (by simp [fits_some, fits_none, hw, Nat.blt_eq]) ?_
      refine evSeq_go (by simp [wants, h0, h1, h2, s1, s2, s3, sw, eab, ebc, eac, eaa, eba, zab, zb, e1, e2, k1, k2]) (by simp [h0, h1, h2, s1, s2, s3, sw, eab, ebc, eac, eaa, eba, zab, zb, e1, e2, k1, k2] <;> rfl) (by rfl) (by simp [fits_some, fits_none, hw, Nat.blt_eq]) ?_
      refine evSeq_go (by simp [wants, h0, h1, h2, s1, s2, s3, sw, eab, ebc, eac, eaa, eba, zab, zb, e1, e2, k1, k2]) (by simp [h0, h1, h2, s1, s2, s3, sw, eab, ebc, eac, eaa, eba, zab, zb, e1, e2, k1, k2] <;> rfl) (by rfl) (by simp [fits_some, fits_none, hw, Nat.blt_eq]) ?_
      refine evSeq_off (by simp [wants, h0, h1, h2, s1, s2, s3, sw, eab, ebc, eac, eaa, eba, zab, zb, e1, e2, k1, k2]) (by simp [fits_some, fits_none, hw, Nat.blt_eq]) ?_
      refine evSeq_go (by simp [wants, h0, h1, h2, s1, s2, s3, sw, eab, ebc, eac, eaa, eba, zab, zb, e1, e2, k1, k2]) (by simp [h0, h1, h2, s1, s2, s3, sw, eab, ebc, eac, eaa, eba, zab, zb, e1, e2, k1, k2] <;> rfl) (by rfl) (by simp [fits_some, fits_none, hw, Nat.blt_eq]) ?_
      refine evSeq_go rfl (by simp [h0, h1, h2, s1, s2, s3, sw, eab, ebc, eac, eaa, eba, zab, zb, e1, e2, k1, k2] <;> rfl) (by rfl) (by simp [fits_some, fits_none, hw, Nat.blt_eq]) ?_
      exact evSeq_nil
    refine inSeq_norm ?_
    refine Tri.condG (o := ?o6) (b := ?b6) ?g6 ?r6 ?y6 ?n6
    case g6 => simp [h0, h1, h2, s1, s2, s3, sw, eab, ebc, eac, eaa, eba, zab, zb, e1, e2, k1, k2] <;> rfl
    case r6 => rfl
    case y6 =>
      intro hy6
      exact absurd hy6 (by simp [h0, h1, h2, s1, s2, s3, sw, eab, ebc, eac, eaa, eba, zab, zb, e1, e2, k1, k2])
    case n6 =>
      intro hn6
      refine Tri.skip ?_
      refine inSeq_norm ?_
      refine Tri.seq' ?_
      refine Tri.regN (t' := ?t7) (H' := ?H7) TT_ok hC ?e7 ?q7
      case e7 =>
        refine go_false ?_
        refine evSeq_go rfl (by simp [h0, h1, h2, s1, s2, s3, sw, eab, ebc, eac, eaa, eba, zab, zb, e1, e2, k1, k2] <;> rfl) (by rfl) (by simp [fits_some, fits_none, hw, Nat.blt_eq]) ?_
        refine evSeq_go rfl (by simp [h0, h1, h2, s1, s2, s3, sw, eab, ebc, eac, eaa, eba, zab, zb, e1, e2, k1, k2] <;> rfl) (by rfl) (by simp [fits_some, fits_none, hw, Nat.blt_eq]) ?_
        refine evSeq_go rfl (by simp [h0, h1, h2, s1, s2, s3, sw, eab, ebc, eac, eaa, eba, zab, zb, e1, e2, k1, k2] <;> rfl) (by rfl) (by simp [fits_some, fits_none, hw, Nat.blt_eq]) ?_
        refine evSeq_go rfl (by simp [h0, h1, h2, s1, s2, s3, sw, eab, ebc, eac, eaa, eba, zab, zb, e1, e2, k1, k2] <;> rfl) (by rfl) (by simp [fits_some, fits_none, hw, Nat.blt_eq]) ?_
        refine evSeq_go rfl (by simp [h0, h1, h2, s1, s2, s3, sw, eab, ebc, eac, eaa, eba, zab, zb, e1, e2, k1, k2] <;> rfl) (by rfl) (by simp [fits_some, fits_none, hw, Nat.blt_eq]) ?_
        refine evSeq_go rfl (by simp [h0, h1, h2, s1, s2, s3, sw, eab, ebc, eac, eaa, eba, zab, zb, e1, e2, k1, k2] <;> rfl) (by rfl) (by simp [fits_some, fits_none, hw, Nat.blt_eq]) ?_
        refine evSeq_go rfl (by simp [h0, h1, h2, s1, s2, s3, sw, eab, ebc, eac, eaa, eba, zab, zb, e1, e2, k1, k2] <;> rfl) (by rfl) (by simp [fits_some, fits_none, hw, Nat.blt_eq]) ?_
        exact evSeq_nil
      refine inSeq_norm ?_
      refine Tri.seq' ?_
      refine Tri.regN (t' := ?t8) (H' := ?H8) TT_ok hC ?e8 ?q8
      case e8 =>
        refine go_false ?_
        refine evSeq_go rfl (by simp [h0, h1, h2, s1, s2, s3, sw, eab, ebc, eac, eaa, eba, zab, zb, e1, e2, k1, k2] <;> rfl) (by rfl) (by simp [fits_some, fits_none, hw, Nat.blt_eq]) ?_
        refine evSeq_go rfl (by simp [h0, h1, h2, s1, s2, s3, sw, eab, ebc, eac, eaa, eba, zab, zb, e1, e2, k1, k2] <;> rfl) (by rfl) (by simp [fits_some, fits_none, hw, Nat.blt_eq]) ?_
        refine evSeq_go rfl (by simp [h0, h1, h2, s1, s2, s3, sw, eab, ebc, eac, eaa, eba, zab, zb, e1, e2, k1, k2] <;> rfl) (by rfl) (by simp [fits_some, fits_none, hw, Nat.blt_eq]) ?_
        refine evSeq_go rfl (by simp [h0, h1, h2, s1, s2, s3, sw, eab, ebc, eac, eaa, eba, zab, zb, e1, e2, k1, k2] <;> rfl) (by rfl) (by simp [fits_some, fits_none, hw, Nat.blt_eq]) ?_
        refine evSeq_go rfl (by simp [h0, h1, h2, s1, s2, s3, sw, eab, ebc, eac, eaa, eba, zab, zb, e1, e2, k1, k2] <;> rfl) (by rfl) (by simp [fits_some, fits_none, hw, Nat.blt_eq]) ?_
        refine evSeq_go rfl (by simp [h0, h1, h2, s1, s2, s3, sw, eab, ebc, eac, eaa, eba, zab, zb, e1, e2, k1, k2] <;> rfl) (by rfl) (by simp [fits_some, fits_none, hw, Nat.blt_eq]) ?_
        refine evSeq_go rfl (by simp [h0, h1, h2, s1, s2, s3, sw, eab, ebc, eac, eaa, eba, zab, zb, e1, e2, k1, k2] <;> rfl) (by rfl) (by simp [fits_some, fits_none, hw, Nat.blt_eq]) ?_
        exact evSeq_nil
      refine inSeq_norm ?_
      refine Tri.seq' ?_
      refine Tri.regN (t' := ?t9) (H' := ?H9) TT_ok hC ?e9 ?q9
      case e9 =>
        refine evReg_quiet (t' := ?t9) (by kernel_rfl) ?_ ?r909
        refine QR.val rfl (by simp [h0, h1, h2, s1, s2, s3, sw, eab, ebc, eac, eaa, eba, zab, zb, e1, e2, k1, k2] <;> rfl) (by rfl) (by simp [fits_some, fits_none, hw, Nat.blt_eq]) ?_
        refine QR.val rfl (by simp [h0, h1, h2, s1, s2, s3, sw, eab, ebc, eac, eaa, eba, zab, zb, e1, e2, k1, k2] <;> rfl) (by rfl) (by simp [fits_some, fits_none, hw, Nat.blt_eq]) ?_
        refine QR.val rfl (by simp [h0, h1, h2, s1, s2, s3, sw, eab, ebc, eac, eaa, eba, zab, zb, e1, e2, k1, k2] <;> rfl) (by rfl) (by simp [fits_some, fits_none, hw, Nat.blt_eq]) ?_
        refine QR.val (by simp [wants, h0, h1, h2, s1, s2, s3, sw, eab, ebc, eac, eaa, eba, zab, zb, e1, e2, k1, k2]) (by simp [h0, h1, h2, s1, s2, s3, sw, eab, ebc, eac, eaa, eba, zab, zb, e1, e2, k1, k2] <;> rfl) (by rfl) (by simp [fits_some, fits_none, hw, Nat.blt_eq]) ?_
        refine QR.val (by simp [wants, h0, h1, h2, s1, s2, s3, sw, eab, ebc, eac, eaa, eba, zab, zb, e1, e2, k1, k2]) (by simp [h0, h1, h2, s1, s2, s3, sw, eab, ebc, eac, eaa, eba, zab, zb, e1, e2, k1, k2] <;> rfl) (by rfl) (by simp [fits_some, fits_none, hw, Nat.blt_eq]) ?_
        refine QR.val (by simp [wants, h0, h1, h2, s1, s2, s3, sw, eab, ebc, eac, eaa, eba, zab, zb, e1, e2, k1, k2]) (by simp [h0, h1, h2, s1, s2, s3, sw, eab, ebc, eac, eaa, eba, zab, zb, e1, e2, k1, k2] <;> rfl) (by rfl) (by simp [fits_some, fits_none, hw, Nat.blt_eq]) ?_
        refine QR.val (by simp [wants, h0, h1, h2, s1, s2, s3, sw, eab, ebc, eac, eaa, eba, zab, zb, e1, e2, k1, k2]) (by simp [h0, h1, h2, s1, s2, s3, sw, eab, ebc, eac, eaa, eba, zab, zb, e1, e2, k1, k2] <;> rfl) (by rfl) (by simp [fits_some, fits_none, hw, Nat.blt_eq]) ?_
        refine QR.val (by simp [wants, h0, h1, h2, s1, s2, s3, sw, eab, ebc, eac, eaa, eba, zab, zb, e1, e2, k1, k2]) (by simp [h0, h1, h2, s1, s2, s3, sw, eab, ebc, eac, eaa, eba, zab, zb, e1, e2, k1, k2] <;> rfl) (by rfl) (by simp [fits_some, fits_none, hw, Nat.blt_eq]) ?_
        refine QR.val (by simp [wants, h0, h1, h2, s1, s2, s3, sw, eab, ebc, eac, eaa, eba, zab, zb, e1, e2, k1, k2]) (by simp [h0, h1, h2, s1, s2, s3, sw, eab, ebc, eac, eaa, eba, zab, zb, e1, e2, k1, k2] <;> rfl) (by rfl) (by simp [fits_some, fits_none, hw, Nat.blt_eq]) ?_
        refine QR.val (by simp [wants, h0, h1, h2, s1, s2, s3, sw, eab, ebc, eac, eaa, eba, zab, zb, e1, e2, k1, k2]) (by simp [h0, h1, h2, s1, s2, s3, sw, eab, ebc, eac, eaa, eba, zab, zb, e1, e2, k1, k2] <;> rfl) (by rfl) (by simp [fits_some, fits_none, hw, Nat.blt_eq]) ?_
        refine QR.val (by simp [wants, h0, h1, h2, s1, s2, s3, sw, eab, ebc, eac, eaa, eba, zab, zb, e1, e2, k1, k2]) (by simp [h0, h1, h2, s1, s2, s3, sw, eab, ebc, eac, eaa, eba, zab, zb, e1, e2, k1, k2] <;> rfl) (by rfl) (by simp [fits_some, fits_none, hw, Nat.blt_eq]) ?_
        refine QR.val (by simp [wants, h0, h1, h2, s1, s2, s3, sw, eab, ebc, eac, eaa, eba, zab, zb, e1, e2, k1, k2]) (by simp [h0, h1, h2, s1, s2, s3, sw, eab, ebc, eac, eaa, eba, zab, zb, e1, e2, k1, k2] <;> rfl) (by rfl) (by simp [fits_some, fits_none, hw, Nat.blt_eq]) ?_
        refine QR.val (by simp [wants, h0, h1, h2, s1, s2, s3, sw, eab, ebc, eac, eaa, eba, zab, zb, e1, e2, k1, k2]) (by simp [h0, h1, h2, s1, s2, s3, sw, eab, ebc, eac, eaa, eba, zab, zb, e1, e2, k1, k2] <;> rfl) (by rfl) (by simp [fits_some, fits_none, hw, Nat.blt_eq]) ?_
        refine QR.val (by simp [wants, h0, h1, h2, s1, s2, s3, sw, eab, ebc, eac, eaa, eba, zab, zb, e1, e2, k1, k2]) (by simp [h0, h1, h2, s1, s2, s3, sw, eab, ebc, eac, eaa, eba, zab, zb, e1, e2, k1, k2] <;> rfl) (by rfl) (by simp [fits_some, fits_none, hw, Nat.blt_eq]) ?_
        refine QR.val (by simp [wants, h0, h1, h2, s1, s2, s3, sw, eab, ebc, eac, eaa, eba, zab, zb, e1, e2, k1, k2]) (by simp [h0, h1, h2, s1, s2, s3, sw, eab, ebc, eac, eaa, eba, zab, zb, e1, e2, k1, k2] <;> rfl) (by rfl) (by simp [fits_some, fits_none, hw, Nat.blt_eq]) ?_
        refine QR.val (by simp [wants, h0, h1, h2, s1, s2, s3, sw, eab, ebc, eac, eaa, eba, zab, zb, e1, e2, k1, k2]) (by simp [h0, h1, h2, s1, s2, s3, sw, eab, ebc, eac, eaa, eba, zab, zb, e1, e2, k1, k2] <;> rfl) (by rfl) (by simp [fits_some, fits_none, hw, Nat.blt_eq]) ?_
        refine QR.val (by simp [wants, h0, h1, h2, s1, s2, s3, sw, eab, ebc, eac, eaa, eba, zab, zb, e1, e2, k1, k2]) (by simp [h0, h1, h2, s1, s2, s3, sw, eab, ebc, eac, eaa, eba, zab, zb, e1, e2, k1, k2] <;> rfl) (by rfl) (by simp [fits_some, fits_none, hw, Nat.blt_eq]) ?_
        refine QR.val (by simp [wants, h0, h1, h2, s1, s2, s3, sw, eab, ebc, eac, eaa, eba, zab, zb, e1, e2, k1, k2]) (by simp [h0, h1, h2, s1, s2, s3, sw, eab, ebc, eac, eaa, eba, zab, zb, e1, e2, k1, k2] <;> rfl) (by rfl) (by simp [fits_some, fits_none, hw, Nat.blt_eq]) ?_
        refine QR.val rfl (by simp [h0, h1, h2, s1, s2, s3, sw, eab, ebc, eac, eaa, eba, zab, zb, e1, e2, k1, k2] <;> rfl) (by rfl) (by simp [fits_some, fits_none, hw, Nat.blt_eq]) ?_
        refine QR.val rfl (by simp [h0, h1, h2, s1, s2, s3, sw, eab, ebc, eac, eaa, eba, zab, zb, e1, e2, k1, k2] <;> rfl) (by rfl) (by simp [fits_some, fits_none, hw, Nat.blt_eq]) ?_
        refine QR.val (by simp [wants, h0, h1, h2, s1, s2, s3, sw, eab, ebc, eac, eaa, eba, zab, zb, e1, e2, k1, k2]) (by simp [h0, h1, h2, s1, s2, s3, sw, eab, ebc, eac, eaa, eba, zab, zb, e1, e2, k1, k2] <;> rfl) (by rfl) (by simp [fits_some, fits_none, hw, Nat.blt_eq]) ?_
        refine QR.val rfl (by simp [h0, h1, h2, s1, s2, s3, sw, eab, ebc, eac, eaa, eba, zab, zb, e1, e2, k1, k2] <;> rfl) (by rfl) (by simp [fits_some, fits_none, hw, Nat.blt_eq]) ?_
        refine QR.val rfl (by simp [h0, h1, h2, s1, s2, s3, sw, eab, ebc, eac, eaa, eba, zab, zb, e1, e2, k1, k2] <;> rfl) (by rfl) (by simp [fits_some, fits_none, hw, Nat.blt_eq]) ?_
        exact QR.nil
        case r909 => exact rfl
      refine inSeq_norm ?_
      refine Tri.ret ?_
      simp [Ends, finish, evResults, evResult, Tryz.f3, h0, h1, h2, s1, s2, s3, sw, eab, ebc, eac, eaa, eba, zab, zb, e1, e2, k1, k2]
theorem body_3y100 {call : CallF} (hC : call.Sound Tryz.prog TT) (a b c : Nd) (s1 : ∀ H, call 4 [a.enc, .i .i64 200] H = .val (.b true) H) (s2 : ∀ H, call 4 [b.enc, .i .i64 200] H = .val (.b true) H) (s3 : ∀ H, call 4 [c.enc, .i .i64 200] H = .val (.b true) H) (sw : ∀ H, call 5 [] H = .val (.b true) H) (eab : ∀ H, call 6 [a.enc, b.enc] H = .val (.b true) H) (ebc : ∀ H, call 6 [b.enc, c.enc] H = .val (.b false) H) (eac : ∀ H, call 6 [a.enc, c.enc] H = .val (.b false) H) (eaa : ∀ H, call 6 [a.enc, a.enc] H = .val (.b true) H) (eba : ∀ H, call 6 [b.enc, a.enc] H = .val (.b true) H) (na da nb db : Int) (zab : ∀ H, call 7 [a.enc] H = .val (.tup [.i .i64 na, .i .i64 da]) H) (zb : ∀ H, call 7 [b.enc] H = .val (.tup [.i .i64 nb, .i .i64 db]) H) (e1 : na = nb) (e2 : da = db) (k : Int) (k1 : ∀ H, call 8 [a.enc] H = .val (.i .i64 k) H) (k2 : ∀ H, call 8 [b.enc] H = .val (.i .i64 k) H)   : Body Tryz.prog TT 3 [a.enc, b.enc, c.enc] (.val (.b true)) := by
  refine ⟨Tryz.f3, _, rfl, rfl, by simp [Tryz.f3], ?_⟩
  have h0 : (Tm.init Tryz.f3.ntmps [a.enc, b.enc, c.enc]).get 0 = a.enc := by rw [get_init]; rfl
  have h1 : (Tm.init Tryz.f3.ntmps [a.enc, b.enc, c.enc]).get 1 = b.enc := by rw [get_init]; rfl
  have h2 : (Tm.init Tryz.f3.ntmps [a.enc, b.enc, c.enc]).get 2 = c.enc := by rw [get_init]; rfl
  have hw : (Tm.init Tryz.f3.ntmps [a.enc, b.enc, c.enc]).wid = 100 := rfl
  generalize Tm.init Tryz.f3.ntmps [a.enc, b.enc, c.enc] = t at *
  try simp only [Nd.enc_eq] at *
  refine Tri.seq' ?_
  refine Tri.regN (t' := ?t1) (H' := ?H1) TT_ok hC ?e1 ?q1
  case e1 =>
    refine go_false ?_
    refine evSeq_go rfl (by simp [h0, h1, h2, s1, s2, s3, sw, eab, ebc, eac, eaa, eba, zab, zb, e1, e2, k1, k2] <;> rfl) (by rfl) (by simp [fits_some, fits_none, hw, Nat.blt_eq]) ?_
    refine evSeq_go rfl (by simp [h0, h1, h2, s1, s2, s3, sw, eab, ebc, eac, eaa, eba, zab, zb, e1, e2, k1, k2] <;> rfl) (by rfl) (by simp [fits_some, fits_none, hw, Nat.blt_eq]) ?_
    refine evSeq_go rfl (by simp [h0, h1, h2, s1, s2, s3, sw, eab, ebc, eac, eaa, eba, zab, zb, e1, e2, k1, k2] <;> rfl) (by rfl) (by simp [fits_some, fits_none, hw, Nat.blt_eq]) ?_
    refine evSeq_go rfl (by simp [h0, h1, h2, s1, s2, s3, sw, eab, ebc, eac, eaa, eba, zab, zb, e1, e2, k1, k2] <;> rfl) (by rfl) (by simp [fits_some, fits_none, hw, Nat.blt_eq]) ?_
    exact evSeq_nil
  refine inSeq_norm ?_
  refine Tri.seq' ?_
  refine Tri.seq' ?_
  refine Tri.regN (t' := ?t2) (H' := ?H2) TT_ok hC ?e2 ?q2
  case e2 =>
    refine go_false ?_
    refine evSeq_go rfl (by simp [h0, h1, h2, s1, s2, s3, sw, eab, ebc, eac, eaa, eba, zab, zb, e1, e2, k1, k2] <;> rfl) (by rfl) (by simp [fits_some, fits_none, hw, Nat.blt_eq]) ?_
    refine evSeq_go rfl (by simp [h0, h1, h2, s1, s2, s3, sw, eab, ebc, eac, eaa, eba, zab, zb, e1, e2, k1, k2] <;> rfl) (by rfl) (by simp [fits_some, fits_none, hw, Nat.blt_eq]) ?_
    refine evSeq_go rfl (by simp [h0, h1, h2, s1, s2, s3, sw, eab, ebc, eac, eaa, eba, zab, zb, e1, e2, k1, k2] <;> rfl) (by rfl) (by simp [fits_some, fits_none, hw, Nat.blt_eq]) ?_
    refine evSeq_go rfl (by simp [h0, h1, h2, s1, s2, s3, sw, eab, ebc, eac, eaa, eba, zab, zb, e1, e2, k1, k2] <;> rfl) (by rfl) (by simp [fits_some, fits_none, hw, Nat.blt_eq]) ?_
    refine evSeq_go (by simp [wants, h0, h1, h2, s1, s2, s3, sw, eab, ebc, eac, eaa, eba, zab, zb, e1, e2, k1, k2]) (by simp [h0, h1, h2, s1, s2, s3, sw, eab, ebc, eac, eaa, eba, zab, zb, e1, e2, k1, k2] <;> rfl) (by rfl) (by simp [fits_some, fits_none, hw, Nat.blt_eq]) ?_
    refine evSeq_go (by simp [wants, h0, h1, h2, s1, s2, s3, sw, eab, ebc, eac, eaa, eba, zab, zb, e1, e2, k1, k2]) (by simp [h0, h1, h2, s1, s2, s3, sw, eab, ebc, eac, eaa, eba, zab, zb, e1, e2, k1, k2] <;> rfl) (by rfl) (by simp [fits_some, fits_none, hw, Nat.blt_eq]) ?_
    refine evSeq_go (by simp [wants, h0, h1, h2, s1, s2, s3, sw, eab, ebc, eac, eaa, eba, zab, zb, e1, e2, k1, k2]) (by simp [h0, h1, h2, s1, s2, s3, sw, eab, ebc, eac, eaa, eba, zab, zb, e1, e2, k1, k2] <;> rfl) (by rfl) (by simp [fits_some, fits_none, hw, Nat.blt_eq]) ?_
    refine evSeq_go rfl (by simp [h0, h1, h2, s1, s2, s3, sw, eab, ebc, eac, eaa, eba, zab, zb, e1, e2, k1, k2] <;> rfl) (by rfl) (by simp [fits_some, fits_none, hw, Nat.blt_eq]) ?_
    refine evSeq_go rfl (by simp [h0, h1, h2, s1, s2, s3, sw, eab, ebc, eac, eaa, eba, zab, zb, e1, e2, k1, k2] <;> rfl) (by rfl) (by simp [fits_some, fits_none, hw, Nat.blt_eq]) ?_
    refine evSeq_go (by simp [wants, h0, h1, h2, s1, s2, s3, sw, eab, ebc, eac, eaa, eba, zab, zb, e1, e2, k1, k2]) (by simp [h0, h1, h2, s1, s2, s3, sw, eab, ebc, eac, eaa, eba, zab, zb, e1, e2, k1, k2] <;> rfl) (by rfl) (by simp [fits_some, fits_none, hw, Nat.blt_eq]) ?_
    refine evSeq_go (by simp [wants, h0, h1, h2, s1, s2, s3, sw, eab, ebc, eac, eaa, eba, zab, zb, e1, e2, k1, k2]) (by simp [h0, h1, h2, s1, s2, s3, sw, eab, ebc, eac, eaa, eba, zab, zb, e1, e2, k1, k2] <;> rfl) (by rfl) (by simp [fits_some, fits_none, hw, Nat.blt_eq]) ?_
    refine evSeq_go (by simp [wants, h0, h1, h2, s1, s2, s3, sw, eab, ebc, eac, eaa, eba, zab, zb, e1, e2, k1, k2]) (by simp [h0, h1, h2, s1, s2, s3, sw, eab, ebc, eac, eaa, eba, zab, zb, e1, e2, k1, k2] <;> rfl) (by rfl) (by simp [fits_some, fits_none, hw, Nat.blt_eq]) ?_
    refine evSeq_go rfl (by simp [h0, h1, h2, s1, s2, s3, sw, eab, ebc, eac, eaa, eba, zab, zb, e1, e2, k1, k2] <;> rfl) (by rfl) (by simp [fits_some, fits_none, hw, Nat.blt_eq]) ?_
    exact evSeq_nil
  refine inSeq_norm ?_
  refine Tri.condG (o := ?o3) (b := ?b3) ?g3 ?r3 ?y3 ?n3
  case g3 => simp [h0, h1, h2, s1, s2, s3, sw, eab, ebc, eac, eaa, eba, zab, zb, e1, e2, k1, k2] <;> rfl
  case r3 => rfl
  case y3 =>
    intro hy3
    exact absurd hy3 (by simp [h0, h1, h2, s1, s2, s3, sw, eab, ebc, eac, eaa, eba, zab, zb, e1, e2, k1, k2])
  case n3 =>
    intro hn3
    refine Tri.skip ?_
    refine inSeq_norm ?_
    refine Tri.seq' ?_
    refine Tri.regN (t' := ?t4) (H' := ?H4) TT_ok hC ?e4 ?q4
    case e4 =>
      refine evReg_quiet (t' := ?t4) (by kernel_rfl) ?_ ?r904
      refine QR.val rfl (by simp [h0, h1, h2, s1, s2, s3, sw, eab, ebc, eac, eaa, eba, zab, zb, e1, e2, k1, k2] <;> rfl) (by rfl) (by simp [fits_some, fits_none, hw, Nat.blt_eq]) ?_
      refine QR.val rfl (by simp [h0, h1, h2, s1, s2, s3, sw, eab, ebc, eac, eaa, eba, zab, zb, e1, e2, k1, k2] <;> rfl) (by rfl) (by simp [fits_some, fits_none, hw, Nat.blt_eq]) ?_
      refine QR.val rfl (by simp [h0, h1, h2, s1, s2, s3, sw, eab, ebc, eac, eaa, eba, zab, zb, e1, e2, k1, k2] <;> rfl) (by rfl) (by simp [fits_some, fits_none, hw, Nat.blt_eq]) ?_
      refine QR.val rfl (by simp [h0, h1, h2, s1, s2, s3, sw, eab, ebc, eac, eaa, eba, zab, zb, e1, e2, k1, k2] <;> rfl) (by rfl) (by simp [fits_some, fits_none, hw, Nat.blt_eq]) ?_
      refine QR.val rfl (by simp [h0, h1, h2, s1, s2, s3, sw, eab, ebc, eac, eaa, eba, zab, zb, e1, e2, k1, k2] <;> rfl) (by rfl) (by simp [fits_some, fits_none, hw, Nat.blt_eq]) ?_
      refine QR.val rfl (by simp [h0, h1, h2, s1, s2, s3, sw, eab, ebc, eac, eaa, eba, zab, zb, e1, e2, k1, k2] <;> rfl) (by rfl) (by simp [fits_some, fits_none, hw, Nat.blt_eq]) ?_
      refine QR.val rfl (by simp [h0, h1, h2, s1, s2, s3, sw, eab, ebc, eac, eaa, eba, zab, zb, e1, e2, k1, k2] <;> rfl) (by rfl) (by simp [fits_some, fits_none, hw, Nat.blt_eq]) ?_
      refine QR.val rfl (by simp [h0, h1, h2, s1, s2, s3, sw, eab, ebc, eac, eaa, eba, zab, zb, e1, e2, k1, k2] <;> rfl) (by rfl) (by simp [fits_some, fits_none, hw, Nat.blt_eq]) ?_
      refine QR.val rfl (by simp [h0, h1, h2, s1, s2, s3, sw, eab, ebc, eac, eaa, eba, zab, zb, e1, e2, k1, k2] <;> rfl) (by rfl) (by simp [fits_some, fits_none, hw, Nat.blt_eq]) ?_
      refine QR.val rfl (by simp [h0, h1, h2, s1, s2, s3, sw, eab, ebc, eac, eaa, eba, zab, zb, e1, e2, k1, k2] <;> rfl) (by rfl) (by simp [fits_some, fits_none, hw, Nat.blt_eq]) ?_
      refine QR.val rfl (by simp [h0, h1, h2, s1, s2, s3, sw, eab, ebc, eac, eaa, eba, zab, zb, e1, e2, k1, k2] <;> rfl) (by rfl) (by simp [fits_some, fits_none, hw, Nat.blt_eq]) ?_
      refine QR.val rfl (by simp [h0, h1, h2, s1, s2, s3, sw, eab, ebc, eac, eaa, eba, zab, zb, e1, e2, k1, k2] <;> rfl) (by rfl) (by simp [fits_some, fits_none, hw, Nat.blt_eq]) ?_
      exact QR.nil
      case r904 => exact rfl
    refine inSeq_norm ?_
    refine Tri.seq' ?_
    refine Tri.seq' ?_
    refine Tri.regN (t' := ?t5) (H' := ?H5) TT_ok hC ?e5 ?q5
    case e5 =>
      refine go_false ?_
      refine evSeq_go rfl (by simp [h0, h1, h2, s1, s2, s3, sw, eab, ebc, eac, eaa, eba, zab, zb, e1, e2, k1, k2] <;> rfl) (by rfl) (by simp [fits_some, fits_none, hw, Nat.blt_eq]) ?_
      refine evSeq_go rfl (by simp [h0, h1, h2, s1, s2, s3, sw, eab, ebc, eac, eaa, eba, zab, zb, e1, e2, k1, k2] <;> rfl) (by rfl) (by simp [fits_some, fits_none, hw, Nat.blt_eq]) ?_
      refine evSeq_go rfl (by simp [h0, h1, h2, s1, s2, s3, sw, eab, ebc, eac, eaa, eba, zab, zb, e1, e2, k1, k2] <;> rfl) (by rfl) (by simp [fits_some, fits_none, hw, Nat.blt_eq]) ?_
      refine evSeq_go rfl (by simp [h0, h1, h2, s1, s2, s3, sw, eab, ebc, eac, eaa, eba, zab, zb, e1, e2, k1, k2] <;> rfl) (by rfl) (by simp [fits_some, fits_none, hw, Nat.blt_eq]) ?_
      refine evSeq_go rfl (by simp [h0, h1, h2, s1, s2, s3, sw, eab, ebc, eac, eaa, eba, zab, zb, e1, e2, k1, k2] <;> rfl) (by rfl) (by simp [fits_some, fits_none, hw, Nat.blt_eq]) ?_
      refine evSeq_go (by simp [wants, h0, h1, h2, s1, s2, s3, sw, eab, ebc, eac, eaa, eba, zab, zb, e1, e2, k1, k2]) (by simp [h0, h1, h2, s1, s2, s3, sw, eab, ebc, eac, eaa, eba, zab, zb, e1, e2, k1, k2] <;> rfl) (by rfl) (by simp [fits_some, fits_none, hw, Nat.blt_eq]) ?_
      refine evSeq_go (by simp [wants, h0, h1, h2, s1, s2, s3, sw, eab, ebc, eac, eaa, eba, zab, zb, e1, e2, k1, k2]) (by simp [h0, h1, h2, s1, s2, s3, sw, eab, ebc, eac, eaa, eba, zab, zb, e1, e2, k1, k2] <;> rfl) (by rfl) (by simp [fits_some, fits_none, hw, Nat.blt_eq]) ?_
      refine evSeq_go (by simp [wants, h0, h1, h2, s1, s2, s3, sw, eab, ebc, eac, eaa, eba, zab, zb, e1, e2, k1, k2]) (by simp [h0, h1, h2, s1, s2, s3, sw, eab, ebc, eac, eaa, eba, zab, zb, e1, e2, k1, k2] <;> rfl) (by rfl) (by simp [fits_some, fits_none, hw, Nat.blt_eq]) ?_
      refine evSeq_go (by simp [wants, h0, h1, h2, s1, s2, s3, sw, eab, ebc, eac, eaa, eba, zab, zb, e1, e2, k1, k2]) (by simp [h0, h1, h2, s1, s2, s3, sw, eab, ebc, eac, eaa, eba, zab, zb, e1, e2, k1, k2] <;> rfl) (by rfl) (by simp [fits_some, fits_none, hw, Nat.blt_eq]) ?_
      refine evSeq_go (by simp [wants, h0, h1, h2, s1, s2, s3, sw, eab, ebc, eac, eaa, eba, zab, zb, e1, e2, k1, k2]) (by simp [h0, h1, h2, s1, s2, s3, sw, eab, ebc, eac, eaa, eba, zab, zb, e1, e2, k1, k2] <;> rfl) (by rfl) (by simp [fits_some, fits_none, hw, Nat.blt_eq]) ?_
      refine evSeq_go rfl (by simp [h0, h1, h2, s1, s2, s3, sw, eab, ebc, eac, eaa, eba, zab, zb, e1, e2, k1, k2] <;> rfl) (by rfl) (by simp [fits_some, fits_none, hw, Nat.blt_eq]) ?_
      refine evSeq_go rfl (by simp [h0, h1, h2, s1, s2, s3, sw, eab, ebc, eac, eaa, eba, zab, zb, e1, e2, k1, k2] <;> rfl) (by rfl) (by simp [fits_some, fits_none, hw, Nat.blt_eq]) ?_
      refine evSeq_go (by simp [wants, h0, h1, h2, s1, s2, s3, sw, eab, ebc, eac, eaa, eba, zab, zb, e1, e2, k1, k2]) (by simp [h0, h1, h2, s1, s2, s3, sw, eab, ebc, eac, eaa, eba, zab, zb, e1, e2, k1, k2] <;> rfl) (by rfl) (by simp [fits_some, fits_none, hw, Nat.blt_eq]) ?_
      refine evSeq_go (by simp [wants, h0, h1, h2, s1, s2, s3, sw, eab, ebc, eac, eaa, eba, zab, zb, e1, e2, k1, k2]) (by simp [h0, h1, h2, s1, s2, s3, sw, eab, ebc, eac, eaa, eba, zab, zb, e1, e2, k1, k2] <;> rfl) (by rfl) (by simp [fits_some, fits_none, hw, Nat.blt_eq]) ?_
      refine evSeq_go (by simp [wants, h0, h1, h2, s1, s2, s3, sw, eab, ebc, eac, eaa, eba, zab, zb, e1, e2, k1, k2]) (by simp [h0, h1, h2, s1, s2, s3, sw, eab, ebc, eac, eaa, eba, zab, zb, e1, e2, k1, k2] <;> rfl) (by rfl) (by simp [fits_some, fits_none, hw, Nat.blt_eq]) ?_
      refine evSeq_go (by simp [wants, h0, h1, h2, s1, s2, s3, sw, eab, ebc, eac, eaa, eba, zab, zb, e1, e2, k1, k2]) (by simp [h0, h1, h2, s1, s2, s3, sw, eab, ebc, eac, eaa, eba, zab, zb, e1, e2, k1, k2] <;> rfl) (by rfl) (by simp [fits_some, fits_none, hw, Nat.blt_eq]) ?_
      refine evSeq_go (by simp [wants, h0, h1, h2, s1, s2, s3, sw, eab, ebc, eac, eaa, eba, zab, zb, e1, e2, k1, k2]) (by simp [h0, h1, h2, s1, s2, s3, sw, eab, ebc, eac, eaa, eba, zab, zb, e1, e2, k1, k2] <;> rfl) (by rfl) (by simp [fits_some, fits_none, hw, Nat.blt_eq]) ?_
      refine evSeq_off (by simp [wants, h0, h1, h2, s1, s2, s3, sw, eab, ebc, eac, eaa, eba, zab, zb, e1, e2, k1, k2]) (by simp [fits_some, fits_none, hw, Nat.blt_eq]) ?_
      refine evSeq_off (by simp [wants, h0, h1, h2, s1, s2, s3, sw, eab, ebc, eac, eaa, eba, zab, zb, e1, e2, k1, k2]) (by simp [fits_some, fits_none, hw, Nat.blt_eq]) ?_
      refine evSeq_go (by simp [wants, h0, h1, h2, s1, s2, s3, sw, eab, ebc, eac, eaa, eba, zab, zb, e1, e2, k1, k2]) (by simp [h0, h1, h2, s1, s2, s3, sw, eab, ebc, eac, eaa, eba, zab, zb, e1, e2, k1, k2] <;> rfl) (by rfl) (by simp [fits_some, fits_none, hw, Nat.blt_eq]) ?_
      refine evSeq_go rfl (by simp [h0, h1, h2, s1, s2, s3, sw, eab, ebc, eac, eaa, eba, zab, zb, e1, e2, k1, k2] <;> rfl) (by rfl) (by simp [fits_some, fits_none, hw, Nat.blt_eq]) ?_
      refine evSeq_go rfl (by simp [h0, h1, h2, s1, s2, s3, sw, eab, ebc, eac, eaa, eba, zab, zb, e1, e2, k1, k2] <;> rfl) (by rfl) (by simp [fits_some, fits_none, hw, Nat.blt_eq]) ?_
      refine evSeq_go (by simp [wants, h0, h1, h2, s1, s2, s3, sw, eab, ebc, eac, eaa, eba, zab, zb, e1, e2, k1, k2]) (by simp [h0, h1, h2, s1, s2, s3, sw, eab, ebc, eac, eaa, eba, zab, zb, e1, e2, k1, k2] <;> rfl) (by rfl) (by simp [fits_some, fits_none, hw, Nat.blt_eq]) ?_
      refine evSeq_go (by simp [wants, h0, h1, h2, s1, s2, s3, sw, eab, ebc, eac, eaa, eba, zab, zb, e1, e2, k1, k2]) (by simp [h0, h1, h2, s1, s2, s3, sw, eab, ebc, eac, eaa, eba, zab, zb, e1, e2, k1, k2] <;> rfl) (by rfl) (by simp [fits_some, fits_none, hw, Nat.blt_eq]) ?_
      refine evSeq_go (by simp [wants, h0, h1, h2, s1, s2, s3, sw, eab, ebc, eac, eaa, eba, zab, zb, e1, e2, k1, k2]) (by simp [h0, h1, h2, s1, s2, s3, sw, eab, ebc, eac, eaa, eba, zab, zb, e1, e2, k1, k2] <;> rfl) (by rfl) (by simp [fits_some, fits_none, hw, Nat.blt_eq]) ?_
      refine evSeq_go (by simp [wants, h0, h1, h2, s1, s2, s3, sw, eab, ebc, eac, eaa, eba, zab, zb, e1, e2, k1, k2]) (by simp [h0, h1, h2, s1, s2, s3, sw, eab, ebc, eac, eaa, eba, zab, zb, e1, e2, k1, k2] <;> rfl) (by rfl) (by simp [fits_some, fits_none, hw, Nat.blt_eq]) ?_
      refine evSeq_go (by simp [wants, h0, h1, h2, s1, s2, s3, sw, eab, ebc, eac, eaa, eba, zab, zb, e1, e2, k1, k2]) (by simp [h0, h1, h2, s1, s2, s3, sw, eab, ebc, eac, eaa, eba, zab, zb, e1, e2, k1, k2] <;> rfl) (by rfl) (by simp [fits_some, fits_none, hw, Nat.blt_eq]) ?_
      refine evSeq_go (by simp [wants, h0, h1, h2, s1, s2, s3, sw, eab, ebc, eac, eaa, eba, zab, zb, e1, e2, k1, k2]) (by simp [h0, h1, h2, s1, s2, s3, sw, eab, ebc, eac, eaa, eba, zab, zb, e1, e2, k1, k2] <;> rfl) (by rfl) (by simp [fits_some, fits_none, hw, Nat.blt_eq]) ?_
      refine evSeq_go (by simp [wants, h0, h1, h2, s1, s2, s3, sw, eab, ebc, eac, eaa, eba, zab, zb, e1, e2, k1, k2]) (by simp [h0, h1, h2, s1, s2, s3, sw, eab, ebc, eac, eaa, eba, zab, zb, e1, e2, k1, k2] <;> rfl) (by rfl) (by simp [fits_some, fits_none, hw, Nat.blt_eq]) ?_
      refine evSeq_go (by simp [wants, h0, h1, h2, s1, s2, s3, sw, eab, ebc, eac, eaa, eba, zab, zb, e1, e2, k1, k2]) (by simp [h0, h1, h2, s1, s2, s3, sw, eab, ebc, eac, eaa, eba, zab, zb, e1, e2, k1, k2] <;> rfl) (by rfl) (by simp [fits_some, fits_none, hw, Nat.blt_eq]) ?_
      refine evSeq_go rfl (by simp [h0, h1, h2, s1, s2, s3, sw, eab, ebc, eac, eaa, eba, zab, zb, e1, e2, k1, k2] <;> rfl) (by rfl) (by simp [fits_some, fits_none, hw, Nat.blt_eq]) ?_
      exact evSeq_nil
    refine inSeq_norm ?_
    refine Tri.condG (o := ?o6) (b := ?b6) ?g6 ?r6 ?y6 ?n6
    case g6 => simp [h0, h1, h2, s1, s2, s3, sw, eab, ebc, eac, eaa, eba, zab, zb, e1, e2, k1, k2] <;> rfl
    case r6 => rfl
    case y6 =>
      intro hy6
      exact absurd hy6 (by simp [h0, h1, h2, s1, s2, s3, sw, eab, ebc, eac, eaa, eba, zab, zb, e1, e2, k1, k2])
    case n6 =>
      intro hn6
      refine Tri.skip ?_
      refine inSeq_norm ?_
      refine Tri.seq' ?_
      refine Tri.regN (t' := ?t7) (H' := ?H7) TT_ok hC ?e7 ?q7
      case e7 =>
        refine go_false ?_
        refine evSeq_go rfl (by simp [h0, h1, h2, s1, s2, s3, sw, eab, ebc, eac, eaa, eba, zab, zb, e1, e2, k1, k2] <;> rfl) (by rfl) (by simp [fits_some, fits_none, hw, Nat.blt_eq]) ?_
        refine evSeq_go rfl (by simp [h0, h1, h2, s1, s2, s3, sw, eab, ebc, eac, eaa, eba, zab, zb, e1, e2, k1, k2] <;> rfl) (by rfl) (by simp [fits_some, fits_none, hw, Nat.blt_eq]) ?_
        refine evSeq_go rfl (by simp [h0, h1, h2, s1, s2, s3, sw, eab, ebc, eac, eaa, eba, zab, zb, e1, e2, k1, k2] <;> rfl) (by rfl) (by simp [fits_some, fits_none, hw, Nat.blt_eq]) ?_
        refine evSeq_go rfl (by simp [h0, h1, h2, s1, s2, s3, sw, eab, ebc, eac, eaa, eba, zab, zb, e1, e2, k1, k2] <;> rfl) (by rfl) (by simp [fits_some, fits_none, hw, Nat.blt_eq]) ?_
        refine evSeq_go rfl (by simp [h0, h1, h2, s1, s2, s3, sw, eab, ebc, eac, eaa, eba, zab, zb, e1, e2, k1, k2] <;> rfl) (by rfl) (by simp [fits_some, fits_none, hw, Nat.blt_eq]) ?_
        refine evSeq_go rfl (by simp [h0, h1, h2, s1, s2, s3, sw, eab, ebc, eac, eaa, eba, zab, zb, e1, e2, k1, k2] <;> rfl) (by rfl) (by simp [fits_some, fits_none, hw, Nat.blt_eq]) ?_
        refine evSeq_go rfl (by simp [h0, h1, h2, s1, s2, s3, sw, eab, ebc, eac, eaa, eba, zab, zb, e1, e2, k1, k2] <;> rfl) (by rfl) (by simp [fits_some, fits_none, hw, Nat.blt_eq]) ?_
        exact evSeq_nil
      refine inSeq_norm ?_
      refine Tri.seq' ?_
      refine Tri.regN (t' := ?t8) (H' := ?H8) TT_ok hC ?e8 ?q8
      case e8 =>
        refine go_false ?_
        refine evSeq_go rfl (by simp [h0, h1, h2, s1, s2, s3, sw, eab, ebc, eac, eaa, eba, zab, zb, e1, e2, k1, k2] <;> rfl) (by rfl) (by simp [fits_some, fits_none, hw, Nat.blt_eq]) ?_
        refine evSeq_go rfl (by simp [h0, h1, h2, s1, s2, s3, sw, eab, ebc, eac, eaa, eba, zab, zb, e1, e2, k1, k2] <;> rfl) (by rfl) (by simp [fits_some, fits_none, hw, Nat.blt_eq]) ?_
        refine evSeq_go rfl (by simp [h0, h1, h2, s1, s2, s3, sw, eab, ebc, eac, eaa, eba, zab, zb, e1, e2, k1, k2] <;> rfl) (by rfl) (by simp [fits_some, fits_none, hw, Nat.blt_eq]) ?_
        refine evSeq_go rfl (by simp [h0, h1, h2, s1, s2, s3, sw, eab, ebc, eac, eaa, eba, zab, zb, e1, e2, k1, k2] <;> rfl) (by rfl) (by simp [fits_some, fits_none, hw, Nat.blt_eq]) ?_
        refine evSeq_go rfl (by simp [h0, h1, h2, s1, s2, s3, sw, eab, ebc, eac, eaa, eba, zab, zb, e1, e2, k1, k2] <;> rfl) (by rfl) (by simp [fits_some, fits_none, hw, Nat.blt_eq]) ?_
        refine evSeq_go rfl (by simp [h0, h1, h2, s1, s2, s3, sw, eab, ebc, eac, eaa, eba, zab, zb, e1, e2, k1, k2] <;> rfl) (by rfl) (by simp [fits_some, fits_none, hw, Nat.blt_eq]) ?_
        refine evSeq_go rfl (by simp [h0, h1, h2, s1, s2, s3, sw, eab, ebc, eac, eaa, eba, zab, zb, e1, e2, k1, k2] <;> rfl) (by rfl) (by simp [fits_some, fits_none, hw, Nat.blt_eq]) ?_
        exact evSeq_nil
      refine inSeq_norm ?_
      refine Tri.seq' ?_
      refine Tri.regN (t' := ?t9) (H' := ?H9) TT_ok hC ?e9 ?q9
      case e9 =>
        refine evReg_quiet (t' := ?t9) (by kernel_rfl) ?_ ?r909
        refine QR.val rfl (by simp [h0, h1, h2, s1, s2, s3, sw, eab, ebc, eac, eaa, eba, zab, zb, e1, e2, k1, k2] <;> rfl) (by rfl) (by simp [fits_some, fits_none, hw, Nat.blt_eq]) ?_
        refine QR.val rfl (by simp [h0, h1, h2, s1, s2, s3, sw, eab, ebc, eac, eaa, eba, zab, zb, e1, e2, k1, k2] <;> rfl) (by rfl) (by simp [fits_some, fits_none, hw, Nat.blt_eq]) ?_
        refine QR.val rfl (by simp [h0, h1, h2, s1, s2, s3, sw, eab, ebc, eac, eaa, eba, zab, zb, e1, e2, k1, k2] <;> rfl) (by rfl) (by simp [fits_some, fits_none, hw, Nat.blt_eq]) ?_
        refine QR.val (by simp [wants, h0, h1, h2, s1, s2, s3, sw, eab, ebc, eac, eaa, eba, zab, zb, e1, e2, k1, k2]) (by simp [h0, h1, h2, s1, s2, s3, sw, eab, ebc, eac, eaa, eba, zab, zb, e1, e2, k1, k2] <;> rfl) (by rfl) (by simp [fits_some, fits_none, hw, Nat.blt_eq]) ?_
        refine QR.val (by simp [wants, h0, h1, h2, s1, s2, s3, sw, eab, ebc, eac, eaa, eba, zab, zb, e1, e2, k1, k2]) (by simp [h0, h1, h2, s1, s2, s3, sw, eab, ebc, eac, eaa, eba, zab, zb, e1, e2, k1, k2] <;> rfl) (by rfl) (by simp [fits_some, fits_none, hw, Nat.blt_eq]) ?_
        refine QR.val (by simp [wants, h0, h1, h2, s1, s2, s3, sw, eab, ebc, eac, eaa, eba, zab, zb, e1, e2, k1, k2]) (by simp [h0, h1, h2, s1, s2, s3, sw, eab, ebc, eac, eaa, eba, zab, zb, e1, e2, k1, k2] <;> rfl) (by rfl) (by simp [fits_some, fits_none, hw, Nat.blt_eq]) ?_
        refine QR.val (by simp [wants, h0, h1, h2, s1, s2, s3, sw, eab, ebc, eac, eaa, eba, zab, zb, e1, e2, k1, k2]) (by simp [h0, h1, h2, s1, s2, s3, sw, eab, ebc, eac, eaa, eba, zab, zb, e1, e2, k1, k2] <;> rfl) (by rfl) (by simp [fits_some, fits_none, hw, Nat.blt_eq]) ?_
        refine QR.val (by simp [wants, h0, h1, h2, s1, s2, s3, sw, eab, ebc, eac, eaa, eba, zab, zb, e1, e2, k1, k2]) (by simp [h0, h1, h2, s1, s2, s3, sw, eab, ebc, eac, eaa, eba, zab, zb, e1, e2, k1, k2] <;> rfl) (by rfl) (by simp [fits_some, fits_none, hw, Nat.blt_eq]) ?_
        refine QR.val (by simp [wants, h0, h1, h2, s1, s2, s3, sw, eab, ebc, eac, eaa, eba, zab, zb, e1, e2, k1, k2]) (by simp [h0, h1, h2, s1, s2, s3, sw, eab, ebc, eac, eaa, eba, zab, zb, e1, e2, k1, k2] <;> rfl) (by rfl) (by simp [fits_some, fits_none, hw, Nat.blt_eq]) ?_
        refine QR.val (by simp [wants, h0, h1, h2, s1, s2, s3, sw, eab, ebc, eac, eaa, eba, zab, zb, e1, e2, k1, k2]) (by simp [h0, h1, h2, s1, s2, s3, sw, eab, ebc, eac, eaa, eba, zab, zb, e1, e2, k1, k2] <;> rfl) (by rfl) (by simp [fits_some, fits_none, hw, Nat.blt_eq]) ?_
        refine QR.val (by simp [wants, h0, h1, h2, s1, s2, s3, sw, eab, ebc, eac, eaa, eba, zab, zb, e1, e2, k1, k2]) (by simp [h0, h1, h2, s1, s2, s3, sw, eab, ebc, eac, eaa, eba, zab, zb, e1, e2, k1, k2] <;> rfl) (by rfl) (by simp [fits_some, fits_none, hw, Nat.blt_eq]) ?_
        refine QR.val (by simp [wants, h0, h1, h2, s1, s2, s3, sw, eab, ebc, eac, eaa, eba, zab, zb, e1, e2, k1, k2]) (by simp [h0, h1, h2, s1, s2, s3, sw, eab, ebc, eac, eaa, eba, zab, zb, e1, e2, k1, k2] <;> rfl) (by rfl) (by simp [fits_some, fits_none, hw, Nat.blt_eq]) ?_
        refine QR.val (by simp [wants, h0, h1, h2, s1, s2, s3, sw, eab, ebc, eac, eaa, eba, zab, zb, e1, e2, k1, k2]) (by simp [h0, h1, h2, s1, s2, s3, sw, eab, ebc, eac, eaa, eba, zab, zb, e1, e2, k1, k2] <;> rfl) (by rfl) (by simp [fits_some, fits_none, hw, Nat.blt_eq]) ?_
        refine QR.val (by simp [wants, h0, h1, h2, s1, s2, s3, sw, eab, ebc, eac, eaa, eba, zab, zb, e1, e2, k1, k2]) (by simp [h0, h1, h2, s1, s2, s3, sw, eab, ebc, eac, eaa, eba, zab, zb, e1, e2, k1, k2] <;> rfl) (by rfl) (by simp [fits_some, fits_none, hw, Nat.blt_eq]) ?_
        refine QR.val (by simp [wants, h0, h1, h2, s1, s2, s3, sw, eab, ebc, eac, eaa, eba, zab, zb, e1, e2, k1, k2]) (by simp [h0, h1, h2, s1, s2, s3, sw, eab, ebc, eac, eaa, eba, zab, zb, e1, e2, k1, k2] <;> rfl) (by rfl) (by simp [fits_some, fits_none, hw, Nat.blt_eq]) ?_
        refine QR.val (by simp [wants, h0, h1, h2, s1, s2, s3, sw, eab, ebc, eac, eaa, eba, zab, zb, e1, e2, k1, k2]) (by simp [h0, h1, h2, s1, s2, s3, sw, eab, ebc, eac, eaa, eba, zab, zb, e1, e2, k1, k2] <;> rfl) (by rfl) (by simp [fits_some, fits_none, hw, Nat.blt_eq]) ?_
        refine QR.val (by simp [wants, h0, h1, h2, s1, s2, s3, sw, eab, ebc, eac, eaa, eba, zab, zb, e1, e2, k1, k2]) (by simp [h0, h1, h2, s1, s2, s3, sw, eab, ebc, eac, eaa, eba, zab, zb, e1, e2, k1, k2] <;> rfl) (by rfl) (by simp [fits_some, fits_none, hw, Nat.blt_eq]) ?_
        refine QR.val (by simp [wants, h0, h1, h2, s1, s2, s3, sw, eab, ebc, eac, eaa, eba, zab, zb, e1, e2, k1, k2]) (by simp [h0, h1, h2, s1, s2, s3, sw, eab, ebc, eac, eaa, eba, zab, zb, e1, e2, k1, k2] <;> rfl) (by rfl) (by simp [fits_some, fits_none, hw, Nat.blt_eq]) ?_
        refine QR.val rfl (by simp [h0, h1, h2, s1, s2, s3, sw, eab, ebc, eac, eaa, eba, zab, zb, e1, e2, k1, k2] <;> rfl) (by rfl) (by simp [fits_some, fits_none, hw, Nat.blt_eq]) ?_
        refine QR.val rfl (by simp [h0, h1, h2, s1, s2, s3, sw, eab, ebc, eac, eaa, eba, zab, zb, e1, e2, k1, k2] <;> rfl) (by rfl) (by simp [fits_some, fits_none, hw, Nat.blt_eq]) ?_
        refine QR.val (by simp [wants, h0, h1, h2, s1, s2, s3, sw, eab, ebc, eac, eaa, eba, zab, zb, e1, e2, k1, k2]) (by simp [h0, h1, h2, s1, s2, s3, sw, eab, ebc, eac, eaa, eba, zab, zb, e1, e2, k1, k2] <;> rfl) (by rfl) (by simp [fits_some, fits_none, hw, Nat.blt_eq]) ?_
        refine QR.val rfl (by simp [h0, h1, h2, s1, s2, s3, sw, eab, ebc, eac, eaa, eba, zab, zb, e1, e2, k1, k2] <;> rfl) (by rfl) (by simp [fits_some, fits_none, hw, Nat.blt_eq]) ?_
        refine QR.val rfl (by simp [h0, h1, h2, s1, s2, s3, sw, eab, ebc, eac, eaa, eba, zab, zb, e1, e2, k1, k2] <;> rfl) (by rfl) (by simp [fits_some, fits_none, hw, Nat.blt_eq]) ?_
        exact QR.nil
        case r909 => exact rfl
      refine inSeq_norm ?_
      refine Tri.ret ?_
      simp [Ends, finish, evResults, evResult, Tryz.f3, h0, h1, h2, s1, s2, s3, sw, eab, ebc, eac, eaa, eba, zab, zb, e1, e2, k1, k2]
theorem body_3y011 {call : CallF} (hC : call.Sound Tryz.prog TT) (a b c : Nd) (s1 : ∀ H, call 4 [a.enc, .i .i64 200] H = .val (.b true) H) (s2 : ∀ H, call 4 [b.enc, .i .i64 200] H = .val (.b true) H) (s3 : ∀ H, call 4 [c.enc, .i .i64 200] H = .val (.b true) H) (sw : ∀ H, call 5 [] H = .val (.b true) H) (eab : ∀ H, call 6 [a.enc, b.enc] H = .val (.b false) H) (ebc : ∀ H, call 6 [b.enc, c.enc] H = .val (.b true) H) (eac : ∀ H, call 6 [a.enc, c.enc] H = .val (.b true) H) (eaa : ∀ H, call 6 [a.enc, a.enc] H = .val (.b true) H) (eba : ∀ H, call 6 [b.enc, a.enc] H = .val (.b false) H) (na da nb db : Int) (zab : ∀ H, call 7 [a.enc] H = .val (.tup [.i .i64 na, .i .i64 da]) H) (zb : ∀ H, call 7 [b.enc] H = .val (.tup [.i .i64 nb, .i .i64 db]) H)   : Body Tryz.prog TT 3 [a.enc, b.enc, c.enc] (.val (.b true)) := by
  refine ⟨Tryz.f3, _, rfl, rfl, by simp [Tryz.f3], ?_⟩
  have h0 : (Tm.init Tryz.f3.ntmps [a.enc, b.enc, c.enc]).get 0 = a.enc := by rw [get_init]; rfl
  have h1 : (Tm.init Tryz.f3.ntmps [a.enc, b.enc, c.enc]).get 1 = b.enc := by rw [get_init]; rfl
  have h2 : (Tm.init Tryz.f3.ntmps [a.enc, b.enc, c.enc]).get 2 = c.enc := by rw [get_init]; rfl
  have hw : (Tm.init Tryz.f3.ntmps [a.enc, b.enc, c.enc]).wid = 100 := rfl
  generalize Tm.init Tryz.f3.ntmps [a.enc, b.enc, c.enc] = t at *
  try simp only [Nd.enc_eq] at *
  refine Tri.seq' ?_
  refine Tri.regN (t' := ?t1) (H' := ?H1) TT_ok hC ?e1 ?q1
  case e1 =>
    refine go_false ?_
    refine evSeq_go rfl (by simp [h0, h1, h2, s1, s2, s3, sw, eab, ebc, eac, eaa, eba, zab, zb] <;> rfl) (by rfl) (by simp [fits_some, fits_none, hw, Nat.blt_eq]) ?_
    refine evSeq_go rfl (by simp [h0, h1, h2, s1, s2, s3, sw, eab, ebc, eac, eaa, eba, zab, zb] <;> rfl) (by rfl) (by simp [fits_some, fits_none, hw, Nat.blt_eq]) ?_
    refine evSeq_go rfl (by simp [h0, h1, h2, s1, s2, s3, sw, eab, ebc, eac, eaa, eba, zab, zb] <;> rfl) (by rfl) (by simp [fits_some, fits_none, hw, Nat.blt_eq]) ?_
    refine evSeq_go rfl (by simp [h0, h1, h2, s1, s2, s3, sw, eab, ebc, eac, eaa, eba, zab, zb] <;> rfl) (by rfl) (by simp [fits_some, fits_none, hw, Nat.blt_eq]) ?_
    exact evSeq_nil
  refine inSeq_norm ?_
  refine Tri.seq' ?_
  refine Tri.seq' ?_
  refine Tri.regN (t' := ?t2) (H' := ?H2) TT_ok hC ?e2 ?q2
  case e2 =>
    refine go_false ?_
    refine evSeq_go rfl (by simp [h0, h1, h2, s1, s2, s3, sw, eab, ebc, eac, eaa, eba, zab, zb] <;> rfl) (by rfl) (by simp [fits_some, fits_none, hw, Nat.blt_eq]) ?_
    refine evSeq_go rfl (by simp [h0, h1, h2, s1, s2, s3, sw, eab, ebc, eac, eaa, eba, zab, zb] <;> rfl) (by rfl) (by simp [fits_some, fits_none, hw, Nat.blt_eq]) ?_
    refine evSeq_go rfl (by simp [h0, h1, h2, s1, s2, s3, sw, eab, ebc, eac, eaa, eba, zab, zb] <;> rfl) (by rfl) (by simp [fits_some, fits_none, hw, Nat.blt_eq]) ?_
    refine evSeq_go rfl (by simp [h0, h1, h2, s1, s2, s3, sw, eab, ebc, eac, eaa, eba, zab, zb] <;> rfl) (by rfl) (by simp [fits_some, fits_none, hw, Nat.blt_eq]) ?_
    refine evSeq_go (by simp [wants, h0, h1, h2, s1, s2, s3, sw, eab, ebc, eac, eaa, eba, zab, zb]) (by simp [h0, h1, h2, s1, s2, s3, sw, eab, ebc, eac, eaa, eba, zab, zb] <;> rfl) (by rfl) (by simp [fits_some, fits_none, hw, Nat.blt_eq]) ?_
    refine evSeq_go (by simp [wants, h0, h1, h2, s1, s2, s3, sw, eab, ebc, eac, eaa, eba, zab, zb]) (by simp [h0, h1, h2, s1, s2, s3, sw, eab, ebc, eac, eaa, eba, zab, zb] <;> rfl) (by rfl) (by simp [fits_some, fits_none, hw, Nat.blt_eq]) ?_
    refine evSeq_go (by simp [wants, h0, h1, h2, s1, s2, s3, sw, eab, ebc, eac, eaa, eba, zab, zb]) (by simp [h0, h1, h2, s1, s2, s3, sw, eab, ebc, eac, eaa, eba, zab, zb] <;> rfl) (by rfl) (by simp [fits_some, fits_none, hw, Nat.blt_eq]) ?_
    refine evSeq_go rfl (by simp [h0, h1, h2, s1, s2, s3, sw, eab, ebc, eac, eaa, eba, zab, zb] <;> rfl) (by rfl) (by simp [fits_some, fits_none, hw, Nat.blt_eq]) ?_
    refine evSeq_go rfl (by simp [h0, h1, h2, s1, s2, s3, sw, eab, ebc, eac, eaa, eba, zab, zb] <;> rfl) (by rfl) (by simp [fits_some, fits_none, hw, Nat.blt_eq]) ?_
    refine evSeq_go (by simp [wants, h0, h1, h2, s1, s2, s3, sw, eab, ebc, eac, eaa, eba, zab, zb]) (by simp [h0, h1, h2, s1, s2, s3, sw, eab, ebc, eac, eaa, eba, zab, zb] <;> rfl) (by rfl) (by simp [fits_some, fits_none, hw, Nat.blt_eq]) ?_
    refine evSeq_go (by simp [wants, h0, h1, h2, s1, s2, s3, sw, eab, ebc, eac, eaa, eba, zab, zb]) (by simp [h0, h1, h2, s1, s2, s3, sw, eab, ebc, eac, eaa, eba, zab, zb] <;> rfl) (by rfl) (by simp [fits_some, fits_none, hw, Nat.blt_eq]) ?_
    refine evSeq_go (by simp [wants, h0, h1, h2, s1, s2, s3, sw, eab, ebc, eac, eaa, eba, zab, zb]) (by simp [h0, h1, h2, s1, s2, s3, sw, eab, ebc, eac, eaa, eba, zab, zb] <;> rfl) (by rfl) (by simp [fits_some, fits_none, hw, Nat.blt_eq]) ?_
    refine evSeq_go rfl (by simp [h0, h1, h2, s1, s2, s3, sw, eab, ebc, eac, eaa, eba, zab, zb] <;> rfl) (by rfl) (by simp [fits_some, fits_none, hw, Nat.blt_eq]) ?_
    exact evSeq_nil
  refine inSeq_norm ?_
  refine Tri.condG (o := ?o3) (b := ?b3) ?g3 ?r3 ?y3 ?n3
  case g3 => simp [h0, h1, h2, s1, s2, s3, sw, eab, ebc, eac, eaa, eba, zab, zb] <;> rfl
  case r3 => rfl
  case y3 =>
    intro hy3
    exact absurd hy3 (by simp [h0, h1, h2, s1, s2, s3, sw, eab, ebc, eac, eaa, eba, zab, zb])
  case n3 =>
    intro hn3
    refine Tri.skip ?_
    refine inSeq_norm ?_
    refine Tri.seq' ?_
    refine Tri.regN (t' := ?t4) (H' := ?H4) TT_ok hC ?e4 ?q4
    case e4 =>
      refine evReg_quiet (t' := ?t4) (by kernel_rfl) ?_ ?r904
      refine QR.val rfl (by simp [h0, h1, h2, s1, s2, s3, sw, eab, ebc, eac, eaa, eba, zab, zb] <;> rfl) (by rfl) (by simp [fits_some, fits_none, hw, Nat.blt_eq]) ?_
      refine QR.val rfl (by simp [h0, h1, h2, s1, s2, s3, sw, eab, ebc, eac, eaa, eba, zab, zb] <;> rfl) (by rfl) (by simp [fits_some, fits_none, hw, Nat.blt_eq]) ?_
      refine QR.val rfl (by simp [h0, h1, h2, s1, s2, s3, sw, eab, ebc, eac, eaa, eba, zab, zb] <;> rfl) (by rfl) (by simp [fits_some, fits_none, hw, Nat.blt_eq]) ?_
      refine QR.val rfl (by simp [h0, h1, h2, s1, s2, s3, sw, eab, ebc, eac, eaa, eba, zab, zb] <;> rfl) (by rfl) (by simp [fits_some, fits_none, hw, Nat.blt_eq]) ?_
      refine QR.val rfl (by simp [h0, h1, h2, s1, s2, s3, sw, eab, ebc, eac, eaa, eba, zab, zb] <;> rfl) (by rfl) (by simp [fits_some, fits_none, hw, Nat.blt_eq]) ?_
      refine QR.val rfl (by simp [h0, h1, h2, s1, s2, s3, sw, eab, ebc, eac, eaa, eba, zab, zb] <;> rfl) (by rfl) (by simp [fits_some, fits_none, hw, Nat.blt_eq]) ?_
      refine QR.val rfl (by simp [h0, h1, h2, s1, s2, s3, sw, eab, ebc, eac, eaa, eba, zab, zb] <;> rfl) (by rfl) (by simp [fits_some, fits_none, hw, Nat.blt_eq]) ?_
      refine QR.val rfl (by simp [h0, h1, h2, s1, s2, s3, sw, eab, ebc, eac, eaa, eba, zab, zb] <;> rfl) (by rfl) (by simp [fits_some, fits_none, hw, Nat.blt_eq]) ?_
      refine QR.val rfl (by simp [h0, h1, h2, s1, s2, s3, sw, eab, ebc, eac, eaa, eba, zab, zb] <;> rfl) (by rfl) (by simp [fits_some, fits_none, hw, Nat.blt_eq]) ?_
      refine QR.val rfl (by simp [h0, h1, h2, s1, s2, s3, sw, eab, ebc, eac, eaa, eba, zab, zb] <;> rfl) (by rfl) (by simp [fits_some, fits_none, hw, Nat.blt_eq]) ?_
      refine QR.val rfl (by simp [h0, h1, h2, s1, s2, s3, sw, eab, ebc, eac, eaa, eba, zab, zb] <;> rfl) (by rfl) (by simp [fits_some, fits_none, hw, Nat.blt_eq]) ?_
      refine QR.val rfl (by simp [h0, h1, h2, s1, s2, s3, sw, eab, ebc, eac, eaa, eba, zab, zb] <;> rfl) (by rfl) (by simp [fits_some, fits_none, hw, Nat.blt_eq]) ?_
      exact QR.nil
      case r904 => exact rfl
    refine inSeq_norm ?_
    refine Tri.seq' ?_
    refine Tri.seq' ?_
    refine Tri.regN (t' := ?t5) (H' := ?H5) TT_ok hC ?e5 ?q5
    case e5 =>
      refine go_false ?_
      refine evSeq_go rfl (by simp [h0, h1, h2, s1, s2, s3, sw, eab, ebc, eac, eaa, eba, zab, zb] <;> rfl) (by rfl) (by simp [fits_some, fits_none, hw, Nat.blt_eq]) ?_
      refine evSeq_go rfl (by simp [h0, h1, h2, s1, s2, s3, sw, eab, ebc, eac, eaa, eba, zab, zb] <;> rfl) (by rfl) (by simp [fits_some, fits_none, hw, Nat.blt_eq]) ?_
      refine evSeq_go rfl (by simp [h0, h1, h2, s1, s2, s3, sw, eab, ebc, eac, eaa, eba, zab, zb] <;> rfl) (by rfl) (by simp [fits_some, fits_none, hw, Nat.blt_eq]) ?_
      refine evSeq_go rfl (by simp [h0, h1, h2, s1, s2, s3, sw, eab, ebc, eac, eaa, eba, zab, zb] <;> rfl) (by rfl) (by simp [fits_some, fits_none, hw, Nat.blt_eq]) ?_
      refine evSeq_go rfl (by simp [h0, h1, h2, s1, s2, s3, sw, eab, ebc, eac, eaa, eba, zab, zb] <;> rfl) (by rfl) (by simp [fits_some, fits_none, hw, Nat.blt_eq]) ?_
      refine evSeq_go (by simp [wants, h0, h1, h2, s1, s2, s3, sw, eab, ebc, eac, eaa, eba, zab, zb]) (by simp [h0, h1, h2, s1, s2, s3, sw, eab, ebc, eac, eaa, eba, zab, zb] <;> rfl) (by rfl) (by simp [fits_some, fits_none, hw, Nat.blt_eq]) ?_
      refine evSeq_go (by simp [wants, h0, h1, h2, s1, s2, s3, sw, eab, ebc, eac, eaa, eba, zab, zb]) (by simp [h0, h1, h2, s1, s2, s3, sw, eab, ebc, eac, eaa, eba, zab, zb] <;> rfl) (by rfl) (by simp [fits_some, fits_none, hw, Nat.blt_eq]) ?_
      refine evSeq_go (by simp [wants, h0, h1, h2, s1, s2, s3, sw, eab, ebc, eac, eaa, eba, zab, zb]) (by simp [h0, h1, h2, s1, s2, s3, sw, eab, ebc, eac, eaa, eba, zab, zb] <;> rfl) (by rfl) (by simp [fits_some, fits_none, hw, Nat.blt_eq]) ?_
      refine evSeq_go (by simp [wants, h0, h1, h2, s1, s2, s3, sw, eab, ebc, eac, eaa, eba, zab, zb]) (by simp [h0, h1, h2, s1, s2, s3, sw, eab, ebc, eac, eaa, eba, zab, zb] <;> rfl) (by rfl) (by simp [fits_some, fits_none, hw, Nat.blt_eq]) ?_
      refine evSeq_go (by simp [wants, h0, h1, h2, s1, s2, s3, sw, eab, ebc, eac, eaa, eba, zab, zb]) (by simp [h0, h1, h2, s1, s2, s3, sw, eab, ebc, eac, eaa, eba, zab, zb] <;> rfl) (by rfl) (by simp [fits_some, fits_none, hw, Nat.blt_eq]) ?_
      refine evSeq_go rfl (by simp [h0, h1, h2, s1, s2, s3, sw, eab, ebc, eac, eaa, eba, zab, zb] <;> rfl) (by rfl) (by simp [fits_some, fits_none, hw, Nat.blt_eq]) ?_
      refine evSeq_go rfl (by simp [h0, h1, h2, s1, s2, s3, sw, eab, ebc, eac, eaa, eba, zab, zb] <;> rfl) (by rfl) (by simp [fits_some, fits_none, hw, Nat.blt_eq]) ?_
      refine evSeq_go (by simp [wants, h0, h1, h2, s1, s2, s3, sw, eab, ebc, eac, eaa, eba, zab, zb]) (by simp [h0, h1, h2, s1, s2, s3, sw, eab, ebc, eac, eaa, eba, zab, zb] <;> rfl) (by rfl) (by simp [fits_some, fits_none, hw, Nat.blt_eq]) ?_
      refine evSeq_go (by simp [wants, h0, h1, h2, s1, s2, s3, sw, eab, ebc, eac, eaa, eba, zab, zb]) (by simp [h0, h1, h2, s1, s2, s3, sw, eab, ebc, eac, eaa, eba, zab, zb] <;> rfl) (by rfl) (by simp [fits_some, fits_none, hw, Nat.blt_eq]) ?_
      refine evSeq_off (by simp [wants, h0, h1, h2, s1, s2, s3, sw, eab, ebc, eac, eaa, eba, zab, zb]) (by simp [fits_some, fits_none, hw, Nat.blt_eq]) ?_
      refine evSeq_go (by simp [wants, h0, h1, h2, s1, s2, s3, sw, eab, ebc, eac, eaa, eba, zab, zb]) (by simp [h0, h1, h2, s1, s2, s3, sw, eab, ebc, eac, eaa, eba, zab, zb] <;> rfl) (by rfl) (by simp [fits_some, fits_none, hw, Nat.blt_eq]) ?_
      refine evSeq_go (by simp [wants, h0, h1, h2, s1, s2, s3, sw, eab, ebc, eac, eaa, eba, zab, zb]) (by simp [h0, h1, h2, s1, s2, s3, sw, eab, ebc, eac, eaa, eba, zab, zb] <;> rfl) (by rfl) (by simp [fits_some, fits_none, hw, Nat.blt_eq]) ?_
      refine evSeq_off (by simp [wants, h0, h1, h2, s1, s2, s3, sw, eab, ebc, eac, eaa, eba, zab, zb]) (by simp [fits_some, fits_none, hw, Nat.blt_eq]) ?_
      refine evSeq_off (by simp [wants, h0, h1, h2, s1, s2, s3, sw, eab, ebc, eac, eaa, eba, zab, zb]) (by simp [fits_some, fits_none, hw, Nat.blt_eq]) ?_
      refine evSeq_go (by simp [wants, h0, h1, h2, s1, s2, s3, sw, eab, ebc, eac, eaa, eba, zab, zb]) (by simp [h0, h1, h2, s1, s2, s3, sw, eab, ebc, eac, eaa, eba, zab, zb] <;> rfl) (by rfl) (by simp [fits_some, fits_none, hw, Nat.blt_eq]) ?_
      refine evSeq_go rfl (by simp [h0, h1, h2, s1, s2, s3, sw, eab, ebc, eac, eaa, eba, zab, zb] <;> rfl) (by rfl) (by simp [fits_some, fits_none, hw, Nat.blt_eq]) ?_
      refine evSeq_go rfl (by simp [h0, h1, h2, s1, s2, s3, sw, eab, ebc, eac, eaa, eba, zab, zb] <;> rfl) (by rfl) (by simp [fits_some, fits_none, hw, Nat.blt_eq]) ?_
      refine evSeq_go (by simp [wants, h0, h1, h2, s1, s2, s3, sw, eab, ebc, eac, eaa, eba, zab, zb]) (by simp [h0, h1, h2, s1, s2, s3, sw, eab, ebc, eac, eaa, eba, zab, zb] <;> rfl) (by rfl) (by simp [fits_some, fits_none, hw, Nat.blt_eq]) ?_
      refine evSeq_go (by simp [wants, h0, h1, h2, s1, s2, s3, sw, eab, ebc, eac, eaa, eba, zab, zb]) (by simp [h0, h1, h2, s1, s2, s3, sw, eab, ebc, eac, eaa, eba, zab, zb] <;> rfl) (by rfl) (by simp [fits_some, fits_none, hw, Nat.blt_eq]) ?_
      refine evSeq_off (by simp [wants, h0, h1, h2, s1, s2, s3, sw, eab, ebc, eac, eaa, eba, zab, zb]) (by simp [fits_some, fits_none, hw, Nat.blt_eq]) ?_
      refine evSeq_off (by simp [wants, h0, h1, h2, s1, s2, s3, sw, eab, ebc, eac, eaa, eba, zab, zb]) (by simp [fits_some, fits_none, hw, Nat.blt_eq]) ?_
      refine evSeq_go (by simp [wants, h0, h1, h2, s1, s2, s3, sw, eab, ebc, eac, eaa, eba, zab, zb]) (by simp [h0, h1, h2, s1, s2, s3, sw, eab, ebc, eac, eaa, eba, zab, zb] <;> rfl) (by rfl) (by simp [fits_some, fits_none, hw, Nat.blt_eq]) ?_
      refine evSeq_go (by simp [wants, h0, h1, h2, s1, s2, s3, sw, eab, ebc, eac, eaa, eba, zab, zb]) (by simp [h0, h1, h2, s1, s2, s3, sw, eab, ebc, eac, eaa, eba, zab, zb] <;> rfl) (by rfl) (by simp [fits_some, fits_none, hw, Nat.blt_eq]) ?_
      refine evSeq_off (by simp [wants, h0, h1, h2, s1, s2, s3, sw, eab, ebc, eac, eaa, eba, zab, zb]) (by simp [fits_some, fits_none, hw, Nat.blt_eq]) ?_
      refine evSeq_go (by simp [wants, h0, h1, h2, s1, s2, s3, sw, eab, ebc, eac, eaa, eba, zab, zb]) (by simp [h0, h1, h2, s1, s2, s3, sw, eab, ebc, eac, eaa, eba, zab, zb] <;> rfl) (by rfl) (by simp [fits_some, fits_none, hw, Nat.blt_eq]) ?_
      refine evSeq_go rfl (by simp [h0, h1, h2, s1, s2, s3, sw, eab, ebc, eac, eaa, eba, zab, zb] <;> rfl) (by rfl) (by simp [fits_some, fits_none, hw, Nat.blt_eq]) ?_
      exact evSeq_nil
    refine inSeq_norm ?_
    refine Tri.condG (o := ?o6) (b := ?b6) ?g6 ?r6 ?y6 ?n6
    case g6 => simp [h0, h1, h2, s1, s2, s3, sw, eab, ebc, eac, eaa, eba, zab, zb] <;> rfl
    case r6 => rfl
    case y6 =>
      intro hy6
      exact absurd hy6 (by simp [h0, h1, h2, s1, s2, s3, sw, eab, ebc, eac, eaa, eba, zab, zb])
    case n6 =>
      intro hn6
      refine Tri.skip ?_
      refine inSeq_norm ?_
      refine Tri.seq' ?_
      refine Tri.regN (t' := ?t7) (H' := ?H7) TT_ok hC ?e7 ?q7
      case e7 =>
        refine go_false ?_
        refine evSeq_go rfl (by simp [h0, h1, h2, s1, s2, s3, sw, eab, ebc, eac, eaa, eba, zab, zb] <;> rfl) (by rfl) (by simp [fits_some, fits_none, hw, Nat.blt_eq]) ?_
        refine evSeq_go rfl (by simp [h0, h1, h2, s1, s2, s3, sw, eab, ebc, eac, eaa, eba, zab, zb] <;> rfl) (by rfl) (by simp [fits_some, fits_none, hw, Nat.blt_eq]) ?_
        refine evSeq_go rfl (by simp [h0, h1, h2, s1, s2, s3, sw, eab, ebc, eac, eaa, eba, zab, zb] <;> rfl) (by rfl) (by simp [fits_some, fits_none, hw, Nat.blt_eq]) ?_
        refine evSeq_go rfl (by simp [h0, h1, h2, s1, s2, s3, sw, eab, ebc, eac, eaa, eba, zab, zb] <;> rfl) (by rfl) (by simp [fits_some, fits_none, hw, Nat.blt_eq]) ?_
        refine evSeq_go rfl (by simp [h0, h1, h2, s1, s2, s3, sw, eab, ebc, eac, eaa, eba, zab, zb] <;> rfl) (by rfl) (by simp [fits_some, fits_none, hw, Nat.blt_eq]) ?_
        refine evSeq_go rfl (by simp [h0, h1, h2, s1, s2, s3, sw, eab, ebc, eac, eaa, eba, zab, zb] <;> rfl) (by rfl) (by simp [fits_some, fits_none, hw, Nat.blt_eq]) ?_
        refine evSeq_go rfl (by simp [h0, h1, h2, s1, s2, s3, sw, eab, ebc, eac, eaa, eba, zab, zb] <;> rfl) (by rfl) (by simp [fits_some, fits_none, hw, Nat.blt_eq]) ?_
        exact evSeq_nil
      refine inSeq_norm ?_
      refine Tri.seq' ?_
      refine Tri.regN (t' := ?t8) (H' := ?H8) TT_ok hC ?e8 ?q8
      case e8 =>
        refine go_false ?_
        refine evSeq_go rfl (by simp [h0, h1, h2, s1, s2, s3, sw, eab, ebc, eac, eaa, eba, zab, zb] <;> rfl) (by rfl) (by simp [fits_some, fits_none, hw, Nat.blt_eq]) ?_
        refine evSeq_go rfl (by simp [h0, h1, h2, s1, s2, s3, sw, eab, ebc, eac, eaa, eba, zab, zb] <;> rfl) (by rfl) (by simp [fits_some, fits_none, hw, Nat.blt_eq]) ?_
        refine evSeq_go rfl (by simp [h0, h1, h2, s1, s2, s3, sw, eab, ebc, eac, eaa, eba, zab, zb] <;> rfl) (by rfl) (by simp [fits_some, fits_none, hw, Nat.blt_eq]) ?_
        refine evSeq_go rfl (by simp [h0, h1, h2, s1, s2, s3, sw, eab, ebc, eac, eaa, eba, zab, zb] <;> rfl) (by rfl) (by simp [fits_some, fits_none, hw, Nat.blt_eq]) ?_
        refine evSeq_go rfl (by simp [h0, h1, h2, s1, s2, s3, sw, eab, ebc, eac, eaa, eba, zab, zb] <;> rfl) (by rfl) (by simp [fits_some, fits_none, hw, Nat.blt_eq]) ?_
        refine evSeq_go rfl (by simp [h0, h1, h2, s1, s2, s3, sw, eab, ebc, eac, eaa, eba, zab, zb] <;> rfl) (by rfl) (by simp [fits_some, fits_none, hw, Nat.blt_eq]) ?_
        refine evSeq_go rfl (by simp [h0, h1, h2, s1, s2, s3, sw, eab, ebc, eac, eaa, eba, zab, zb] <;> rfl) (by rfl) (by simp [fits_some, fits_none, hw, Nat.blt_eq]) ?_
        exact evSeq_nil
      refine inSeq_norm ?_
      refine Tri.seq' ?_
      refine Tri.regN (t' := ?t9) (H' := ?H9) TT_ok hC ?e9 ?q9
      case e9 =>
        refine evReg_quiet (t' := ?t9) (by kernel_rfl) ?_ ?r909
        refine QR.val rfl (by simp [h0, h1, h2, s1, s2, s3, sw, eab, ebc, eac, eaa, eba, zab, zb] <;> rfl) (by rfl) (by simp [fits_some, fits_none, hw, Nat.blt_eq]) ?_
        refine QR.val rfl (by simp [h0, h1, h2, s1, s2, s3, sw, eab, ebc, eac, eaa, eba, zab, zb] <;> rfl) (by rfl) (by simp [fits_some, fits_none, hw, Nat.blt_eq]) ?_
        refine QR.val rfl (by simp [h0, h1, h2, s1, s2, s3, sw, eab, ebc, eac, eaa, eba, zab, zb] <;> rfl) (by rfl) (by simp [fits_some, fits_none, hw, Nat.blt_eq]) ?_
        refine QR.off (by simp [wants, h0, h1, h2, s1, s2, s3, sw, eab, ebc, eac, eaa, eba, zab, zb]) (by simp [fits_some, fits_none, hw, Nat.blt_eq]) ?_
        refine QR.off (by simp [wants, h0, h1, h2, s1, s2, s3, sw, eab, ebc, eac, eaa, eba, zab, zb]) (by simp [fits_some, fits_none, hw, Nat.blt_eq]) ?_
        refine QR.off (by simp [wants, h0, h1, h2, s1, s2, s3, sw, eab, ebc, eac, eaa, eba, zab, zb]) (by simp [fits_some, fits_none, hw, Nat.blt_eq]) ?_
        refine QR.off (by simp [wants, h0, h1, h2, s1, s2, s3, sw, eab, ebc, eac, eaa, eba, zab, zb]) (by simp [fits_some, fits_none, hw, Nat.blt_eq]) ?_
        refine QR.off (by simp [wants, h0, h1, h2, s1, s2, s3, sw, eab, ebc, eac, eaa, eba, zab, zb]) (by simp [fits_some, fits_none, hw, Nat.blt_eq]) ?_
        refine QR.off (by simp [wants, h0, h1, h2, s1, s2, s3, sw, eab, ebc, eac, eaa, eba, zab, zb]) (by simp [fits_some, fits_none, hw, Nat.blt_eq]) ?_
        refine QR.off (by simp [wants, h0, h1, h2, s1, s2, s3, sw, eab, ebc, eac, eaa, eba, zab, zb]) (by simp [fits_some, fits_none, hw, Nat.blt_eq]) ?_
        refine QR.off (by simp [wants, h0, h1, h2, s1, s2, s3, sw, eab, ebc, eac, eaa, eba, zab, zb]) (by simp [fits_some, fits_none, hw, Nat.blt_eq]) ?_
        refine QR.off (by simp [wants, h0, h1, h2, s1, s2, s3, sw, eab, ebc, eac, eaa, eba, zab, zb]) (by simp [fits_some, fits_none, hw, Nat.blt_eq]) ?_
        refine QR.off (by simp [wants, h0, h1, h2, s1, s2, s3, sw, eab, ebc, eac, eaa, eba, zab, zb]) (by simp [fits_some, fits_none, hw, Nat.blt_eq]) ?_
        refine QR.off (by simp [wants, h0, h1, h2, s1, s2, s3, sw, eab, ebc, eac, eaa, eba, zab, zb]) (by simp [fits_some, fits_none, hw, Nat.blt_eq]) ?_
        refine QR.off (by simp [wants, h0, h1, h2, s1, s2, s3, sw, eab, ebc, eac, eaa, eba, zab, zb]) (by simp [fits_some, fits_none, hw, Nat.blt_eq]) ?_
        refine QR.off (by simp [wants, h0, h1, h2, s1, s2, s3, sw, eab, ebc, eac, eaa, eba, zab, zb]) (by simp [fits_some, fits_none, hw, Nat.blt_eq]) ?_
        refine QR.off (by simp [wants, h0, h1, h2, s1, s2, s3, sw, eab, ebc, eac, eaa, eba, zab, zb]) (by simp [fits_some, fits_none, hw, Nat.blt_eq]) ?_
        refine QR.off (by simp [wants, h0, h1, h2, s1, s2, s3, sw, eab, ebc, eac, eaa, eba, zab, zb]) (by simp [fits_some, fits_none, hw, Nat.blt_eq]) ?_
        refine QR.val rfl (by simp [h0, h1, h2, s1, s2, s3, sw, eab, ebc, eac, eaa, eba, zab, zb] <;> rfl) (by rfl) (by simp [fits_some, fits_none, hw, Nat.blt_eq]) ?_
        refine QR.val rfl (by simp [h0, h1, h2, s1, s2, s3, sw, eab, ebc, eac, eaa, eba, zab, zb] <;> rfl) (by rfl) (by simp [fits_some, fits_none, hw, Nat.blt_eq]) ?_
        refine QR.val (by simp [wants, h0, h1, h2, s1, s2, s3, sw, eab, ebc, eac, eaa, eba, zab, zb]) (by simp [h0, h1, h2, s1, s2, s3, sw, eab, ebc, eac, eaa, eba, zab, zb] <;> rfl) (by rfl) (by simp [fits_some, fits_none, hw, Nat.blt_eq]) ?_
        refine QR.val rfl (by simp [h0, h1, h2, s1, s2, s3, sw, eab, ebc, eac, eaa, eba, zab, zb] <;> rfl) (by rfl) (by simp [fits_some, fits_none, hw, Nat.blt_eq]) ?_
        refine QR.val rfl (by simp [h0, h1, h2, s1, s2, s3, sw, eab, ebc, eac, eaa, eba, zab, zb] <;> rfl) (by rfl) (by simp [fits_some, fits_none, hw, Nat.blt_eq]) ?_
        exact QR.nil
        case r909 => exact rfl
      refine inSeq_norm ?_
      refine Tri.ret ?_
      simp [Ends, finish, evResults, evResult, Tryz.f3, h0, h1, h2, s1, s2, s3, sw, eab, ebc, eac, eaa, eba, zab, zb]
theorem body_3y010 {call : CallF} (hC : call.Sound Tryz.prog TT) (a b c : Nd) (s1 : ∀ H, call 4 [a.enc, .i .i64 200] H = .val (.b true) H) (s2 : ∀ H, call 4 [b.enc, .i .i64 200] H = .val (.b true) H) (s3 : ∀ H, call 4 [c.enc, .i .i64 200] H = .val (.b true) H) (sw : ∀ H, call 5 [] H = .val (.b true) H) (eab : ∀ H, call 6 [a.enc, b.enc] H = .val (.b false) H) (ebc : ∀ H, call 6 [b.enc, c.enc] H = .val (.b true) H) (eac : ∀ H, call 6 [a.enc, c.enc] H = .val (.b false) H) (eaa : ∀ H, call 6 [a.enc, a.enc] H = .val (.b true) H) (eba : ∀ H, call 6 [b.enc, a.enc] H = .val (.b false) H) (na da nb db : Int) (zab : ∀ H, call 7 [a.enc] H = .val (.tup [.i .i64 na, .i .i64 da]) H) (zb : ∀ H, call 7 [b.enc] H = .val (.tup [.i .i64 nb, .i .i64 db]) H)   : Body Tryz.prog TT 3 [a.enc, b.enc, c.enc] (.val (.b true)) := by
  refine ⟨Tryz.f3, _, rfl, rfl, by simp [Tryz.f3], ?_⟩
  have h0 : (Tm.init Tryz.f3.ntmps [a.enc, b.enc, c.enc]).get 0 = a.enc := by rw [get_init]; rfl
  have h1 : (Tm.init Tryz.f3.ntmps [a.enc, b.enc, c.enc]).get 1 = b.enc := by rw [get_init]; rfl
  have h2 : (Tm.init Tryz.f3.ntmps [a.enc, b.enc, c.enc]).get 2 = c.enc := by rw [get_init]; rfl
  have hw : (Tm.init Tryz.f3.ntmps [a.enc, b.enc, c.enc]).wid = 100 := rfl
  generalize Tm.init Tryz.f3.ntmps [a.enc, b.enc, c.enc] = t at *
  try simp only [Nd.enc_eq] at *
  refine Tri.seq' ?_
  refine Tri.regN (t' := ?t1) (H' := ?H1) TT_ok hC ?e1 ?q1
  case e1 =>
    refine go_false ?_
    refine evSeq_go rfl (by simp [h0, h1, h2, s1, s2, s3, sw, eab, ebc, eac, eaa, eba, zab, zb] <;> rfl) (by rfl) (by simp [fits_some, fits_none, hw, Nat.blt_eq]) ?_
    refine evSeq_go rfl (by simp [h0, h1, h2, s1, s2, s3, sw, eab, ebc, eac, eaa, eba, zab, zb] <;> rfl) (by rfl) (by simp [fits_some, fits_none, hw, Nat.blt_eq]) ?_
    refine evSeq_go rfl (by simp [h0, h1, h2, s1, s2, s3, sw, eab, ebc, eac, eaa, eba, zab, zb] <;> rfl) (by rfl) (by simp [fits_some, fits_none, hw, Nat.blt_eq]) ?_
    refine evSeq_go rfl (by simp [h0, h1, h2, s1, s2, s3, sw, eab, ebc, eac, eaa, eba, zab, zb] <;> rfl) (by rfl) (by simp [fits_some, fits_none, hw, Nat.blt_eq]) ?_
    exact evSeq_nil
  refine inSeq_norm ?_
  refine Tri.seq' ?_
  refine Tri.seq' ?_
  refine Tri.regN (t' := ?t2) (H' := ?H2) TT_ok hC ?e2 ?q2
  case e2 =>
    refine go_false ?_
    refine evSeq_go rfl (by simp [h0, h1, h2, s1, s2, s3, sw, eab, ebc, eac, eaa, eba, zab, zb] <;> rfl) (by rfl) (by simp [fits_some, fits_none, hw, Nat.blt_eq]) ?_
    refine evSeq_go rfl (by simp [h0, h1, h2, s1, s2, s3, sw, eab, ebc, eac, eaa, eba, zab, zb] <;> rfl) (by rfl) (by simp [fits_some, fits_none, hw, Nat.blt_eq]) ?_
    refine evSeq_go rfl (by simp [h0, h1, h2, s1, s2, s3, sw, eab, ebc, eac, eaa, eba, zab, zb] <;> rfl) (by rfl) (by simp [fits_some, fits_none, hw, Nat.blt_eq]) ?_
    refine evSeq_go rfl (by simp [h0, h1, h2, s1, s2, s3, sw, eab, ebc, eac, eaa, eba, zab, zb] <;> rfl) (by rfl) (by simp [fits_some, fits_none, hw, Nat.blt_eq]) ?_
    refine evSeq_go (by simp [wants, h0, h1, h2, s1, s2, s3, sw, eab, ebc, eac, eaa, eba, zab, zb]) (by simp [h0, h1, h2, s1, s2, s3, sw, eab, ebc, eac, eaa, eba, zab, zb] <;> rfl) (by rfl) (by simp [fits_some, fits_none, hw, Nat.blt_eq]) ?_
    refine evSeq_go (by simp [wants, h0, h1, h2, s1, s2, s3, sw, eab, ebc, eac, eaa, eba, zab, zb]) (by simp [h0, h1, h2, s1, s2, s3, sw, eab, ebc, eac, eaa, eba, zab, zb] <;> rfl) (by rfl) (by simp [fits_some, fits_none, hw, Nat.blt_eq]) ?_
    refine evSeq_go (by simp [wants, h0, h1, h2, s1, s2, s3, sw, eab, ebc, eac, eaa, eba, zab, zb]) (by simp [h0, h1, h2, s1, s2, s3, sw, eab, ebc, eac, eaa, eba, zab, zb] <;> rfl) (by rfl) (by simp [fits_some, fits_none, hw, Nat.blt_eq]) ?_
    refine evSeq_go rfl (by simp [h0, h1, h2, s1, s2, s3, sw, eab, ebc, eac, eaa, eba, zab, zb] <;> rfl) (by rfl) (by simp [fits_some, fits_none, hw, Nat.blt_eq]) ?_
    refine evSeq_go rfl (by simp [h0, h1, h2, s1, s2, s3, sw, eab, ebc, eac, eaa, eba, zab, zb] <;> rfl) (by rfl) (by simp [fits_some, fits_none, hw, Nat.blt_eq]) ?_
    refine evSeq_go (by simp [wants, h0, h1, h2, s1, s2, s3, sw, eab, ebc, eac, eaa, eba, zab, zb]) (by simp [h0, h1, h2, s1, s2, s3, sw, eab, ebc, eac, eaa, eba, zab, zb] <;> rfl) (by rfl) (by simp [fits_some, fits_none, hw, Nat.blt_eq]) ?_
    refine evSeq_go (by simp [wants, h0, h1, h2, s1, s2, s3, sw, eab, ebc, eac, eaa, eba, zab, zb]) (by simp [h0, h1, h2, s1, s2, s3, sw, eab, ebc, eac, eaa, eba, zab, zb] <;> rfl) (by rfl) (by simp [fits_some, fits_none, hw, Nat.blt_eq]) ?_
    refine evSeq_go (by simp [wants, h0, h1, h2, s1, s2, s3, sw, eab, ebc, eac, eaa, eba, zab, zb]) (by simp [h0, h1, h2, s1, s2, s3, sw, eab, ebc, eac, eaa, eba, zab, zb] <;> rfl) (by rfl) (by simp [fits_some, fits_none, hw, Nat.blt_eq]) ?_
    refine evSeq_go rfl (by simp [h0, h1, h2, s1, s2, s3, sw, eab, ebc, eac, eaa, eba, zab, zb] <;> rfl) (by rfl) (by simp [fits_some, fits_none, hw, Nat.blt_eq]) ?_
    exact evSeq_nil
  refine inSeq_norm ?_
  refine Tri.condG (o := ?o3) (b := ?b3) ?g3 ?r3 ?y3 ?n3
  case g3 => simp [h0, h1, h2, s1, s2, s3, sw, eab, ebc, eac, eaa, eba, zab, zb] <;> rfl
  case r3 => rfl
  case y3 =>
    intro hy3
    exact absurd hy3 (by simp [h0, h1, h2, s1, s2, s3, sw, eab, ebc, eac, eaa, eba, zab, zb])
  case n3 =>
    intro hn3
    refine Tri.skip ?_
    refine inSeq_norm ?_
    refine Tri.seq' ?_
    refine Tri.regN (t' := ?t4) (H' := ?H4) TT_ok hC ?e4 ?q4
    case e4 =>
      refine evReg_quiet (t' := ?t4) (by kernel_rfl) ?_ ?r904
      refine QR.val rfl (by simp [h0, h1, h2, s1, s2, s3, sw, eab, ebc, eac, eaa, eba, zab, zb] <;> rfl) (by rfl) (by simp [fits_some, fits_none, hw, Nat.blt_eq]) ?_
      refine QR.val rfl (by simp [h0, h1, h2, s1, s2, s3, sw, eab, ebc, eac, eaa, eba, zab, zb] <;> rfl) (by rfl) (by simp [fits_some, fits_none, hw, Nat.blt_eq]) ?_
      refine QR.val rfl (by simp [h0, h1, h2, s1, s2, s3, sw, eab, ebc, eac, eaa, eba, zab, zb] <;> rfl) (by rfl) (by simp [fits_some, fits_none, hw, Nat.blt_eq]) ?_
      refine QR.val rfl (by simp [h0, h1, h2, s1, s2, s3, sw, eab, ebc, eac, eaa, eba, zab, zb] <;> rfl) (by rfl) (by simp [fits_some, fits_none, hw, Nat.blt_eq]) ?_
      refine QR.val rfl (by simp [h0, h1, h2, s1, s2, s3, sw, eab, ebc, eac, eaa, eba, zab, zb] <;> rfl) (by rfl) (by simp [fits_some, fits_none, hw, Nat.blt_eq]) ?_
      refine QR.val rfl (by simp [h0, h1, h2, s1, s2, s3, sw, eab, ebc, eac, eaa, eba, zab, zb] <;> rfl) (by rfl) (by simp [fits_some, fits_none, hw, Nat.blt_eq]) ?_
      refine QR.val rfl (by simp [h0, h1, h2, s1, s2, s3, sw, eab, ebc, eac, eaa, eba, zab, zb] <;> rfl) (by rfl) (by simp [fits_some, fits_none, hw, Nat.blt_eq]) ?_
      refine QR.val rfl (by simp [h0, h1, h2, s1, s2, s3, sw, eab, ebc, eac, eaa, eba, zab, zb] <;> rfl) (by rfl) (by simp [fits_some, fits_none, hw, Nat.blt_eq]) ?_
      refine QR.val rfl (by simp [h0, h1, h2, s1, s2, s3, sw, eab, ebc, eac, eaa, eba, zab, zb] <;> rfl) (by rfl) (by simp [fits_some, fits_none, hw, Nat.blt_eq]) ?_
      refine QR.val rfl (by simp [h0, h1, h2, s1, s2, s3, sw, eab, ebc, eac, eaa, eba, zab, zb] <;> rfl) (by rfl) (by simp [fits_some, fits_none, hw, Nat.blt_eq]) ?_
      refine QR.val rfl (by simp [h0, h1, h2, s1, s2, s3, sw, eab, ebc, eac, eaa, eba, zab, zb] <;> rfl) (by rfl) (by simp [fits_some, fits_none, hw, Nat.blt_eq]) ?_
      refine QR.val rfl (by simp [h0, h1, h2, s1, s2, s3, sw, eab, ebc, eac, eaa, eba, zab, zb] <;> rfl) (by rfl) (by simp [fits_some, fits_none, hw, Nat.blt_eq]) ?_
      exact QR.nil
      case r904 => exact rfl
    refine inSeq_norm ?_
    refine Tri.seq' ?_
    refine Tri.seq' ?_
    refine Tri.regN (t' := ?t5) (H' := ?H5) TT_ok hC ?e5 ?q5
    case e5 =>
      refine go_false ?_
      refine evSeq_go rfl (by simp [h0, h1, h2, s1, s2, s3, sw, eab, ebc, eac, eaa, eba, zab, zb] <;> rfl) (by rfl) (by simp [fits_some, fits_none, hw, Nat.blt_eq]) ?_
      refine evSeq_go rfl (by simp [h0, h1, h2, s1, s2, s3, sw, eab, ebc, eac, eaa, eba, zab, zb] <;> rfl) (by rfl) (by simp [fits_some, fits_none, hw, Nat.blt_eq]) ?_
      refine evSeq_go rfl (by simp [h0, h1, h2, s1, s2, s3, sw, eab, ebc, eac, eaa, eba, zab, zb] <;> rfl) (by rfl) (by simp [fits_some, fits_none, hw, Nat.blt_eq]) ?_
      refine evSeq_go rfl (by simp [h0, h1, h2, s1, s2, s3, sw, eab, ebc, eac, eaa, eba, zab, zb] <;> rfl) (by rfl) (by simp [fits_some, fits_none, hw, Nat.blt_eq]) ?_
      refine evSeq_go rfl (by simp [h0, h1, h2, s1, s2, s3, sw, eab, ebc, eac, eaa, eba, zab, zb] <;> rfl) (by rfl) (by simp [fits_some, fits_none, hw, Nat.blt_eq]) ?_
      refine evSeq_go (by simp [wants, h0, h1, h2, s1, s2, s3, sw, eab, ebc, eac, eaa, eba, zab, zb]) (by simp [h0, h1, h2, s1, s2, s3, sw, eab, ebc, eac, eaa, eba, zab, zb] <;> rfl) (by rfl) (by simp [fits_some, fits_none, hw, Nat.blt_eq]) ?_
      refine evSeq_go (by simp [wants, h0, h1, h2, s1, s2, s3, sw, eab, ebc, eac, eaa, eba, zab, zb]) (by simp [h0, h1, h2, s1, s2, s3, sw, eab, ebc, eac, eaa, eba, zab, zb] <;> rfl) (by rfl) (by simp [fits_some, fits_none, hw, Nat.blt_eq]) ?_
      refine evSeq_go (by simp [wants, h0, h1, h2, s1, s2, s3, sw, eab, ebc, eac, eaa, eba, zab, zb]) (by simp [h0, h1, h2, s1, s2, s3, sw, eab, ebc, eac, eaa, eba, zab, zb] <;> rfl) (by rfl) (by simp [fits_some, fits_none, hw, Nat.blt_eq]) ?_
      refine evSeq_go (by simp [wants, h0, h1, h2, s1, s2, s3, sw, eab, ebc, eac, eaa, eba, zab, zb]) (by simp [h0, h1, h2, s1, s2, s3, sw, eab, ebc, eac, eaa, eba, zab, zb] <;> rfl) (by rfl) (by simp [fits_some, fits_none, hw, Nat.blt_eq]) ?_
      refine evSeq_go (by simp [wants, h0, h1, h2, s1, s2, s3, sw, eab, ebc, eac, eaa, eba, zab, zb]) (by simp [h0, h1, h2, s1, s2, s3, sw, eab, ebc, eac, eaa, eba, zab, zb] <;> rfl) (by rfl) (by simp [fits_some, fits_none, hw, Nat.blt_eq]) ?_
      refine evSeq_go rfl (by simp [h0, h1, h2, s1, s2, s3, sw, eab, ebc, eac, eaa, eba, zab, zb] <;> rfl) (by rfl) (by simp [fits_some, fits_none, hw, Nat.blt_eq]) ?_
      refine evSeq_go rfl (by simp [h0, h1, h2, s1, s2, s3, sw, eab, ebc, eac, eaa, eba, zab, zb] <;> rfl) (by rfl) (by simp [fits_some, fits_none, hw, Nat.blt_eq]) ?_
      refine evSeq_go (by simp [wants, h0, h1, h2, s1, s2, s3, sw, eab, ebc, eac, eaa, eba, zab, zb]) (by simp [h0, h1, h2, s1, s2, s3, sw, eab, ebc, eac, eaa, eba, zab, zb] <;> rfl) (by rfl) (by simp [fits_some, fits_none, hw, Nat.blt_eq]) ?_
      refine evSeq_go (by simp [wants, h0, h1, h2, s1, s2, s3, sw, eab, ebc, eac, eaa, eba, zab, zb]) (by simp [h0, h1, h2, s1, s2, s3, sw, eab, ebc, eac, eaa, eba, zab, zb] <;> rfl) (by rfl) (by simp [fits_some, fits_none, hw, Nat.blt_eq]) ?_
      refine evSeq_off (by simp [wants, h0, h1, h2, s1, s2, s3, sw, eab, ebc, eac, eaa, eba, zab, zb]) (by simp [fits_some, fits_none, hw, Nat.blt_eq]) ?_
      refine evSeq_go (by simp [wants, h0, h1, h2, s1, s2, s3, sw, eab, ebc, eac, eaa, eba, zab, zb]) (by simp [h0, h1, h2, s1, s2, s3, sw, eab, ebc, eac, eaa, eba, zab, zb] <;> rfl) (by rfl) (by simp [fits_some, fits_none, hw, Nat.blt_eq]) ?_
      refine evSeq_go (by simp [wants, h0, h1, h2, s1, s2, s3, sw, eab, ebc, eac, eaa, eba, zab, zb]) (by simp [h0, h1, h2, s1, s2, s3, sw, eab, ebc, eac, eaa, eba, zab, zb] <;> rfl) (by rfl) (by simp [fits_some, fits_none, hw, Nat.blt_eq]) ?_
      refine evSeq_off (by simp [wants, h0, h1, h2, s1, s2, s3, sw, eab, ebc, eac, eaa, eba, zab, zb]) (by simp [fits_some, fits_none, hw, Nat.blt_eq]) ?_
      refine evSeq_off (by simp [wants, h0, h1, h2, s1, s2, s3, sw, eab, ebc, eac, eaa, eba, zab, zb]) (by simp [fits_some, fits_none, hw, Nat.blt_eq]) ?_
      refine evSeq_go (by simp [wants, h0, h1, h2, s1, s2, s3, sw, eab, ebc, eac, eaa, eba, zab, zb]) (by simp [h0, h1, h2, s1, s2, s3, sw, eab, ebc, eac, eaa, eba, zab, zb] <;> rfl) (by rfl) (by simp [fits_some, fits_none, hw, Nat.blt_eq]) ?_
      refine evSeq_go rfl (by simp [h0, h1, h2, s1, s2, s3, sw, eab, ebc, eac, eaa, eba, zab, zb] <;> rfl) (by rfl) (by simp [fits_some, fits_none, hw, Nat.blt_eq]) ?_
      refine evSeq_go rfl (by simp [h0, h1, h2, s1, s2, s3, sw, eab, ebc, eac, eaa, eba, zab, zb] <;> rfl) (by rfl) (by simp [fits_some, fits_none, hw, Nat.blt_eq]) ?_
      refine evSeq_go (by simp [wants, h0, h1, h2, s1, s2, s3, sw, eab, ebc, eac, eaa, eba, zab, zb]) (by simp [h0, h1, h2, s1, s2, s3, sw, eab, ebc, eac, eaa, eba, zab, zb] <;> rfl) (by rfl) (by simp [fits_some, fits_none, hw, Nat.blt_eq]) ?_
      refine evSeq_go (by simp [wants, h0, h1, h2, s1, s2, s3, sw, eab, ebc, eac, eaa, eba, zab, zb]) (by simp [h0, h1, h2, s1, s2, s3, sw, eab, ebc, eac, eaa, eba, zab, zb] <;> rfl) (by rfl) (by simp [fits_some, fits_none, hw, Nat.blt_eq]) ?_
      refine evSeq_off (by simp [wants, h0, h1, h2, s1, s2, s3, sw, eab, ebc, eac, eaa, eba, zab, zb]) (by simp [fits_some, fits_none, hw, Nat.blt_eq]) ?_
      refine evSeq_off (by simp [wants, h0, h1, h2, s1, s2, s3, sw, eab, ebc, eac, eaa, eba, zab, zb]) (by simp [fits_some, fits_none, hw, Nat.blt_eq]) ?_
      refine evSeq_go (by simp [wants, h0, h1, h2, s1, s2, s3, sw, eab, ebc, eac, eaa, eba, zab, zb]) (by simp [h0, h1, h2, s1, s2, s3, sw, eab, ebc, eac, eaa, eba, zab, zb] <;> rfl) (by rfl) (by simp [fits_some, fits_none, hw, Nat.blt_eq]) ?_
      refine evSeq_go (by simp [wants, h0, h1, h2, s1, s2, s3, sw, eab, ebc, eac, eaa, eba, zab, zb]) (by simp [h0, h1, h2, s1, s2, s3, sw, eab, ebc, eac, eaa, eba, zab, zb] <;> rfl) (by rfl) (by simp [fits_some, fits_none, hw, Nat.blt_eq]) ?_
      refine evSeq_off (by simp [wants, h0, h1, h2, s1, s2, s3, sw, eab, ebc, eac, eaa, eba, zab, zb]) (by simp [fits_some, fits_none, hw, Nat.blt_eq]) ?_
      refine evSeq_go (by simp [wants, h0, h1, h2, s1, s2, s3, sw, eab, ebc, eac, eaa, eba, zab, zb]) (by simp [h0, h1, h2, s1, s2, s3, sw, eab, ebc, eac, eaa, eba, zab, zb] <;> rfl) (by rfl) (by simp [fits_some, fits_none, hw, Nat.blt_eq]) ?_
      refine evSeq_go rfl (by simp [h0, h1, h2, s1, s2, s3, sw, eab, ebc, eac, eaa, eba, zab, zb] <;> rfl) (by rfl) (by simp [fits_some, fits_none, hw, Nat.blt_eq]) ?_
      exact evSeq_nil
    refine inSeq_norm ?_
    refine Tri.condG (o := ?o6) (b := ?b6) ?g6 ?r6 ?y6 ?n6
    case g6 => simp [h0, h1, h2, s1, s2, s3, sw, eab, ebc, eac, eaa, eba, zab, zb] <;> rfl
    case r6 => rfl
    case y6 =>
      intro hy6
      exact absurd hy6 (by simp [h0, h1, h2, s1, s2, s3, sw, eab, ebc, eac, eaa, eba, zab, zb])
    case n6 =>
      intro hn6
      refine Tri.skip ?_
      refine inSeq_norm ?_
      refine Tri.seq' ?_
      refine Tri.regN (t' := ?t7) (H' := ?H7) TT_ok hC ?e7 ?q7
      case e7 =>
        refine go_false ?_
        refine evSeq_go rfl (by simp [h0, h1, h2, s1, s2, s3, sw, eab, ebc, eac, eaa, eba, zab, zb] <;> rfl) (by rfl) (by simp [fits_some, fits_none, hw, Nat.blt_eq]) ?_
        refine evSeq_go rfl (by simp [h0, h1, h2, s1, s2, s3, sw, eab, ebc, eac, eaa, eba, zab, zb] <;> rfl) (by rfl) (by simp [fits_some, fits_none, hw, Nat.blt_eq]) ?_
        refine evSeq_go rfl (by simp [h0, h1, h2, s1, s2, s3, sw, eab, ebc, eac, eaa, eba, zab, zb] <;> rfl) (by rfl) (by simp [fits_some, fits_none, hw, Nat.blt_eq]) ?_
        refine evSeq_go rfl (by simp [h0, h1, h2, s1, s2, s3, sw, eab, ebc, eac, eaa, eba, zab, zb] <;> rfl) (by rfl) (by simp [fits_some, fits_none, hw, Nat.blt_eq]) ?_
        refine evSeq_go rfl (by simp [h0, h1, h2, s1, s2, s3, sw, eab, ebc, eac, eaa, eba, zab, zb] <;> rfl) (by rfl) (by simp [fits_some, fits_none, hw, Nat.blt_eq]) ?_
        refine evSeq_go rfl (by simp [h0, h1, h2, s1, s2, s3, sw, eab, ebc, eac, eaa, eba, zab, zb] <;> rfl) (by rfl) (by simp [fits_some, fits_none, hw, Nat.blt_eq]) ?_
        refine evSeq_go rfl (by simp [h0, h1, h2, s1, s2, s3, sw, eab, ebc, eac, eaa, eba, zab, zb] <;> rfl) (by rfl) (by simp [fits_some, fits_none, hw, Nat.blt_eq]) ?_
        exact evSeq_nil
      refine inSeq_norm ?_
      refine Tri.seq' ?_
      refine Tri.regN (t' := ?t8) (H' := ?H8) TT_ok hC ?e8 ?q8
      case e8 =>
        refine go_false ?_
        refine evSeq_go rfl (by simp [h0, h1, h2, s1, s2, s3, sw, eab, ebc, eac, eaa, eba, zab, zb] <;> rfl) (by rfl) (by simp [fits_some, fits_none, hw, Nat.blt_eq]) ?_
        refine evSeq_go rfl (by simp [h0, h1, h2, s1, s2, s3, sw, eab, ebc, eac, eaa, eba, zab, zb] <;> rfl) (by rfl) (by simp [fits_some, fits_none, hw, Nat.blt_eq]) ?_
        refine evSeq_go rfl (by simp [h0, h1, h2, s1, s2, s3, sw, eab, ebc, eac, eaa, eba, zab, zb] <;> rfl) (by rfl) (by simp [fits_some, fits_none, hw, Nat.blt_eq]) ?_
        refine evSeq_go rfl (by simp [h0, h1, h2, s1, s2, s3, sw, eab, ebc, eac, eaa, eba, zab, zb] <;> rfl) (by rfl) (by simp [fits_some, fits_none, hw, Nat.blt_eq]) ?_
        refine evSeq_go rfl (by simp [h0, h1, h2, s1, s2, s3, sw, eab, ebc, eac, eaa, eba, zab, zb] <;> rfl) (by rfl) (by simp [fits_some, fits_none, hw, Nat.blt_eq]) ?_
        refine evSeq_go rfl (by simp [h0, h1, h2, s1, s2, s3, sw, eab, ebc, eac, eaa, eba, zab, zb] <;> rfl) (by rfl) (by simp [fits_some, fits_none, hw, Nat.blt_eq]) ?_
        refine evSeq_go rfl (by simp [h0, h1, h2, s1, s2, s3, sw, eab, ebc, eac, eaa, eba, zab, zb] <;> rfl) (by rfl) (by simp [fits_some, fits_none, hw, Nat.blt_eq]) ?_
        exact evSeq_nil
      refine inSeq_norm ?_
      refine Tri.seq' ?_
      refine Tri.regN (t' := ?t9) (H' := ?H9) TT_ok hC ?e9 ?q9
      case e9 =>
        refine evReg_quiet (t' := ?t9) (by kernel_rfl) ?_ ?r909
        refine QR.val rfl (by simp [h0, h1, h2, s1, s2, s3, sw, eab, ebc, eac, eaa, eba, zab, zb] <;> rfl) (by rfl) (by simp [fits_some, fits_none, hw, Nat.blt_eq]) ?_
        refine QR.val rfl (by simp [h0, h1, h2, s1, s2, s3, sw, eab, ebc, eac, eaa, eba, zab, zb] <;> rfl) (by rfl) (by simp [fits_some, fits_none, hw, Nat.blt_eq]) ?_
        refine QR.val rfl (by simp [h0, h1, h2, s1, s2, s3, sw, eab, ebc, eac, eaa, eba, zab, zb] <;> rfl) (by rfl) (by simp [fits_some, fits_none, hw, Nat.blt_eq]) ?_
        refine QR.off (by simp [wants, h0, h1, h2, s1, s2, s3, sw, eab, ebc, eac, eaa, eba, zab, zb]) (by simp [fits_some, fits_none, hw, Nat.blt_eq]) ?_
        refine QR.off (by simp [wants, h0, h1, h2, s1, s2, s3, sw, eab, ebc, eac, eaa, eba, zab, zb]) (by simp [fits_some, fits_none, hw, Nat.blt_eq]) ?_
        refine QR.off (by simp [wants, h0, h1, h2, s1, s2, s3, sw, eab, ebc, eac, eaa, eba, zab, zb]) (by simp [fits_some, fits_none, hw, Nat.blt_eq]) ?_
        refine QR.off (by simp [wants, h0, h1, h2, s1, s2, s3, sw, eab, ebc, eac, eaa, eba, zab, zb]) (by simp [fits_some, fits_none, hw, Nat.blt_eq]) ?_
        refine QR.off (by simp [wants, h0, h1, h2, s1, s2, s3, sw, eab, ebc, eac, eaa, eba, zab, zb]) (by simp [fits_some, fits_none, hw, Nat.blt_eq]) ?_
        refine QR.off (by simp [wants, h0, h1, h2, s1, s2, s3, sw, eab, ebc, eac, eaa, eba, zab, zb]) (by simp [fits_some, fits_none, hw, Nat.blt_eq]) ?_
        refine QR.off (by simp [wants, h0, h1, h2, s1, s2, s3, sw, eab, ebc, eac, eaa, eba, zab, zb]) (by simp [fits_some, fits_none, hw, Nat.blt_eq]) ?_
        refine QR.off (by simp [wants, h0, h1, h2, s1, s2, s3, sw, eab, ebc, eac, eaa, eba, zab, zb]) (by simp [fits_some, fits_none, hw, Nat.blt_eq]) ?_
        refine QR.off (by simp [wants, h0, h1, h2, s1, s2, s3, sw, eab, ebc, eac, eaa, eba, zab, zb]) (by simp [fits_some, fits_none, hw, Nat.blt_eq]) ?_
        refine QR.off (by simp [wants, h0, h1, h2, s1, s2, s3, sw, eab, ebc, eac, eaa, eba, zab, zb]) (by simp [fits_some, fits_none, hw, Nat.blt_eq]) ?_
        refine QR.off (by simp [wants, h0, h1, h2, s1, s2, s3, sw, eab, ebc, eac, eaa, eba, zab, zb]) (by simp [fits_some, fits_none, hw, Nat.blt_eq]) ?_
        refine QR.off (by simp [wants, h0, h1, h2, s1, s2, s3, sw, eab, ebc, eac, eaa, eba, zab, zb]) (by simp [fits_some, fits_none, hw, Nat.blt_eq]) ?_
        refine QR.off (by simp [wants, h0, h1, h2, s1, s2, s3, sw, eab, ebc, eac, eaa, eba, zab, zb]) (by simp [fits_some, fits_none, hw, Nat.blt_eq]) ?_
        refine QR.off (by simp [wants, h0, h1, h2, s1, s2, s3, sw, eab, ebc, eac, eaa, eba, zab, zb]) (by simp [fits_some, fits_none, hw, Nat.blt_eq]) ?_
        refine QR.off (by simp [wants, h0, h1, h2, s1, s2, s3, sw, eab, ebc, eac, eaa, eba, zab, zb]) (by simp [fits_some, fits_none, hw, Nat.blt_eq]) ?_
        refine QR.val rfl (by simp [h0, h1, h2, s1, s2, s3, sw, eab, ebc, eac, eaa, eba, zab, zb] <;> rfl) (by rfl) (by simp [fits_some, fits_none, hw, Nat.blt_eq]) ?_
        refine QR.val rfl (by simp [h0, h1, h2, s1, s2, s3, sw, eab, ebc, eac, eaa, eba, zab, zb] <;> rfl) (by rfl) (by simp [fits_some, fits_none, hw, Nat.blt_eq]) ?_
        refine QR.val (by simp [wants, h0, h1, h2, s1, s2, s3, sw, eab, ebc, eac, eaa, eba, zab, zb]) (by simp [h0, h1, h2, s1, s2, s3, sw, eab, ebc, eac, eaa, eba, zab, zb] <;> rfl) (by rfl) (by simp [fits_some, fits_none, hw, Nat.blt_eq]) ?_
        refine QR.val rfl (by simp [h0, h1, h2, s1, s2, s3, sw, eab, ebc, eac, eaa, eba, zab, zb] <;> rfl) (by rfl) (by simp [fits_some, fits_none, hw, Nat.blt_eq]) ?_
        refine QR.val rfl (by simp [h0, h1, h2, s1, s2, s3, sw, eab, ebc, eac, eaa, eba, zab, zb] <;> rfl) (by rfl) (by simp [fits_some, fits_none, hw, Nat.blt_eq]) ?_
        exact QR.nil
        case r909 => exact rfl
      refine inSeq_norm ?_
      refine Tri.ret ?_
      simp [Ends, finish, evResults, evResult, Tryz.f3, h0, h1, h2, s1, s2, s3, sw, eab, ebc, eac, eaa, eba, zab, zb]
theorem body_3y001 {call : CallF} (hC : call.Sound Tryz.prog TT) (a b c : Nd) (s1 : ∀ H, call 4 [a.enc, .i .i64 200] H = .val (.b true) H) (s2 : ∀ H, call 4 [b.enc, .i .i64 200] H = .val (.b true) H) (s3 : ∀ H, call 4 [c.enc, .i .i64 200] H = .val (.b true) H) (sw : ∀ H, call 5 [] H = .val (.b true) H) (eab : ∀ H, call 6 [a.enc, b.enc] H = .val (.b false) H) (ebc : ∀ H, call 6 [b.enc, c.enc] H = .val (.b false) H) (eac : ∀ H, call 6 [a.enc, c.enc] H = .val (.b true) H) (eaa : ∀ H, call 6 [a.enc, a.enc] H = .val (.b true) H) (eba : ∀ H, call 6 [b.enc, a.enc] H = .val (.b false) H) (na da nb db : Int) (zab : ∀ H, call 7 [a.enc] H = .val (.tup [.i .i64 na, .i .i64 da]) H) (zb : ∀ H, call 7 [b.enc] H = .val (.tup [.i .i64 nb, .i .i64 db]) H)   : Body Tryz.prog TT 3 [a.enc, b.enc, c.enc] (.val (.b true)) := by
  refine ⟨Tryz.f3, _, rfl, rfl, by simp [Tryz.f3], ?_⟩
  have h0 : (Tm.init Tryz.f3.ntmps [a.enc, b.enc, c.enc]).get 0 = a.enc := by rw [get_init]; rfl
  have h1 : (Tm.init Tryz.f3.ntmps [a.enc, b.enc, c.enc]).get 1 = b.enc := by rw [get_init]; rfl
  have h2 : (Tm.init Tryz.f3.ntmps [a.enc, b.enc, c.enc]).get 2 = c.enc := by rw [get_init]; rfl
  have hw : (Tm.init Tryz.f3.ntmps [a.enc, b.enc, c.enc]).wid = 100 := rfl
  generalize Tm.init Tryz.f3.ntmps [a.enc, b.enc, c.enc] = t at *
  try simp only [Nd.enc_eq] at *
  refine Tri.seq' ?_
  refine Tri.regN (t' := ?t1) (H' := ?H1) TT_ok hC ?e1 ?q1
  case e1 =>
    refine go_false ?_
    refine evSeq_go rfl (by simp [h0, h1, h2, s1, s2, s3, sw, eab, ebc, eac, eaa, eba, zab, zb] <;> rfl) (by rfl) (by simp [fits_some, fits_none, hw, Nat.blt_eq]) ?_
    refine evSeq_go rfl (by simp [h0, h1, h2, s1, s2, s3, sw, eab, ebc, eac, eaa, eba, zab, zb] <;> rfl) (by rfl) (by simp [fits_some, fits_none, hw, Nat.blt_eq]) ?_
    refine evSeq_go rfl (by simp [h0, h1, h2, s1, s2, s3, sw, eab, ebc, eac, eaa, eba, zab, zb] <;> rfl) (by rfl) (by simp [fits_some, fits_none, hw, Nat.blt_eq]) ?_
    refine evSeq_go rfl (by simp [h0, h1, h2, s1, s2, s3, sw, eab, ebc, eac, eaa, eba, zab, zb] <;> rfl) (by rfl) (by simp [fits_some, fits_none, hw, Nat.blt_eq]) ?_
    exact evSeq_nil
  refine inSeq_norm ?_
  refine Tri.seq' ?_
  refine Tri.seq' ?_
  refine Tri.regN (t' := ?t2) (H' := ?H2) TT_ok hC ?e2 ?q2
  case e2 =>
    refine go_false ?_
    refine evSeq_go rfl (by simp [h0, h1, h2, s1, s2, s3, sw, eab, ebc, eac, eaa, eba, zab, zb] <;> rfl) (by rfl) (by simp [fits_some, fits_none, hw, Nat.blt_eq]) ?_
    refine evSeq_go rfl (by simp [h0, h1, h2, s1, s2, s3, sw, eab, ebc, eac, eaa, eba, zab, zb] <;> rfl) (by rfl) (by simp [fits_some, fits_none, hw, Nat.blt_eq]) ?_
    refine evSeq_go rfl (by simp [h0, h1, h2, s1, s2, s3, sw, eab, ebc, eac, eaa, eba, zab, zb] <;> rfl) (by rfl) (by simp [fits_some, fits_none, hw, Nat.blt_eq]) ?_
    refine evSeq_go rfl (by simp [h0, h1, h2, s1, s2, s3, sw, eab, ebc, eac, eaa, eba, zab, zb] <;> rfl) (by rfl) (by simp [fits_some, fits_none, hw, Nat.blt_eq]) ?_
    refine evSeq_go (by simp [wants, h0, h1, h2, s1, s2, s3, sw, eab, ebc, eac, eaa, eba, zab, zb]) (by simp [h0, h1, h2, s1, s2, s3, sw, eab, ebc, eac, eaa, eba, zab, zb] <;> rfl) (by rfl) (by simp [fits_some, fits_none, hw, Nat.blt_eq]) ?_
    refine evSeq_go (by simp [wants, h0, h1, h2, s1, s2, s3, sw, eab, ebc, eac, eaa, eba, zab, zb]) (by simp [h0, h1, h2, s1, s2, s3, sw, eab, ebc, eac, eaa, eba, zab, zb] <;> rfl) (by rfl) (by simp [fits_some, fits_none, hw, Nat.blt_eq]) ?_
    refine evSeq_go (by simp [wants, h0, h1, h2, s1, s2, s3, sw, eab, ebc, eac, eaa, eba, zab, zb]) (by simp [h0, h1, h2, s1, s2, s3, sw, eab, ebc, eac, eaa, eba, zab, zb] <;> rfl) (by rfl) (by simp [fits_some, fits_none, hw, Nat.blt_eq]) ?_
    refine evSeq_go rfl (by simp [h0, h1, h2, s1, s2, s3, sw, eab, ebc, eac, eaa, eba, zab, zb] <;> rfl) (by rfl) (by simp [fits_some, fits_none, hw, Nat.blt_eq]) ?_
    refine evSeq_go rfl (by simp [h0, h1, h2, s1, s2, s3, sw, eab, ebc, eac, eaa, eba, zab, zb] <;> rfl) (by rfl) (by simp [fits_some, fits_none, hw, Nat.blt_eq]) ?_
    refine evSeq_go (by simp [wants, h0, h1, h2, s1, s2, s3, sw, eab, ebc, eac, eaa, eba, zab, zb]) (by simp [h0, h1, h2, s1, s2, s3, sw, eab, ebc, eac, eaa, eba, zab, zb] <;> rfl) (by rfl) (by simp [fits_some, fits_none, hw, Nat.blt_eq]) ?_
    refine evSeq_go (by simp [wants, h0, h1, h2, s1, s2, s3, sw, eab, ebc, eac, eaa, eba, zab, zb]) (by simp [h0, h1, h2, s1, s2, s3, sw, eab, ebc, eac, eaa, eba, zab, zb] <;> rfl) (by rfl) (by simp [fits_some, fits_none, hw, Nat.blt_eq]) ?_
    refine evSeq_go (by simp [wants, h0, h1, h2, s1, s2, s3, sw, eab, ebc, eac, eaa, eba, zab, zb]) (by simp [h0, h1, h2, s1, s2, s3, sw, eab, ebc, eac, eaa, eba, zab, zb] <;> rfl) (by rfl) (by simp [fits_some, fits_none, hw, Nat.blt_eq]) ?_
    refine evSeq_go rfl (by simp [h0, h1, h2, s1, s2, s3, sw, eab, ebc, eac, eaa, eba, zab, zb] <;> rfl) (by rfl) (by simp [fits_some, fits_none, hw, Nat.blt_eq]) ?_
    exact evSeq_nil
  refine inSeq_norm ?_
  refine Tri.condG (o := ?o3) (b := ?b3) ?g3 ?r3 ?y3 ?n3
  case g3 => simp [h0, h1, h2, s1, s2, s3, sw, eab, ebc, eac, eaa, eba, zab, zb] <;> rfl
  case r3 => rfl
  case y3 =>
    intro hy3
    exact absurd hy3 (by simp [h0, h1, h2, s1, s2, s3, sw, eab, ebc, eac, eaa, eba, zab, zb])
  case n3 =>
    intro hn3
    refine Tri.skip ?_
    refine inSeq_norm ?_
    refine Tri.seq' ?_
    refine Tri.regN (t' := ?t4) (H' := ?H4) TT_ok hC ?e4 ?q4
    case e4 =>
      refine evReg_quiet (t' := ?t4) (by kernel_rfl) ?_ ?r904
      refine QR.val rfl (by simp [h0, h1, h2, s1, s2, s3, sw, eab, ebc, eac, eaa, eba, zab, zb] <;> rfl) (by rfl) (by simp [fits_some, fits_none, hw, Nat.blt_eq]) ?_
      refine QR.val rfl (by simp [h0, h1, h2, s1, s2, s3, sw, eab, ebc, eac, eaa, eba, zab, zb] <;> rfl) (by rfl) (by simp [fits_some, fits_none, hw, Nat.blt_eq]) ?_
      refine QR.val rfl (by simp [h0, h1, h2, s1, s2, s3, sw, eab, ebc, eac, eaa, eba, zab, zb] <;> rfl) (by rfl) (by simp [fits_some, fits_none, hw, Nat.blt_eq]) ?_
      refine QR.val rfl (by simp [h0, h1, h2, s1, s2, s3, sw, eab, ebc, eac, eaa, eba, zab, zb] <;> rfl) (by rfl) (by simp [fits_some, fits_none, hw, Nat.blt_eq]) ?_
      refine QR.val rfl (by simp [h0, h1, h2, s1, s2, s3, sw, eab, ebc, eac, eaa, eba, zab, zb] <;> rfl) (by rfl) (by simp [fits_some, fits_none, hw, Nat.blt_eq]) ?_
      refine QR.val rfl (by simp [h0, h1, h2, s1, s2, s3, sw, eab, ebc, eac, eaa, eba, zab, zb] <;> rfl) (by rfl) (by simp [fits_some, fits_none, hw, Nat.blt_eq]) ?_
      refine QR.val rfl (by simp [h0, h1, h2, s1, s2, s3, sw, eab, ebc, eac, eaa, eba, zab, zb] <;> rfl) (by rfl) (by simp [fits_some, fits_none, hw, Nat.blt_eq]) ?_
      refine QR.val rfl (by simp [h0, h1, h2, s1, s2, s3, sw, eab, ebc, eac, eaa, eba, zab, zb] <;> rfl) (by rfl) (by simp [fits_some, fits_none, hw, Nat.blt_eq]) ?_
      refine QR.val rfl (by simp [h0, h1, h2, s1, s2, s3, sw, eab, ebc, eac, eaa, eba, zab, zb] <;> rfl) (by rfl) (by simp [fits_some, fits_none, hw, Nat.blt_eq]) ?_
      refine QR.val rfl (by simp [h0, h1, h2, s1, s2, s3, sw, eab, ebc, eac, eaa, eba, zab, zb] <;> rfl) (by rfl) (by simp [fits_some, fits_none, hw, Nat.blt_eq]) ?_
      refine QR.val rfl (by simp [h0, h1, h2, s1, s2, s3, sw, eab, ebc, eac, eaa, eba, zab, zb] <;> rfl) (by rfl) (by simp [fits_some, fits_none, hw, Nat.blt_eq]) ?_
      refine QR.val rfl (by simp [h0, h1, h2, s1, s2, s3, sw, eab, ebc, eac, eaa, eba, zab, zb] <;> rfl) (by rfl) (by simp [fits_some, fits_none, hw, Nat.blt_eq]) ?_
      exact QR.nil
      case r904 => exact rfl
    refine inSeq_norm ?_
    refine Tri.seq' ?_
    refine Tri.seq' ?_
    refine Tri.regN (t' := ?t5) (H' := ?H5) TT_ok hC ?e5 ?q5
    case e5 =>
      refine go_false ?_
      refine evSeq_go rfl (by simp [h0, h1, h2, s1, s2, s3, sw, eab, ebc, eac, eaa, eba, zab, zb] <;> rfl) (by rfl) (by simp [fits_some, fits_none, hw, Nat.blt_eq]) ?_
      refine evSeq_go rfl (by simp [h0, h1, h2, s1, s2, s3, sw, eab, ebc, eac, eaa, eba, zab, zb] <;> rfl) (by rfl) (by simp [fits_some, fits_none, hw, Nat.blt_eq]) ?_
      refine evSeq_go rfl (by simp [h0, h1, h2, s1, s2, s3, sw, eab, ebc, eac, eaa, eba, zab, zb] <;> rfl) (by rfl) (by simp [fits_some, fits_none, hw, Nat.blt_eq]) ?_
      refine evSeq_go rfl (by simp [h0, h1, h2, s1, s2, s3, sw, eab, ebc, eac, eaa, eba, zab, zb] <;> rfl) (by rfl) (by simp [fits_some, fits_none, hw, Nat.blt_eq]) ?_
      refine evSeq_go rfl (by simp [h0, h1, h2, s1, s2, s3, sw, eab, ebc, eac, eaa, eba, zab, zb] <;> rfl) (by rfl) (by simp [fits_some, fits_none, hw, Nat.blt_eq]) ?_
      refine evSeq_go (by simp [wants, h0, h1, h2, s1, s2, s3, sw, eab, ebc, eac, eaa, eba, zab, zb]) (by simp [h0, h1, h2, s1, s2, s3, sw, eab, ebc, eac, eaa, eba, zab, zb] <;> rfl) (by rfl) (by simp [fits_some, fits_none, hw, Nat.blt_eq]) ?_
      refine evSeq_go (by simp [wants, h0, h1, h2, s1, s2, s3, sw, eab, ebc, eac, eaa, eba, zab, zb]) (by simp [h0, h1, h2, s1, s2, s3, sw, eab, ebc, eac, eaa, eba, zab, zb] <;> rfl) (by rfl) (by simp [fits_some, fits_none, hw, Nat.blt_eq]) ?_
      refine evSeq_go (by simp [wants, h0, h1, h2, s1, s2, s3, sw, eab, ebc, eac, eaa, eba, zab, zb]) (by simp [h0, h1, h2, s1, s2, s3, sw, eab, ebc, eac, eaa, eba, zab, zb] <;> rfl) (by rfl) (by simp [fits_some, fits_none, hw, Nat.blt_eq]) ?_
      refine evSeq_go (by simp [wants, h0, h1, h2, s1, s2, s3, sw, eab, ebc, eac, eaa, eba, zab, zb]) (by simp [h0, h1, h2, s1, s2, s3, sw, eab, ebc, eac, eaa, eba, zab, zb] <;> rfl) (by rfl) (by simp [fits_some, fits_none, hw, Nat.blt_eq]) ?_
      refine evSeq_go (by simp [wants, h0, h1, h2, s1, s2, s3, sw, eab, ebc, eac, eaa, eba, zab, zb]) (by simp [h0, h1, h2, s1, s2, s3, sw, eab, ebc, eac, eaa, eba, zab, zb] <;> rfl) (by rfl) (by simp [fits_some, fits_none, hw, Nat.blt_eq]) ?_
      refine evSeq_go rfl (by simp [h0, h1, h2, s1, s2, s3, sw, eab, ebc, eac, eaa, eba, zab, zb] <;> rfl) (by rfl) (by simp [fits_some, fits_none, hw, Nat.blt_eq]) ?_
      refine evSeq_go rfl (by simp [h0, h1, h2, s1, s2, s3, sw, eab, ebc, eac, eaa, eba, zab, zb] <;> rfl) (by rfl) (by simp [fits_some, fits_none, hw, Nat.blt_eq]) ?_
      refine evSeq_go (by simp [wants, h0, h1, h2, s1, s2, s3, sw, eab, ebc, eac, eaa, eba, zab, zb]) (by simp [h0, h1, h2, s1, s2, s3, sw, eab, ebc, eac, eaa, eba, zab, zb] <;> rfl) (by rfl) (by simp [fits_some, fits_none, hw, Nat.blt_eq]) ?_
      refine evSeq_go (by simp [wants, h0, h1, h2, s1, s2, s3, sw, eab, ebc, eac, eaa, eba, zab, zb]) (by simp [h0, h1, h2, s1, s2, s3, sw, eab, ebc, eac, eaa, eba, zab, zb] <;> rfl) (by rfl) (by simp [fits_some, fits_none, hw, Nat.blt_eq]) ?_
      refine evSeq_off (by simp [wants, h0, h1, h2, s1, s2, s3, sw, eab, ebc, eac, eaa, eba, zab, zb]) (by simp [fits_some, fits_none, hw, Nat.blt_eq]) ?_
      refine evSeq_go (by simp [wants, h0, h1, h2, s1, s2, s3, sw, eab, ebc, eac, eaa, eba, zab, zb]) (by simp [h0, h1, h2, s1, s2, s3, sw, eab, ebc, eac, eaa, eba, zab, zb] <;> rfl) (by rfl) (by simp [fits_some, fits_none, hw, Nat.blt_eq]) ?_
      refine evSeq_go (by simp [wants, h0, h1, h2, s1, s2, s3, sw, eab, ebc, eac, eaa, eba, zab, zb]) (by simp [h0, h1, h2, s1, s2, s3, sw, eab, ebc, eac, eaa, eba, zab, zb] <;> rfl) (by rfl) (by simp [fits_some, fits_none, hw, Nat.blt_eq]) ?_
      refine evSeq_off (by simp [wants, h0, h1, h2, s1, s2, s3, sw, eab, ebc, eac, eaa, eba, zab, zb]) (by simp [fits_some, fits_none, hw, Nat.blt_eq]) ?_
      refine evSeq_off (by simp [wants, h0, h1, h2, s1, s2, s3, sw, eab, ebc, eac, eaa, eba, zab, zb]) (by simp [fits_some, fits_none, hw, Nat.blt_eq]) ?_
      refine evSeq_go (by simp [wants, h0, h1, h2, s1, s2, s3, sw, eab, ebc, eac, eaa, eba, zab, zb]) (by simp [h0, h1, h2, s1, s2, s3, sw, eab, ebc, eac, eaa, eba, zab, zb] <;> rfl) (by rfl) (by simp [fits_some, fits_none, hw, Nat.blt_eq]) ?_
      refine evSeq_go rfl (by simp [h0, h1, h2, s1, s2, s3, sw, eab, ebc, eac, eaa, eba, zab, zb] <;> rfl) (by rfl) (by simp [fits_some, fits_none, hw, Nat.blt_eq]) ?_
      refine evSeq_go rfl (by simp [h0, h1, h2, s1, s2, s3, sw, eab, ebc, eac, eaa, eba, zab, zb] <;> rfl) (by rfl) (by simp [fits_some, fits_none, hw, Nat.blt_eq]) ?_
      refine evSeq_go (by simp [wants, h0, h1, h2, s1, s2, s3, sw, eab, ebc, eac, eaa, eba, zab, zb]) (by simp [h0, h1, h2, s1, s2, s3, sw, eab, ebc, eac, eaa, eba, zab, zb] <;> rfl) (by rfl) (by simp [fits_some, fits_none, hw, Nat.blt_eq]) ?_
      refine evSeq_go (by simp [wants, h0, h1, h2, s1, s2, s3, sw, eab, ebc, eac, eaa, eba, zab, zb]) (by simp [h0, h1, h2, s1, s2, s3, sw, eab, ebc, eac, eaa, eba, zab, zb] <;> rfl) (by rfl) (by simp [fits_some, fits_none, hw, Nat.blt_eq]) ?_
      refine evSeq_off (by simp [wants, h0, h1, h2, s1, s2, s3, sw, eab, ebc, eac, eaa, eba, zab, zb]) (by simp [fits_some, fits_none, hw, Nat.blt_eq]) ?_
      refine evSeq_off (by simp [wants, h0, h1, h2, s1, s2, s3, sw, eab, ebc, eac, eaa, eba, zab, zb]) (by simp [fits_some, fits_none, hw, Nat.blt_eq]) ?_
      refine evSeq_go (by simp [wants, h0, h1, h2, s1, s2, s3, sw, eab, ebc, eac, eaa, eba, zab, zb]) (by simp [h0, h1, h2, s1, s2, s3, sw, eab, ebc, eac, eaa, eba, zab, zb] <;> rfl) (by rfl) (by simp [fits_some, fits_none, hw, Nat.blt_eq]) ?_
      refine evSeq_go (by simp [wants, h0, h1, h2, s1, s2, s3, sw, eab, ebc, eac, eaa, eba, zab, zb]) (by simp [h0, h1, h2, s1, s2, s3, sw, eab, ebc, eac, eaa, eba, zab, zb] <;> rfl) (by rfl) (by simp [fits_some, fits_none, hw, Nat.blt_eq]) ?_
      refine evSeq_off (by simp [wants, h0, h1, h2, s1, s2, s3, sw, eab, ebc, eac, eaa, eba, zab, zb]) (by simp [fits_some, fits_none, hw, Nat.blt_eq]) ?_
      refine evSeq_go (by simp [wants, h0, h1, h2, s1, s2, s3, sw, eab, ebc, eac, eaa, eba, zab, zb]) (by simp [h0, h1, h2, s1, s2, s3, sw, eab, ebc, eac, eaa, eba, zab, zb] <;> rfl) (by rfl) (by simp [fits_some, fits_none, hw, Nat.blt_eq]) ?_
      refine evSeq_go rfl (by simp [h0, h1, h2, s1, s2, s3, sw, eab, ebc, eac, eaa, eba, zab, zb] <;> rfl) (by rfl) (by simp [fits_some, fits_none, hw, Nat.blt_eq]) ?_
      exact evSeq_nil
    refine inSeq_norm ?_
    refine Tri.condG (o := ?o6) (b := ?b6) ?g6 ?r6 ?y6 ?n6
    case g6 => simp [h0, h1, h2, s1, s2, s3, sw, eab, ebc, eac, eaa, eba, zab, zb] <;> rfl
    case r6 => rfl
    case y6 =>
      intro hy6
      exact absurd hy6 (by simp [h0, h1, h2, s1, s2, s3, sw, eab, ebc, eac, eaa, eba, zab, zb])
    case n6 =>
      intro hn6
      refine Tri.skip ?_
      refine inSeq_norm ?_
      refine Tri.seq' ?_
      refine Tri.regN (t' := ?t7) (H' := ?H7) TT_ok hC ?e7 ?q7
      case e7 =>
        refine go_false ?_
        refine evSeq_go rfl (by simp [h0, h1, h2, s1, s2, s3, sw, eab, ebc, eac, eaa, eba, zab, zb] <;> rfl) (by rfl) (by simp [fits_some, fits_none, hw, Nat.blt_eq]) ?_
        refine evSeq_go rfl (by simp [h0, h1, h2, s1, s2, s3, sw, eab, ebc, eac, eaa, eba, zab, zb] <;> rfl) (by rfl) (by simp [fits_some, fits_none, hw, Nat.blt_eq]) ?_
        refine evSeq_go rfl (by simp [h0, h1, h2, s1, s2, s3, sw, eab, ebc, eac, eaa, eba, zab, zb] <;> rfl) (by rfl) (by simp [fits_some, fits_none, hw, Nat.blt_eq]) ?_
        refine evSeq_go rfl (by simp [h0, h1, h2, s1, s2, s3, sw, eab, ebc, eac, eaa, eba, zab, zb] <;> rfl) (by rfl) (by simp [fits_some, fits_none, hw, Nat.blt_eq]) ?_
        refine evSeq_go rfl (by simp [h0, h1, h2, s1, s2, s3, sw, eab, ebc, eac, eaa, eba, zab, zb] <;> rfl) (by rfl) (by simp [fits_some, fits_none, hw, Nat.blt_eq]) ?_
        refine evSeq_go rfl (by simp [h0, h1, h2, s1, s2, s3, sw, eab, ebc, eac, eaa, eba, zab, zb] <;> rfl) (by rfl) (by simp [fits_some, fits_none, hw, Nat.blt_eq]) ?_
        refine evSeq_go rfl (by simp [h0, h1, h2, s1, s2, s3, sw, eab, ebc, eac, eaa, eba, zab, zb] <;> rfl) (by rfl) (by simp [fits_some, fits_none, hw, Nat.blt_eq]) ?_
        exact evSeq_nil
      refine inSeq_norm ?_
      refine Tri.seq' ?_
      refine Tri.regN (t' := ?t8) (H' := ?H8) TT_ok hC ?e8 ?q8
      case e8 =>
        refine go_false ?_
        refine evSeq_go rfl (by simp [h0, h1, h2, s1, s2, s3, sw, eab, ebc, eac, eaa, eba, zab, zb] <;> rfl) (by rfl) (by simp [fits_some, fits_none, hw, Nat.blt_eq]) ?_
        refine evSeq_go rfl (by simp [h0, h1, h2, s1, s2, s3, sw, eab, ebc, eac, eaa, eba, zab, zb] <;> rfl) (by rfl) (by simp [fits_some, fits_none, hw, Nat.blt_eq]) ?_
        refine evSeq_go rfl (by simp [h0, h1, h2, s1, s2, s3, sw, eab, ebc, eac, eaa, eba, zab, zb] <;> rfl) (by rfl) (by simp [fits_some, fits_none, hw, Nat.blt_eq]) ?_
        refine evSeq_go rfl (by simp [h0, h1, h2, s1, s2, s3, sw, eab, ebc, eac, eaa, eba, zab, zb] <;> rfl) (by rfl) (by simp [fits_some, fits_none, hw, Nat.blt_eq]) ?_
        refine evSeq_go rfl (by simp [h0, h1, h2, s1, s2, s3, sw, eab, ebc, eac, eaa, eba, zab, zb] <;> rfl) (by rfl) (by simp [fits_some, fits_none, hw, Nat.blt_eq]) ?_
        refine evSeq_go rfl (by simp [h0, h1, h2, s1, s2, s3, sw, eab, ebc, eac, eaa, eba, zab, zb] <;> rfl) (by rfl) (by simp [fits_some, fits_none, hw, Nat.blt_eq]) ?_
        refine evSeq_go rfl (by simp [h0, h1, h2, s1, s2, s3, sw, eab, ebc, eac, eaa, eba, zab, zb] <;> rfl) (by rfl) (by simp [fits_some, fits_none, hw, Nat.blt_eq]) ?_
        exact evSeq_nil
      refine inSeq_norm ?_
      refine Tri.seq' ?_
      refine Tri.regN (t' := ?t9) (H' := ?H9) TT_ok hC ?e9 ?q9
      case e9 =>
        refine evReg_quiet (t' := ?t9) (by kernel_rfl) ?_ ?r909
        refine QR.val rfl (by simp [h0, h1, h2, s1, s2, s3, sw, eab, ebc, eac, eaa, eba, zab, zb] <;> rfl) (by rfl) (by simp [fits_some, fits_none, hw, Nat.blt_eq]) ?_
        refine QR.val rfl (by simp [h0, h1, h2, s1, s2, s3, sw, eab, ebc, eac, eaa, eba, zab, zb] <;> rfl) (by rfl) (by simp [fits_some, fits_none, hw, Nat.blt_eq]) ?_
        refine QR.val rfl (by simp [h0, h1, h2, s1, s2, s3, sw, eab, ebc, eac, eaa, eba, zab, zb] <;> rfl) (by rfl) (by simp [fits_some, fits_none, hw, Nat.blt_eq]) ?_
        refine QR.off (by simp [wants, h0, h1, h2, s1, s2, s3, sw, eab, ebc, eac, eaa, eba, zab, zb]) (by simp [fits_some, fits_none, hw, Nat.blt_eq]) ?_
        refine QR.off (by simp [wants, h0, h1, h2, s1, s2, s3, sw, eab, ebc, eac, eaa, eba, zab, zb]) (by simp [fits_some, fits_none, hw, Nat.blt_eq]) ?_
        refine QR.off (by simp [wants, h0, h1, h2, s1, s2, s3, sw, eab, ebc, eac, eaa, eba, zab, zb]) (by simp [fits_some, fits_none, hw, Nat.blt_eq]) ?_
        refine QR.off (by simp [wants, h0, h1, h2, s1, s2, s3, sw, eab, ebc, eac, eaa, eba, zab, zb]) (by simp [fits_some, fits_none, hw, Nat.blt_eq]) ?_
        refine QR.off (by simp [wants, h0, h1, h2, s1, s2, s3, sw, eab, ebc, eac, eaa, eba, zab, zb]) (by simp [fits_some, fits_none, hw, Nat.blt_eq]) ?_
        refine QR.off (by simp [wants, h0, h1, h2, s1, s2, s3, sw, eab, ebc, eac, eaa, eba, zab, zb]) (by simp [fits_some, fits_none, hw, Nat.blt_eq]) ?_
        refine QR.off (by simp [wants, h0, h1, h2, s1, s2, s3, sw, eab, ebc, eac, eaa, eba, zab, zb]) (by simp [fits_some, fits_none, hw, Nat.blt_eq]) ?_
        refine QR.off (by simp [wants, h0, h1, h2, s1, s2, s3, sw, eab, ebc, eac, eaa, eba, zab, zb]) (by simp [fits_some, fits_none, hw, Nat.blt_eq]) ?_
        refine QR.off (by simp [wants, h0, h1, h2, s1, s2, s3, sw, eab, ebc, eac, eaa, eba, zab, zb]) (by simp [fits_some, fits_none, hw, Nat.blt_eq]) ?_
        refine QR.off (by simp [wants, h0, h1, h2, s1, s2, s3, sw, eab, ebc, eac, eaa, eba, zab, zb]) (by simp [fits_some, fits_none, hw, Nat.blt_eq]) ?_
        refine QR.off (by simp [wants, h0, h1, h2, s1, s2, s3, sw, eab, ebc, eac, eaa, eba, zab, zb]) (by simp [fits_some, fits_none, hw, Nat.blt_eq]) ?_
        refine QR.off (by simp [wants, h0, h1, h2, s1, s2, s3, sw, eab, ebc, eac, eaa, eba, zab, zb]) (by simp [fits_some, fits_none, hw, Nat.blt_eq]) ?_
        refine QR.off (by simp [wants, h0, h1, h2, s1, s2, s3, sw, eab, ebc, eac, eaa, eba, zab, zb]) (by simp [fits_some, fits_none, hw, Nat.blt_eq]) ?_
        refine QR.off (by simp [wants, h0, h1, h2, s1, s2, s3, sw, eab, ebc, eac, eaa, eba, zab, zb]) (by simp [fits_some, fits_none, hw, Nat.blt_eq]) ?_
        refine QR.off (by simp [wants, h0, h1, h2, s1, s2, s3, sw, eab, ebc, eac, eaa, eba, zab, zb]) (by simp [fits_some, fits_none, hw, Nat.blt_eq]) ?_
        refine QR.val rfl (by simp [h0, h1, h2, s1, s2, s3, sw, eab, ebc, eac, eaa, eba, zab, zb] <;> rfl) (by rfl) (by simp [fits_some, fits_none, hw, Nat.blt_eq]) ?_
        refine QR.val rfl (by simp [h0, h1, h2, s1, s2, s3, sw, eab, ebc, eac, eaa, eba, zab, zb] <;> rfl) (by rfl) (by simp [fits_some, fits_none, hw, Nat.blt_eq]) ?_
        refine QR.val (by simp [wants, h0, h1, h2, s1, s2, s3, sw, eab, ebc, eac, eaa, eba, zab, zb]) (by simp [h0, h1, h2, s1, s2, s3, sw, eab, ebc, eac, eaa, eba, zab, zb] <;> rfl) (by rfl) (by simp [fits_some, fits_none, hw, Nat.blt_eq]) ?_
        refine QR.val rfl (by simp [h0, h1, h2, s1, s2, s3, sw, eab, ebc, eac, eaa, eba, zab, zb] <;> rfl) (by rfl) (by simp [fits_some, fits_none, hw, Nat.blt_eq]) ?_
        refine QR.val rfl (by simp [h0, h1, h2, s1, s2, s3, sw, eab, ebc, eac, eaa, eba, zab, zb] <;> rfl) (by rfl) (by simp [fits_some, fits_none, hw, Nat.blt_eq]) ?_
        exact QR.nil
        case r909 => exact rfl
      refine inSeq_norm ?_
      refine Tri.ret ?_
      simp [Ends, finish, evResults, evResult, Tryz.f3, h0, h1, h2, s1, s2, s3, sw, eab, ebc, eac, eaa, eba, zab, zb]
theorem body_3y000 {call : CallF} (hC : call.Sound Tryz.prog TT) (a b c : Nd) (s1 : ∀ H, call 4 [a.enc, .i .i64 200] H = .val (.b true) H) (s2 : ∀ H, call 4 [b.enc, .i .i64 200] H = .val (.b true) H) (s3 : ∀ H, call 4 [c.enc, .i .i64 200] H = .val (.b true) H) (sw : ∀ H, call 5 [] H = .val (.b true) H) (eab : ∀ H, call 6 [a.enc, b.enc] H = .val (.b false) H) (ebc : ∀ H, call 6 [b.enc, c.enc] H = .val (.b false) H) (eac : ∀ H, call 6 [a.enc, c.enc] H = .val (.b false) H) (eaa : ∀ H, call 6 [a.enc, a.enc] H = .val (.b true) H) (eba : ∀ H, call 6 [b.enc, a.enc] H = .val (.b false) H) (na da nb db : Int) (zab : ∀ H, call 7 [a.enc] H = .val (.tup [.i .i64 na, .i .i64 da]) H) (zb : ∀ H, call 7 [b.enc] H = .val (.tup [.i .i64 nb, .i .i64 db]) H)   : Body Tryz.prog TT 3 [a.enc, b.enc, c.enc] (.val (.b true)) := by
  refine ⟨Tryz.f3, _, rfl, rfl, by simp [Tryz.f3], ?_⟩
  have h0 : (Tm.init Tryz.f3.ntmps [a.enc, b.enc, c.enc]).get 0 = a.enc := by rw [get_init]; rfl
  have h1 : (Tm.init Tryz.f3.ntmps [a.enc, b.enc, c.enc]).get 1 = b.enc := by rw [get_init]; rfl
  have h2 : (Tm.init Tryz.f3.ntmps [a.enc, b.enc, c.enc]).get 2 = c.enc := by rw [get_init]; rfl
  have hw : (Tm.init Tryz.f3.ntmps [a.enc, b.enc, c.enc]).wid = 100 := rfl
  generalize Tm.init Tryz.f3.ntmps [a.enc, b.enc, c.enc] = t at *
  try simp only [Nd.enc_eq] at *
  refine Tri.seq' ?_
  refine Tri.regN (t' := ?t1) (H' := ?H1) TT_ok hC ?e1 ?q1
  case e1 =>
    refine go_false ?_
    refine evSeq_go rfl (by simp [h0, h1, h2, s1, s2, s3, sw, eab, ebc, eac, eaa, eba, zab, zb] <;> rfl) (by rfl) (by simp [fits_some, fits_none, hw, Nat.blt_eq]) ?_
    refine evSeq_go rfl (by simp [h0, h1, h2, s1, s2, s3, sw, eab, ebc, eac, eaa, eba, zab, zb] <;> rfl) (by rfl) (by simp [fits_some, fits_none, hw, Nat.blt_eq]) ?_
    refine evSeq_go rfl (by simp [h0, h1, h2, s1, s2, s3, sw, eab, ebc, eac, eaa, eba, zab, zb] <;> rfl) (by rfl) (by simp [fits_some, fits_none, hw, Nat.blt_eq]) ?_
    refine evSeq_go rfl (by simp [h0, h1, h2, s1, s2, s3, sw, eab, ebc, eac, eaa, eba, zab, zb] <;> rfl) (by rfl) (by simp [fits_some, fits_none, hw, Nat.blt_eq]) ?_
    exact evSeq_nil
  refine inSeq_norm ?_
  refine Tri.seq' ?_
  refine Tri.seq' ?_
  refine Tri.regN (t' := ?t2) (H' := ?H2) TT_ok hC ?e2 ?q2
  case e2 =>
    refine go_false ?_
    refine evSeq_go rfl (by simp [h0, h1, h2, s1, s2, s3, sw, eab, ebc, eac, eaa, eba, zab, zb] <;> rfl) (by rfl) (by simp [fits_some, fits_none, hw, Nat.blt_eq]) ?_
    refine evSeq_go rfl (by simp [h0, h1, h2, s1, s2, s3, sw, eab, ebc, eac, eaa, eba, zab, zb] <;> rfl) (by rfl) (by simp [fits_some, fits_none, hw, Nat.blt_eq]) ?_
    refine evSeq_go rfl (by simp [h0, h1, h2, s1, s2, s3, sw, eab, ebc, eac, eaa, eba, zab, zb] <;> rfl) (by rfl) (by simp [fits_some, fits_none, hw, Nat.blt_eq]) ?_
    refine evSeq_go rfl (by simp [h0, h1, h2, s1, s2, s3, sw, eab, ebc, eac, eaa, eba, zab, zb] <;> rfl) (by rfl) (by simp [fits_some, fits_none, hw, Nat.blt_eq]) ?_
    refine evSeq_go (by simp [wants, h0, h1, h2, s1, s2, s3, sw, eab, ebc, eac, eaa, eba, zab, zb]) (by simp [h0, h1, h2, s1, s2, s3, sw, eab, ebc, eac, eaa, eba, zab, zb] <;> rfl) (by rfl) (by simp [fits_some, fits_none, hw, Nat.blt_eq]) ?_
    refine evSeq_go (by simp [wants, h0, h1, h2, s1, s2, s3, sw, eab, ebc, eac, eaa, eba, zab, zb]) (by simp [h0, h1, h2, s1, s2, s3, sw, eab, ebc, eac, eaa, eba, zab, zb] <;> rfl) (by rfl) (by simp [fits_some, fits_none, hw, Nat.blt_eq]) ?_
    refine evSeq_go (by simp [wants, h0, h1, h2, s1, s2, s3, sw, eab, ebc, eac, eaa, eba, zab, zb]) (by simp [h0, h1, h2, s1, s2, s3, sw, eab, ebc, eac, eaa, eba, zab, zb] <;> rfl) (by rfl) (by simp [fits_some, fits_none, hw, Nat.blt_eq]) ?_
    refine evSeq_go rfl (by simp [h0, h1, h2, s1, s2, s3, sw, eab, ebc, eac, eaa, eba, zab, zb] <;> rfl) (by rfl) (by simp [fits_some, fits_none, hw, Nat.blt_eq]) ?_
    refine evSeq_go rfl (by simp [h0, h1, h2, s1, s2, s3, sw, eab, ebc, eac, eaa, eba, zab, zb] <;> rfl) (by rfl) (by simp [fits_some, fits_none, hw, Nat.blt_eq]) ?_
    refine evSeq_go (by simp [wants, h0, h1, h2, s1, s2, s3, sw, eab, ebc, eac, eaa, eba, zab, zb]) (by simp [h0, h1, h2, s1, s2, s3, sw, eab, ebc, eac, eaa, eba, zab, zb] <;> rfl) (by rfl) (by simp [fits_some, fits_none, hw, Nat.blt_eq]) ?_
    refine evSeq_go (by simp [wants, h0, h1, h2, s1, s2, s3, sw, eab, ebc, eac, eaa, eba, zab, zb]) (by simp [h0, h1, h2, s1, s2, s3, sw, eab, ebc, eac, eaa, eba, zab, zb] <;> rfl) (by rfl) (by simp [fits_some, fits_none, hw, Nat.blt_eq]) ?_
    refine evSeq_go (by simp [wants, h0, h1, h2, s1, s2, s3, sw, eab, ebc, eac, eaa, eba, zab, zb]) (by simp [h0, h1, h2, s1, s2, s3, sw, eab, ebc, eac, eaa, eba, zab, zb] <;> rfl) (by rfl) (by simp [fits_some, fits_none, hw, Nat.blt_eq]) ?_
    refine evSeq_go rfl (by simp [h0, h1, h2, s1, s2, s3, sw, eab, ebc, eac, eaa, eba, zab, zb] <;> rfl) (by rfl) (by simp [fits_some, fits_none, hw, Nat.blt_eq]) ?_
    exact evSeq_nil
  refine inSeq_norm ?_
  refine Tri.condG (o := ?o3) (b := ?b3) ?g3 ?r3 ?y3 ?n3
  case g3 => simp [h0, h1, h2, s1, s2, s3, sw, eab, ebc, eac, eaa, eba, zab, zb] <;> rfl
  case r3 => rfl
  case y3 =>
    intro hy3
    exact absurd hy3 (by simp [h0, h1, h2, s1, s2, s3, sw, eab, ebc, eac, eaa, eba, zab, zb])
  case n3 =>
    intro hn3
    refine Tri.skip ?_
    refine inSeq_norm ?_
    refine Tri.seq' ?_
    refine Tri.regN (t' := ?t4) (H' := ?H4) TT_ok hC ?e4 ?q4
    case e4 =>
      refine evReg_quiet (t' := ?t4) (by kernel_rfl) ?_ ?r904
      refine QR.val rfl (by simp [h0, h1, h2, s1, s2, s3, sw, eab, ebc, eac, eaa, eba, zab, zb] <;> rfl) (by rfl) (by simp [fits_some, fits_none, hw, Nat.blt_eq]) ?_
      refine QR.val rfl (by simp [h0, h1, h2, s1, s2, s3, sw, eab, ebc, eac, eaa, eba, zab, zb] <;> rfl) (by rfl) (by simp [fits_some, fits_none, hw, Nat.blt_eq]) ?_
      refine QR.val rfl (by simp [h0, h1, h2, s1, s2, s3, sw, eab, ebc, eac, eaa, eba, zab, zb] <;> rfl) (by rfl) (by simp [fits_some, fits_none, hw, Nat.blt_eq]) ?_
      refine QR.val rfl (by simp [h0, h1, h2, s1, s2, s3, sw, eab, ebc, eac, eaa, eba, zab, zb] <;> rfl) (by rfl) (by simp [fits_some, fits_none, hw, Nat.blt_eq]) ?_
      refine QR.val rfl (by simp [h0, h1, h2, s1, s2, s3, sw, eab, ebc, eac, eaa, eba, zab, zb] <;> rfl) (by rfl) (by simp [fits_some, fits_none, hw, Nat.blt_eq]) ?_
      refine QR.val rfl (by simp [h0, h1, h2, s1, s2, s3, sw, eab, ebc, eac, eaa, eba, zab, zb] <;> rfl) (by rfl) (by simp [fits_some, fits_none, hw, Nat.blt_eq]) ?_
      refine QR.val rfl (by simp [h0, h1, h2, s1, s2, s3, sw, eab, ebc, eac, eaa, eba, zab, zb] <;> rfl) (by rfl) (by simp [fits_some, fits_none, hw, Nat.blt_eq]) ?_
      refine QR.val rfl (by simp [h0, h1, h2, s1, s2, s3, sw, eab, ebc, eac, eaa, eba, zab, zb] <;> rfl) (by rfl) (by simp [fits_some, fits_none, hw, Nat.blt_eq]) ?_
      refine QR.val rfl (by simp [h0, h1, h2, s1, s2, s3, sw, eab, ebc, eac, eaa, eba, zab, zb] <;> rfl) (by rfl) (by simp [fits_some, fits_none, hw, Nat.blt_eq]) ?_
      refine QR.val rfl (by simp [h0, h1, h2, s1, s2, s3, sw, eab, ebc, eac, eaa, eba, zab, zb] <;> rfl) (by rfl) (by simp [fits_some, fits_none, hw, Nat.blt_eq]) ?_
      refine QR.val rfl (by simp [h0, h1, h2, s1, s2, s3, sw, eab, ebc, eac, eaa, eba, zab, zb] <;> rfl) (by rfl) (by simp [fits_some, fits_none, hw, Nat.blt_eq]) ?_
      refine QR.val rfl (by simp [h0, h1, h2, s1, s2, s3, sw, eab, ebc, eac, eaa, eba, zab, zb] <;> rfl) (by rfl) (by simp [fits_some, fits_none, hw, Nat.blt_eq]) ?_
      exact QR.nil
      case r904 => exact rfl
    refine inSeq_norm ?_
    refine Tri.seq' ?_
    refine Tri.seq' ?_
    refine Tri.regN (t' := ?t5) (H' := ?H5) TT_ok hC ?e5 ?q5
    case e5 =>
      refine go_false ?_
      refine evSeq_go rfl (by simp [h0, h1, h2, s1, s2, s3, sw, eab, ebc, eac, eaa, eba, zab, zb] <;> rfl) (by rfl) (by simp [fits_some, fits_none, hw, Nat.blt_eq]) ?_
      refine evSeq_go rfl (by simp [h0, h1, h2, s1, s2, s3, sw, eab, ebc, eac, eaa, eba, zab, zb] <;> rfl) (by rfl) (by simp [fits_some, fits_none, hw, Nat.blt_eq]) ?_
      refine evSeq_go rfl (by simp [h0, h1, h2, s1, s2, s3, sw, eab, ebc, eac, eaa, eba, zab, zb] <;> rfl) (by rfl) (by simp [fits_some, fits_none, hw, Nat.blt_eq]) ?_
      refine evSeq_go rfl (by simp [h0, h1, h2, s1, s2, s3, sw, eab, ebc, eac, eaa, eba, zab, zb] <;> rfl) (by rfl) (by simp [fits_some, fits_none, hw, Nat.blt_eq]) ?_
      refine evSeq_go rfl (by simp [h0, h1, h2, s1, s2, s3, sw, eab, ebc, eac, eaa, eba, zab, zb] <;> rfl) (by rfl) (by simp [fits_some, fits_none, hw, Nat.blt_eq]) ?_
      refine evSeq_go (by simp [wants, h0, h1, h2, s1, s2, s3, sw, eab, ebc, eac, eaa, eba, zab, zb]) (by simp [h0, h1, h2, s1, s2, s3, sw, eab, ebc, eac, eaa, eba, zab, zb] <;> rfl) (by rfl) (by simp [fits_some, fits_none, hw, Nat.blt_eq]) ?_
      refine evSeq_go (by simp [wants, h0, h1, h2, s1, s2, s3, sw, eab, ebc, eac, eaa, eba, zab, zb]) (by simp [h0, h1, h2, s1, s2, s3, sw, eab, ebc, eac, eaa, eba, zab, zb] <;> rfl) (by rfl) (by simp [fits_some, fits_none, hw, Nat.blt_eq]) ?_
      refine evSeq_go (by simp [wants, h0, h1, h2, s1, s2, s3, sw, eab, ebc, eac, eaa, eba, zab, zb]) (by simp [h0, h1, h2, s1, s2, s3, sw, eab, ebc, eac, eaa, eba, zab, zb] <;> rfl) (by rfl) (by simp [fits_some, fits_none, hw, Nat.blt_eq]) ?_
      refine evSeq_go (by simp [wants, h0, h1, h2, s1, s2, s3, sw, eab, ebc, eac, eaa, eba, zab, zb]) (by simp [h0, h1, h2, s1, s2, s3, sw, eab, ebc, eac, eaa, eba, zab, zb] <;> rfl) (by rfl) (by simp [fits_some, fits_none, hw, Nat.blt_eq]) ?_
      refine evSeq_go (by simp [wants, h0, h1, h2, s1, s2, s3, sw, eab, ebc, eac, eaa, eba, zab, zb]) (by simp [h0, h1, h2, s1, s2, s3, sw, eab, ebc, eac, eaa, eba, zab, zb] <;> rfl) (by rfl) (by simp [fits_some, fits_none, hw, Nat.blt_eq]) ?_
      refine evSeq_go rfl (by simp [h0, h1, h2, s1, s2, s3, sw, eab, ebc, eac, eaa, eba, zab, zb] <;> rfl) (by rfl) (by simp [fits_some, fits_none, hw, Nat.blt_eq]) ?_
      refine evSeq_go rfl (by simp [h0, h1, h2, s1, s2, s3, sw, eab, ebc, eac, eaa, eba, zab, zb] <;> rfl) (by rfl) (by simp [fits_some, fits_none, hw, Nat.blt_eq]) ?_
      refine evSeq_go (by simp [wants, h0, h1, h2, s1, s2, s3, sw, eab, ebc, eac, eaa, eba, zab, zb]) (by simp [h0, h1, h2, s1, s2, s3, sw, eab, ebc, eac, eaa, eba, zab, zb] <;> rfl) (by rfl) (by simp [fits_some, fits_none, hw, Nat.blt_eq]) ?_
      refine evSeq_go (by simp [wants, h0, h1, h2, s1, s2, s3, sw, eab, ebc, eac, eaa, eba, zab, zb]) (by simp [h0, h1, h2, s1, s2, s3, sw, eab, ebc, eac, eaa, eba, zab, zb] <;> rfl) (by rfl) (by simp [fits_some, fits_none, hw, Nat.blt_eq]) ?_
      refine evSeq_off (by simp [wants, h0, h1, h2, s1, s2, s3, sw, eab, ebc, eac, eaa, eba, zab, zb]) (by simp [fits_some, fits_none, hw, Nat.blt_eq]) ?_
      refine evSeq_go (by simp [wants, h0, h1, h2, s1, s2, s3, sw, eab, ebc, eac, eaa, eba, zab, zb]) (by simp [h0, h1, h2, s1, s2, s3, sw, eab, ebc, eac, eaa, eba, zab, zb] <;> rfl) (by rfl) (by simp [fits_some, fits_none, hw, Nat.blt_eq]) ?_
      refine evSeq_go (by simp [wants, h0, h1, h2, s1, s2, s3, sw, eab, ebc, eac, eaa, eba, zab, zb]) (by simp [h0, h1, h2, s1, s2, s3, sw, eab, ebc, eac, eaa, eba, zab, zb] <;> rfl) (by rfl) (by simp [fits_some, fits_none, hw, Nat.blt_eq]) ?_
      refine evSeq_off (by simp [wants, h0, h1, h2, s1, s2, s3, sw, eab, ebc, eac, eaa, eba, zab, zb]) (by simp [fits_some, fits_none, hw, Nat.blt_eq]) ?_
      refine evSeq_off (by simp [wants, h0, h1, h2, s1, s2, s3, sw, eab, ebc, eac, eaa, eba, zab, zb]) (by simp [fits_some, fits_none, hw, Nat.blt_eq]) ?_
      refine evSeq_go (by simp [wants, h0, h1, h2, s1, s2, s3, sw, eab, ebc, eac, eaa, eba, zab, zb]) (by simp [h0, h1, h2, s1, s2, s3, sw, eab, ebc, eac, eaa, eba, zab, zb] <;> rfl) (by rfl) (by simp [fits_some, fits_none, hw, Nat.blt_eq]) ?_
      refine evSeq_go rfl (by simp [h0, h1, h2, s1, s2, s3, sw, eab, ebc, eac, eaa, eba, zab, zb] <;> rfl) (by rfl) (by simp [fits_some, fits_none, hw, Nat.blt_eq]) ?_
      refine evSeq_go rfl (by simp [h0, h1, h2, s1, s2, s3, sw, eab, ebc, eac, eaa, eba, zab, zb] <;> rfl) (by rfl) (by simp [fits_some, fits_none, hw, Nat.blt_eq]) ?_
      refine evSeq_go (by simp [wants, h0, h1, h2, s1, s2, s3, sw, eab, ebc, eac, eaa, eba, zab, zb]) (by simp [h0, h1, h2, s1, s2, s3, sw, eab, ebc, eac, eaa, eba, zab, zb] <;> rfl) (by rfl) (by simp [fits_some, fits_none, hw, Nat.blt_eq]) ?_
      refine evSeq_go (by simp [wants, h0, h1, h2, s1, s2, s3, sw, eab, ebc, eac, eaa, eba, zab, zb]) (by simp [h0, h1, h2, s1, s2, s3, sw, eab, ebc, eac, eaa, eba, zab, zb] <;> rfl) (by rfl) (by simp [fits_some, fits_none, hw, Nat.blt_eq]) ?_
      refine evSeq_off (by simp [wants, h0, h1, h2, s1, s2, s3, sw, eab, ebc, eac, eaa, eba, zab, zb]) (by simp [fits_some, fits_none, hw, Nat.blt_eq]) ?_
      refine evSeq_off (by simp [wants, h0, h1, h2, s1, s2, s3, sw, eab, ebc, eac, eaa, eba, zab, zb]) (by simp [fits_some, fits_none, hw, Nat.blt_eq]) ?_
      refine evSeq_go (by simp [wants, h0, h1, h2, s1, s2, s3, sw, eab, ebc, eac, eaa, eba, zab, zb]) (by simp [h0, h1, h2, s1, s2, s3, sw, eab, ebc, eac, eaa, eba, zab, zb] <;> rfl) (by rfl) (by simp [fits_some, fits_none, hw, Nat.blt_eq]) ?_
      refine evSeq_go (by simp [wants, h0, h1, h2, s1, s2, s3, sw, eab, ebc, eac, eaa, eba, zab, zb]) (by simp [h0, h1, h2, s1, s2, s3, sw, eab, ebc, eac, eaa, eba, zab, zb] <;> rfl) (by rfl) (by simp [fits_some, fits_none, hw, Nat.blt_eq]) ?_
      refine evSeq_off (by simp [wants, h0, h1, h2, s1, s2, s3, sw, eab, ebc, eac, eaa, eba, zab, zb]) (by simp [fits_some, fits_none, hw, Nat.blt_eq]) ?_
      refine evSeq_go (by simp [wants, h0, h1, h2, s1, s2, s3, sw, eab, ebc, eac, eaa, eba, zab, zb]) (by simp [h0, h1, h2, s1, s2, s3, sw, eab, ebc, eac, eaa, eba, zab, zb] <;> rfl) (by rfl) (by simp [fits_some, fits_none, hw, Nat.blt_eq]) ?_
      refine evSeq_go rfl (by simp [h0, h1, h2, s1, s2, s3, sw, eab, ebc, eac, eaa, eba, zab, zb] <;> rfl) (by rfl) (by simp [fits_some, fits_none, hw, Nat.blt_eq]) ?_
      exact evSeq_nil
    refine inSeq_norm ?_
    refine Tri.condG (o := ?o6) (b := ?b6) ?g6 ?r6 ?y6 ?n6
    case g6 => simp [h0, h1, h2, s1, s2, s3, sw, eab, ebc, eac, eaa, eba, zab, zb] <;> rfl
    case r6 => rfl
    case y6 =>
      intro hy6
      exact absurd hy6 (by simp [h0, h1, h2, s1, s2, s3, sw, eab, ebc, eac, eaa, eba, zab, zb])
    case n6 =>
      intro hn6
      refine Tri.skip ?_
      refine inSeq_norm ?_
      refine Tri.seq' ?_
      refine Tri.regN (t' := ?t7) (H' := ?H7) TT_ok hC ?e7 ?q7
      case e7 =>
        refine go_false ?_
        refine evSeq_go rfl (by simp [h0, h1, h2, s1, s2, s3, sw, eab, ebc, eac, eaa, eba, zab, zb] <;> rfl) (by rfl) (by simp [fits_some, fits_none, hw, Nat.blt_eq]) ?_
        refine evSeq_go rfl (by simp [h0, h1, h2, s1, s2, s3, sw, eab, ebc, eac, eaa, eba, zab, zb] <;> rfl) (by rfl) (by simp [fits_some, fits_none, hw, Nat.blt_eq]) ?_
        refine evSeq_go rfl (by simp [h0, h1, h2, s1, s2, s3, sw, eab, ebc, eac, eaa, eba, zab, zb] <;> rfl) (by rfl) (by simp [fits_some, fits_none, hw, Nat.blt_eq]) ?_
        refine evSeq_go rfl (by simp [h0, h1, h2, s1, s2, s3, sw, eab, ebc, eac, eaa, eba, zab, zb] <;> rfl) (by rfl) (by simp [fits_some, fits_none, hw, Nat.blt_eq]) ?_
        refine evSeq_go rfl (by simp [h0, h1, h2, s1, s2, s3, sw, eab, ebc, eac, eaa, eba, zab, zb] <;> rfl) (by rfl) (by simp [fits_some, fits_none, hw, Nat.blt_eq]) ?_
        refine evSeq_go rfl (by simp [h0, h1, h2, s1, s2, s3, sw, eab, ebc, eac, eaa, eba, zab, zb] <;> rfl) (by rfl) (by simp [fits_some, fits_none, hw, Nat.blt_eq]) ?_
        refine evSeq_go rfl (by simp [h0, h1, h2, s1, s2, s3, sw, eab, ebc, eac, eaa, eba, zab, zb] <;> rfl) (by rfl) (by simp [fits_some, fits_none, hw, Nat.blt_eq]) ?_
        exact evSeq_nil
      refine inSeq_norm ?_
      refine Tri.seq' ?_
      refine Tri.regN (t' := ?t8) (H' := ?H8) TT_ok hC ?e8 ?q8
      case e8 =>
        refine go_false ?_
        refine evSeq_go rfl (by simp [h0, h1, h2, s1, s2, s3, sw, eab, ebc, eac, eaa, eba, zab, zb] <;> rfl) (by rfl) (by simp [fits_some, fits_none, hw, Nat.blt_eq]) ?_
        refine evSeq_go rfl (by simp [h0, h1, h2, s1, s2, s3, sw, eab, ebc, eac, eaa, eba, zab, zb] <;> rfl) (by rfl) (by simp [fits_some, fits_none, hw, Nat.blt_eq]) ?_
        refine evSeq_go rfl (by simp [h0, h1, h2, s1, s2, s3, sw, eab, ebc, eac, eaa, eba, zab, zb] <;> rfl) (by rfl) (by simp [fits_some, fits_none, hw, Nat.blt_eq]) ?_
        refine evSeq_go rfl (by simp [h0, h1, h2, s1, s2, s3, sw, eab, ebc, eac, eaa, eba, zab, zb] <;> rfl) (by rfl) (by simp [fits_some, fits_none, hw, Nat.blt_eq]) ?_
        refine evSeq_go rfl (by simp [h0, h1, h2, s1, s2, s3, sw, eab, ebc, eac, eaa, eba, zab, zb] <;> rfl) (by rfl) (by simp [fits_some, fits_none, hw, Nat.blt_eq]) ?_
        refine evSeq_go rfl (by simp [h0, h1, h2, s1, s2, s3, sw, eab, ebc, eac, eaa, eba, zab, zb] <;> rfl) (by rfl) (by simp [fits_some, fits_none, hw, Nat.blt_eq]) ?_
        refine evSeq_go rfl (by simp [h0, h1, h2, s1, s2, s3, sw, eab, ebc, eac, eaa, eba, zab, zb] <;> rfl) (by rfl) (by simp [fits_some, fits_none, hw, Nat.blt_eq]) ?_
        exact evSeq_nil
      refine inSeq_norm ?_
      refine Tri.seq' ?_
      refine Tri.regN (t' := ?t9) (H' := ?H9) TT_ok hC ?e9 ?q9
      case e9 =>
        refine evReg_quiet (t' := ?t9) (by kernel_rfl) ?_ ?r909
        refine QR.val rfl (by simp [h0, h1, h2, s1, s2, s3, sw, eab, ebc, eac, eaa, eba, zab, zb] <;> rfl) (by rfl) (by simp [fits_some, fits_none, hw, Nat.blt_eq]) ?_
        refine QR.val rfl (by simp [h0, h1, h2, s1, s2, s3, sw, eab, ebc, eac, eaa, eba, zab, zb] <;> rfl) (by rfl) (by simp [fits_some, fits_none, hw, Nat.blt_eq]) ?_
        refine QR.val rfl (by simp [h0, h1, h2, s1, s2, s3, sw, eab, ebc, eac, eaa, eba, zab, zb] <;> rfl) (by rfl) (by simp [fits_some, fits_none, hw, Nat.blt_eq]) ?_
        refine QR.off (by simp [wants, h0, h1, h2, s1, s2, s3, sw, eab, ebc, eac, eaa, eba, zab, zb]) (by simp [fits_some, fits_none, hw, Nat.blt_eq]) ?_
        refine QR.off (by simp [wants, h0, h1, h2, s1, s2, s3, sw, eab, ebc, eac, eaa, eba, zab, zb]) (by simp [fits_some, fits_none, hw, Nat.blt_eq]) ?_
        refine QR.off (by simp [wants, h0, h1, h2, s1, s2, s3, sw, eab, ebc, eac, eaa, eba, zab, zb]) (by simp [fits_some, fits_none, hw, Nat.blt_eq]) ?_
        refine QR.off (by simp [wants, h0, h1, h2, s1, s2, s3, sw, eab, ebc, eac, eaa, eba, zab, zb]) (by simp [fits_some, fits_none, hw, Nat.blt_eq]) ?_
        refine QR.off (by simp [wants, h0, h1, h2, s1, s2, s3, sw, eab, ebc, eac, eaa, eba, zab, zb]) (by simp [fits_some, fits_none, hw, Nat.blt_eq]) ?_
        refine QR.off (by simp [wants, h0, h1, h2, s1, s2, s3, sw, eab, ebc, eac, eaa, eba, zab, zb]) (by simp [fits_some, fits_none, hw, Nat.blt_eq]) ?_
        refine QR.off (by simp [wants, h0, h1, h2, s1, s2, s3, sw, eab, ebc, eac, eaa, eba, zab, zb]) (by simp [fits_some, fits_none, hw, Nat.blt_eq]) ?_
        refine QR.off (by simp [wants, h0, h1, h2, s1, s2, s3, sw, eab, ebc, eac, eaa, eba, zab, zb]) (by simp [fits_some, fits_none, hw, Nat.blt_eq]) ?_
        refine QR.off (by simp [wants, h0, h1, h2, s1, s2, s3, sw, eab, ebc, eac, eaa, eba, zab, zb]) (by simp [fits_some, fits_none, hw, Nat.blt_eq]) ?_
        refine QR.off (by simp [wants, h0, h1, h2, s1, s2, s3, sw, eab, ebc, eac, eaa, eba, zab, zb]) (by simp [fits_some, fits_none, hw, Nat.blt_eq]) ?_
        refine QR.off (by simp [wants, h0, h1, h2, s1, s2, s3, sw, eab, ebc, eac, eaa, eba, zab, zb]) (by simp [fits_some, fits_none, hw, Nat.blt_eq]) ?_
        refine QR.off (by simp [wants, h0, h1, h2, s1, s2, s3, sw, eab, ebc, eac, eaa, eba, zab, zb]) (by simp [fits_some, fits_none, hw, Nat.blt_eq]) ?_
        refine QR.off (by simp [wants, h0, h1, h2, s1, s2, s3, sw, eab, ebc, eac, eaa, eba, zab, zb]) (by simp [fits_some, fits_none, hw, Nat.blt_eq]) ?_
        refine QR.off (by simp [wants, h0, h1, h2, s1, s2, s3, sw, eab, ebc, eac, eaa, eba, zab, zb]) (by simp [fits_some, fits_none, hw, Nat.blt_eq]) ?_
        refine QR.off (by simp [wants, h0, h1, h2, s1, s2, s3, sw, eab, ebc, eac, eaa, eba, zab, zb]) (by simp [fits_some, fits_none, hw, Nat.blt_eq]) ?_
        refine QR.val rfl (by simp [h0, h1, h2, s1, s2, s3, sw, eab, ebc, eac, eaa, eba, zab, zb] <;> rfl) (by rfl) (by simp [fits_some, fits_none, hw, Nat.blt_eq]) ?_
        refine QR.val rfl (by simp [h0, h1, h2, s1, s2, s3, sw, eab, ebc, eac, eaa, eba, zab, zb] <;> rfl) (by rfl) (by simp [fits_some, fits_none, hw, Nat.blt_eq]) ?_
        refine QR.val (by simp [wants, h0, h1, h2, s1, s2, s3, sw, eab, ebc, eac, eaa, eba, zab, zb]) (by simp [h0, h1, h2, s1, s2, s3, sw, eab, ebc, eac, eaa, eba, zab, zb] <;> rfl) (by rfl) (by simp [fits_some, fits_none, hw, Nat.blt_eq]) ?_
        refine QR.val rfl (by simp [h0, h1, h2, s1, s2, s3, sw, eab, ebc, eac, eaa, eba, zab, zb] <;> rfl) (by rfl) (by simp [fits_some, fits_none, hw, Nat.blt_eq]) ?_
        refine QR.val rfl (by simp [h0, h1, h2, s1, s2, s3, sw, eab, ebc, eac, eaa, eba, zab, zb] <;> rfl) (by rfl) (by simp [fits_some, fits_none, hw, Nat.blt_eq]) ?_
        exact QR.nil
        case r909 => exact rfl
      refine inSeq_norm ?_
      refine Tri.ret ?_
      simp [Ends, finish, evResults, evResult, Tryz.f3, h0, h1, h2, s1, s2, s3, sw, eab, ebc, eac, eaa, eba, zab, zb]
end Go.Ev
