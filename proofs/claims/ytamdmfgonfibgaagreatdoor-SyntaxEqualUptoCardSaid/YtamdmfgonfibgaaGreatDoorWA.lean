/- Walks over the small functions of the trees. -/
import Derived.Test.YtamdmfgonfibgaaGreatDoorNodes
namespace Go.Ev
open Go Go.Proofs
set_option maxRecDepth 100000
set_option linter.unusedSimpArgs false
set_option linter.unusedVariables false
theorem body_4 {call : CallF} (hC : call.Sound Tryz.prog TT) (x : Nd) (m : Int) (hs : ∀ H, call 9 [x.enc, .i .i64 m] H = .val (.i .i64 (sz x m)) H) : Body Tryz.prog TT 4 [x.enc, .i .i64 m] (.val (.b (decide (sz x m ≤ m)))) := by
  refine ⟨Tryz.f4, _, rfl, rfl, by simp [Tryz.f4], ?_⟩
  have h0 : (Tm.init Tryz.f4.ntmps [x.enc, .i .i64 m]).get 0 = x.enc := by rw [get_init]; rfl
  have h1 : (Tm.init Tryz.f4.ntmps [x.enc, .i .i64 m]).get 1 = .i .i64 m := by rw [get_init]; rfl
  have hw : (Tm.init Tryz.f4.ntmps [x.enc, .i .i64 m]).wid = 10 := rfl
  generalize Tm.init Tryz.f4.ntmps [x.enc, .i .i64 m] = t at *
  try simp only [Nd.enc_eq] at *
  refine Tri.seq' ?_
  refine Tri.regN (t' := ?t1) (H' := ?H1) TT_ok hC ?e1 ?q1
  case e1 =>
    refine go_false ?_
    refine evSeq_go rfl (by simp [h0, h1, hs] <;> rfl) (by rfl) (by simp [fits_some, fits_none, hw, Nat.blt_eq]) ?_
    refine evSeq_go rfl (by simp [h0, h1, hs] <;> rfl) (by rfl) (by simp [fits_some, fits_none, hw, Nat.blt_eq]) ?_
    exact evSeq_nil
  refine inSeq_norm ?_
  refine Tri.seq' ?_
  refine Tri.regN (t' := ?t2) (H' := ?H2) TT_ok hC ?e2 ?q2
  case e2 =>
    refine go_false ?_
    refine evSeq_go rfl (by simp [h0, h1, hs] <;> rfl) (by rfl) (by simp [fits_some, fits_none, hw, Nat.blt_eq]) ?_
    refine evSeq_go rfl (by simp [h0, h1, hs] <;> rfl) (by rfl) (by simp [fits_some, fits_none, hw, Nat.blt_eq]) ?_
    refine evSeq_go rfl (by simp [h0, h1, hs] <;> rfl) (by rfl) (by simp [fits_some, fits_none, hw, Nat.blt_eq]) ?_
    refine evSeq_go rfl (by simp [h0, h1, hs] <;> rfl) (by rfl) (by simp [fits_some, fits_none, hw, Nat.blt_eq]) ?_
    refine evSeq_go rfl (by simp [h0, h1, hs] <;> rfl) (by rfl) (by simp [fits_some, fits_none, hw, Nat.blt_eq]) ?_
    refine evSeq_go rfl (by simp [h0, h1, hs] <;> rfl) (by rfl) (by simp [fits_some, fits_none, hw, Nat.blt_eq]) ?_
    exact evSeq_nil
  refine inSeq_norm ?_
  refine Tri.ret ?_
  simp [Ends, finish, evResults, evResult, Tryz.f4, h0, h1, hs]
theorem body_23 {call : CallF} (hC : call.Sound Tryz.prog TT) (x : Nd) : Body Tryz.prog TT 23 [x.enc] (.val (.b (decide (12 ≤ x.kind) && decide (x.kind ≤ 18)))) := by
  refine ⟨Tryz.f23, _, rfl, rfl, by simp [Tryz.f23], ?_⟩
  have h0 : (Tm.init Tryz.f23.ntmps [x.enc]).get 0 = x.enc := by rw [get_init]; rfl
  have hw : (Tm.init Tryz.f23.ntmps [x.enc]).wid = 11 := rfl
  generalize Tm.init Tryz.f23.ntmps [x.enc] = t at *
  try simp only [Nd.enc_eq] at *
  refine Tri.seq' ?_
  refine Tri.regN (t' := ?t1) (H' := ?H1) TT_ok hC ?e1 ?q1
  case e1 =>
    refine go_false ?_
    refine evSeq_go rfl (by simp [h0] <;> rfl) (by rfl) (by simp [fits_some, fits_none, hw, Nat.blt_eq]) ?_
    refine evSeq_go rfl (by simp [h0] <;> rfl) (by rfl) (by simp [fits_some, fits_none, hw, Nat.blt_eq]) ?_
    exact evSeq_nil
  refine inSeq_norm ?_
  refine Tri.seq' ?_
  cases hB1 : (decide (12 ≤ x.kind) : Bool)
  case false =>
    refine Tri.regN (t' := ?tq1f2) (H' := ?Hq1f2) TT_ok hC ?eq1f2 ?qq1f2
    case eq1f2 =>
      refine go_false ?_
      refine evSeq_go rfl (by simp [h0, hB1] <;> rfl) (by rfl) (by simp [fits_some, fits_none, hw, Nat.blt_eq]) ?_
      refine evSeq_go rfl (by simp [h0, hB1] <;> rfl) (by rfl) (by simp [fits_some, fits_none, hw, Nat.blt_eq]) ?_
      refine evSeq_go rfl (by simp [h0, hB1] <;> rfl) (by rfl) (by simp [fits_some, fits_none, hw, Nat.blt_eq]) ?_
      refine evSeq_go rfl (by simp [h0, hB1] <;> rfl) (by rfl) (by simp [fits_some, fits_none, hw, Nat.blt_eq]) ?_
      refine evSeq_off (by simp [wants, h0, hB1]) (by simp [fits_some, fits_none, hw, Nat.blt_eq]) ?_
      refine evSeq_off (by simp [wants, h0, hB1]) (by simp [fits_some, fits_none, hw, Nat.blt_eq]) ?_
      refine evSeq_off (by simp [wants, h0, hB1]) (by simp [fits_some, fits_none, hw, Nat.blt_eq]) ?_
      refine evSeq_go rfl (by simp [h0, hB1] <;> rfl) (by rfl) (by simp [fits_some, fits_none, hw, Nat.blt_eq]) ?_
      refine evSeq_go rfl (by simp [h0, hB1] <;> rfl) (by rfl) (by simp [fits_some, fits_none, hw, Nat.blt_eq]) ?_
      exact evSeq_nil
    refine inSeq_norm ?_
    refine Tri.ret ?_
    simp [Ends, finish, evResults, evResult, Tryz.f23, h0, hB1]
  case true =>
    refine Tri.regN (t' := ?tq1t2) (H' := ?Hq1t2) TT_ok hC ?eq1t2 ?qq1t2
    case eq1t2 =>
      refine go_false ?_
      refine evSeq_go rfl (by simp [h0, hB1] <;> rfl) (by rfl) (by simp [fits_some, fits_none, hw, Nat.blt_eq]) ?_
      refine evSeq_go rfl (by simp [h0, hB1] <;> rfl) (by rfl) (by simp [fits_some, fits_none, hw, Nat.blt_eq]) ?_
      refine evSeq_go rfl (by simp [h0, hB1] <;> rfl) (by rfl) (by simp [fits_some, fits_none, hw, Nat.blt_eq]) ?_
      refine evSeq_go rfl (by simp [h0, hB1] <;> rfl) (by rfl) (by simp [fits_some, fits_none, hw, Nat.blt_eq]) ?_
      refine evSeq_go (by simp [wants, h0, hB1]) (by simp [h0, hB1] <;> rfl) (by rfl) (by simp [fits_some, fits_none, hw, Nat.blt_eq]) ?_
      refine evSeq_go (by simp [wants, h0, hB1]) (by simp [h0, hB1] <;> rfl) (by rfl) (by simp [fits_some, fits_none, hw, Nat.blt_eq]) ?_
      refine evSeq_go (by simp [wants, h0, hB1]) (by simp [h0, hB1] <;> rfl) (by rfl) (by simp [fits_some, fits_none, hw, Nat.blt_eq]) ?_
      refine evSeq_go rfl (by simp [h0, hB1] <;> rfl) (by rfl) (by simp [fits_some, fits_none, hw, Nat.blt_eq]) ?_
      refine evSeq_go rfl (by simp [h0, hB1] <;> rfl) (by rfl) (by simp [fits_some, fits_none, hw, Nat.blt_eq]) ?_
      exact evSeq_nil
    refine inSeq_norm ?_
    refine Tri.ret ?_
    simp [Ends, finish, evResults, evResult, Tryz.f23, h0, hB1]
theorem body_24 {call : CallF} (hC : call.Sound Tryz.prog TT) (x : Nd) : Body Tryz.prog TT 24 [x.enc] (.val (.b (decide (19 ≤ x.kind) && decide (x.kind ≤ 55) && (x.kind != 32) && (x.kind != 48)))) := by
  refine ⟨Tryz.f24, _, rfl, rfl, by simp [Tryz.f24], ?_⟩
  have h0 : (Tm.init Tryz.f24.ntmps [x.enc]).get 0 = x.enc := by rw [get_init]; rfl
  have hw : (Tm.init Tryz.f24.ntmps [x.enc]).wid = 21 := rfl
  generalize Tm.init Tryz.f24.ntmps [x.enc] = t at *
  try simp only [Nd.enc_eq] at *
  refine Tri.seq' ?_
  refine Tri.regN (t' := ?t1) (H' := ?H1) TT_ok hC ?e1 ?q1
  case e1 =>
    refine go_false ?_
    refine evSeq_go rfl (by simp [h0] <;> rfl) (by rfl) (by simp [fits_some, fits_none, hw, Nat.blt_eq]) ?_
    refine evSeq_go rfl (by simp [h0] <;> rfl) (by rfl) (by simp [fits_some, fits_none, hw, Nat.blt_eq]) ?_
    exact evSeq_nil
  refine inSeq_norm ?_
  refine Tri.seq' ?_
  cases hB1 : (decide (19 ≤ x.kind) : Bool)
  case false =>
    refine Tri.regN (t' := ?tq1f2) (H' := ?Hq1f2) TT_ok hC ?eq1f2 ?qq1f2
    case eq1f2 =>
      refine go_false ?_
      refine evSeq_go rfl (by simp [h0, hB1] <;> rfl) (by rfl) (by simp [fits_some, fits_none, hw, Nat.blt_eq]) ?_
      refine evSeq_go rfl (by simp [h0, hB1] <;> rfl) (by rfl) (by simp [fits_some, fits_none, hw, Nat.blt_eq]) ?_
      refine evSeq_go rfl (by simp [h0, hB1] <;> rfl) (by rfl) (by simp [fits_some, fits_none, hw, Nat.blt_eq]) ?_
      refine evSeq_go rfl (by simp [h0, hB1] <;> rfl) (by rfl) (by simp [fits_some, fits_none, hw, Nat.blt_eq]) ?_
      refine evSeq_off (by simp [wants, h0, hB1]) (by simp [fits_some, fits_none, hw, Nat.blt_eq]) ?_
      refine evSeq_off (by simp [wants, h0, hB1]) (by simp [fits_some, fits_none, hw, Nat.blt_eq]) ?_
      refine evSeq_off (by simp [wants, h0, hB1]) (by simp [fits_some, fits_none, hw, Nat.blt_eq]) ?_
      refine evSeq_go rfl (by simp [h0, hB1] <;> rfl) (by rfl) (by simp [fits_some, fits_none, hw, Nat.blt_eq]) ?_
      refine evSeq_go rfl (by simp [h0, hB1] <;> rfl) (by rfl) (by simp [fits_some, fits_none, hw, Nat.blt_eq]) ?_
      refine evSeq_off (by simp [wants, h0, hB1]) (by simp [fits_some, fits_none, hw, Nat.blt_eq]) ?_
      refine evSeq_off (by simp [wants, h0, hB1]) (by simp [fits_some, fits_none, hw, Nat.blt_eq]) ?_
      refine evSeq_off (by simp [wants, h0, hB1]) (by simp [fits_some, fits_none, hw, Nat.blt_eq]) ?_
      refine evSeq_go rfl (by simp [h0, hB1] <;> rfl) (by rfl) (by simp [fits_some, fits_none, hw, Nat.blt_eq]) ?_
      refine evSeq_go rfl (by simp [h0, hB1] <;> rfl) (by rfl) (by simp [fits_some, fits_none, hw, Nat.blt_eq]) ?_
      refine evSeq_off (by simp [wants, h0, hB1]) (by simp [fits_some, fits_none, hw, Nat.blt_eq]) ?_
      refine evSeq_off (by simp [wants, h0, hB1]) (by simp [fits_some, fits_none, hw, Nat.blt_eq]) ?_
      refine evSeq_off (by simp [wants, h0, hB1]) (by simp [fits_some, fits_none, hw, Nat.blt_eq]) ?_
      refine evSeq_go rfl (by simp [h0, hB1] <;> rfl) (by rfl) (by simp [fits_some, fits_none, hw, Nat.blt_eq]) ?_
      refine evSeq_go rfl (by simp [h0, hB1] <;> rfl) (by rfl) (by simp [fits_some, fits_none, hw, Nat.blt_eq]) ?_
      exact evSeq_nil
    refine inSeq_norm ?_
    refine Tri.ret ?_
    simp [Ends, finish, evResults, evResult, Tryz.f24, h0, hB1]
  case true =>
    cases hB2 : (decide (x.kind ≤ 55) : Bool)
    case false =>
      refine Tri.regN (t' := ?tq1tq2f2) (H' := ?Hq1tq2f2) TT_ok hC ?eq1tq2f2 ?qq1tq2f2
      case eq1tq2f2 =>
        refine go_false ?_
        refine evSeq_go rfl (by simp [h0, hB1, hB2] <;> rfl) (by rfl) (by simp [fits_some, fits_none, hw, Nat.blt_eq]) ?_
        refine evSeq_go rfl (by simp [h0, hB1, hB2] <;> rfl) (by rfl) (by simp [fits_some, fits_none, hw, Nat.blt_eq]) ?_
        refine evSeq_go rfl (by simp [h0, hB1, hB2] <;> rfl) (by rfl) (by simp [fits_some, fits_none, hw, Nat.blt_eq]) ?_
        refine evSeq_go rfl (by simp [h0, hB1, hB2] <;> rfl) (by rfl) (by simp [fits_some, fits_none, hw, Nat.blt_eq]) ?_
        refine evSeq_go (by simp [wants, h0, hB1, hB2]) (by simp [h0, hB1, hB2] <;> rfl) (by rfl) (by simp [fits_some, fits_none, hw, Nat.blt_eq]) ?_
        refine evSeq_go (by simp [wants, h0, hB1, hB2]) (by simp [h0, hB1, hB2] <;> rfl) (by rfl) (by simp [fits_some, fits_none, hw, Nat.blt_eq]) ?_
        refine evSeq_go (by simp [wants, h0, hB1, hB2]) (by simp [h0, hB1, hB2] <;> rfl) (by rfl) (by simp [fits_some, fits_none, hw, Nat.blt_eq]) ?_
        refine evSeq_go rfl (by simp [h0, hB1, hB2] <;> rfl) (by rfl) (by simp [fits_some, fits_none, hw, Nat.blt_eq]) ?_
        refine evSeq_go rfl (by simp [h0, hB1, hB2] <;> rfl) (by rfl) (by simp [fits_some, fits_none, hw, Nat.blt_eq]) ?_
        refine evSeq_off (by simp [wants, h0, hB1, hB2]) (by simp [fits_some, fits_none, hw, Nat.blt_eq]) ?_
        refine evSeq_off (by simp [wants, h0, hB1, hB2]) (by simp [fits_some, fits_none, hw, Nat.blt_eq]) ?_
        refine evSeq_off (by simp [wants, h0, hB1, hB2]) (by simp [fits_some, fits_none, hw, Nat.blt_eq]) ?_
        refine evSeq_go rfl (by simp [h0, hB1, hB2] <;> rfl) (by rfl) (by simp [fits_some, fits_none, hw, Nat.blt_eq]) ?_
        refine evSeq_go rfl (by simp [h0, hB1, hB2] <;> rfl) (by rfl) (by simp [fits_some, fits_none, hw, Nat.blt_eq]) ?_
        refine evSeq_off (by simp [wants, h0, hB1, hB2]) (by simp [fits_some, fits_none, hw, Nat.blt_eq]) ?_
        refine evSeq_off (by simp [wants, h0, hB1, hB2]) (by simp [fits_some, fits_none, hw, Nat.blt_eq]) ?_
        refine evSeq_off (by simp [wants, h0, hB1, hB2]) (by simp [fits_some, fits_none, hw, Nat.blt_eq]) ?_
        refine evSeq_go rfl (by simp [h0, hB1, hB2] <;> rfl) (by rfl) (by simp [fits_some, fits_none, hw, Nat.blt_eq]) ?_
        refine evSeq_go rfl (by simp [h0, hB1, hB2] <;> rfl) (by rfl) (by simp [fits_some, fits_none, hw, Nat.blt_eq]) ?_
        exact evSeq_nil
      refine inSeq_norm ?_
      refine Tri.ret ?_
      simp [Ends, finish, evResults, evResult, Tryz.f24, h0, hB1, hB2]
    case true =>
      cases hB3 : (x.kind != 32 : Bool)
      case false =>
        refine Tri.regN (t' := ?tq1tq2tq3f2) (H' := ?Hq1tq2tq3f2) TT_ok hC ?eq1tq2tq3f2 ?qq1tq2tq3f2
        case eq1tq2tq3f2 =>
          refine go_false ?_
          refine evSeq_go rfl (by simp [h0, hB1, hB2, hB3] <;> rfl) (by rfl) (by simp [fits_some, fits_none, hw, Nat.blt_eq]) ?_
          refine evSeq_go rfl (by simp [h0, hB1, hB2, hB3] <;> rfl) (by rfl) (by simp [fits_some, fits_none, hw, Nat.blt_eq]) ?_
          refine evSeq_go rfl (by simp [h0, hB1, hB2, hB3] <;> rfl) (by rfl) (by simp [fits_some, fits_none, hw, Nat.blt_eq]) ?_
          refine evSeq_go rfl (by simp [h0, hB1, hB2, hB3] <;> rfl) (by rfl) (by simp [fits_some, fits_none, hw, Nat.blt_eq]) ?_
          refine evSeq_go (by simp [wants, h0, hB1, hB2, hB3]) (by simp [h0, hB1, hB2, hB3] <;> rfl) (by rfl) (by simp [fits_some, fits_none, hw, Nat.blt_eq]) ?_
          refine evSeq_go (by simp [wants, h0, hB1, hB2, hB3]) (by simp [h0, hB1, hB2, hB3] <;> rfl) (by rfl) (by simp [fits_some, fits_none, hw, Nat.blt_eq]) ?_
          refine evSeq_go (by simp [wants, h0, hB1, hB2, hB3]) (by simp [h0, hB1, hB2, hB3] <;> rfl) (by rfl) (by simp [fits_some, fits_none, hw, Nat.blt_eq]) ?_
          refine evSeq_go rfl (by simp [h0, hB1, hB2, hB3] <;> rfl) (by rfl) (by simp [fits_some, fits_none, hw, Nat.blt_eq]) ?_
          refine evSeq_go rfl (by simp [h0, hB1, hB2, hB3] <;> rfl) (by rfl) (by simp [fits_some, fits_none, hw, Nat.blt_eq]) ?_
          refine evSeq_go (by simp [wants, h0, hB1, hB2, hB3]) (by simp [h0, hB1, hB2, hB3] <;> rfl) (by rfl) (by simp [fits_some, fits_none, hw, Nat.blt_eq]) ?_
          refine evSeq_go (by simp [wants, h0, hB1, hB2, hB3]) (by simp [h0, hB1, hB2, hB3] <;> rfl) (by rfl) (by simp [fits_some, fits_none, hw, Nat.blt_eq]) ?_
          refine evSeq_go (by simp [wants, h0, hB1, hB2, hB3]) (by simp [h0, hB1, hB2, hB3] <;> rfl) (by rfl) (by simp [fits_some, fits_none, hw, Nat.blt_eq]) ?_
          refine evSeq_go rfl (by simp [h0, hB1, hB2, hB3] <;> rfl) (by rfl) (by simp [fits_some, fits_none, hw, Nat.blt_eq]) ?_
          refine evSeq_go rfl (by simp [h0, hB1, hB2, hB3] <;> rfl) (by rfl) (by simp [fits_some, fits_none, hw, Nat.blt_eq]) ?_
          refine evSeq_off (by simp [wants, h0, hB1, hB2, hB3]) (by simp [fits_some, fits_none, hw, Nat.blt_eq]) ?_
          refine evSeq_off (by simp [wants, h0, hB1, hB2, hB3]) (by simp [fits_some, fits_none, hw, Nat.blt_eq]) ?_
          refine evSeq_off (by simp [wants, h0, hB1, hB2, hB3]) (by simp [fits_some, fits_none, hw, Nat.blt_eq]) ?_
          refine evSeq_go rfl (by simp [h0, hB1, hB2, hB3] <;> rfl) (by rfl) (by simp [fits_some, fits_none, hw, Nat.blt_eq]) ?_
          refine evSeq_go rfl (by simp [h0, hB1, hB2, hB3] <;> rfl) (by rfl) (by simp [fits_some, fits_none, hw, Nat.blt_eq]) ?_
          exact evSeq_nil
        refine inSeq_norm ?_
        refine Tri.ret ?_
        simp [Ends, finish, evResults, evResult, Tryz.f24, h0, hB1, hB2, hB3]
      case true =>
        refine Tri.regN (t' := ?tq1tq2tq3t2) (H' := ?Hq1tq2tq3t2) TT_ok hC ?eq1tq2tq3t2 ?qq1tq2tq3t2
        case eq1tq2tq3t2 =>
          refine go_false ?_
          refine evSeq_go rfl (by simp [h0, hB1, hB2, hB3] <;> rfl) (by rfl) (by simp [fits_some, fits_none, hw, Nat.blt_eq]) ?_
          refine evSeq_go rfl (by simp [h0, hB1, hB2, hB3] <;> rfl) (by rfl) (by simp [fits_some, fits_none, hw, Nat.blt_eq]) ?_
          refine evSeq_go rfl (by simp [h0, hB1, hB2, hB3] <;> rfl) (by rfl) (by simp [fits_some, fits_none, hw, Nat.blt_eq]) ?_
          refine evSeq_go rfl (by simp [h0, hB1, hB2, hB3] <;> rfl) (by rfl) (by simp [fits_some, fits_none, hw, Nat.blt_eq]) ?_
          refine evSeq_go (by simp [wants, h0, hB1, hB2, hB3]) (by simp [h0, hB1, hB2, hB3] <;> rfl) (by rfl) (by simp [fits_some, fits_none, hw, Nat.blt_eq]) ?_
          refine evSeq_go (by simp [wants, h0, hB1, hB2, hB3]) (by simp [h0, hB1, hB2, hB3] <;> rfl) (by rfl) (by simp [fits_some, fits_none, hw, Nat.blt_eq]) ?_
          refine evSeq_go (by simp [wants, h0, hB1, hB2, hB3]) (by simp [h0, hB1, hB2, hB3] <;> rfl) (by rfl) (by simp [fits_some, fits_none, hw, Nat.blt_eq]) ?_
          refine evSeq_go rfl (by simp [h0, hB1, hB2, hB3] <;> rfl) (by rfl) (by simp [fits_some, fits_none, hw, Nat.blt_eq]) ?_
          refine evSeq_go rfl (by simp [h0, hB1, hB2, hB3] <;> rfl) (by rfl) (by simp [fits_some, fits_none, hw, Nat.blt_eq]) ?_
          refine evSeq_go (by simp [wants, h0, hB1, hB2, hB3]) (by simp [h0, hB1, hB2, hB3] <;> rfl) (by rfl) (by simp [fits_some, fits_none, hw, Nat.blt_eq]) ?_
          refine evSeq_go (by simp [wants, h0, hB1, hB2, hB3]) (by simp [h0, hB1, hB2, hB3] <;> rfl) (by rfl) (by simp [fits_some, fits_none, hw, Nat.blt_eq]) ?_
          refine evSeq_go (by simp [wants, h0, hB1, hB2, hB3]) (by simp [h0, hB1, hB2, hB3] <;> rfl) (by rfl) (by simp [fits_some, fits_none, hw, Nat.blt_eq]) ?_
          refine evSeq_go rfl (by simp [h0, hB1, hB2, hB3] <;> rfl) (by rfl) (by simp [fits_some, fits_none, hw, Nat.blt_eq]) ?_
          refine evSeq_go rfl (by simp [h0, hB1, hB2, hB3] <;> rfl) (by rfl) (by simp [fits_some, fits_none, hw, Nat.blt_eq]) ?_
          refine evSeq_go (by simp [wants, h0, hB1, hB2, hB3]) (by simp [h0, hB1, hB2, hB3] <;> rfl) (by rfl) (by simp [fits_some, fits_none, hw, Nat.blt_eq]) ?_
          refine evSeq_go (by simp [wants, h0, hB1, hB2, hB3]) (by simp [h0, hB1, hB2, hB3] <;> rfl) (by rfl) (by simp [fits_some, fits_none, hw, Nat.blt_eq]) ?_
          refine evSeq_go (by simp [wants, h0, hB1, hB2, hB3]) (by simp [h0, hB1, hB2, hB3] <;> rfl) (by rfl) (by simp [fits_some, fits_none, hw, Nat.blt_eq]) ?_
          refine evSeq_go rfl (by simp [h0, hB1, hB2, hB3] <;> rfl) (by rfl) (by simp [fits_some, fits_none, hw, Nat.blt_eq]) ?_
          refine evSeq_go rfl (by simp [h0, hB1, hB2, hB3] <;> rfl) (by rfl) (by simp [fits_some, fits_none, hw, Nat.blt_eq]) ?_
          exact evSeq_nil
        refine inSeq_norm ?_
        refine Tri.ret ?_
        simp [Ends, finish, evResults, evResult, Tryz.f24, h0, hB1, hB2, hB3]
theorem body_28 {call : CallF} (hC : call.Sound Tryz.prog TT) (s : List UInt8) : Body Tryz.prog TT 28 [.s s] (.val (.b (s == []))) := by
  refine ⟨Tryz.f28, _, rfl, rfl, by simp [Tryz.f28], ?_⟩
  have h0 : (Tm.init Tryz.f28.ntmps [.s s]).get 0 = .s s := by rw [get_init]; rfl
  have hw : (Tm.init Tryz.f28.ntmps [.s s]).wid = 5 := rfl
  generalize Tm.init Tryz.f28.ntmps [.s s] = t at *
  try simp only [Nd.enc_eq] at *
  refine Tri.seq' ?_
  refine Tri.regN (t' := ?t1) (H' := ?H1) TT_ok hC ?e1 ?q1
  case e1 =>
    refine go_false ?_
    refine evSeq_go rfl (by simp [h0] <;> rfl) (by rfl) (by simp [fits_some, fits_none, hw, Nat.blt_eq]) ?_
    exact evSeq_nil
  refine inSeq_norm ?_
  refine Tri.seq' ?_
  refine Tri.regN (t' := ?t2) (H' := ?H2) TT_ok hC ?e2 ?q2
  case e2 =>
    refine go_false ?_
    refine evSeq_go rfl (by simp [h0] <;> rfl) (by rfl) (by simp [fits_some, fits_none, hw, Nat.blt_eq]) ?_
    refine evSeq_go rfl (by simp [h0] <;> rfl) (by rfl) (by simp [fits_some, fits_none, hw, Nat.blt_eq]) ?_
    refine evSeq_go rfl (by simp [h0] <;> rfl) (by rfl) (by simp [fits_some, fits_none, hw, Nat.blt_eq]) ?_
    exact evSeq_nil
  refine inSeq_norm ?_
  refine Tri.ret ?_
  simp [Ends, finish, evResults, evResult, Tryz.f28, h0]
theorem body_29 {call : CallF} (hC : call.Sound Tryz.prog TT) (x : Nd) : Body Tryz.prog TT 29 [x.enc] (.val (.b ((x.kind == 2) || (x.kind == 3)))) := by
  refine ⟨Tryz.f29, _, rfl, rfl, by simp [Tryz.f29], ?_⟩
  have h0 : (Tm.init Tryz.f29.ntmps [x.enc]).get 0 = x.enc := by rw [get_init]; rfl
  have hw : (Tm.init Tryz.f29.ntmps [x.enc]).wid = 11 := rfl
  generalize Tm.init Tryz.f29.ntmps [x.enc] = t at *
  try simp only [Nd.enc_eq] at *
  refine Tri.seq' ?_
  refine Tri.regN (t' := ?t1) (H' := ?H1) TT_ok hC ?e1 ?q1
  case e1 =>
    refine go_false ?_
    refine evSeq_go rfl (by simp [h0] <;> rfl) (by rfl) (by simp [fits_some, fits_none, hw, Nat.blt_eq]) ?_
    refine evSeq_go rfl (by simp [h0] <;> rfl) (by rfl) (by simp [fits_some, fits_none, hw, Nat.blt_eq]) ?_
    exact evSeq_nil
  refine inSeq_norm ?_
  refine Tri.seq' ?_
  cases hB1 : (x.kind == 2 : Bool)
  case false =>
    refine Tri.regN (t' := ?tq1f2) (H' := ?Hq1f2) TT_ok hC ?eq1f2 ?qq1f2
    case eq1f2 =>
      refine go_false ?_
      refine evSeq_go rfl (by simp [h0, hB1] <;> rfl) (by rfl) (by simp [fits_some, fits_none, hw, Nat.blt_eq]) ?_
      refine evSeq_go rfl (by simp [h0, hB1] <;> rfl) (by rfl) (by simp [fits_some, fits_none, hw, Nat.blt_eq]) ?_
      refine evSeq_go rfl (by simp [h0, hB1] <;> rfl) (by rfl) (by simp [fits_some, fits_none, hw, Nat.blt_eq]) ?_
      refine evSeq_go rfl (by simp [h0, hB1] <;> rfl) (by rfl) (by simp [fits_some, fits_none, hw, Nat.blt_eq]) ?_
      refine evSeq_go (by simp [wants, h0, hB1]) (by simp [h0, hB1] <;> rfl) (by rfl) (by simp [fits_some, fits_none, hw, Nat.blt_eq]) ?_
      refine evSeq_go (by simp [wants, h0, hB1]) (by simp [h0, hB1] <;> rfl) (by rfl) (by simp [fits_some, fits_none, hw, Nat.blt_eq]) ?_
      refine evSeq_go (by simp [wants, h0, hB1]) (by simp [h0, hB1] <;> rfl) (by rfl) (by simp [fits_some, fits_none, hw, Nat.blt_eq]) ?_
      refine evSeq_go rfl (by simp [h0, hB1] <;> rfl) (by rfl) (by simp [fits_some, fits_none, hw, Nat.blt_eq]) ?_
      refine evSeq_go rfl (by simp [h0, hB1] <;> rfl) (by rfl) (by simp [fits_some, fits_none, hw, Nat.blt_eq]) ?_
      exact evSeq_nil
    refine inSeq_norm ?_
    refine Tri.ret ?_
    simp [Ends, finish, evResults, evResult, Tryz.f29, h0, hB1]
  case true =>
    refine Tri.regN (t' := ?tq1t2) (H' := ?Hq1t2) TT_ok hC ?eq1t2 ?qq1t2
    case eq1t2 =>
      refine go_false ?_
      refine evSeq_go rfl (by simp [h0, hB1] <;> rfl) (by rfl) (by simp [fits_some, fits_none, hw, Nat.blt_eq]) ?_
      refine evSeq_go rfl (by simp [h0, hB1] <;> rfl) (by rfl) (by simp [fits_some, fits_none, hw, Nat.blt_eq]) ?_
      refine evSeq_go rfl (by simp [h0, hB1] <;> rfl) (by rfl) (by simp [fits_some, fits_none, hw, Nat.blt_eq]) ?_
      refine evSeq_go rfl (by simp [h0, hB1] <;> rfl) (by rfl) (by simp [fits_some, fits_none, hw, Nat.blt_eq]) ?_
      refine evSeq_off (by simp [wants, h0, hB1]) (by simp [fits_some, fits_none, hw, Nat.blt_eq]) ?_
      refine evSeq_off (by simp [wants, h0, hB1]) (by simp [fits_some, fits_none, hw, Nat.blt_eq]) ?_
      refine evSeq_off (by simp [wants, h0, hB1]) (by simp [fits_some, fits_none, hw, Nat.blt_eq]) ?_
      refine evSeq_go rfl (by simp [h0, hB1] <;> rfl) (by rfl) (by simp [fits_some, fits_none, hw, Nat.blt_eq]) ?_
      refine evSeq_go rfl (by simp [h0, hB1] <;> rfl) (by rfl) (by simp [fits_some, fits_none, hw, Nat.blt_eq]) ?_
      exact evSeq_nil
    refine inSeq_norm ?_
    refine Tri.ret ?_
    simp [Ends, finish, evResults, evResult, Tryz.f29, h0, hB1]
theorem body_32 {call : CallF} (hC : call.Sound Tryz.prog TT) (x : Nd) : Body Tryz.prog TT 32 [x.enc] (.val (.b ((x.kind == 8) || (x.kind == 9)))) := by
  refine ⟨Tryz.f32, _, rfl, rfl, by simp [Tryz.f32], ?_⟩
  have h0 : (Tm.init Tryz.f32.ntmps [x.enc]).get 0 = x.enc := by rw [get_init]; rfl
  have hw : (Tm.init Tryz.f32.ntmps [x.enc]).wid = 11 := rfl
  generalize Tm.init Tryz.f32.ntmps [x.enc] = t at *
  try simp only [Nd.enc_eq] at *
  refine Tri.seq' ?_
  refine Tri.regN (t' := ?t1) (H' := ?H1) TT_ok hC ?e1 ?q1
  case e1 =>
    refine go_false ?_
    refine evSeq_go rfl (by simp [h0] <;> rfl) (by rfl) (by simp [fits_some, fits_none, hw, Nat.blt_eq]) ?_
    refine evSeq_go rfl (by simp [h0] <;> rfl) (by rfl) (by simp [fits_some, fits_none, hw, Nat.blt_eq]) ?_
    exact evSeq_nil
  refine inSeq_norm ?_
  refine Tri.seq' ?_
  cases hB1 : (x.kind == 8 : Bool)
  case false =>
    refine Tri.regN (t' := ?tq1f2) (H' := ?Hq1f2) TT_ok hC ?eq1f2 ?qq1f2
    case eq1f2 =>
      refine go_false ?_
      refine evSeq_go rfl (by simp [h0, hB1] <;> rfl) (by rfl) (by simp [fits_some, fits_none, hw, Nat.blt_eq]) ?_
      refine evSeq_go rfl (by simp [h0, hB1] <;> rfl) (by rfl) (by simp [fits_some, fits_none, hw, Nat.blt_eq]) ?_
      refine evSeq_go rfl (by simp [h0, hB1] <;> rfl) (by rfl) (by simp [fits_some, fits_none, hw, Nat.blt_eq]) ?_
      refine evSeq_go rfl (by simp [h0, hB1] <;> rfl) (by rfl) (by simp [fits_some, fits_none, hw, Nat.blt_eq]) ?_
      refine evSeq_go (by simp [wants, h0, hB1]) (by simp [h0, hB1] <;> rfl) (by rfl) (by simp [fits_some, fits_none, hw, Nat.blt_eq]) ?_
      refine evSeq_go (by simp [wants, h0, hB1]) (by simp [h0, hB1] <;> rfl) (by rfl) (by simp [fits_some, fits_none, hw, Nat.blt_eq]) ?_
      refine evSeq_go (by simp [wants, h0, hB1]) (by simp [h0, hB1] <;> rfl) (by rfl) (by simp [fits_some, fits_none, hw, Nat.blt_eq]) ?_
      refine evSeq_go rfl (by simp [h0, hB1] <;> rfl) (by rfl) (by simp [fits_some, fits_none, hw, Nat.blt_eq]) ?_
      refine evSeq_go rfl (by simp [h0, hB1] <;> rfl) (by rfl) (by simp [fits_some, fits_none, hw, Nat.blt_eq]) ?_
      exact evSeq_nil
    refine inSeq_norm ?_
    refine Tri.ret ?_
    simp [Ends, finish, evResults, evResult, Tryz.f32, h0, hB1]
  case true =>
    refine Tri.regN (t' := ?tq1t2) (H' := ?Hq1t2) TT_ok hC ?eq1t2 ?qq1t2
    case eq1t2 =>
      refine go_false ?_
      refine evSeq_go rfl (by simp [h0, hB1] <;> rfl) (by rfl) (by simp [fits_some, fits_none, hw, Nat.blt_eq]) ?_
      refine evSeq_go rfl (by simp [h0, hB1] <;> rfl) (by rfl) (by simp [fits_some, fits_none, hw, Nat.blt_eq]) ?_
      refine evSeq_go rfl (by simp [h0, hB1] <;> rfl) (by rfl) (by simp [fits_some, fits_none, hw, Nat.blt_eq]) ?_
      refine evSeq_go rfl (by simp [h0, hB1] <;> rfl) (by rfl) (by simp [fits_some, fits_none, hw, Nat.blt_eq]) ?_
      refine evSeq_off (by simp [wants, h0, hB1]) (by simp [fits_some, fits_none, hw, Nat.blt_eq]) ?_
      refine evSeq_off (by simp [wants, h0, hB1]) (by simp [fits_some, fits_none, hw, Nat.blt_eq]) ?_
      refine evSeq_off (by simp [wants, h0, hB1]) (by simp [fits_some, fits_none, hw, Nat.blt_eq]) ?_
      refine evSeq_go rfl (by simp [h0, hB1] <;> rfl) (by rfl) (by simp [fits_some, fits_none, hw, Nat.blt_eq]) ?_
      refine evSeq_go rfl (by simp [h0, hB1] <;> rfl) (by rfl) (by simp [fits_some, fits_none, hw, Nat.blt_eq]) ?_
      exact evSeq_nil
    refine inSeq_norm ?_
    refine Tri.ret ?_
    simp [Ends, finish, evResults, evResult, Tryz.f32, h0, hB1]
theorem body_37 {call : CallF} (hC : call.Sound Tryz.prog TT) (x : Nd) (b : Bool) (hs : ∀ H, call 24 [x.enc] H = .val (.b b) H) : Body Tryz.prog TT 37 [x.enc] (.val (.b (b && (x.kind != 25)))) := by
  refine ⟨Tryz.f37, _, rfl, rfl, by simp [Tryz.f37], ?_⟩
  have h0 : (Tm.init Tryz.f37.ntmps [x.enc]).get 0 = x.enc := by rw [get_init]; rfl
  have hw : (Tm.init Tryz.f37.ntmps [x.enc]).wid = 10 := rfl
  generalize Tm.init Tryz.f37.ntmps [x.enc] = t at *
  try simp only [Nd.enc_eq] at *
  refine Tri.seq' ?_
  refine Tri.regN (t' := ?t1) (H' := ?H1) TT_ok hC ?e1 ?q1
  case e1 =>
    refine go_false ?_
    refine evSeq_go rfl (by simp [h0, hs] <;> rfl) (by rfl) (by simp [fits_some, fits_none, hw, Nat.blt_eq]) ?_
    refine evSeq_go rfl (by simp [h0, hs] <;> rfl) (by rfl) (by simp [fits_some, fits_none, hw, Nat.blt_eq]) ?_
    exact evSeq_nil
  refine inSeq_norm ?_
  refine Tri.seq' ?_
  cases hB1 : (b : Bool)
  case false =>
    refine Tri.regN (t' := ?tq1f2) (H' := ?Hq1f2) TT_ok hC ?eq1f2 ?qq1f2
    case eq1f2 =>
      refine go_false ?_
      refine evSeq_go rfl (by simp [h0, hs, hB1] <;> rfl) (by rfl) (by simp [fits_some, fits_none, hw, Nat.blt_eq]) ?_
      refine evSeq_go rfl (by simp [h0, hs, hB1] <;> rfl) (by rfl) (by simp [fits_some, fits_none, hw, Nat.blt_eq]) ?_
      refine evSeq_go rfl (by simp [h0, hs, hB1] <;> rfl) (by rfl) (by simp [fits_some, fits_none, hw, Nat.blt_eq]) ?_
      refine evSeq_off (by simp [wants, h0, hs, hB1]) (by simp [fits_some, fits_none, hw, Nat.blt_eq]) ?_
      refine evSeq_off (by simp [wants, h0, hs, hB1]) (by simp [fits_some, fits_none, hw, Nat.blt_eq]) ?_
      refine evSeq_off (by simp [wants, h0, hs, hB1]) (by simp [fits_some, fits_none, hw, Nat.blt_eq]) ?_
      refine evSeq_go rfl (by simp [h0, hs, hB1] <;> rfl) (by rfl) (by simp [fits_some, fits_none, hw, Nat.blt_eq]) ?_
      refine evSeq_go rfl (by simp [h0, hs, hB1] <;> rfl) (by rfl) (by simp [fits_some, fits_none, hw, Nat.blt_eq]) ?_
      exact evSeq_nil
    refine inSeq_norm ?_
    refine Tri.ret ?_
    simp [Ends, finish, evResults, evResult, Tryz.f37, h0, hs, hB1]
  case true =>
    refine Tri.regN (t' := ?tq1t2) (H' := ?Hq1t2) TT_ok hC ?eq1t2 ?qq1t2
    case eq1t2 =>
      refine go_false ?_
      refine evSeq_go rfl (by simp [h0, hs, hB1] <;> rfl) (by rfl) (by simp [fits_some, fits_none, hw, Nat.blt_eq]) ?_
      refine evSeq_go rfl (by simp [h0, hs, hB1] <;> rfl) (by rfl) (by simp [fits_some, fits_none, hw, Nat.blt_eq]) ?_
      refine evSeq_go rfl (by simp [h0, hs, hB1] <;> rfl) (by rfl) (by simp [fits_some, fits_none, hw, Nat.blt_eq]) ?_
      refine evSeq_go (by simp [wants, h0, hs, hB1]) (by simp [h0, hs, hB1] <;> rfl) (by rfl) (by simp [fits_some, fits_none, hw, Nat.blt_eq]) ?_
      refine evSeq_go (by simp [wants, h0, hs, hB1]) (by simp [h0, hs, hB1] <;> rfl) (by rfl) (by simp [fits_some, fits_none, hw, Nat.blt_eq]) ?_
      refine evSeq_go (by simp [wants, h0, hs, hB1]) (by simp [h0, hs, hB1] <;> rfl) (by rfl) (by simp [fits_some, fits_none, hw, Nat.blt_eq]) ?_
      refine evSeq_go rfl (by simp [h0, hs, hB1] <;> rfl) (by rfl) (by simp [fits_some, fits_none, hw, Nat.blt_eq]) ?_
      refine evSeq_go rfl (by simp [h0, hs, hB1] <;> rfl) (by rfl) (by simp [fits_some, fits_none, hw, Nat.blt_eq]) ?_
      exact evSeq_nil
    refine inSeq_norm ?_
    refine Tri.ret ?_
    simp [Ends, finish, evResults, evResult, Tryz.f37, h0, hs, hB1]
theorem body_39 {call : CallF} (hC : call.Sound Tryz.prog TT) (x : Nd) (b : Bool) (hs : ∀ H, call 24 [x.enc] H = .val (.b b) H) : Body Tryz.prog TT 39 [x.enc] (.val (.b (b || (x.kind == 32)))) := by
  refine ⟨Tryz.f39, _, rfl, rfl, by simp [Tryz.f39], ?_⟩
  have h0 : (Tm.init Tryz.f39.ntmps [x.enc]).get 0 = x.enc := by rw [get_init]; rfl
  have hw : (Tm.init Tryz.f39.ntmps [x.enc]).wid = 10 := rfl
  generalize Tm.init Tryz.f39.ntmps [x.enc] = t at *
  try simp only [Nd.enc_eq] at *
  refine Tri.seq' ?_
  refine Tri.regN (t' := ?t1) (H' := ?H1) TT_ok hC ?e1 ?q1
  case e1 =>
    refine go_false ?_
    refine evSeq_go rfl (by simp [h0, hs] <;> rfl) (by rfl) (by simp [fits_some, fits_none, hw, Nat.blt_eq]) ?_
    refine evSeq_go rfl (by simp [h0, hs] <;> rfl) (by rfl) (by simp [fits_some, fits_none, hw, Nat.blt_eq]) ?_
    exact evSeq_nil
  refine inSeq_norm ?_
  refine Tri.seq' ?_
  cases hB1 : (b : Bool)
  case false =>
    refine Tri.regN (t' := ?tq1f2) (H' := ?Hq1f2) TT_ok hC ?eq1f2 ?qq1f2
    case eq1f2 =>
      refine go_false ?_
      refine evSeq_go rfl (by simp [h0, hs, hB1] <;> rfl) (by rfl) (by simp [fits_some, fits_none, hw, Nat.blt_eq]) ?_
      refine evSeq_go rfl (by simp [h0, hs, hB1] <;> rfl) (by rfl) (by simp [fits_some, fits_none, hw, Nat.blt_eq]) ?_
      refine evSeq_go rfl (by simp [h0, hs, hB1] <;> rfl) (by rfl) (by simp [fits_some, fits_none, hw, Nat.blt_eq]) ?_
      refine evSeq_go (by simp [wants, h0, hs, hB1]) (by simp [h0, hs, hB1] <;> rfl) (by rfl) (by simp [fits_some, fits_none, hw, Nat.blt_eq]) ?_
      refine evSeq_go (by simp [wants, h0, hs, hB1]) (by simp [h0, hs, hB1] <;> rfl) (by rfl) (by simp [fits_some, fits_none, hw, Nat.blt_eq]) ?_
      refine evSeq_go (by simp [wants, h0, hs, hB1]) (by simp [h0, hs, hB1] <;> rfl) (by rfl) (by simp [fits_some, fits_none, hw, Nat.blt_eq]) ?_
      refine evSeq_go rfl (by simp [h0, hs, hB1] <;> rfl) (by rfl) (by simp [fits_some, fits_none, hw, Nat.blt_eq]) ?_
      refine evSeq_go rfl (by simp [h0, hs, hB1] <;> rfl) (by rfl) (by simp [fits_some, fits_none, hw, Nat.blt_eq]) ?_
      exact evSeq_nil
    refine inSeq_norm ?_
    refine Tri.ret ?_
    simp [Ends, finish, evResults, evResult, Tryz.f39, h0, hs, hB1]
  case true =>
    refine Tri.regN (t' := ?tq1t2) (H' := ?Hq1t2) TT_ok hC ?eq1t2 ?qq1t2
    case eq1t2 =>
      refine go_false ?_
      refine evSeq_go rfl (by simp [h0, hs, hB1] <;> rfl) (by rfl) (by simp [fits_some, fits_none, hw, Nat.blt_eq]) ?_
      refine evSeq_go rfl (by simp [h0, hs, hB1] <;> rfl) (by rfl) (by simp [fits_some, fits_none, hw, Nat.blt_eq]) ?_
      refine evSeq_go rfl (by simp [h0, hs, hB1] <;> rfl) (by rfl) (by simp [fits_some, fits_none, hw, Nat.blt_eq]) ?_
      refine evSeq_off (by simp [wants, h0, hs, hB1]) (by simp [fits_some, fits_none, hw, Nat.blt_eq]) ?_
      refine evSeq_off (by simp [wants, h0, hs, hB1]) (by simp [fits_some, fits_none, hw, Nat.blt_eq]) ?_
      refine evSeq_off (by simp [wants, h0, hs, hB1]) (by simp [fits_some, fits_none, hw, Nat.blt_eq]) ?_
      refine evSeq_go rfl (by simp [h0, hs, hB1] <;> rfl) (by rfl) (by simp [fits_some, fits_none, hw, Nat.blt_eq]) ?_
      refine evSeq_go rfl (by simp [h0, hs, hB1] <;> rfl) (by rfl) (by simp [fits_some, fits_none, hw, Nat.blt_eq]) ?_
      exact evSeq_nil
    refine inSeq_norm ?_
    refine Tri.ret ?_
    simp [Ends, finish, evResults, evResult, Tryz.f39, h0, hs, hB1]
theorem body_58 {call : CallF} (hC : call.Sound Tryz.prog TT) (x : Nd) (k : Int) : Body Tryz.prog TT 58 [x.enc, .ipt 1 [.agg [.i .i64 k]] 0 0] (.val (.b (x.kind == k))) := by
  refine ⟨Tryz.f58, _, rfl, rfl, by simp [Tryz.f58], ?_⟩
  have h0 : (Tm.init Tryz.f58.ntmps [x.enc, .ipt 1 [.agg [.i .i64 k]] 0 0]).get 0 = x.enc := by rw [get_init]; rfl
  have h1 : (Tm.init Tryz.f58.ntmps [x.enc, .ipt 1 [.agg [.i .i64 k]] 0 0]).get 1 = .ipt 1 [.agg [.i .i64 k]] 0 0 := by rw [get_init]; rfl
  have hw : (Tm.init Tryz.f58.ntmps [x.enc, .ipt 1 [.agg [.i .i64 k]] 0 0]).wid = 8 := rfl
  generalize Tm.init Tryz.f58.ntmps [x.enc, .ipt 1 [.agg [.i .i64 k]] 0 0] = t at *
  try simp only [Nd.enc_eq] at *
  refine Tri.seq' ?_
  refine Tri.regN (t' := ?t1) (H' := ?H1) TT_ok hC ?e1 ?q1
  case e1 =>
    refine go_false ?_
    refine evSeq_go rfl (by simp [h0, h1] <;> rfl) (by rfl) (by simp [fits_some, fits_none, hw, Nat.blt_eq]) ?_
    refine evSeq_go rfl (by simp [h0, h1] <;> rfl) (by rfl) (by simp [fits_some, fits_none, hw, Nat.blt_eq]) ?_
    exact evSeq_nil
  refine inSeq_norm ?_
  refine Tri.seq' ?_
  refine Tri.regN (t' := ?t2) (H' := ?H2) TT_ok hC ?e2 ?q2
  case e2 =>
    refine go_false ?_
    refine evSeq_go rfl (by simp [h0, h1] <;> rfl) (by rfl) (by simp [fits_some, fits_none, hw, Nat.blt_eq]) ?_
    refine evSeq_go rfl (by simp [h0, h1] <;> rfl) (by rfl) (by simp [fits_some, fits_none, hw, Nat.blt_eq]) ?_
    refine evSeq_go rfl (by simp [h0, h1] <;> rfl) (by rfl) (by simp [fits_some, fits_none, hw, Nat.blt_eq]) ?_
    refine evSeq_go rfl (by simp [h0, h1] <;> rfl) (by rfl) (by simp [fits_some, fits_none, hw, Nat.blt_eq]) ?_
    refine evSeq_go rfl (by simp [h0, h1] <;> rfl) (by rfl) (by simp [fits_some, fits_none, hw, Nat.blt_eq]) ?_
    exact evSeq_nil
  refine inSeq_norm ?_
  refine Tri.ret ?_
  simp [Ends, finish, evResults, evResult, Tryz.f58, h0, h1]
theorem body_96 {call : CallF} (hC : call.Sound Tryz.prog TT) (x : Nd) (k : Int) : Body Tryz.prog TT 96 [x.enc, .ipt 1 [.agg [.i .i64 k]] 0 0] (.val (.b (x.kind == k))) := by
  refine ⟨Tryz.f96, _, rfl, rfl, by simp [Tryz.f96], ?_⟩
  have h0 : (Tm.init Tryz.f96.ntmps [x.enc, .ipt 1 [.agg [.i .i64 k]] 0 0]).get 0 = x.enc := by rw [get_init]; rfl
  have h1 : (Tm.init Tryz.f96.ntmps [x.enc, .ipt 1 [.agg [.i .i64 k]] 0 0]).get 1 = .ipt 1 [.agg [.i .i64 k]] 0 0 := by rw [get_init]; rfl
  have hw : (Tm.init Tryz.f96.ntmps [x.enc, .ipt 1 [.agg [.i .i64 k]] 0 0]).wid = 8 := rfl
  generalize Tm.init Tryz.f96.ntmps [x.enc, .ipt 1 [.agg [.i .i64 k]] 0 0] = t at *
  try simp only [Nd.enc_eq] at *
  refine Tri.seq' ?_
  refine Tri.regN (t' := ?t1) (H' := ?H1) TT_ok hC ?e1 ?q1
  case e1 =>
    refine go_false ?_
    refine evSeq_go rfl (by simp [h0, h1] <;> rfl) (by rfl) (by simp [fits_some, fits_none, hw, Nat.blt_eq]) ?_
    refine evSeq_go rfl (by simp [h0, h1] <;> rfl) (by rfl) (by simp [fits_some, fits_none, hw, Nat.blt_eq]) ?_
    exact evSeq_nil
  refine inSeq_norm ?_
  refine Tri.seq' ?_
  refine Tri.regN (t' := ?t2) (H' := ?H2) TT_ok hC ?e2 ?q2
  case e2 =>
    refine go_false ?_
    refine evSeq_go rfl (by simp [h0, h1] <;> rfl) (by rfl) (by simp [fits_some, fits_none, hw, Nat.blt_eq]) ?_
    refine evSeq_go rfl (by simp [h0, h1] <;> rfl) (by rfl) (by simp [fits_some, fits_none, hw, Nat.blt_eq]) ?_
    refine evSeq_go rfl (by simp [h0, h1] <;> rfl) (by rfl) (by simp [fits_some, fits_none, hw, Nat.blt_eq]) ?_
    refine evSeq_go rfl (by simp [h0, h1] <;> rfl) (by rfl) (by simp [fits_some, fits_none, hw, Nat.blt_eq]) ?_
    refine evSeq_go rfl (by simp [h0, h1] <;> rfl) (by rfl) (by simp [fits_some, fits_none, hw, Nat.blt_eq]) ?_
    exact evSeq_nil
  refine inSeq_norm ?_
  refine Tri.ret ?_
  simp [Ends, finish, evResults, evResult, Tryz.f96, h0, h1]
theorem body_97 {call : CallF} (hC : call.Sound Tryz.prog TT) (x : Nd) (k : Int) : Body Tryz.prog TT 97 [x.enc, .ipt 1 [.agg [.i .i64 k]] 0 0] (.val (.b (x.kind != k))) := by
  refine ⟨Tryz.f97, _, rfl, rfl, by simp [Tryz.f97], ?_⟩
  have h0 : (Tm.init Tryz.f97.ntmps [x.enc, .ipt 1 [.agg [.i .i64 k]] 0 0]).get 0 = x.enc := by rw [get_init]; rfl
  have h1 : (Tm.init Tryz.f97.ntmps [x.enc, .ipt 1 [.agg [.i .i64 k]] 0 0]).get 1 = .ipt 1 [.agg [.i .i64 k]] 0 0 := by rw [get_init]; rfl
  have hw : (Tm.init Tryz.f97.ntmps [x.enc, .ipt 1 [.agg [.i .i64 k]] 0 0]).wid = 8 := rfl
  generalize Tm.init Tryz.f97.ntmps [x.enc, .ipt 1 [.agg [.i .i64 k]] 0 0] = t at *
  try simp only [Nd.enc_eq] at *
  refine Tri.seq' ?_
  refine Tri.regN (t' := ?t1) (H' := ?H1) TT_ok hC ?e1 ?q1
  case e1 =>
    refine go_false ?_
    refine evSeq_go rfl (by simp [h0, h1] <;> rfl) (by rfl) (by simp [fits_some, fits_none, hw, Nat.blt_eq]) ?_
    refine evSeq_go rfl (by simp [h0, h1] <;> rfl) (by rfl) (by simp [fits_some, fits_none, hw, Nat.blt_eq]) ?_
    exact evSeq_nil
  refine inSeq_norm ?_
  refine Tri.seq' ?_
  refine Tri.regN (t' := ?t2) (H' := ?H2) TT_ok hC ?e2 ?q2
  case e2 =>
    refine go_false ?_
    refine evSeq_go rfl (by simp [h0, h1] <;> rfl) (by rfl) (by simp [fits_some, fits_none, hw, Nat.blt_eq]) ?_
    refine evSeq_go rfl (by simp [h0, h1] <;> rfl) (by rfl) (by simp [fits_some, fits_none, hw, Nat.blt_eq]) ?_
    refine evSeq_go rfl (by simp [h0, h1] <;> rfl) (by rfl) (by simp [fits_some, fits_none, hw, Nat.blt_eq]) ?_
    refine evSeq_go rfl (by simp [h0, h1] <;> rfl) (by rfl) (by simp [fits_some, fits_none, hw, Nat.blt_eq]) ?_
    refine evSeq_go rfl (by simp [h0, h1] <;> rfl) (by rfl) (by simp [fits_some, fits_none, hw, Nat.blt_eq]) ?_
    exact evSeq_nil
  refine inSeq_norm ?_
  refine Tri.ret ?_
  simp [Ends, finish, evResults, evResult, Tryz.f97, h0, h1]
theorem body_57 {call : CallF} (hC : call.Sound Tryz.prog TT) (s : List UInt8) (b : Bool) (hs : ∀ H, call 26 [.s s] H = .val (.b b) H) : Body Tryz.prog TT 57 [.s s] (.val (.b (!b))) := by
  refine ⟨Tryz.f57, _, rfl, rfl, by simp [Tryz.f57], ?_⟩
  have h0 : (Tm.init Tryz.f57.ntmps [.s s]).get 0 = .s s := by rw [get_init]; rfl
  have hw : (Tm.init Tryz.f57.ntmps [.s s]).wid = 6 := rfl
  generalize Tm.init Tryz.f57.ntmps [.s s] = t at *
  try simp only [Nd.enc_eq] at *
  refine Tri.seq' ?_
  refine Tri.regN (t' := ?t1) (H' := ?H1) TT_ok hC ?e1 ?q1
  case e1 =>
    refine go_false ?_
    refine evSeq_go rfl (by simp [h0, hs] <;> rfl) (by rfl) (by simp [fits_some, fits_none, hw, Nat.blt_eq]) ?_
    exact evSeq_nil
  refine inSeq_norm ?_
  refine Tri.seq' ?_
  refine Tri.regN (t' := ?t2) (H' := ?H2) TT_ok hC ?e2 ?q2
  case e2 =>
    refine go_false ?_
    refine evSeq_go rfl (by simp [h0, hs] <;> rfl) (by rfl) (by simp [fits_some, fits_none, hw, Nat.blt_eq]) ?_
    refine evSeq_go rfl (by simp [h0, hs] <;> rfl) (by rfl) (by simp [fits_some, fits_none, hw, Nat.blt_eq]) ?_
    refine evSeq_go rfl (by simp [h0, hs] <;> rfl) (by rfl) (by simp [fits_some, fits_none, hw, Nat.blt_eq]) ?_
    refine evSeq_go rfl (by simp [h0, hs] <;> rfl) (by rfl) (by simp [fits_some, fits_none, hw, Nat.blt_eq]) ?_
    exact evSeq_nil
  refine inSeq_norm ?_
  refine Tri.ret ?_
  simp [Ends, finish, evResults, evResult, Tryz.f57, h0, hs]
theorem body_53 {call : CallF} (hC : call.Sound Tryz.prog TT) (x : Nd) (g : FuncId) (hx : TT.ext g = none) (cs : List V) (b : Bool) (hs : ∀ H, call g (x.enc :: cs) H = .val (.b b) H) : Body Tryz.prog TT 53 [x.enc, .ipt 1 [.agg [.fn g cs]] 0 0] (.val (.b ((x.kind == 5) || b))) := by
  refine ⟨Tryz.f53, _, rfl, rfl, by simp [Tryz.f53], ?_⟩
  have h0 : (Tm.init Tryz.f53.ntmps [x.enc, .ipt 1 [.agg [.fn g cs]] 0 0]).get 0 = x.enc := by rw [get_init]; rfl
  have h1 : (Tm.init Tryz.f53.ntmps [x.enc, .ipt 1 [.agg [.fn g cs]] 0 0]).get 1 = .ipt 1 [.agg [.fn g cs]] 0 0 := by rw [get_init]; rfl
  have hw : (Tm.init Tryz.f53.ntmps [x.enc, .ipt 1 [.agg [.fn g cs]] 0 0]).wid = 12 := rfl
  generalize Tm.init Tryz.f53.ntmps [x.enc, .ipt 1 [.agg [.fn g cs]] 0 0] = t at *
  try simp only [Nd.enc_eq] at *
  refine Tri.seq' ?_
  refine Tri.regN (t' := ?t1) (H' := ?H1) TT_ok hC ?e1 ?q1
  case e1 =>
    refine go_false ?_
    refine evSeq_go rfl (by simp [h0, h1, hs, hx] <;> rfl) (by rfl) (by simp [fits_some, fits_none, hw, Nat.blt_eq]) ?_
    refine evSeq_go rfl (by simp [h0, h1, hs, hx] <;> rfl) (by rfl) (by simp [fits_some, fits_none, hw, Nat.blt_eq]) ?_
    exact evSeq_nil
  refine inSeq_norm ?_
  refine Tri.seq' ?_
  cases hB1 : (x.kind == 5 : Bool)
  case false =>
    refine Tri.regN (t' := ?tq1f2) (H' := ?Hq1f2) TT_ok hC ?eq1f2 ?qq1f2
    case eq1f2 =>
      refine go_false ?_
      refine evSeq_go rfl (by simp [h0, h1, hs, hx, hB1] <;> rfl) (by rfl) (by simp [fits_some, fits_none, hw, Nat.blt_eq]) ?_
      refine evSeq_go rfl (by simp [h0, h1, hs, hx, hB1] <;> rfl) (by rfl) (by simp [fits_some, fits_none, hw, Nat.blt_eq]) ?_
      refine evSeq_go rfl (by simp [h0, h1, hs, hx, hB1] <;> rfl) (by rfl) (by simp [fits_some, fits_none, hw, Nat.blt_eq]) ?_
      refine evSeq_go rfl (by simp [h0, h1, hs, hx, hB1] <;> rfl) (by rfl) (by simp [fits_some, fits_none, hw, Nat.blt_eq]) ?_
      refine evSeq_go (by simp [wants, h0, h1, hs, hx, hB1]) (by simp [h0, h1, hs, hx, hB1] <;> rfl) (by rfl) (by simp [fits_some, fits_none, hw, Nat.blt_eq]) ?_
      refine evSeq_go (by simp [wants, h0, h1, hs, hx, hB1]) (by simp [h0, h1, hs, hx, hB1] <;> rfl) (by rfl) (by simp [fits_some, fits_none, hw, Nat.blt_eq]) ?_
      refine evSeq_go (by simp [wants, h0, h1, hs, hx, hB1]) (by simp [h0, h1, hs, hx, hB1] <;> rfl) (by rfl) (by simp [fits_some, fits_none, hw, Nat.blt_eq]) ?_
      refine evSeq_go rfl (by simp [h0, h1, hs, hx, hB1] <;> rfl) (by rfl) (by simp [fits_some, fits_none, hw, Nat.blt_eq]) ?_
      refine evSeq_go rfl (by simp [h0, h1, hs, hx, hB1] <;> rfl) (by rfl) (by simp [fits_some, fits_none, hw, Nat.blt_eq]) ?_
      exact evSeq_nil
    refine inSeq_norm ?_
    refine Tri.ret ?_
    simp [Ends, finish, evResults, evResult, Tryz.f53, h0, h1, hs, hx, hB1]
  case true =>
    refine Tri.regN (t' := ?tq1t2) (H' := ?Hq1t2) TT_ok hC ?eq1t2 ?qq1t2
    case eq1t2 =>
      refine go_false ?_
      refine evSeq_go rfl (by simp [h0, h1, hs, hx, hB1] <;> rfl) (by rfl) (by simp [fits_some, fits_none, hw, Nat.blt_eq]) ?_
      refine evSeq_go rfl (by simp [h0, h1, hs, hx, hB1] <;> rfl) (by rfl) (by simp [fits_some, fits_none, hw, Nat.blt_eq]) ?_
      refine evSeq_go rfl (by simp [h0, h1, hs, hx, hB1] <;> rfl) (by rfl) (by simp [fits_some, fits_none, hw, Nat.blt_eq]) ?_
      refine evSeq_go rfl (by simp [h0, h1, hs, hx, hB1] <;> rfl) (by rfl) (by simp [fits_some, fits_none, hw, Nat.blt_eq]) ?_
      refine evSeq_off (by simp [wants, h0, h1, hs, hx, hB1]) (by simp [fits_some, fits_none, hw, Nat.blt_eq]) ?_
      refine evSeq_off (by simp [wants, h0, h1, hs, hx, hB1]) (by simp [fits_some, fits_none, hw, Nat.blt_eq]) ?_
      refine evSeq_off (by simp [wants, h0, h1, hs, hx, hB1]) (by simp [fits_some, fits_none, hw, Nat.blt_eq]) ?_
      refine evSeq_go rfl (by simp [h0, h1, hs, hx, hB1] <;> rfl) (by rfl) (by simp [fits_some, fits_none, hw, Nat.blt_eq]) ?_
      refine evSeq_go rfl (by simp [h0, h1, hs, hx, hB1] <;> rfl) (by rfl) (by simp [fits_some, fits_none, hw, Nat.blt_eq]) ?_
      exact evSeq_nil
    refine inSeq_norm ?_
    refine Tri.ret ?_
    simp [Ends, finish, evResults, evResult, Tryz.f53, h0, h1, hs, hx, hB1]
theorem body_48 {call : CallF} (hC : call.Sound Tryz.prog TT) (x : Nd) (l : List V) (b : Bool) (hs : ∀ H, call 49 [.isl 1 l, .s x.text] H = .val (.b b) H) : Body Tryz.prog TT 48 [x.enc, .ipt 1 [.agg [.isl 1 l]] 0 0] (.val (.b ((x.kind == 4) && b))) := by
  refine ⟨Tryz.f48, _, rfl, rfl, by simp [Tryz.f48], ?_⟩
  have h0 : (Tm.init Tryz.f48.ntmps [x.enc, .ipt 1 [.agg [.isl 1 l]] 0 0]).get 0 = x.enc := by rw [get_init]; rfl
  have h1 : (Tm.init Tryz.f48.ntmps [x.enc, .ipt 1 [.agg [.isl 1 l]] 0 0]).get 1 = .ipt 1 [.agg [.isl 1 l]] 0 0 := by rw [get_init]; rfl
  have hw : (Tm.init Tryz.f48.ntmps [x.enc, .ipt 1 [.agg [.isl 1 l]] 0 0]).wid = 13 := rfl
  generalize Tm.init Tryz.f48.ntmps [x.enc, .ipt 1 [.agg [.isl 1 l]] 0 0] = t at *
  try simp only [Nd.enc_eq] at *
  refine Tri.seq' ?_
  refine Tri.regN (t' := ?t1) (H' := ?H1) TT_ok hC ?e1 ?q1
  case e1 =>
    refine go_false ?_
    refine evSeq_go rfl (by simp [h0, h1, hs] <;> rfl) (by rfl) (by simp [fits_some, fits_none, hw, Nat.blt_eq]) ?_
    refine evSeq_go rfl (by simp [h0, h1, hs] <;> rfl) (by rfl) (by simp [fits_some, fits_none, hw, Nat.blt_eq]) ?_
    exact evSeq_nil
  refine inSeq_norm ?_
  refine Tri.seq' ?_
  cases hB1 : (x.kind == 4 : Bool)
  case false =>
    refine Tri.regN (t' := ?tq1f2) (H' := ?Hq1f2) TT_ok hC ?eq1f2 ?qq1f2
    case eq1f2 =>
      refine go_false ?_
      refine evSeq_go rfl (by simp [h0, h1, hs, hB1] <;> rfl) (by rfl) (by simp [fits_some, fits_none, hw, Nat.blt_eq]) ?_
      refine evSeq_go rfl (by simp [h0, h1, hs, hB1] <;> rfl) (by rfl) (by simp [fits_some, fits_none, hw, Nat.blt_eq]) ?_
      refine evSeq_go rfl (by simp [h0, h1, hs, hB1] <;> rfl) (by rfl) (by simp [fits_some, fits_none, hw, Nat.blt_eq]) ?_
      refine evSeq_go rfl (by simp [h0, h1, hs, hB1] <;> rfl) (by rfl) (by simp [fits_some, fits_none, hw, Nat.blt_eq]) ?_
      refine evSeq_off (by simp [wants, h0, h1, hs, hB1]) (by simp [fits_some, fits_none, hw, Nat.blt_eq]) ?_
      refine evSeq_off (by simp [wants, h0, h1, hs, hB1]) (by simp [fits_some, fits_none, hw, Nat.blt_eq]) ?_
      refine evSeq_off (by simp [wants, h0, h1, hs, hB1]) (by simp [fits_some, fits_none, hw, Nat.blt_eq]) ?_
      refine evSeq_off (by simp [wants, h0, h1, hs, hB1]) (by simp [fits_some, fits_none, hw, Nat.blt_eq]) ?_
      refine evSeq_go rfl (by simp [h0, h1, hs, hB1] <;> rfl) (by rfl) (by simp [fits_some, fits_none, hw, Nat.blt_eq]) ?_
      refine evSeq_go rfl (by simp [h0, h1, hs, hB1] <;> rfl) (by rfl) (by simp [fits_some, fits_none, hw, Nat.blt_eq]) ?_
      exact evSeq_nil
    refine inSeq_norm ?_
    refine Tri.ret ?_
    simp [Ends, finish, evResults, evResult, Tryz.f48, h0, h1, hs, hB1]
  case true =>
    refine Tri.regN (t' := ?tq1t2) (H' := ?Hq1t2) TT_ok hC ?eq1t2 ?qq1t2
    case eq1t2 =>
      refine go_false ?_
      refine evSeq_go rfl (by simp [h0, h1, hs, hB1] <;> rfl) (by rfl) (by simp [fits_some, fits_none, hw, Nat.blt_eq]) ?_
      refine evSeq_go rfl (by simp [h0, h1, hs, hB1] <;> rfl) (by rfl) (by simp [fits_some, fits_none, hw, Nat.blt_eq]) ?_
      refine evSeq_go rfl (by simp [h0, h1, hs, hB1] <;> rfl) (by rfl) (by simp [fits_some, fits_none, hw, Nat.blt_eq]) ?_
      refine evSeq_go rfl (by simp [h0, h1, hs, hB1] <;> rfl) (by rfl) (by simp [fits_some, fits_none, hw, Nat.blt_eq]) ?_
      refine evSeq_go (by simp [wants, h0, h1, hs, hB1]) (by simp [h0, h1, hs, hB1] <;> rfl) (by rfl) (by simp [fits_some, fits_none, hw, Nat.blt_eq]) ?_
      refine evSeq_go (by simp [wants, h0, h1, hs, hB1]) (by simp [h0, h1, hs, hB1] <;> rfl) (by rfl) (by simp [fits_some, fits_none, hw, Nat.blt_eq]) ?_
      refine evSeq_go (by simp [wants, h0, h1, hs, hB1]) (by simp [h0, h1, hs, hB1] <;> rfl) (by rfl) (by simp [fits_some, fits_none, hw, Nat.blt_eq]) ?_
      refine evSeq_go (by simp [wants, h0, h1, hs, hB1]) (by simp [h0, h1, hs, hB1] <;> rfl) (by rfl) (by simp [fits_some, fits_none, hw, Nat.blt_eq]) ?_
      refine evSeq_go rfl (by simp [h0, h1, hs, hB1] <;> rfl) (by rfl) (by simp [fits_some, fits_none, hw, Nat.blt_eq]) ?_
      refine evSeq_go rfl (by simp [h0, h1, hs, hB1] <;> rfl) (by rfl) (by simp [fits_some, fits_none, hw, Nat.blt_eq]) ?_
      exact evSeq_nil
    refine inSeq_norm ?_
    refine Tri.ret ?_
    simp [Ends, finish, evResults, evResult, Tryz.f48, h0, h1, hs, hB1]
theorem body_63 {call : CallF} (hC : call.Sound Tryz.prog TT) (s : List UInt8) (l : List V) (b : Bool) (hs : ∀ H, call 49 [.isl 1 l, .s s] H = .val (.b b) H) : Body Tryz.prog TT 63 [.s s, .ipt 1 [.agg [.isl 1 l]] 0 0] (.val (.b b)) := by
  refine ⟨Tryz.f63, _, rfl, rfl, by simp [Tryz.f63], ?_⟩
  have h0 : (Tm.init Tryz.f63.ntmps [.s s, .ipt 1 [.agg [.isl 1 l]] 0 0]).get 0 = .s s := by rw [get_init]; rfl
  have h1 : (Tm.init Tryz.f63.ntmps [.s s, .ipt 1 [.agg [.isl 1 l]] 0 0]).get 1 = .ipt 1 [.agg [.isl 1 l]] 0 0 := by rw [get_init]; rfl
  have hw : (Tm.init Tryz.f63.ntmps [.s s, .ipt 1 [.agg [.isl 1 l]] 0 0]).wid = 7 := rfl
  generalize Tm.init Tryz.f63.ntmps [.s s, .ipt 1 [.agg [.isl 1 l]] 0 0] = t at *
  try simp only [Nd.enc_eq] at *
  refine Tri.seq' ?_
  refine Tri.regN (t' := ?t1) (H' := ?H1) TT_ok hC ?e1 ?q1
  case e1 =>
    refine go_false ?_
    refine evSeq_go rfl (by simp [h0, h1, hs] <;> rfl) (by rfl) (by simp [fits_some, fits_none, hw, Nat.blt_eq]) ?_
    exact evSeq_nil
  refine inSeq_norm ?_
  refine Tri.seq' ?_
  refine Tri.regN (t' := ?t2) (H' := ?H2) TT_ok hC ?e2 ?q2
  case e2 =>
    refine go_false ?_
    refine evSeq_go rfl (by simp [h0, h1, hs] <;> rfl) (by rfl) (by simp [fits_some, fits_none, hw, Nat.blt_eq]) ?_
    refine evSeq_go rfl (by simp [h0, h1, hs] <;> rfl) (by rfl) (by simp [fits_some, fits_none, hw, Nat.blt_eq]) ?_
    refine evSeq_go rfl (by simp [h0, h1, hs] <;> rfl) (by rfl) (by simp [fits_some, fits_none, hw, Nat.blt_eq]) ?_
    refine evSeq_go rfl (by simp [h0, h1, hs] <;> rfl) (by rfl) (by simp [fits_some, fits_none, hw, Nat.blt_eq]) ?_
    exact evSeq_nil
  refine inSeq_norm ?_
  refine Tri.ret ?_
  simp [Ends, finish, evResults, evResult, Tryz.f63, h0, h1, hs]
theorem body_83 {call : CallF} (hC : call.Sound Tryz.prog TT) (c : Int) : Body Tryz.prog TT 83 [.i .u8 c] (.val (.b ((decide (97 ≤ c) && decide (c ≤ 122)) || (decide (65 ≤ c) && decide (c ≤ 90)) || (c == 95)))) := by
  refine ⟨Tryz.f83, _, rfl, rfl, by simp [Tryz.f83], ?_⟩
  have h0 : (Tm.init Tryz.f83.ntmps [.i .u8 c]).get 0 = .i .u8 c := by rw [get_init]; rfl
  have hw : (Tm.init Tryz.f83.ntmps [.i .u8 c]).wid = 21 := rfl
  generalize Tm.init Tryz.f83.ntmps [.i .u8 c] = t at *
  try simp only [Nd.enc_eq] at *
  refine Tri.seq' ?_
  refine Tri.regN (t' := ?t1) (H' := ?H1) TT_ok hC ?e1 ?q1
  case e1 =>
    refine go_false ?_
    refine evSeq_go rfl (by simp [h0] <;> rfl) (by rfl) (by simp [fits_some, fits_none, hw, Nat.blt_eq]) ?_
    exact evSeq_nil
  refine inSeq_norm ?_
  refine Tri.seq' ?_
  cases hB1 : (decide (97 ≤ c) : Bool)
  case false =>
    cases hB2 : (decide (65 ≤ c) : Bool)
    case false =>
      refine Tri.regN (t' := ?tq1fq2f2) (H' := ?Hq1fq2f2) TT_ok hC ?eq1fq2f2 ?qq1fq2f2
      case eq1fq2f2 =>
        refine go_false ?_
        refine evSeq_go rfl (by simp [h0, hB1, hB2] <;> rfl) (by rfl) (by simp [fits_some, fits_none, hw, Nat.blt_eq]) ?_
        refine evSeq_go rfl (by simp [h0, hB1, hB2] <;> rfl) (by rfl) (by simp [fits_some, fits_none, hw, Nat.blt_eq]) ?_
        refine evSeq_go rfl (by simp [h0, hB1, hB2] <;> rfl) (by rfl) (by simp [fits_some, fits_none, hw, Nat.blt_eq]) ?_
        refine evSeq_off (by simp [wants, h0, hB1, hB2]) (by simp [fits_some, fits_none, hw, Nat.blt_eq]) ?_
        refine evSeq_off (by simp [wants, h0, hB1, hB2]) (by simp [fits_some, fits_none, hw, Nat.blt_eq]) ?_
        refine evSeq_go rfl (by simp [h0, hB1, hB2] <;> rfl) (by rfl) (by simp [fits_some, fits_none, hw, Nat.blt_eq]) ?_
        refine evSeq_go rfl (by simp [h0, hB1, hB2] <;> rfl) (by rfl) (by simp [fits_some, fits_none, hw, Nat.blt_eq]) ?_
        refine evSeq_go (by simp [wants, h0, hB1, hB2]) (by simp [h0, hB1, hB2] <;> rfl) (by rfl) (by simp [fits_some, fits_none, hw, Nat.blt_eq]) ?_
        refine evSeq_go (by simp [wants, h0, hB1, hB2]) (by simp [h0, hB1, hB2] <;> rfl) (by rfl) (by simp [fits_some, fits_none, hw, Nat.blt_eq]) ?_
        refine evSeq_go (by simp [wants, h0, hB1, hB2]) (by simp [h0, hB1, hB2] <;> rfl) (by rfl) (by simp [fits_some, fits_none, hw, Nat.blt_eq]) ?_
        refine evSeq_off (by simp [wants, h0, hB1, hB2]) (by simp [fits_some, fits_none, hw, Nat.blt_eq]) ?_
        refine evSeq_off (by simp [wants, h0, hB1, hB2]) (by simp [fits_some, fits_none, hw, Nat.blt_eq]) ?_
        refine evSeq_go (by simp [wants, h0, hB1, hB2]) (by simp [h0, hB1, hB2] <;> rfl) (by rfl) (by simp [fits_some, fits_none, hw, Nat.blt_eq]) ?_
        refine evSeq_go rfl (by simp [h0, hB1, hB2] <;> rfl) (by rfl) (by simp [fits_some, fits_none, hw, Nat.blt_eq]) ?_
        refine evSeq_go rfl (by simp [h0, hB1, hB2] <;> rfl) (by rfl) (by simp [fits_some, fits_none, hw, Nat.blt_eq]) ?_
        refine evSeq_go (by simp [wants, h0, hB1, hB2]) (by simp [h0, hB1, hB2] <;> rfl) (by rfl) (by simp [fits_some, fits_none, hw, Nat.blt_eq]) ?_
        refine evSeq_go (by simp [wants, h0, hB1, hB2]) (by simp [h0, hB1, hB2] <;> rfl) (by rfl) (by simp [fits_some, fits_none, hw, Nat.blt_eq]) ?_
        refine evSeq_go rfl (by simp [h0, hB1, hB2] <;> rfl) (by rfl) (by simp [fits_some, fits_none, hw, Nat.blt_eq]) ?_
        refine evSeq_go rfl (by simp [h0, hB1, hB2] <;> rfl) (by rfl) (by simp [fits_some, fits_none, hw, Nat.blt_eq]) ?_
        exact evSeq_nil
      refine inSeq_norm ?_
      refine Tri.ret ?_
      simp [Ends, finish, evResults, evResult, Tryz.f83, h0, hB1, hB2]
    case true =>
      cases hB3 : (decide (c ≤ 90) : Bool)
      case false =>
        refine Tri.regN (t' := ?tq1fq2tq3f2) (H' := ?Hq1fq2tq3f2) TT_ok hC ?eq1fq2tq3f2 ?qq1fq2tq3f2
        case eq1fq2tq3f2 =>
          refine go_false ?_
          refine evSeq_go rfl (by simp [h0, hB1, hB2, hB3] <;> rfl) (by rfl) (by simp [fits_some, fits_none, hw, Nat.blt_eq]) ?_
          refine evSeq_go rfl (by simp [h0, hB1, hB2, hB3] <;> rfl) (by rfl) (by simp [fits_some, fits_none, hw, Nat.blt_eq]) ?_
          refine evSeq_go rfl (by simp [h0, hB1, hB2, hB3] <;> rfl) (by rfl) (by simp [fits_some, fits_none, hw, Nat.blt_eq]) ?_
          refine evSeq_off (by simp [wants, h0, hB1, hB2, hB3]) (by simp [fits_some, fits_none, hw, Nat.blt_eq]) ?_
          refine evSeq_off (by simp [wants, h0, hB1, hB2, hB3]) (by simp [fits_some, fits_none, hw, Nat.blt_eq]) ?_
          refine evSeq_go rfl (by simp [h0, hB1, hB2, hB3] <;> rfl) (by rfl) (by simp [fits_some, fits_none, hw, Nat.blt_eq]) ?_
          refine evSeq_go rfl (by simp [h0, hB1, hB2, hB3] <;> rfl) (by rfl) (by simp [fits_some, fits_none, hw, Nat.blt_eq]) ?_
          refine evSeq_go (by simp [wants, h0, hB1, hB2, hB3]) (by simp [h0, hB1, hB2, hB3] <;> rfl) (by rfl) (by simp [fits_some, fits_none, hw, Nat.blt_eq]) ?_
          refine evSeq_go (by simp [wants, h0, hB1, hB2, hB3]) (by simp [h0, hB1, hB2, hB3] <;> rfl) (by rfl) (by simp [fits_some, fits_none, hw, Nat.blt_eq]) ?_
          refine evSeq_go (by simp [wants, h0, hB1, hB2, hB3]) (by simp [h0, hB1, hB2, hB3] <;> rfl) (by rfl) (by simp [fits_some, fits_none, hw, Nat.blt_eq]) ?_
          refine evSeq_go (by simp [wants, h0, hB1, hB2, hB3]) (by simp [h0, hB1, hB2, hB3] <;> rfl) (by rfl) (by simp [fits_some, fits_none, hw, Nat.blt_eq]) ?_
          refine evSeq_go (by simp [wants, h0, hB1, hB2, hB3]) (by simp [h0, hB1, hB2, hB3] <;> rfl) (by rfl) (by simp [fits_some, fits_none, hw, Nat.blt_eq]) ?_
          refine evSeq_go (by simp [wants, h0, hB1, hB2, hB3]) (by simp [h0, hB1, hB2, hB3] <;> rfl) (by rfl) (by simp [fits_some, fits_none, hw, Nat.blt_eq]) ?_
          refine evSeq_go rfl (by simp [h0, hB1, hB2, hB3] <;> rfl) (by rfl) (by simp [fits_some, fits_none, hw, Nat.blt_eq]) ?_
          refine evSeq_go rfl (by simp [h0, hB1, hB2, hB3] <;> rfl) (by rfl) (by simp [fits_some, fits_none, hw, Nat.blt_eq]) ?_
          refine evSeq_go (by simp [wants, h0, hB1, hB2, hB3]) (by simp [h0, hB1, hB2, hB3] <;> rfl) (by rfl) (by simp [fits_some, fits_none, hw, Nat.blt_eq]) ?_
          refine evSeq_go (by simp [wants, h0, hB1, hB2, hB3]) (by simp [h0, hB1, hB2, hB3] <;> rfl) (by rfl) (by simp [fits_some, fits_none, hw, Nat.blt_eq]) ?_
          refine evSeq_go rfl (by simp [h0, hB1, hB2, hB3] <;> rfl) (by rfl) (by simp [fits_some, fits_none, hw, Nat.blt_eq]) ?_
          refine evSeq_go rfl (by simp [h0, hB1, hB2, hB3] <;> rfl) (by rfl) (by simp [fits_some, fits_none, hw, Nat.blt_eq]) ?_
          exact evSeq_nil
        refine inSeq_norm ?_
        refine Tri.ret ?_
        simp [Ends, finish, evResults, evResult, Tryz.f83, h0, hB1, hB2, hB3]
      case true =>
        refine Tri.regN (t' := ?tq1fq2tq3t2) (H' := ?Hq1fq2tq3t2) TT_ok hC ?eq1fq2tq3t2 ?qq1fq2tq3t2
        case eq1fq2tq3t2 =>
          refine go_false ?_
          refine evSeq_go rfl (by simp [h0, hB1, hB2, hB3] <;> rfl) (by rfl) (by simp [fits_some, fits_none, hw, Nat.blt_eq]) ?_
          refine evSeq_go rfl (by simp [h0, hB1, hB2, hB3] <;> rfl) (by rfl) (by simp [fits_some, fits_none, hw, Nat.blt_eq]) ?_
          refine evSeq_go rfl (by simp [h0, hB1, hB2, hB3] <;> rfl) (by rfl) (by simp [fits_some, fits_none, hw, Nat.blt_eq]) ?_
          refine evSeq_off (by simp [wants, h0, hB1, hB2, hB3]) (by simp [fits_some, fits_none, hw, Nat.blt_eq]) ?_
          refine evSeq_off (by simp [wants, h0, hB1, hB2, hB3]) (by simp [fits_some, fits_none, hw, Nat.blt_eq]) ?_
          refine evSeq_go rfl (by simp [h0, hB1, hB2, hB3] <;> rfl) (by rfl) (by simp [fits_some, fits_none, hw, Nat.blt_eq]) ?_
          refine evSeq_go rfl (by simp [h0, hB1, hB2, hB3] <;> rfl) (by rfl) (by simp [fits_some, fits_none, hw, Nat.blt_eq]) ?_
          refine evSeq_go (by simp [wants, h0, hB1, hB2, hB3]) (by simp [h0, hB1, hB2, hB3] <;> rfl) (by rfl) (by simp [fits_some, fits_none, hw, Nat.blt_eq]) ?_
          refine evSeq_go (by simp [wants, h0, hB1, hB2, hB3]) (by simp [h0, hB1, hB2, hB3] <;> rfl) (by rfl) (by simp [fits_some, fits_none, hw, Nat.blt_eq]) ?_
          refine evSeq_go (by simp [wants, h0, hB1, hB2, hB3]) (by simp [h0, hB1, hB2, hB3] <;> rfl) (by rfl) (by simp [fits_some, fits_none, hw, Nat.blt_eq]) ?_
          refine evSeq_go (by simp [wants, h0, hB1, hB2, hB3]) (by simp [h0, hB1, hB2, hB3] <;> rfl) (by rfl) (by simp [fits_some, fits_none, hw, Nat.blt_eq]) ?_
          refine evSeq_go (by simp [wants, h0, hB1, hB2, hB3]) (by simp [h0, hB1, hB2, hB3] <;> rfl) (by rfl) (by simp [fits_some, fits_none, hw, Nat.blt_eq]) ?_
          refine evSeq_go (by simp [wants, h0, hB1, hB2, hB3]) (by simp [h0, hB1, hB2, hB3] <;> rfl) (by rfl) (by simp [fits_some, fits_none, hw, Nat.blt_eq]) ?_
          refine evSeq_go rfl (by simp [h0, hB1, hB2, hB3] <;> rfl) (by rfl) (by simp [fits_some, fits_none, hw, Nat.blt_eq]) ?_
          refine evSeq_go rfl (by simp [h0, hB1, hB2, hB3] <;> rfl) (by rfl) (by simp [fits_some, fits_none, hw, Nat.blt_eq]) ?_
          refine evSeq_off (by simp [wants, h0, hB1, hB2, hB3]) (by simp [fits_some, fits_none, hw, Nat.blt_eq]) ?_
          refine evSeq_off (by simp [wants, h0, hB1, hB2, hB3]) (by simp [fits_some, fits_none, hw, Nat.blt_eq]) ?_
          refine evSeq_go rfl (by simp [h0, hB1, hB2, hB3] <;> rfl) (by rfl) (by simp [fits_some, fits_none, hw, Nat.blt_eq]) ?_
          refine evSeq_go rfl (by simp [h0, hB1, hB2, hB3] <;> rfl) (by rfl) (by simp [fits_some, fits_none, hw, Nat.blt_eq]) ?_
          exact evSeq_nil
        refine inSeq_norm ?_
        refine Tri.ret ?_
        simp [Ends, finish, evResults, evResult, Tryz.f83, h0, hB1, hB2, hB3]
  case true =>
    cases hB4 : (decide (c ≤ 122) : Bool)
    case false =>
      cases hB5 : (decide (65 ≤ c) : Bool)
      case false =>
        refine Tri.regN (t' := ?tq1tq4fq5f2) (H' := ?Hq1tq4fq5f2) TT_ok hC ?eq1tq4fq5f2 ?qq1tq4fq5f2
        case eq1tq4fq5f2 =>
          refine go_false ?_
          refine evSeq_go rfl (by simp [h0, hB1, hB4, hB5] <;> rfl) (by rfl) (by simp [fits_some, fits_none, hw, Nat.blt_eq]) ?_
          refine evSeq_go rfl (by simp [h0, hB1, hB4, hB5] <;> rfl) (by rfl) (by simp [fits_some, fits_none, hw, Nat.blt_eq]) ?_
          refine evSeq_go rfl (by simp [h0, hB1, hB4, hB5] <;> rfl) (by rfl) (by simp [fits_some, fits_none, hw, Nat.blt_eq]) ?_
          refine evSeq_go (by simp [wants, h0, hB1, hB4, hB5]) (by simp [h0, hB1, hB4, hB5] <;> rfl) (by rfl) (by simp [fits_some, fits_none, hw, Nat.blt_eq]) ?_
          refine evSeq_go (by simp [wants, h0, hB1, hB4, hB5]) (by simp [h0, hB1, hB4, hB5] <;> rfl) (by rfl) (by simp [fits_some, fits_none, hw, Nat.blt_eq]) ?_
          refine evSeq_go rfl (by simp [h0, hB1, hB4, hB5] <;> rfl) (by rfl) (by simp [fits_some, fits_none, hw, Nat.blt_eq]) ?_
          refine evSeq_go rfl (by simp [h0, hB1, hB4, hB5] <;> rfl) (by rfl) (by simp [fits_some, fits_none, hw, Nat.blt_eq]) ?_
          refine evSeq_go (by simp [wants, h0, hB1, hB4, hB5]) (by simp [h0, hB1, hB4, hB5] <;> rfl) (by rfl) (by simp [fits_some, fits_none, hw, Nat.blt_eq]) ?_
          refine evSeq_go (by simp [wants, h0, hB1, hB4, hB5]) (by simp [h0, hB1, hB4, hB5] <;> rfl) (by rfl) (by simp [fits_some, fits_none, hw, Nat.blt_eq]) ?_
          refine evSeq_go (by simp [wants, h0, hB1, hB4, hB5]) (by simp [h0, hB1, hB4, hB5] <;> rfl) (by rfl) (by simp [fits_some, fits_none, hw, Nat.blt_eq]) ?_
          refine evSeq_off (by simp [wants, h0, hB1, hB4, hB5]) (by simp [fits_some, fits_none, hw, Nat.blt_eq]) ?_
          refine evSeq_off (by simp [wants, h0, hB1, hB4, hB5]) (by simp [fits_some, fits_none, hw, Nat.blt_eq]) ?_
          refine evSeq_go (by simp [wants, h0, hB1, hB4, hB5]) (by simp [h0, hB1, hB4, hB5] <;> rfl) (by rfl) (by simp [fits_some, fits_none, hw, Nat.blt_eq]) ?_
          refine evSeq_go rfl (by simp [h0, hB1, hB4, hB5] <;> rfl) (by rfl) (by simp [fits_some, fits_none, hw, Nat.blt_eq]) ?_
          refine evSeq_go rfl (by simp [h0, hB1, hB4, hB5] <;> rfl) (by rfl) (by simp [fits_some, fits_none, hw, Nat.blt_eq]) ?_
          refine evSeq_go (by simp [wants, h0, hB1, hB4, hB5]) (by simp [h0, hB1, hB4, hB5] <;> rfl) (by rfl) (by simp [fits_some, fits_none, hw, Nat.blt_eq]) ?_
          refine evSeq_go (by simp [wants, h0, hB1, hB4, hB5]) (by simp [h0, hB1, hB4, hB5] <;> rfl) (by rfl) (by simp [fits_some, fits_none, hw, Nat.blt_eq]) ?_
          refine evSeq_go rfl (by simp [h0, hB1, hB4, hB5] <;> rfl) (by rfl) (by simp [fits_some, fits_none, hw, Nat.blt_eq]) ?_
          refine evSeq_go rfl (by simp [h0, hB1, hB4, hB5] <;> rfl) (by rfl) (by simp [fits_some, fits_none, hw, Nat.blt_eq]) ?_
          exact evSeq_nil
        refine inSeq_norm ?_
        refine Tri.ret ?_
        simp [Ends, finish, evResults, evResult, Tryz.f83, h0, hB1, hB4, hB5]
      case true =>
        cases hB6 : (decide (c ≤ 90) : Bool)
        case false =>
          refine Tri.regN (t' := ?tq1tq4fq5tq6f2) (H' := ?Hq1tq4fq5tq6f2) TT_ok hC ?eq1tq4fq5tq6f2 ?qq1tq4fq5tq6f2
          case eq1tq4fq5tq6f2 =>
            refine go_false ?_
            refine evSeq_go rfl (by simp [h0, hB1, hB4, hB5, hB6] <;> rfl) (by rfl) (by simp [fits_some, fits_none, hw, Nat.blt_eq]) ?_
            refine evSeq_go rfl (by simp [h0, hB1, hB4, hB5, hB6] <;> rfl) (by rfl) (by simp [fits_some, fits_none, hw, Nat.blt_eq]) ?_
            refine evSeq_go rfl (by simp [h0, hB1, hB4, hB5, hB6] <;> rfl) (by rfl) (by simp [fits_some, fits_none, hw, Nat.blt_eq]) ?_
            refine evSeq_go (by simp [wants, h0, hB1, hB4, hB5, hB6]) (by simp [h0, hB1, hB4, hB5, hB6] <;> rfl) (by rfl) (by simp [fits_some, fits_none, hw, Nat.blt_eq]) ?_
            refine evSeq_go (by simp [wants, h0, hB1, hB4, hB5, hB6]) (by simp [h0, hB1, hB4, hB5, hB6] <;> rfl) (by rfl) (by simp [fits_some, fits_none, hw, Nat.blt_eq]) ?_
            refine evSeq_go rfl (by simp [h0, hB1, hB4, hB5, hB6] <;> rfl) (by rfl) (by simp [fits_some, fits_none, hw, Nat.blt_eq]) ?_
            refine evSeq_go rfl (by simp [h0, hB1, hB4, hB5, hB6] <;> rfl) (by rfl) (by simp [fits_some, fits_none, hw, Nat.blt_eq]) ?_
            refine evSeq_go (by simp [wants, h0, hB1, hB4, hB5, hB6]) (by simp [h0, hB1, hB4, hB5, hB6] <;> rfl) (by rfl) (by simp [fits_some, fits_none, hw, Nat.blt_eq]) ?_
            refine evSeq_go (by simp [wants, h0, hB1, hB4, hB5, hB6]) (by simp [h0, hB1, hB4, hB5, hB6] <;> rfl) (by rfl) (by simp [fits_some, fits_none, hw, Nat.blt_eq]) ?_
            refine evSeq_go (by simp [wants, h0, hB1, hB4, hB5, hB6]) (by simp [h0, hB1, hB4, hB5, hB6] <;> rfl) (by rfl) (by simp [fits_some, fits_none, hw, Nat.blt_eq]) ?_
            refine evSeq_go (by simp [wants, h0, hB1, hB4, hB5, hB6]) (by simp [h0, hB1, hB4, hB5, hB6] <;> rfl) (by rfl) (by simp [fits_some, fits_none, hw, Nat.blt_eq]) ?_
            refine evSeq_go (by simp [wants, h0, hB1, hB4, hB5, hB6]) (by simp [h0, hB1, hB4, hB5, hB6] <;> rfl) (by rfl) (by simp [fits_some, fits_none, hw, Nat.blt_eq]) ?_
            refine evSeq_go (by simp [wants, h0, hB1, hB4, hB5, hB6]) (by simp [h0, hB1, hB4, hB5, hB6] <;> rfl) (by rfl) (by simp [fits_some, fits_none, hw, Nat.blt_eq]) ?_
            refine evSeq_go rfl (by simp [h0, hB1, hB4, hB5, hB6] <;> rfl) (by rfl) (by simp [fits_some, fits_none, hw, Nat.blt_eq]) ?_
            refine evSeq_go rfl (by simp [h0, hB1, hB4, hB5, hB6] <;> rfl) (by rfl) (by simp [fits_some, fits_none, hw, Nat.blt_eq]) ?_
            refine evSeq_go (by simp [wants, h0, hB1, hB4, hB5, hB6]) (by simp [h0, hB1, hB4, hB5, hB6] <;> rfl) (by rfl) (by simp [fits_some, fits_none, hw, Nat.blt_eq]) ?_
            refine evSeq_go (by simp [wants, h0, hB1, hB4, hB5, hB6]) (by simp [h0, hB1, hB4, hB5, hB6] <;> rfl) (by rfl) (by simp [fits_some, fits_none, hw, Nat.blt_eq]) ?_
            refine evSeq_go rfl (by simp [h0, hB1, hB4, hB5, hB6] <;> rfl) (by rfl) (by simp [fits_some, fits_none, hw, Nat.blt_eq]) ?_
            refine evSeq_go rfl (by simp [h0, hB1, hB4, hB5, hB6] <;> rfl) (by rfl) (by simp [fits_some, fits_none, hw, Nat.blt_eq]) ?_
            exact evSeq_nil
          refine inSeq_norm ?_
          refine Tri.ret ?_
          simp [Ends, finish, evResults, evResult, Tryz.f83, h0, hB1, hB4, hB5, hB6]
        case true =>
          refine Tri.regN (t' := ?tq1tq4fq5tq6t2) (H' := ?Hq1tq4fq5tq6t2) TT_ok hC ?eq1tq4fq5tq6t2 ?qq1tq4fq5tq6t2
          case eq1tq4fq5tq6t2 =>
            refine go_false ?_
            refine evSeq_go rfl (by simp [h0, hB1, hB4, hB5, hB6] <;> rfl) (by rfl) (by simp [fits_some, fits_none, hw, Nat.blt_eq]) ?_
            refine evSeq_go rfl (by simp [h0, hB1, hB4, hB5, hB6] <;> rfl) (by rfl) (by simp [fits_some, fits_none, hw, Nat.blt_eq]) ?_
            refine evSeq_go rfl (by simp [h0, hB1, hB4, hB5, hB6] <;> rfl) (by rfl) (by simp [fits_some, fits_none, hw, Nat.blt_eq]) ?_
            refine evSeq_go (by simp [wants, h0, hB1, hB4, hB5, hB6]) (by simp [h0, hB1, hB4, hB5, hB6] <;> rfl) (by rfl) (by simp [fits_some, fits_none, hw, Nat.blt_eq]) ?_
            refine evSeq_go (by simp [wants, h0, hB1, hB4, hB5, hB6]) (by simp [h0, hB1, hB4, hB5, hB6] <;> rfl) (by rfl) (by simp [fits_some, fits_none, hw, Nat.blt_eq]) ?_
            refine evSeq_go rfl (by simp [h0, hB1, hB4, hB5, hB6] <;> rfl) (by rfl) (by simp [fits_some, fits_none, hw, Nat.blt_eq]) ?_
            refine evSeq_go rfl (by simp [h0, hB1, hB4, hB5, hB6] <;> rfl) (by rfl) (by simp [fits_some, fits_none, hw, Nat.blt_eq]) ?_
            refine evSeq_go (by simp [wants, h0, hB1, hB4, hB5, hB6]) (by simp [h0, hB1, hB4, hB5, hB6] <;> rfl) (by rfl) (by simp [fits_some, fits_none, hw, Nat.blt_eq]) ?_
            refine evSeq_go (by simp [wants, h0, hB1, hB4, hB5, hB6]) (by simp [h0, hB1, hB4, hB5, hB6] <;> rfl) (by rfl) (by simp [fits_some, fits_none, hw, Nat.blt_eq]) ?_
            refine evSeq_go (by simp [wants, h0, hB1, hB4, hB5, hB6]) (by simp [h0, hB1, hB4, hB5, hB6] <;> rfl) (by rfl) (by simp [fits_some, fits_none, hw, Nat.blt_eq]) ?_
            refine evSeq_go (by simp [wants, h0, hB1, hB4, hB5, hB6]) (by simp [h0, hB1, hB4, hB5, hB6] <;> rfl) (by rfl) (by simp [fits_some, fits_none, hw, Nat.blt_eq]) ?_
            refine evSeq_go (by simp [wants, h0, hB1, hB4, hB5, hB6]) (by simp [h0, hB1, hB4, hB5, hB6] <;> rfl) (by rfl) (by simp [fits_some, fits_none, hw, Nat.blt_eq]) ?_
            refine evSeq_go (by simp [wants, h0, hB1, hB4, hB5, hB6]) (by simp [h0, hB1, hB4, hB5, hB6] <;> rfl) (by rfl) (by simp [fits_some, fits_none, hw, Nat.blt_eq]) ?_
            refine evSeq_go rfl (by simp [h0, hB1, hB4, hB5, hB6] <;> rfl) (by rfl) (by simp [fits_some, fits_none, hw, Nat.blt_eq]) ?_
            refine evSeq_go rfl (by simp [h0, hB1, hB4, hB5, hB6] <;> rfl) (by rfl) (by simp [fits_some, fits_none, hw, Nat.blt_eq]) ?_
            refine evSeq_off (by simp [wants, h0, hB1, hB4, hB5, hB6]) (by simp [fits_some, fits_none, hw, Nat.blt_eq]) ?_
            refine evSeq_off (by simp [wants, h0, hB1, hB4, hB5, hB6]) (by simp [fits_some, fits_none, hw, Nat.blt_eq]) ?_
            refine evSeq_go rfl (by simp [h0, hB1, hB4, hB5, hB6] <;> rfl) (by rfl) (by simp [fits_some, fits_none, hw, Nat.blt_eq]) ?_
            refine evSeq_go rfl (by simp [h0, hB1, hB4, hB5, hB6] <;> rfl) (by rfl) (by simp [fits_some, fits_none, hw, Nat.blt_eq]) ?_
            exact evSeq_nil
          refine inSeq_norm ?_
          refine Tri.ret ?_
          simp [Ends, finish, evResults, evResult, Tryz.f83, h0, hB1, hB4, hB5, hB6]
    case true =>
      refine Tri.regN (t' := ?tq1tq4t2) (H' := ?Hq1tq4t2) TT_ok hC ?eq1tq4t2 ?qq1tq4t2
      case eq1tq4t2 =>
        refine go_false ?_
        refine evSeq_go rfl (by simp [h0, hB1, hB4] <;> rfl) (by rfl) (by simp [fits_some, fits_none, hw, Nat.blt_eq]) ?_
        refine evSeq_go rfl (by simp [h0, hB1, hB4] <;> rfl) (by rfl) (by simp [fits_some, fits_none, hw, Nat.blt_eq]) ?_
        refine evSeq_go rfl (by simp [h0, hB1, hB4] <;> rfl) (by rfl) (by simp [fits_some, fits_none, hw, Nat.blt_eq]) ?_
        refine evSeq_go (by simp [wants, h0, hB1, hB4]) (by simp [h0, hB1, hB4] <;> rfl) (by rfl) (by simp [fits_some, fits_none, hw, Nat.blt_eq]) ?_
        refine evSeq_go (by simp [wants, h0, hB1, hB4]) (by simp [h0, hB1, hB4] <;> rfl) (by rfl) (by simp [fits_some, fits_none, hw, Nat.blt_eq]) ?_
        refine evSeq_go rfl (by simp [h0, hB1, hB4] <;> rfl) (by rfl) (by simp [fits_some, fits_none, hw, Nat.blt_eq]) ?_
        refine evSeq_go rfl (by simp [h0, hB1, hB4] <;> rfl) (by rfl) (by simp [fits_some, fits_none, hw, Nat.blt_eq]) ?_
        refine evSeq_off (by simp [wants, h0, hB1, hB4]) (by simp [fits_some, fits_none, hw, Nat.blt_eq]) ?_
        refine evSeq_off (by simp [wants, h0, hB1, hB4]) (by simp [fits_some, fits_none, hw, Nat.blt_eq]) ?_
        refine evSeq_off (by simp [wants, h0, hB1, hB4]) (by simp [fits_some, fits_none, hw, Nat.blt_eq]) ?_
        refine evSeq_off (by simp [wants, h0, hB1, hB4]) (by simp [fits_some, fits_none, hw, Nat.blt_eq]) ?_
        refine evSeq_off (by simp [wants, h0, hB1, hB4]) (by simp [fits_some, fits_none, hw, Nat.blt_eq]) ?_
        refine evSeq_off (by simp [wants, h0, hB1, hB4]) (by simp [fits_some, fits_none, hw, Nat.blt_eq]) ?_
        refine evSeq_go rfl (by simp [h0, hB1, hB4] <;> rfl) (by rfl) (by simp [fits_some, fits_none, hw, Nat.blt_eq]) ?_
        refine evSeq_go rfl (by simp [h0, hB1, hB4] <;> rfl) (by rfl) (by simp [fits_some, fits_none, hw, Nat.blt_eq]) ?_
        refine evSeq_off (by simp [wants, h0, hB1, hB4]) (by simp [fits_some, fits_none, hw, Nat.blt_eq]) ?_
        refine evSeq_off (by simp [wants, h0, hB1, hB4]) (by simp [fits_some, fits_none, hw, Nat.blt_eq]) ?_
        refine evSeq_go rfl (by simp [h0, hB1, hB4] <;> rfl) (by rfl) (by simp [fits_some, fits_none, hw, Nat.blt_eq]) ?_
        refine evSeq_go rfl (by simp [h0, hB1, hB4] <;> rfl) (by rfl) (by simp [fits_some, fits_none, hw, Nat.blt_eq]) ?_
        exact evSeq_nil
      refine inSeq_norm ?_
      refine Tri.ret ?_
      simp [Ends, finish, evResults, evResult, Tryz.f83, h0, hB1, hB4]
theorem body_99 {call : CallF} (hC : call.Sound Tryz.prog TT) (c : Int) : Body Tryz.prog TT 99 [.i .u8 c] (.val (.b (decide (48 ≤ c) && decide (c ≤ 57)))) := by
  refine ⟨Tryz.f99, _, rfl, rfl, by simp [Tryz.f99], ?_⟩
  have h0 : (Tm.init Tryz.f99.ntmps [.i .u8 c]).get 0 = .i .u8 c := by rw [get_init]; rfl
  have hw : (Tm.init Tryz.f99.ntmps [.i .u8 c]).wid = 9 := rfl
  generalize Tm.init Tryz.f99.ntmps [.i .u8 c] = t at *
  try simp only [Nd.enc_eq] at *
  refine Tri.seq' ?_
  refine Tri.regN (t' := ?t1) (H' := ?H1) TT_ok hC ?e1 ?q1
  case e1 =>
    refine go_false ?_
    refine evSeq_go rfl (by simp [h0] <;> rfl) (by rfl) (by simp [fits_some, fits_none, hw, Nat.blt_eq]) ?_
    exact evSeq_nil
  refine inSeq_norm ?_
  refine Tri.seq' ?_
  cases hB1 : (decide (48 ≤ c) : Bool)
  case false =>
    refine Tri.regN (t' := ?tq1f2) (H' := ?Hq1f2) TT_ok hC ?eq1f2 ?qq1f2
    case eq1f2 =>
      refine go_false ?_
      refine evSeq_go rfl (by simp [h0, hB1] <;> rfl) (by rfl) (by simp [fits_some, fits_none, hw, Nat.blt_eq]) ?_
      refine evSeq_go rfl (by simp [h0, hB1] <;> rfl) (by rfl) (by simp [fits_some, fits_none, hw, Nat.blt_eq]) ?_
      refine evSeq_go rfl (by simp [h0, hB1] <;> rfl) (by rfl) (by simp [fits_some, fits_none, hw, Nat.blt_eq]) ?_
      refine evSeq_off (by simp [wants, h0, hB1]) (by simp [fits_some, fits_none, hw, Nat.blt_eq]) ?_
      refine evSeq_off (by simp [wants, h0, hB1]) (by simp [fits_some, fits_none, hw, Nat.blt_eq]) ?_
      refine evSeq_go rfl (by simp [h0, hB1] <;> rfl) (by rfl) (by simp [fits_some, fits_none, hw, Nat.blt_eq]) ?_
      refine evSeq_go rfl (by simp [h0, hB1] <;> rfl) (by rfl) (by simp [fits_some, fits_none, hw, Nat.blt_eq]) ?_
      exact evSeq_nil
    refine inSeq_norm ?_
    refine Tri.ret ?_
    simp [Ends, finish, evResults, evResult, Tryz.f99, h0, hB1]
  case true =>
    refine Tri.regN (t' := ?tq1t2) (H' := ?Hq1t2) TT_ok hC ?eq1t2 ?qq1t2
    case eq1t2 =>
      refine go_false ?_
      refine evSeq_go rfl (by simp [h0, hB1] <;> rfl) (by rfl) (by simp [fits_some, fits_none, hw, Nat.blt_eq]) ?_
      refine evSeq_go rfl (by simp [h0, hB1] <;> rfl) (by rfl) (by simp [fits_some, fits_none, hw, Nat.blt_eq]) ?_
      refine evSeq_go rfl (by simp [h0, hB1] <;> rfl) (by rfl) (by simp [fits_some, fits_none, hw, Nat.blt_eq]) ?_
      refine evSeq_go (by simp [wants, h0, hB1]) (by simp [h0, hB1] <;> rfl) (by rfl) (by simp [fits_some, fits_none, hw, Nat.blt_eq]) ?_
      refine evSeq_go (by simp [wants, h0, hB1]) (by simp [h0, hB1] <;> rfl) (by rfl) (by simp [fits_some, fits_none, hw, Nat.blt_eq]) ?_
      refine evSeq_go rfl (by simp [h0, hB1] <;> rfl) (by rfl) (by simp [fits_some, fits_none, hw, Nat.blt_eq]) ?_
      refine evSeq_go rfl (by simp [h0, hB1] <;> rfl) (by rfl) (by simp [fits_some, fits_none, hw, Nat.blt_eq]) ?_
      exact evSeq_nil
    refine inSeq_norm ?_
    refine Tri.ret ?_
    simp [Ends, finish, evResults, evResult, Tryz.f99, h0, hB1]
theorem body_84 {call : CallF} (hC : call.Sound Tryz.prog TT) (c : Int) (b b2 : Bool) (hs : ∀ H, call 83 [.i .u8 c] H = .val (.b b) H) (h2 : ∀ H, call 99 [.i .u8 c] H = .val (.b b2) H) : Body Tryz.prog TT 84 [.i .u8 c] (.val (.b (b || b2))) := by
  refine ⟨Tryz.f84, _, rfl, rfl, by simp [Tryz.f84], ?_⟩
  have h0 : (Tm.init Tryz.f84.ntmps [.i .u8 c]).get 0 = .i .u8 c := by rw [get_init]; rfl
  have hw : (Tm.init Tryz.f84.ntmps [.i .u8 c]).wid = 9 := rfl
  generalize Tm.init Tryz.f84.ntmps [.i .u8 c] = t at *
  try simp only [Nd.enc_eq] at *
  refine Tri.seq' ?_
  refine Tri.regN (t' := ?t1) (H' := ?H1) TT_ok hC ?e1 ?q1
  case e1 =>
    refine go_false ?_
    refine evSeq_go rfl (by simp [h0, hs, h2] <;> rfl) (by rfl) (by simp [fits_some, fits_none, hw, Nat.blt_eq]) ?_
    exact evSeq_nil
  refine inSeq_norm ?_
  refine Tri.seq' ?_
  cases hB1 : (b : Bool)
  case false =>
    refine Tri.regN (t' := ?tq1f2) (H' := ?Hq1f2) TT_ok hC ?eq1f2 ?qq1f2
    case eq1f2 =>
      refine go_false ?_
      refine evSeq_go rfl (by simp [h0, hs, h2, hB1] <;> rfl) (by rfl) (by simp [fits_some, fits_none, hw, Nat.blt_eq]) ?_
      refine evSeq_go rfl (by simp [h0, hs, h2, hB1] <;> rfl) (by rfl) (by simp [fits_some, fits_none, hw, Nat.blt_eq]) ?_
      refine evSeq_go rfl (by simp [h0, hs, h2, hB1] <;> rfl) (by rfl) (by simp [fits_some, fits_none, hw, Nat.blt_eq]) ?_
      refine evSeq_go (by simp [wants, h0, hs, h2, hB1]) (by simp [h0, hs, h2, hB1] <;> rfl) (by rfl) (by simp [fits_some, fits_none, hw, Nat.blt_eq]) ?_
      refine evSeq_go (by simp [wants, h0, hs, h2, hB1]) (by simp [h0, hs, h2, hB1] <;> rfl) (by rfl) (by simp [fits_some, fits_none, hw, Nat.blt_eq]) ?_
      refine evSeq_go rfl (by simp [h0, hs, h2, hB1] <;> rfl) (by rfl) (by simp [fits_some, fits_none, hw, Nat.blt_eq]) ?_
      refine evSeq_go rfl (by simp [h0, hs, h2, hB1] <;> rfl) (by rfl) (by simp [fits_some, fits_none, hw, Nat.blt_eq]) ?_
      exact evSeq_nil
    refine inSeq_norm ?_
    refine Tri.ret ?_
    simp [Ends, finish, evResults, evResult, Tryz.f84, h0, hs, h2, hB1]
  case true =>
    refine Tri.regN (t' := ?tq1t2) (H' := ?Hq1t2) TT_ok hC ?eq1t2 ?qq1t2
    case eq1t2 =>
      refine go_false ?_
      refine evSeq_go rfl (by simp [h0, hs, h2, hB1] <;> rfl) (by rfl) (by simp [fits_some, fits_none, hw, Nat.blt_eq]) ?_
      refine evSeq_go rfl (by simp [h0, hs, h2, hB1] <;> rfl) (by rfl) (by simp [fits_some, fits_none, hw, Nat.blt_eq]) ?_
      refine evSeq_go rfl (by simp [h0, hs, h2, hB1] <;> rfl) (by rfl) (by simp [fits_some, fits_none, hw, Nat.blt_eq]) ?_
      refine evSeq_off (by simp [wants, h0, hs, h2, hB1]) (by simp [fits_some, fits_none, hw, Nat.blt_eq]) ?_
      refine evSeq_off (by simp [wants, h0, hs, h2, hB1]) (by simp [fits_some, fits_none, hw, Nat.blt_eq]) ?_
      refine evSeq_go rfl (by simp [h0, hs, h2, hB1] <;> rfl) (by rfl) (by simp [fits_some, fits_none, hw, Nat.blt_eq]) ?_
      refine evSeq_go rfl (by simp [h0, hs, h2, hB1] <;> rfl) (by rfl) (by simp [fits_some, fits_none, hw, Nat.blt_eq]) ?_
      exact evSeq_nil
    refine inSeq_norm ?_
    refine Tri.ret ?_
    simp [Ends, finish, evResults, evResult, Tryz.f84, h0, hs, h2, hB1]
theorem body_26a {call : CallF} (hC : call.Sound Tryz.prog TT) (s : List UInt8) (b : Bool) (hl : decide ((s.length : Int) ≤ 60) = true) (hs : ∀ H, call 52 [.s s] H = .val (.b b) H) : Body Tryz.prog TT 26 [.s s] (.val (.b b)) := by
  refine ⟨Tryz.f26, _, rfl, rfl, by simp [Tryz.f26], ?_⟩
  have h0 : (Tm.init Tryz.f26.ntmps [.s s]).get 0 = .s s := by rw [get_init]; rfl
  have hw : (Tm.init Tryz.f26.ntmps [.s s]).wid = 10 := rfl
  generalize Tm.init Tryz.f26.ntmps [.s s] = t at *
  try simp only [Nd.enc_eq] at *
  refine Tri.seq' ?_
  refine Tri.regN (t' := ?t1) (H' := ?H1) TT_ok hC ?e1 ?q1
  case e1 =>
    refine go_false ?_
    refine evSeq_go rfl (by simp [h0, hs, hl] <;> rfl) (by rfl) (by simp [fits_some, fits_none, hw, Nat.blt_eq]) ?_
    exact evSeq_nil
  refine inSeq_norm ?_
  refine Tri.seq' ?_
  refine Tri.regN (t' := ?t2) (H' := ?H2) TT_ok hC ?e2 ?q2
  case e2 =>
    refine go_false ?_
    refine evSeq_go rfl (by simp [h0, hs, hl] <;> rfl) (by rfl) (by simp [fits_some, fits_none, hw, Nat.blt_eq]) ?_
    refine evSeq_go rfl (by simp [h0, hs, hl] <;> rfl) (by rfl) (by simp [fits_some, fits_none, hw, Nat.blt_eq]) ?_
    refine evSeq_go rfl (by simp [h0, hs, hl] <;> rfl) (by rfl) (by simp [fits_some, fits_none, hw, Nat.blt_eq]) ?_
    refine evSeq_go rfl (by simp [h0, hs, hl] <;> rfl) (by rfl) (by simp [fits_some, fits_none, hw, Nat.blt_eq]) ?_
    refine evSeq_go (by simp [wants, h0, hs, hl]) (by simp [h0, hs, hl] <;> rfl) (by rfl) (by simp [fits_some, fits_none, hw, Nat.blt_eq]) ?_
    refine evSeq_go (by simp [wants, h0, hs, hl]) (by simp [h0, hs, hl] <;> rfl) (by rfl) (by simp [fits_some, fits_none, hw, Nat.blt_eq]) ?_
    refine evSeq_go rfl (by simp [h0, hs, hl] <;> rfl) (by rfl) (by simp [fits_some, fits_none, hw, Nat.blt_eq]) ?_
    refine evSeq_go rfl (by simp [h0, hs, hl] <;> rfl) (by rfl) (by simp [fits_some, fits_none, hw, Nat.blt_eq]) ?_
    exact evSeq_nil
  refine inSeq_norm ?_
  refine Tri.ret ?_
  simp [Ends, finish, evResults, evResult, Tryz.f26, h0, hs, hl]
theorem body_26b {call : CallF} (hC : call.Sound Tryz.prog TT) (s : List UInt8) (hl : decide ((s.length : Int) ≤ 60) = false) : Body Tryz.prog TT 26 [.s s] (.val (.b false)) := by
  refine ⟨Tryz.f26, _, rfl, rfl, by simp [Tryz.f26], ?_⟩
  have h0 : (Tm.init Tryz.f26.ntmps [.s s]).get 0 = .s s := by rw [get_init]; rfl
  have hw : (Tm.init Tryz.f26.ntmps [.s s]).wid = 10 := rfl
  generalize Tm.init Tryz.f26.ntmps [.s s] = t at *
  try simp only [Nd.enc_eq] at *
  refine Tri.seq' ?_
  refine Tri.regN (t' := ?t1) (H' := ?H1) TT_ok hC ?e1 ?q1
  case e1 =>
    refine go_false ?_
    refine evSeq_go rfl (by simp [h0, hl] <;> rfl) (by rfl) (by simp [fits_some, fits_none, hw, Nat.blt_eq]) ?_
    exact evSeq_nil
  refine inSeq_norm ?_
  refine Tri.seq' ?_
  refine Tri.regN (t' := ?t2) (H' := ?H2) TT_ok hC ?e2 ?q2
  case e2 =>
    refine go_false ?_
    refine evSeq_go rfl (by simp [h0, hl] <;> rfl) (by rfl) (by simp [fits_some, fits_none, hw, Nat.blt_eq]) ?_
    refine evSeq_go rfl (by simp [h0, hl] <;> rfl) (by rfl) (by simp [fits_some, fits_none, hw, Nat.blt_eq]) ?_
    refine evSeq_go rfl (by simp [h0, hl] <;> rfl) (by rfl) (by simp [fits_some, fits_none, hw, Nat.blt_eq]) ?_
    refine evSeq_go rfl (by simp [h0, hl] <;> rfl) (by rfl) (by simp [fits_some, fits_none, hw, Nat.blt_eq]) ?_
    refine evSeq_off (by simp [wants, h0, hl]) (by simp [fits_some, fits_none, hw, Nat.blt_eq]) ?_
    refine evSeq_off (by simp [wants, h0, hl]) (by simp [fits_some, fits_none, hw, Nat.blt_eq]) ?_
    refine evSeq_go rfl (by simp [h0, hl] <;> rfl) (by rfl) (by simp [fits_some, fits_none, hw, Nat.blt_eq]) ?_
    refine evSeq_go rfl (by simp [h0, hl] <;> rfl) (by rfl) (by simp [fits_some, fits_none, hw, Nat.blt_eq]) ?_
    exact evSeq_nil
  refine inSeq_norm ?_
  refine Tri.ret ?_
  simp [Ends, finish, evResults, evResult, Tryz.f26, h0, hl]
theorem body_42 {call : CallF} (hC : call.Sound Tryz.prog TT) (x : Nd) (v : V) (b : Bool) (hs : ∀ H, call 16 [v, x.enc] H = .val (.b b) H) : Body Tryz.prog TT 42 [x.enc, .ipt 1 [.agg [v]] 0 0] (.val (.b (!b))) := by
  refine ⟨Tryz.f42, _, rfl, rfl, by simp [Tryz.f42], ?_⟩
  have h0 : (Tm.init Tryz.f42.ntmps [x.enc, .ipt 1 [.agg [v]] 0 0]).get 0 = x.enc := by rw [get_init]; rfl
  have h1 : (Tm.init Tryz.f42.ntmps [x.enc, .ipt 1 [.agg [v]] 0 0]).get 1 = .ipt 1 [.agg [v]] 0 0 := by rw [get_init]; rfl
  have hw : (Tm.init Tryz.f42.ntmps [x.enc, .ipt 1 [.agg [v]] 0 0]).wid = 8 := rfl
  generalize Tm.init Tryz.f42.ntmps [x.enc, .ipt 1 [.agg [v]] 0 0] = t at *
  try simp only [Nd.enc_eq] at *
  refine Tri.seq' ?_
  refine Tri.regN (t' := ?t1) (H' := ?H1) TT_ok hC ?e1 ?q1
  case e1 =>
    refine go_false ?_
    refine evSeq_go rfl (by simp [h0, h1, hs] <;> rfl) (by rfl) (by simp [fits_some, fits_none, hw, Nat.blt_eq]) ?_
    refine evSeq_go rfl (by simp [h0, h1, hs] <;> rfl) (by rfl) (by simp [fits_some, fits_none, hw, Nat.blt_eq]) ?_
    exact evSeq_nil
  refine inSeq_norm ?_
  refine Tri.seq' ?_
  refine Tri.regN (t' := ?t2) (H' := ?H2) TT_ok hC ?e2 ?q2
  case e2 =>
    refine go_false ?_
    refine evSeq_go rfl (by simp [h0, h1, hs] <;> rfl) (by rfl) (by simp [fits_some, fits_none, hw, Nat.blt_eq]) ?_
    refine evSeq_go rfl (by simp [h0, h1, hs] <;> rfl) (by rfl) (by simp [fits_some, fits_none, hw, Nat.blt_eq]) ?_
    refine evSeq_go rfl (by simp [h0, h1, hs] <;> rfl) (by rfl) (by simp [fits_some, fits_none, hw, Nat.blt_eq]) ?_
    refine evSeq_go rfl (by simp [h0, h1, hs] <;> rfl) (by rfl) (by simp [fits_some, fits_none, hw, Nat.blt_eq]) ?_
    refine evSeq_go rfl (by simp [h0, h1, hs] <;> rfl) (by rfl) (by simp [fits_some, fits_none, hw, Nat.blt_eq]) ?_
    exact evSeq_nil
  refine inSeq_norm ?_
  refine Tri.ret ?_
  simp [Ends, finish, evResults, evResult, Tryz.f42, h0, h1, hs]
theorem body_64 {call : CallF} (hC : call.Sound Tryz.prog TT) (x : Nd) (b : Bool) (hs : ∀ H, call 38 [x.enc] H = .val (.b b) H) : Body Tryz.prog TT 64 [x.enc] (.val (.b (!b))) := by
  refine ⟨Tryz.f64, _, rfl, rfl, by simp [Tryz.f64], ?_⟩
  have h0 : (Tm.init Tryz.f64.ntmps [x.enc]).get 0 = x.enc := by rw [get_init]; rfl
  have hw : (Tm.init Tryz.f64.ntmps [x.enc]).wid = 6 := rfl
  generalize Tm.init Tryz.f64.ntmps [x.enc] = t at *
  try simp only [Nd.enc_eq] at *
  refine Tri.seq' ?_
  refine Tri.regN (t' := ?t1) (H' := ?H1) TT_ok hC ?e1 ?q1
  case e1 =>
    refine go_false ?_
    refine evSeq_go rfl (by simp [h0, hs] <;> rfl) (by rfl) (by simp [fits_some, fits_none, hw, Nat.blt_eq]) ?_
    refine evSeq_go rfl (by simp [h0, hs] <;> rfl) (by rfl) (by simp [fits_some, fits_none, hw, Nat.blt_eq]) ?_
    exact evSeq_nil
  refine inSeq_norm ?_
  refine Tri.seq' ?_
  refine Tri.regN (t' := ?t2) (H' := ?H2) TT_ok hC ?e2 ?q2
  case e2 =>
    refine go_false ?_
    refine evSeq_go rfl (by simp [h0, hs] <;> rfl) (by rfl) (by simp [fits_some, fits_none, hw, Nat.blt_eq]) ?_
    refine evSeq_go rfl (by simp [h0, hs] <;> rfl) (by rfl) (by simp [fits_some, fits_none, hw, Nat.blt_eq]) ?_
    refine evSeq_go rfl (by simp [h0, hs] <;> rfl) (by rfl) (by simp [fits_some, fits_none, hw, Nat.blt_eq]) ?_
    refine evSeq_go rfl (by simp [h0, hs] <;> rfl) (by rfl) (by simp [fits_some, fits_none, hw, Nat.blt_eq]) ?_
    exact evSeq_nil
  refine inSeq_norm ?_
  refine Tri.ret ?_
  simp [Ends, finish, evResults, evResult, Tryz.f64, h0, hs]
end Go.Ev
