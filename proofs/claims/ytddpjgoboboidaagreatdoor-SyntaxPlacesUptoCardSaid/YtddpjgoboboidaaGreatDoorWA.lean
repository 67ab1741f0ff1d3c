/- Walks over the small functions of the trees. -/
import Derived.Test.YtddpjgoboboidaaGreatDoorNodes
namespace Go.Ev
open Go Go.Proofs
set_option maxRecDepth 100000
set_option linter.unusedSimpArgs false
set_option linter.unusedVariables false
theorem body_4 {call : CallF} (hC : call.Sound Tryz.prog TT) (x : Nd) (m : Int) (hs : ∀ H, call 24 [x.enc, .i .i64 m] H = .val (.i .i64 (sz x m)) H) : Body Tryz.prog TT 6 [x.enc, .i .i64 m] (.val (.b (decide (sz x m ≤ m)))) := by
  refine ⟨Tryz.f6, _, rfl, rfl, by simp [Tryz.f6], ?_⟩
  have h0 : (Tm.init Tryz.f6.ntmps [x.enc, .i .i64 m]).get 0 = x.enc := by rw [get_init]; rfl
  have h1 : (Tm.init Tryz.f6.ntmps [x.enc, .i .i64 m]).get 1 = .i .i64 m := by rw [get_init]; rfl
  have hw : (Tm.init Tryz.f6.ntmps [x.enc, .i .i64 m]).wid = 10 := rfl
  generalize Tm.init Tryz.f6.ntmps [x.enc, .i .i64 m] = t at *
  try simp only [Nd.enc_eq] at *
  refine Tri.seq' ?_
  refine Tri.regN (t' := ?t1) (H' := ?H1) TT_ok hC ?e1 ?q1
  case e1 =>
    refine go_false ?_
    refine evSeq_go rfl (by simp [h0, h1, hs] <;> rfl) (by rfl) (by simp [hw]) ?_
    refine evSeq_go rfl (by simp [h0, h1, hs] <;> rfl) (by rfl) (by simp [hw]) ?_
    exact evSeq_nil
  refine inSeq_norm ?_
  refine Tri.seq' ?_
  refine Tri.regN (t' := ?t2) (H' := ?H2) TT_ok hC ?e2 ?q2
  case e2 =>
    refine go_false ?_
    refine evSeq_go rfl (by simp [h0, h1, hs] <;> rfl) (by rfl) (by simp [hw]) ?_
    refine evSeq_go rfl (by simp [h0, h1, hs] <;> rfl) (by rfl) (by simp [hw]) ?_
    refine evSeq_go rfl (by simp [h0, h1, hs] <;> rfl) (by rfl) (by simp [hw]) ?_
    refine evSeq_go rfl (by simp [h0, h1, hs] <;> rfl) (by rfl) (by simp [hw]) ?_
    refine evSeq_go rfl (by simp [h0, h1, hs] <;> rfl) (by rfl) (by simp [hw]) ?_
    refine evSeq_go rfl (by simp [h0, h1, hs] <;> rfl) (by rfl) (by simp [hw]) ?_
    exact evSeq_nil
  refine inSeq_norm ?_
  refine Tri.ret ?_
  simp [Ends, finish, evResults, evResult, Tryz.f6, h0, h1, hs]
theorem body_23 {call : CallF} (hC : call.Sound Tryz.prog TT) (x : Nd) : Body Tryz.prog TT 18 [x.enc] (.val (.b (decide (12 ≤ x.kind) && decide (x.kind ≤ 18)))) := by
  refine ⟨Tryz.f18, _, rfl, rfl, by simp [Tryz.f18], ?_⟩
  have h0 : (Tm.init Tryz.f18.ntmps [x.enc]).get 0 = x.enc := by rw [get_init]; rfl
  have hw : (Tm.init Tryz.f18.ntmps [x.enc]).wid = 11 := rfl
  generalize Tm.init Tryz.f18.ntmps [x.enc] = t at *
  try simp only [Nd.enc_eq] at *
  refine Tri.seq' ?_
  refine Tri.regN (t' := ?t1) (H' := ?H1) TT_ok hC ?e1 ?q1
  case e1 =>
    refine go_false ?_
    refine evSeq_go rfl (by simp [h0] <;> rfl) (by rfl) (by simp [hw]) ?_
    refine evSeq_go rfl (by simp [h0] <;> rfl) (by rfl) (by simp [hw]) ?_
    exact evSeq_nil
  refine inSeq_norm ?_
  refine Tri.seq' ?_
  cases hB1 : (decide (12 ≤ x.kind) : Bool)
  case false =>
    refine Tri.regN (t' := ?tq1f2) (H' := ?Hq1f2) TT_ok hC ?eq1f2 ?qq1f2
    case eq1f2 =>
      refine go_false ?_
      refine evSeq_go rfl (by simp [h0, hB1] <;> rfl) (by rfl) (by simp [hw]) ?_
      refine evSeq_go rfl (by simp [h0, hB1] <;> rfl) (by rfl) (by simp [hw]) ?_
      refine evSeq_go rfl (by simp [h0, hB1] <;> rfl) (by rfl) (by simp [hw]) ?_
      refine evSeq_go rfl (by simp [h0, hB1] <;> rfl) (by rfl) (by simp [hw]) ?_
      refine evSeq_off (by simp [wants, h0, hB1]) (by simp [hw]) ?_
      refine evSeq_off (by simp [wants, h0, hB1]) (by simp [hw]) ?_
      refine evSeq_off (by simp [wants, h0, hB1]) (by simp [hw]) ?_
      refine evSeq_go rfl (by simp [h0, hB1] <;> rfl) (by rfl) (by simp [hw]) ?_
      refine evSeq_go rfl (by simp [h0, hB1] <;> rfl) (by rfl) (by simp [hw]) ?_
      exact evSeq_nil
    refine inSeq_norm ?_
    refine Tri.ret ?_
    simp [Ends, finish, evResults, evResult, Tryz.f18, h0, hB1]
  case true =>
    refine Tri.regN (t' := ?tq1t2) (H' := ?Hq1t2) TT_ok hC ?eq1t2 ?qq1t2
    case eq1t2 =>
      refine go_false ?_
      refine evSeq_go rfl (by simp [h0, hB1] <;> rfl) (by rfl) (by simp [hw]) ?_
      refine evSeq_go rfl (by simp [h0, hB1] <;> rfl) (by rfl) (by simp [hw]) ?_
      refine evSeq_go rfl (by simp [h0, hB1] <;> rfl) (by rfl) (by simp [hw]) ?_
      refine evSeq_go rfl (by simp [h0, hB1] <;> rfl) (by rfl) (by simp [hw]) ?_
      refine evSeq_go (by simp [wants, h0, hB1]) (by simp [h0, hB1] <;> rfl) (by rfl) (by simp [hw]) ?_
      refine evSeq_go (by simp [wants, h0, hB1]) (by simp [h0, hB1] <;> rfl) (by rfl) (by simp [hw]) ?_
      refine evSeq_go (by simp [wants, h0, hB1]) (by simp [h0, hB1] <;> rfl) (by rfl) (by simp [hw]) ?_
      refine evSeq_go rfl (by simp [h0, hB1] <;> rfl) (by rfl) (by simp [hw]) ?_
      refine evSeq_go rfl (by simp [h0, hB1] <;> rfl) (by rfl) (by simp [hw]) ?_
      exact evSeq_nil
    refine inSeq_norm ?_
    refine Tri.ret ?_
    simp [Ends, finish, evResults, evResult, Tryz.f18, h0, hB1]
theorem body_24 {call : CallF} (hC : call.Sound Tryz.prog TT) (x : Nd) : Body Tryz.prog TT 20 [x.enc] (.val (.b (decide (19 ≤ x.kind) && decide (x.kind ≤ 55) && (x.kind != 32) && (x.kind != 48)))) := by
  refine ⟨Tryz.f20, _, rfl, rfl, by simp [Tryz.f20], ?_⟩
  have h0 : (Tm.init Tryz.f20.ntmps [x.enc]).get 0 = x.enc := by rw [get_init]; rfl
  have hw : (Tm.init Tryz.f20.ntmps [x.enc]).wid = 21 := rfl
  generalize Tm.init Tryz.f20.ntmps [x.enc] = t at *
  try simp only [Nd.enc_eq] at *
  refine Tri.seq' ?_
  refine Tri.regN (t' := ?t1) (H' := ?H1) TT_ok hC ?e1 ?q1
  case e1 =>
    refine go_false ?_
    refine evSeq_go rfl (by simp [h0] <;> rfl) (by rfl) (by simp [hw]) ?_
    refine evSeq_go rfl (by simp [h0] <;> rfl) (by rfl) (by simp [hw]) ?_
    exact evSeq_nil
  refine inSeq_norm ?_
  refine Tri.seq' ?_
  cases hB1 : (decide (19 ≤ x.kind) : Bool)
  case false =>
    refine Tri.regN (t' := ?tq1f2) (H' := ?Hq1f2) TT_ok hC ?eq1f2 ?qq1f2
    case eq1f2 =>
      refine go_false ?_
      refine evSeq_go rfl (by simp [h0, hB1] <;> rfl) (by rfl) (by simp [hw]) ?_
      refine evSeq_go rfl (by simp [h0, hB1] <;> rfl) (by rfl) (by simp [hw]) ?_
      refine evSeq_go rfl (by simp [h0, hB1] <;> rfl) (by rfl) (by simp [hw]) ?_
      refine evSeq_go rfl (by simp [h0, hB1] <;> rfl) (by rfl) (by simp [hw]) ?_
      refine evSeq_off (by simp [wants, h0, hB1]) (by simp [hw]) ?_
      refine evSeq_off (by simp [wants, h0, hB1]) (by simp [hw]) ?_
      refine evSeq_off (by simp [wants, h0, hB1]) (by simp [hw]) ?_
      refine evSeq_go rfl (by simp [h0, hB1] <;> rfl) (by rfl) (by simp [hw]) ?_
      refine evSeq_go rfl (by simp [h0, hB1] <;> rfl) (by rfl) (by simp [hw]) ?_
      refine evSeq_off (by simp [wants, h0, hB1]) (by simp [hw]) ?_
      refine evSeq_off (by simp [wants, h0, hB1]) (by simp [hw]) ?_
      refine evSeq_off (by simp [wants, h0, hB1]) (by simp [hw]) ?_
      refine evSeq_go rfl (by simp [h0, hB1] <;> rfl) (by rfl) (by simp [hw]) ?_
      refine evSeq_go rfl (by simp [h0, hB1] <;> rfl) (by rfl) (by simp [hw]) ?_
      refine evSeq_off (by simp [wants, h0, hB1]) (by simp [hw]) ?_
      refine evSeq_off (by simp [wants, h0, hB1]) (by simp [hw]) ?_
      refine evSeq_off (by simp [wants, h0, hB1]) (by simp [hw]) ?_
      refine evSeq_go rfl (by simp [h0, hB1] <;> rfl) (by rfl) (by simp [hw]) ?_
      refine evSeq_go rfl (by simp [h0, hB1] <;> rfl) (by rfl) (by simp [hw]) ?_
      exact evSeq_nil
    refine inSeq_norm ?_
    refine Tri.ret ?_
    simp [Ends, finish, evResults, evResult, Tryz.f20, h0, hB1]
  case true =>
    cases hB2 : (decide (x.kind ≤ 55) : Bool)
    case false =>
      refine Tri.regN (t' := ?tq1tq2f2) (H' := ?Hq1tq2f2) TT_ok hC ?eq1tq2f2 ?qq1tq2f2
      case eq1tq2f2 =>
        refine go_false ?_
        refine evSeq_go rfl (by simp [h0, hB1, hB2] <;> rfl) (by rfl) (by simp [hw]) ?_
        refine evSeq_go rfl (by simp [h0, hB1, hB2] <;> rfl) (by rfl) (by simp [hw]) ?_
        refine evSeq_go rfl (by simp [h0, hB1, hB2] <;> rfl) (by rfl) (by simp [hw]) ?_
        refine evSeq_go rfl (by simp [h0, hB1, hB2] <;> rfl) (by rfl) (by simp [hw]) ?_
        refine evSeq_go (by simp [wants, h0, hB1, hB2]) (by simp [h0, hB1, hB2] <;> rfl) (by rfl) (by simp [hw]) ?_
        refine evSeq_go (by simp [wants, h0, hB1, hB2]) (by simp [h0, hB1, hB2] <;> rfl) (by rfl) (by simp [hw]) ?_
        refine evSeq_go (by simp [wants, h0, hB1, hB2]) (by simp [h0, hB1, hB2] <;> rfl) (by rfl) (by simp [hw]) ?_
        refine evSeq_go rfl (by simp [h0, hB1, hB2] <;> rfl) (by rfl) (by simp [hw]) ?_
        refine evSeq_go rfl (by simp [h0, hB1, hB2] <;> rfl) (by rfl) (by simp [hw]) ?_
        refine evSeq_off (by simp [wants, h0, hB1, hB2]) (by simp [hw]) ?_
        refine evSeq_off (by simp [wants, h0, hB1, hB2]) (by simp [hw]) ?_
        refine evSeq_off (by simp [wants, h0, hB1, hB2]) (by simp [hw]) ?_
        refine evSeq_go rfl (by simp [h0, hB1, hB2] <;> rfl) (by rfl) (by simp [hw]) ?_
        refine evSeq_go rfl (by simp [h0, hB1, hB2] <;> rfl) (by rfl) (by simp [hw]) ?_
        refine evSeq_off (by simp [wants, h0, hB1, hB2]) (by simp [hw]) ?_
        refine evSeq_off (by simp [wants, h0, hB1, hB2]) (by simp [hw]) ?_
        refine evSeq_off (by simp [wants, h0, hB1, hB2]) (by simp [hw]) ?_
        refine evSeq_go rfl (by simp [h0, hB1, hB2] <;> rfl) (by rfl) (by simp [hw]) ?_
        refine evSeq_go rfl (by simp [h0, hB1, hB2] <;> rfl) (by rfl) (by simp [hw]) ?_
        exact evSeq_nil
      refine inSeq_norm ?_
      refine Tri.ret ?_
      simp [Ends, finish, evResults, evResult, Tryz.f20, h0, hB1, hB2]
    case true =>
      cases hB3 : (x.kind != 32 : Bool)
      case false =>
        refine Tri.regN (t' := ?tq1tq2tq3f2) (H' := ?Hq1tq2tq3f2) TT_ok hC ?eq1tq2tq3f2 ?qq1tq2tq3f2
        case eq1tq2tq3f2 =>
          refine go_false ?_
          refine evSeq_go rfl (by simp [h0, hB1, hB2, hB3] <;> rfl) (by rfl) (by simp [hw]) ?_
          refine evSeq_go rfl (by simp [h0, hB1, hB2, hB3] <;> rfl) (by rfl) (by simp [hw]) ?_
          refine evSeq_go rfl (by simp [h0, hB1, hB2, hB3] <;> rfl) (by rfl) (by simp [hw]) ?_
          refine evSeq_go rfl (by simp [h0, hB1, hB2, hB3] <;> rfl) (by rfl) (by simp [hw]) ?_
          refine evSeq_go (by simp [wants, h0, hB1, hB2, hB3]) (by simp [h0, hB1, hB2, hB3] <;> rfl) (by rfl) (by simp [hw]) ?_
          refine evSeq_go (by simp [wants, h0, hB1, hB2, hB3]) (by simp [h0, hB1, hB2, hB3] <;> rfl) (by rfl) (by simp [hw]) ?_
          refine evSeq_go (by simp [wants, h0, hB1, hB2, hB3]) (by simp [h0, hB1, hB2, hB3] <;> rfl) (by rfl) (by simp [hw]) ?_
          refine evSeq_go rfl (by simp [h0, hB1, hB2, hB3] <;> rfl) (by rfl) (by simp [hw]) ?_
          refine evSeq_go rfl (by simp [h0, hB1, hB2, hB3] <;> rfl) (by rfl) (by simp [hw]) ?_
          refine evSeq_go (by simp [wants, h0, hB1, hB2, hB3]) (by simp [h0, hB1, hB2, hB3] <;> rfl) (by rfl) (by simp [hw]) ?_
          refine evSeq_go (by simp [wants, h0, hB1, hB2, hB3]) (by simp [h0, hB1, hB2, hB3] <;> rfl) (by rfl) (by simp [hw]) ?_
          refine evSeq_go (by simp [wants, h0, hB1, hB2, hB3]) (by simp [h0, hB1, hB2, hB3] <;> rfl) (by rfl) (by simp [hw]) ?_
          refine evSeq_go rfl (by simp [h0, hB1, hB2, hB3] <;> rfl) (by rfl) (by simp [hw]) ?_
          refine evSeq_go rfl (by simp [h0, hB1, hB2, hB3] <;> rfl) (by rfl) (by simp [hw]) ?_
          refine evSeq_off (by simp [wants, h0, hB1, hB2, hB3]) (by simp [hw]) ?_
          refine evSeq_off (by simp [wants, h0, hB1, hB2, hB3]) (by simp [hw]) ?_
          refine evSeq_off (by simp [wants, h0, hB1, hB2, hB3]) (by simp [hw]) ?_
          refine evSeq_go rfl (by simp [h0, hB1, hB2, hB3] <;> rfl) (by rfl) (by simp [hw]) ?_
          refine evSeq_go rfl (by simp [h0, hB1, hB2, hB3] <;> rfl) (by rfl) (by simp [hw]) ?_
          exact evSeq_nil
        refine inSeq_norm ?_
        refine Tri.ret ?_
        simp [Ends, finish, evResults, evResult, Tryz.f20, h0, hB1, hB2, hB3]
      case true =>
        refine Tri.regN (t' := ?tq1tq2tq3t2) (H' := ?Hq1tq2tq3t2) TT_ok hC ?eq1tq2tq3t2 ?qq1tq2tq3t2
        case eq1tq2tq3t2 =>
          refine go_false ?_
          refine evSeq_go rfl (by simp [h0, hB1, hB2, hB3] <;> rfl) (by rfl) (by simp [hw]) ?_
          refine evSeq_go rfl (by simp [h0, hB1, hB2, hB3] <;> rfl) (by rfl) (by simp [hw]) ?_
          refine evSeq_go rfl (by simp [h0, hB1, hB2, hB3] <;> rfl) (by rfl) (by simp [hw]) ?_
          refine evSeq_go rfl (by simp [h0, hB1, hB2, hB3] <;> rfl) (by rfl) (by simp [hw]) ?_
          refine evSeq_go (by simp [wants, h0, hB1, hB2, hB3]) (by simp [h0, hB1, hB2, hB3] <;> rfl) (by rfl) (by simp [hw]) ?_
          refine evSeq_go (by simp [wants, h0, hB1, hB2, hB3]) (by simp [h0, hB1, hB2, hB3] <;> rfl) (by rfl) (by simp [hw]) ?_
          refine evSeq_go (by simp [wants, h0, hB1, hB2, hB3]) (by simp [h0, hB1, hB2, hB3] <;> rfl) (by rfl) (by simp [hw]) ?_
          refine evSeq_go rfl (by simp [h0, hB1, hB2, hB3] <;> rfl) (by rfl) (by simp [hw]) ?_
          refine evSeq_go rfl (by simp [h0, hB1, hB2, hB3] <;> rfl) (by rfl) (by simp [hw]) ?_
          refine evSeq_go (by simp [wants, h0, hB1, hB2, hB3]) (by simp [h0, hB1, hB2, hB3] <;> rfl) (by rfl) (by simp [hw]) ?_
          refine evSeq_go (by simp [wants, h0, hB1, hB2, hB3]) (by simp [h0, hB1, hB2, hB3] <;> rfl) (by rfl) (by simp [hw]) ?_
          refine evSeq_go (by simp [wants, h0, hB1, hB2, hB3]) (by simp [h0, hB1, hB2, hB3] <;> rfl) (by rfl) (by simp [hw]) ?_
          refine evSeq_go rfl (by simp [h0, hB1, hB2, hB3] <;> rfl) (by rfl) (by simp [hw]) ?_
          refine evSeq_go rfl (by simp [h0, hB1, hB2, hB3] <;> rfl) (by rfl) (by simp [hw]) ?_
          refine evSeq_go (by simp [wants, h0, hB1, hB2, hB3]) (by simp [h0, hB1, hB2, hB3] <;> rfl) (by rfl) (by simp [hw]) ?_
          refine evSeq_go (by simp [wants, h0, hB1, hB2, hB3]) (by simp [h0, hB1, hB2, hB3] <;> rfl) (by rfl) (by simp [hw]) ?_
          refine evSeq_go (by simp [wants, h0, hB1, hB2, hB3]) (by simp [h0, hB1, hB2, hB3] <;> rfl) (by rfl) (by simp [hw]) ?_
          refine evSeq_go rfl (by simp [h0, hB1, hB2, hB3] <;> rfl) (by rfl) (by simp [hw]) ?_
          refine evSeq_go rfl (by simp [h0, hB1, hB2, hB3] <;> rfl) (by rfl) (by simp [hw]) ?_
          exact evSeq_nil
        refine inSeq_norm ?_
        refine Tri.ret ?_
        simp [Ends, finish, evResults, evResult, Tryz.f20, h0, hB1, hB2, hB3]
theorem body_28 {call : CallF} (hC : call.Sound Tryz.prog TT) (s : List UInt8) : Body Tryz.prog TT 43 [.s s] (.val (.b (s == []))) := by
  refine ⟨Tryz.f43, _, rfl, rfl, by simp [Tryz.f43], ?_⟩
  have h0 : (Tm.init Tryz.f43.ntmps [.s s]).get 0 = .s s := by rw [get_init]; rfl
  have hw : (Tm.init Tryz.f43.ntmps [.s s]).wid = 5 := rfl
  generalize Tm.init Tryz.f43.ntmps [.s s] = t at *
  try simp only [Nd.enc_eq] at *
  refine Tri.seq' ?_
  refine Tri.regN (t' := ?t1) (H' := ?H1) TT_ok hC ?e1 ?q1
  case e1 =>
    refine go_false ?_
    refine evSeq_go rfl (by simp [h0] <;> rfl) (by rfl) (by simp [hw]) ?_
    exact evSeq_nil
  refine inSeq_norm ?_
  refine Tri.seq' ?_
  refine Tri.regN (t' := ?t2) (H' := ?H2) TT_ok hC ?e2 ?q2
  case e2 =>
    refine go_false ?_
    refine evSeq_go rfl (by simp [h0] <;> rfl) (by rfl) (by simp [hw]) ?_
    refine evSeq_go rfl (by simp [h0] <;> rfl) (by rfl) (by simp [hw]) ?_
    refine evSeq_go rfl (by simp [h0] <;> rfl) (by rfl) (by simp [hw]) ?_
    exact evSeq_nil
  refine inSeq_norm ?_
  refine Tri.ret ?_
  simp [Ends, finish, evResults, evResult, Tryz.f43, h0]
theorem body_29 {call : CallF} (hC : call.Sound Tryz.prog TT) (x : Nd) : Body Tryz.prog TT 44 [x.enc] (.val (.b ((x.kind == 2) || (x.kind == 3)))) := by
  refine ⟨Tryz.f44, _, rfl, rfl, by simp [Tryz.f44], ?_⟩
  have h0 : (Tm.init Tryz.f44.ntmps [x.enc]).get 0 = x.enc := by rw [get_init]; rfl
  have hw : (Tm.init Tryz.f44.ntmps [x.enc]).wid = 11 := rfl
  generalize Tm.init Tryz.f44.ntmps [x.enc] = t at *
  try simp only [Nd.enc_eq] at *
  refine Tri.seq' ?_
  refine Tri.regN (t' := ?t1) (H' := ?H1) TT_ok hC ?e1 ?q1
  case e1 =>
    refine go_false ?_
    refine evSeq_go rfl (by simp [h0] <;> rfl) (by rfl) (by simp [hw]) ?_
    refine evSeq_go rfl (by simp [h0] <;> rfl) (by rfl) (by simp [hw]) ?_
    exact evSeq_nil
  refine inSeq_norm ?_
  refine Tri.seq' ?_
  cases hB1 : (x.kind == 2 : Bool)
  case false =>
    refine Tri.regN (t' := ?tq1f2) (H' := ?Hq1f2) TT_ok hC ?eq1f2 ?qq1f2
    case eq1f2 =>
      refine go_false ?_
      refine evSeq_go rfl (by simp [h0, hB1] <;> rfl) (by rfl) (by simp [hw]) ?_
      refine evSeq_go rfl (by simp [h0, hB1] <;> rfl) (by rfl) (by simp [hw]) ?_
      refine evSeq_go rfl (by simp [h0, hB1] <;> rfl) (by rfl) (by simp [hw]) ?_
      refine evSeq_go rfl (by simp [h0, hB1] <;> rfl) (by rfl) (by simp [hw]) ?_
      refine evSeq_go (by simp [wants, h0, hB1]) (by simp [h0, hB1] <;> rfl) (by rfl) (by simp [hw]) ?_
      refine evSeq_go (by simp [wants, h0, hB1]) (by simp [h0, hB1] <;> rfl) (by rfl) (by simp [hw]) ?_
      refine evSeq_go (by simp [wants, h0, hB1]) (by simp [h0, hB1] <;> rfl) (by rfl) (by simp [hw]) ?_
      refine evSeq_go rfl (by simp [h0, hB1] <;> rfl) (by rfl) (by simp [hw]) ?_
      refine evSeq_go rfl (by simp [h0, hB1] <;> rfl) (by rfl) (by simp [hw]) ?_
      exact evSeq_nil
    refine inSeq_norm ?_
    refine Tri.ret ?_
    simp [Ends, finish, evResults, evResult, Tryz.f44, h0, hB1]
  case true =>
    refine Tri.regN (t' := ?tq1t2) (H' := ?Hq1t2) TT_ok hC ?eq1t2 ?qq1t2
    case eq1t2 =>
      refine go_false ?_
      refine evSeq_go rfl (by simp [h0, hB1] <;> rfl) (by rfl) (by simp [hw]) ?_
      refine evSeq_go rfl (by simp [h0, hB1] <;> rfl) (by rfl) (by simp [hw]) ?_
      refine evSeq_go rfl (by simp [h0, hB1] <;> rfl) (by rfl) (by simp [hw]) ?_
      refine evSeq_go rfl (by simp [h0, hB1] <;> rfl) (by rfl) (by simp [hw]) ?_
      refine evSeq_off (by simp [wants, h0, hB1]) (by simp [hw]) ?_
      refine evSeq_off (by simp [wants, h0, hB1]) (by simp [hw]) ?_
      refine evSeq_off (by simp [wants, h0, hB1]) (by simp [hw]) ?_
      refine evSeq_go rfl (by simp [h0, hB1] <;> rfl) (by rfl) (by simp [hw]) ?_
      refine evSeq_go rfl (by simp [h0, hB1] <;> rfl) (by rfl) (by simp [hw]) ?_
      exact evSeq_nil
    refine inSeq_norm ?_
    refine Tri.ret ?_
    simp [Ends, finish, evResults, evResult, Tryz.f44, h0, hB1]
theorem body_32 {call : CallF} (hC : call.Sound Tryz.prog TT) (x : Nd) : Body Tryz.prog TT 22 [x.enc] (.val (.b ((x.kind == 8) || (x.kind == 9)))) := by
  refine ⟨Tryz.f22, _, rfl, rfl, by simp [Tryz.f22], ?_⟩
  have h0 : (Tm.init Tryz.f22.ntmps [x.enc]).get 0 = x.enc := by rw [get_init]; rfl
  have hw : (Tm.init Tryz.f22.ntmps [x.enc]).wid = 11 := rfl
  generalize Tm.init Tryz.f22.ntmps [x.enc] = t at *
  try simp only [Nd.enc_eq] at *
  refine Tri.seq' ?_
  refine Tri.regN (t' := ?t1) (H' := ?H1) TT_ok hC ?e1 ?q1
  case e1 =>
    refine go_false ?_
    refine evSeq_go rfl (by simp [h0] <;> rfl) (by rfl) (by simp [hw]) ?_
    refine evSeq_go rfl (by simp [h0] <;> rfl) (by rfl) (by simp [hw]) ?_
    exact evSeq_nil
  refine inSeq_norm ?_
  refine Tri.seq' ?_
  cases hB1 : (x.kind == 8 : Bool)
  case false =>
    refine Tri.regN (t' := ?tq1f2) (H' := ?Hq1f2) TT_ok hC ?eq1f2 ?qq1f2
    case eq1f2 =>
      refine go_false ?_
      refine evSeq_go rfl (by simp [h0, hB1] <;> rfl) (by rfl) (by simp [hw]) ?_
      refine evSeq_go rfl (by simp [h0, hB1] <;> rfl) (by rfl) (by simp [hw]) ?_
      refine evSeq_go rfl (by simp [h0, hB1] <;> rfl) (by rfl) (by simp [hw]) ?_
      refine evSeq_go rfl (by simp [h0, hB1] <;> rfl) (by rfl) (by simp [hw]) ?_
      refine evSeq_go (by simp [wants, h0, hB1]) (by simp [h0, hB1] <;> rfl) (by rfl) (by simp [hw]) ?_
      refine evSeq_go (by simp [wants, h0, hB1]) (by simp [h0, hB1] <;> rfl) (by rfl) (by simp [hw]) ?_
      refine evSeq_go (by simp [wants, h0, hB1]) (by simp [h0, hB1] <;> rfl) (by rfl) (by simp [hw]) ?_
      refine evSeq_go rfl (by simp [h0, hB1] <;> rfl) (by rfl) (by simp [hw]) ?_
      refine evSeq_go rfl (by simp [h0, hB1] <;> rfl) (by rfl) (by simp [hw]) ?_
      exact evSeq_nil
    refine inSeq_norm ?_
    refine Tri.ret ?_
    simp [Ends, finish, evResults, evResult, Tryz.f22, h0, hB1]
  case true =>
    refine Tri.regN (t' := ?tq1t2) (H' := ?Hq1t2) TT_ok hC ?eq1t2 ?qq1t2
    case eq1t2 =>
      refine go_false ?_
      refine evSeq_go rfl (by simp [h0, hB1] <;> rfl) (by rfl) (by simp [hw]) ?_
      refine evSeq_go rfl (by simp [h0, hB1] <;> rfl) (by rfl) (by simp [hw]) ?_
      refine evSeq_go rfl (by simp [h0, hB1] <;> rfl) (by rfl) (by simp [hw]) ?_
      refine evSeq_go rfl (by simp [h0, hB1] <;> rfl) (by rfl) (by simp [hw]) ?_
      refine evSeq_off (by simp [wants, h0, hB1]) (by simp [hw]) ?_
      refine evSeq_off (by simp [wants, h0, hB1]) (by simp [hw]) ?_
      refine evSeq_off (by simp [wants, h0, hB1]) (by simp [hw]) ?_
      refine evSeq_go rfl (by simp [h0, hB1] <;> rfl) (by rfl) (by simp [hw]) ?_
      refine evSeq_go rfl (by simp [h0, hB1] <;> rfl) (by rfl) (by simp [hw]) ?_
      exact evSeq_nil
    refine inSeq_norm ?_
    refine Tri.ret ?_
    simp [Ends, finish, evResults, evResult, Tryz.f22, h0, hB1]
theorem body_37 {call : CallF} (hC : call.Sound Tryz.prog TT) (x : Nd) (b : Bool) (hs : ∀ H, call 20 [x.enc] H = .val (.b b) H) : Body Tryz.prog TT 51 [x.enc] (.val (.b (b && (x.kind != 25)))) := by
  refine ⟨Tryz.f51, _, rfl, rfl, by simp [Tryz.f51], ?_⟩
  have h0 : (Tm.init Tryz.f51.ntmps [x.enc]).get 0 = x.enc := by rw [get_init]; rfl
  have hw : (Tm.init Tryz.f51.ntmps [x.enc]).wid = 10 := rfl
  generalize Tm.init Tryz.f51.ntmps [x.enc] = t at *
  try simp only [Nd.enc_eq] at *
  refine Tri.seq' ?_
  refine Tri.regN (t' := ?t1) (H' := ?H1) TT_ok hC ?e1 ?q1
  case e1 =>
    refine go_false ?_
    refine evSeq_go rfl (by simp [h0, hs] <;> rfl) (by rfl) (by simp [hw]) ?_
    refine evSeq_go rfl (by simp [h0, hs] <;> rfl) (by rfl) (by simp [hw]) ?_
    exact evSeq_nil
  refine inSeq_norm ?_
  refine Tri.seq' ?_
  cases hB1 : (b : Bool)
  case false =>
    refine Tri.regN (t' := ?tq1f2) (H' := ?Hq1f2) TT_ok hC ?eq1f2 ?qq1f2
    case eq1f2 =>
      refine go_false ?_
      refine evSeq_go rfl (by simp [h0, hs, hB1] <;> rfl) (by rfl) (by simp [hw]) ?_
      refine evSeq_go rfl (by simp [h0, hs, hB1] <;> rfl) (by rfl) (by simp [hw]) ?_
      refine evSeq_go rfl (by simp [h0, hs, hB1] <;> rfl) (by rfl) (by simp [hw]) ?_
      refine evSeq_off (by simp [wants, h0, hs, hB1]) (by simp [hw]) ?_
      refine evSeq_off (by simp [wants, h0, hs, hB1]) (by simp [hw]) ?_
      refine evSeq_off (by simp [wants, h0, hs, hB1]) (by simp [hw]) ?_
      refine evSeq_go rfl (by simp [h0, hs, hB1] <;> rfl) (by rfl) (by simp [hw]) ?_
      refine evSeq_go rfl (by simp [h0, hs, hB1] <;> rfl) (by rfl) (by simp [hw]) ?_
      exact evSeq_nil
    refine inSeq_norm ?_
    refine Tri.ret ?_
    simp [Ends, finish, evResults, evResult, Tryz.f51, h0, hs, hB1]
  case true =>
    refine Tri.regN (t' := ?tq1t2) (H' := ?Hq1t2) TT_ok hC ?eq1t2 ?qq1t2
    case eq1t2 =>
      refine go_false ?_
      refine evSeq_go rfl (by simp [h0, hs, hB1] <;> rfl) (by rfl) (by simp [hw]) ?_
      refine evSeq_go rfl (by simp [h0, hs, hB1] <;> rfl) (by rfl) (by simp [hw]) ?_
      refine evSeq_go rfl (by simp [h0, hs, hB1] <;> rfl) (by rfl) (by simp [hw]) ?_
      refine evSeq_go (by simp [wants, h0, hs, hB1]) (by simp [h0, hs, hB1] <;> rfl) (by rfl) (by simp [hw]) ?_
      refine evSeq_go (by simp [wants, h0, hs, hB1]) (by simp [h0, hs, hB1] <;> rfl) (by rfl) (by simp [hw]) ?_
      refine evSeq_go (by simp [wants, h0, hs, hB1]) (by simp [h0, hs, hB1] <;> rfl) (by rfl) (by simp [hw]) ?_
      refine evSeq_go rfl (by simp [h0, hs, hB1] <;> rfl) (by rfl) (by simp [hw]) ?_
      refine evSeq_go rfl (by simp [h0, hs, hB1] <;> rfl) (by rfl) (by simp [hw]) ?_
      exact evSeq_nil
    refine inSeq_norm ?_
    refine Tri.ret ?_
    simp [Ends, finish, evResults, evResult, Tryz.f51, h0, hs, hB1]
theorem body_39 {call : CallF} (hC : call.Sound Tryz.prog TT) (x : Nd) (b : Bool) (hs : ∀ H, call 20 [x.enc] H = .val (.b b) H) : Body Tryz.prog TT 53 [x.enc] (.val (.b (b || (x.kind == 32)))) := by
  refine ⟨Tryz.f53, _, rfl, rfl, by simp [Tryz.f53], ?_⟩
  have h0 : (Tm.init Tryz.f53.ntmps [x.enc]).get 0 = x.enc := by rw [get_init]; rfl
  have hw : (Tm.init Tryz.f53.ntmps [x.enc]).wid = 10 := rfl
  generalize Tm.init Tryz.f53.ntmps [x.enc] = t at *
  try simp only [Nd.enc_eq] at *
  refine Tri.seq' ?_
  refine Tri.regN (t' := ?t1) (H' := ?H1) TT_ok hC ?e1 ?q1
  case e1 =>
    refine go_false ?_
    refine evSeq_go rfl (by simp [h0, hs] <;> rfl) (by rfl) (by simp [hw]) ?_
    refine evSeq_go rfl (by simp [h0, hs] <;> rfl) (by rfl) (by simp [hw]) ?_
    exact evSeq_nil
  refine inSeq_norm ?_
  refine Tri.seq' ?_
  cases hB1 : (b : Bool)
  case false =>
    refine Tri.regN (t' := ?tq1f2) (H' := ?Hq1f2) TT_ok hC ?eq1f2 ?qq1f2
    case eq1f2 =>
      refine go_false ?_
      refine evSeq_go rfl (by simp [h0, hs, hB1] <;> rfl) (by rfl) (by simp [hw]) ?_
      refine evSeq_go rfl (by simp [h0, hs, hB1] <;> rfl) (by rfl) (by simp [hw]) ?_
      refine evSeq_go rfl (by simp [h0, hs, hB1] <;> rfl) (by rfl) (by simp [hw]) ?_
      refine evSeq_go (by simp [wants, h0, hs, hB1]) (by simp [h0, hs, hB1] <;> rfl) (by rfl) (by simp [hw]) ?_
      refine evSeq_go (by simp [wants, h0, hs, hB1]) (by simp [h0, hs, hB1] <;> rfl) (by rfl) (by simp [hw]) ?_
      refine evSeq_go (by simp [wants, h0, hs, hB1]) (by simp [h0, hs, hB1] <;> rfl) (by rfl) (by simp [hw]) ?_
      refine evSeq_go rfl (by simp [h0, hs, hB1] <;> rfl) (by rfl) (by simp [hw]) ?_
      refine evSeq_go rfl (by simp [h0, hs, hB1] <;> rfl) (by rfl) (by simp [hw]) ?_
      exact evSeq_nil
    refine inSeq_norm ?_
    refine Tri.ret ?_
    simp [Ends, finish, evResults, evResult, Tryz.f53, h0, hs, hB1]
  case true =>
    refine Tri.regN (t' := ?tq1t2) (H' := ?Hq1t2) TT_ok hC ?eq1t2 ?qq1t2
    case eq1t2 =>
      refine go_false ?_
      refine evSeq_go rfl (by simp [h0, hs, hB1] <;> rfl) (by rfl) (by simp [hw]) ?_
      refine evSeq_go rfl (by simp [h0, hs, hB1] <;> rfl) (by rfl) (by simp [hw]) ?_
      refine evSeq_go rfl (by simp [h0, hs, hB1] <;> rfl) (by rfl) (by simp [hw]) ?_
      refine evSeq_off (by simp [wants, h0, hs, hB1]) (by simp [hw]) ?_
      refine evSeq_off (by simp [wants, h0, hs, hB1]) (by simp [hw]) ?_
      refine evSeq_off (by simp [wants, h0, hs, hB1]) (by simp [hw]) ?_
      refine evSeq_go rfl (by simp [h0, hs, hB1] <;> rfl) (by rfl) (by simp [hw]) ?_
      refine evSeq_go rfl (by simp [h0, hs, hB1] <;> rfl) (by rfl) (by simp [hw]) ?_
      exact evSeq_nil
    refine inSeq_norm ?_
    refine Tri.ret ?_
    simp [Ends, finish, evResults, evResult, Tryz.f53, h0, hs, hB1]
theorem body_58 {call : CallF} (hC : call.Sound Tryz.prog TT) (x : Nd) (k : Int) : Body Tryz.prog TT 71 [x.enc, .ipt 1 [.agg [.i .i64 k]] 0 0] (.val (.b (x.kind == k))) := by
  refine ⟨Tryz.f71, _, rfl, rfl, by simp [Tryz.f71], ?_⟩
  have h0 : (Tm.init Tryz.f71.ntmps [x.enc, .ipt 1 [.agg [.i .i64 k]] 0 0]).get 0 = x.enc := by rw [get_init]; rfl
  have h1 : (Tm.init Tryz.f71.ntmps [x.enc, .ipt 1 [.agg [.i .i64 k]] 0 0]).get 1 = .ipt 1 [.agg [.i .i64 k]] 0 0 := by rw [get_init]; rfl
  have hw : (Tm.init Tryz.f71.ntmps [x.enc, .ipt 1 [.agg [.i .i64 k]] 0 0]).wid = 8 := rfl
  generalize Tm.init Tryz.f71.ntmps [x.enc, .ipt 1 [.agg [.i .i64 k]] 0 0] = t at *
  try simp only [Nd.enc_eq] at *
  refine Tri.seq' ?_
  refine Tri.regN (t' := ?t1) (H' := ?H1) TT_ok hC ?e1 ?q1
  case e1 =>
    refine go_false ?_
    refine evSeq_go rfl (by simp [h0, h1] <;> rfl) (by rfl) (by simp [hw]) ?_
    refine evSeq_go rfl (by simp [h0, h1] <;> rfl) (by rfl) (by simp [hw]) ?_
    exact evSeq_nil
  refine inSeq_norm ?_
  refine Tri.seq' ?_
  refine Tri.regN (t' := ?t2) (H' := ?H2) TT_ok hC ?e2 ?q2
  case e2 =>
    refine go_false ?_
    refine evSeq_go rfl (by simp [h0, h1] <;> rfl) (by rfl) (by simp [hw]) ?_
    refine evSeq_go rfl (by simp [h0, h1] <;> rfl) (by rfl) (by simp [hw]) ?_
    refine evSeq_go rfl (by simp [h0, h1] <;> rfl) (by rfl) (by simp [hw]) ?_
    refine evSeq_go rfl (by simp [h0, h1] <;> rfl) (by rfl) (by simp [hw]) ?_
    refine evSeq_go rfl (by simp [h0, h1] <;> rfl) (by rfl) (by simp [hw]) ?_
    exact evSeq_nil
  refine inSeq_norm ?_
  refine Tri.ret ?_
  simp [Ends, finish, evResults, evResult, Tryz.f71, h0, h1]
theorem body_96 {call : CallF} (hC : call.Sound Tryz.prog TT) (x : Nd) (k : Int) : Body Tryz.prog TT 121 [x.enc, .ipt 1 [.agg [.i .i64 k]] 0 0] (.val (.b (x.kind == k))) := by
  refine ⟨Tryz.f121, _, rfl, rfl, by simp [Tryz.f121], ?_⟩
  have h0 : (Tm.init Tryz.f121.ntmps [x.enc, .ipt 1 [.agg [.i .i64 k]] 0 0]).get 0 = x.enc := by rw [get_init]; rfl
  have h1 : (Tm.init Tryz.f121.ntmps [x.enc, .ipt 1 [.agg [.i .i64 k]] 0 0]).get 1 = .ipt 1 [.agg [.i .i64 k]] 0 0 := by rw [get_init]; rfl
  have hw : (Tm.init Tryz.f121.ntmps [x.enc, .ipt 1 [.agg [.i .i64 k]] 0 0]).wid = 8 := rfl
  generalize Tm.init Tryz.f121.ntmps [x.enc, .ipt 1 [.agg [.i .i64 k]] 0 0] = t at *
  try simp only [Nd.enc_eq] at *
  refine Tri.seq' ?_
  refine Tri.regN (t' := ?t1) (H' := ?H1) TT_ok hC ?e1 ?q1
  case e1 =>
    refine go_false ?_
    refine evSeq_go rfl (by simp [h0, h1] <;> rfl) (by rfl) (by simp [hw]) ?_
    refine evSeq_go rfl (by simp [h0, h1] <;> rfl) (by rfl) (by simp [hw]) ?_
    exact evSeq_nil
  refine inSeq_norm ?_
  refine Tri.seq' ?_
  refine Tri.regN (t' := ?t2) (H' := ?H2) TT_ok hC ?e2 ?q2
  case e2 =>
    refine go_false ?_
    refine evSeq_go rfl (by simp [h0, h1] <;> rfl) (by rfl) (by simp [hw]) ?_
    refine evSeq_go rfl (by simp [h0, h1] <;> rfl) (by rfl) (by simp [hw]) ?_
    refine evSeq_go rfl (by simp [h0, h1] <;> rfl) (by rfl) (by simp [hw]) ?_
    refine evSeq_go rfl (by simp [h0, h1] <;> rfl) (by rfl) (by simp [hw]) ?_
    refine evSeq_go rfl (by simp [h0, h1] <;> rfl) (by rfl) (by simp [hw]) ?_
    exact evSeq_nil
  refine inSeq_norm ?_
  refine Tri.ret ?_
  simp [Ends, finish, evResults, evResult, Tryz.f121, h0, h1]
theorem body_97 {call : CallF} (hC : call.Sound Tryz.prog TT) (x : Nd) (k : Int) : Body Tryz.prog TT 122 [x.enc, .ipt 1 [.agg [.i .i64 k]] 0 0] (.val (.b (x.kind != k))) := by
  refine ⟨Tryz.f122, _, rfl, rfl, by simp [Tryz.f122], ?_⟩
  have h0 : (Tm.init Tryz.f122.ntmps [x.enc, .ipt 1 [.agg [.i .i64 k]] 0 0]).get 0 = x.enc := by rw [get_init]; rfl
  have h1 : (Tm.init Tryz.f122.ntmps [x.enc, .ipt 1 [.agg [.i .i64 k]] 0 0]).get 1 = .ipt 1 [.agg [.i .i64 k]] 0 0 := by rw [get_init]; rfl
  have hw : (Tm.init Tryz.f122.ntmps [x.enc, .ipt 1 [.agg [.i .i64 k]] 0 0]).wid = 8 := rfl
  generalize Tm.init Tryz.f122.ntmps [x.enc, .ipt 1 [.agg [.i .i64 k]] 0 0] = t at *
  try simp only [Nd.enc_eq] at *
  refine Tri.seq' ?_
  refine Tri.regN (t' := ?t1) (H' := ?H1) TT_ok hC ?e1 ?q1
  case e1 =>
    refine go_false ?_
    refine evSeq_go rfl (by simp [h0, h1] <;> rfl) (by rfl) (by simp [hw]) ?_
    refine evSeq_go rfl (by simp [h0, h1] <;> rfl) (by rfl) (by simp [hw]) ?_
    exact evSeq_nil
  refine inSeq_norm ?_
  refine Tri.seq' ?_
  refine Tri.regN (t' := ?t2) (H' := ?H2) TT_ok hC ?e2 ?q2
  case e2 =>
    refine go_false ?_
    refine evSeq_go rfl (by simp [h0, h1] <;> rfl) (by rfl) (by simp [hw]) ?_
    refine evSeq_go rfl (by simp [h0, h1] <;> rfl) (by rfl) (by simp [hw]) ?_
    refine evSeq_go rfl (by simp [h0, h1] <;> rfl) (by rfl) (by simp [hw]) ?_
    refine evSeq_go rfl (by simp [h0, h1] <;> rfl) (by rfl) (by simp [hw]) ?_
    refine evSeq_go rfl (by simp [h0, h1] <;> rfl) (by rfl) (by simp [hw]) ?_
    exact evSeq_nil
  refine inSeq_norm ?_
  refine Tri.ret ?_
  simp [Ends, finish, evResults, evResult, Tryz.f122, h0, h1]
theorem body_57 {call : CallF} (hC : call.Sound Tryz.prog TT) (s : List UInt8) (b : Bool) (hs : ∀ H, call 41 [.s s] H = .val (.b b) H) : Body Tryz.prog TT 70 [.s s] (.val (.b (!b))) := by
  refine ⟨Tryz.f70, _, rfl, rfl, by simp [Tryz.f70], ?_⟩
  have h0 : (Tm.init Tryz.f70.ntmps [.s s]).get 0 = .s s := by rw [get_init]; rfl
  have hw : (Tm.init Tryz.f70.ntmps [.s s]).wid = 6 := rfl
  generalize Tm.init Tryz.f70.ntmps [.s s] = t at *
  try simp only [Nd.enc_eq] at *
  refine Tri.seq' ?_
  refine Tri.regN (t' := ?t1) (H' := ?H1) TT_ok hC ?e1 ?q1
  case e1 =>
    refine go_false ?_
    refine evSeq_go rfl (by simp [h0, hs] <;> rfl) (by rfl) (by simp [hw]) ?_
    exact evSeq_nil
  refine inSeq_norm ?_
  refine Tri.seq' ?_
  refine Tri.regN (t' := ?t2) (H' := ?H2) TT_ok hC ?e2 ?q2
  case e2 =>
    refine go_false ?_
    refine evSeq_go rfl (by simp [h0, hs] <;> rfl) (by rfl) (by simp [hw]) ?_
    refine evSeq_go rfl (by simp [h0, hs] <;> rfl) (by rfl) (by simp [hw]) ?_
    refine evSeq_go rfl (by simp [h0, hs] <;> rfl) (by rfl) (by simp [hw]) ?_
    refine evSeq_go rfl (by simp [h0, hs] <;> rfl) (by rfl) (by simp [hw]) ?_
    exact evSeq_nil
  refine inSeq_norm ?_
  refine Tri.ret ?_
  simp [Ends, finish, evResults, evResult, Tryz.f70, h0, hs]
theorem body_53 {call : CallF} (hC : call.Sound Tryz.prog TT) (x : Nd) (g : FuncId) (hx : TT.ext g = none) (cs : List V) (b : Bool) (hs : ∀ H, call g (x.enc :: cs) H = .val (.b b) H) : Body Tryz.prog TT 66 [x.enc, .ipt 1 [.agg [.fn g cs]] 0 0] (.val (.b ((x.kind == 5) || b))) := by
  refine ⟨Tryz.f66, _, rfl, rfl, by simp [Tryz.f66], ?_⟩
  have h0 : (Tm.init Tryz.f66.ntmps [x.enc, .ipt 1 [.agg [.fn g cs]] 0 0]).get 0 = x.enc := by rw [get_init]; rfl
  have h1 : (Tm.init Tryz.f66.ntmps [x.enc, .ipt 1 [.agg [.fn g cs]] 0 0]).get 1 = .ipt 1 [.agg [.fn g cs]] 0 0 := by rw [get_init]; rfl
  have hw : (Tm.init Tryz.f66.ntmps [x.enc, .ipt 1 [.agg [.fn g cs]] 0 0]).wid = 12 := rfl
  generalize Tm.init Tryz.f66.ntmps [x.enc, .ipt 1 [.agg [.fn g cs]] 0 0] = t at *
  try simp only [Nd.enc_eq] at *
  refine Tri.seq' ?_
  refine Tri.regN (t' := ?t1) (H' := ?H1) TT_ok hC ?e1 ?q1
  case e1 =>
    refine go_false ?_
    refine evSeq_go rfl (by simp [h0, h1, hs, hx] <;> rfl) (by rfl) (by simp [hw]) ?_
    refine evSeq_go rfl (by simp [h0, h1, hs, hx] <;> rfl) (by rfl) (by simp [hw]) ?_
    exact evSeq_nil
  refine inSeq_norm ?_
  refine Tri.seq' ?_
  cases hB1 : (x.kind == 5 : Bool)
  case false =>
    refine Tri.regN (t' := ?tq1f2) (H' := ?Hq1f2) TT_ok hC ?eq1f2 ?qq1f2
    case eq1f2 =>
      refine go_false ?_
      refine evSeq_go rfl (by simp [h0, h1, hs, hx, hB1] <;> rfl) (by rfl) (by simp [hw]) ?_
      refine evSeq_go rfl (by simp [h0, h1, hs, hx, hB1] <;> rfl) (by rfl) (by simp [hw]) ?_
      refine evSeq_go rfl (by simp [h0, h1, hs, hx, hB1] <;> rfl) (by rfl) (by simp [hw]) ?_
      refine evSeq_go rfl (by simp [h0, h1, hs, hx, hB1] <;> rfl) (by rfl) (by simp [hw]) ?_
      refine evSeq_go (by simp [wants, h0, h1, hs, hx, hB1]) (by simp [h0, h1, hs, hx, hB1] <;> rfl) (by rfl) (by simp [hw]) ?_
      refine evSeq_go (by simp [wants, h0, h1, hs, hx, hB1]) (by simp [h0, h1, hs, hx, hB1] <;> rfl) (by rfl) (by simp [hw]) ?_
      refine evSeq_go (by simp [wants, h0, h1, hs, hx, hB1]) (by simp [h0, h1, hs, hx, hB1] <;> rfl) (by rfl) (by simp [hw]) ?_
      refine evSeq_go rfl (by simp [h0, h1, hs, hx, hB1] <;> rfl) (by rfl) (by simp [hw]) ?_
      refine evSeq_go rfl (by simp [h0, h1, hs, hx, hB1] <;> rfl) (by rfl) (by simp [hw]) ?_
      exact evSeq_nil
    refine inSeq_norm ?_
    refine Tri.ret ?_
    simp [Ends, finish, evResults, evResult, Tryz.f66, h0, h1, hs, hx, hB1]
  case true =>
    refine Tri.regN (t' := ?tq1t2) (H' := ?Hq1t2) TT_ok hC ?eq1t2 ?qq1t2
    case eq1t2 =>
      refine go_false ?_
      refine evSeq_go rfl (by simp [h0, h1, hs, hx, hB1] <;> rfl) (by rfl) (by simp [hw]) ?_
      refine evSeq_go rfl (by simp [h0, h1, hs, hx, hB1] <;> rfl) (by rfl) (by simp [hw]) ?_
      refine evSeq_go rfl (by simp [h0, h1, hs, hx, hB1] <;> rfl) (by rfl) (by simp [hw]) ?_
      refine evSeq_go rfl (by simp [h0, h1, hs, hx, hB1] <;> rfl) (by rfl) (by simp [hw]) ?_
      refine evSeq_off (by simp [wants, h0, h1, hs, hx, hB1]) (by simp [hw]) ?_
      refine evSeq_off (by simp [wants, h0, h1, hs, hx, hB1]) (by simp [hw]) ?_
      refine evSeq_off (by simp [wants, h0, h1, hs, hx, hB1]) (by simp [hw]) ?_
      refine evSeq_go rfl (by simp [h0, h1, hs, hx, hB1] <;> rfl) (by rfl) (by simp [hw]) ?_
      refine evSeq_go rfl (by simp [h0, h1, hs, hx, hB1] <;> rfl) (by rfl) (by simp [hw]) ?_
      exact evSeq_nil
    refine inSeq_norm ?_
    refine Tri.ret ?_
    simp [Ends, finish, evResults, evResult, Tryz.f66, h0, h1, hs, hx, hB1]
theorem body_48 {call : CallF} (hC : call.Sound Tryz.prog TT) (x : Nd) (l : List V) (b : Bool) (hs : ∀ H, call 62 [.isl 1 l, .s x.text] H = .val (.b b) H) : Body Tryz.prog TT 61 [x.enc, .ipt 1 [.agg [.isl 1 l]] 0 0] (.val (.b ((x.kind == 4) && b))) := by
  refine ⟨Tryz.f61, _, rfl, rfl, by simp [Tryz.f61], ?_⟩
  have h0 : (Tm.init Tryz.f61.ntmps [x.enc, .ipt 1 [.agg [.isl 1 l]] 0 0]).get 0 = x.enc := by rw [get_init]; rfl
  have h1 : (Tm.init Tryz.f61.ntmps [x.enc, .ipt 1 [.agg [.isl 1 l]] 0 0]).get 1 = .ipt 1 [.agg [.isl 1 l]] 0 0 := by rw [get_init]; rfl
  have hw : (Tm.init Tryz.f61.ntmps [x.enc, .ipt 1 [.agg [.isl 1 l]] 0 0]).wid = 13 := rfl
  generalize Tm.init Tryz.f61.ntmps [x.enc, .ipt 1 [.agg [.isl 1 l]] 0 0] = t at *
  try simp only [Nd.enc_eq] at *
  refine Tri.seq' ?_
  refine Tri.regN (t' := ?t1) (H' := ?H1) TT_ok hC ?e1 ?q1
  case e1 =>
    refine go_false ?_
    refine evSeq_go rfl (by simp [h0, h1, hs] <;> rfl) (by rfl) (by simp [hw]) ?_
    refine evSeq_go rfl (by simp [h0, h1, hs] <;> rfl) (by rfl) (by simp [hw]) ?_
    exact evSeq_nil
  refine inSeq_norm ?_
  refine Tri.seq' ?_
  cases hB1 : (x.kind == 4 : Bool)
  case false =>
    refine Tri.regN (t' := ?tq1f2) (H' := ?Hq1f2) TT_ok hC ?eq1f2 ?qq1f2
    case eq1f2 =>
      refine go_false ?_
      refine evSeq_go rfl (by simp [h0, h1, hs, hB1] <;> rfl) (by rfl) (by simp [hw]) ?_
      refine evSeq_go rfl (by simp [h0, h1, hs, hB1] <;> rfl) (by rfl) (by simp [hw]) ?_
      refine evSeq_go rfl (by simp [h0, h1, hs, hB1] <;> rfl) (by rfl) (by simp [hw]) ?_
      refine evSeq_go rfl (by simp [h0, h1, hs, hB1] <;> rfl) (by rfl) (by simp [hw]) ?_
      refine evSeq_off (by simp [wants, h0, h1, hs, hB1]) (by simp [hw]) ?_
      refine evSeq_off (by simp [wants, h0, h1, hs, hB1]) (by simp [hw]) ?_
      refine evSeq_off (by simp [wants, h0, h1, hs, hB1]) (by simp [hw]) ?_
      refine evSeq_off (by simp [wants, h0, h1, hs, hB1]) (by simp [hw]) ?_
      refine evSeq_go rfl (by simp [h0, h1, hs, hB1] <;> rfl) (by rfl) (by simp [hw]) ?_
      refine evSeq_go rfl (by simp [h0, h1, hs, hB1] <;> rfl) (by rfl) (by simp [hw]) ?_
      exact evSeq_nil
    refine inSeq_norm ?_
    refine Tri.ret ?_
    simp [Ends, finish, evResults, evResult, Tryz.f61, h0, h1, hs, hB1]
  case true =>
    refine Tri.regN (t' := ?tq1t2) (H' := ?Hq1t2) TT_ok hC ?eq1t2 ?qq1t2
    case eq1t2 =>
      refine go_false ?_
      refine evSeq_go rfl (by simp [h0, h1, hs, hB1] <;> rfl) (by rfl) (by simp [hw]) ?_
      refine evSeq_go rfl (by simp [h0, h1, hs, hB1] <;> rfl) (by rfl) (by simp [hw]) ?_
      refine evSeq_go rfl (by simp [h0, h1, hs, hB1] <;> rfl) (by rfl) (by simp [hw]) ?_
      refine evSeq_go rfl (by simp [h0, h1, hs, hB1] <;> rfl) (by rfl) (by simp [hw]) ?_
      refine evSeq_go (by simp [wants, h0, h1, hs, hB1]) (by simp [h0, h1, hs, hB1] <;> rfl) (by rfl) (by simp [hw]) ?_
      refine evSeq_go (by simp [wants, h0, h1, hs, hB1]) (by simp [h0, h1, hs, hB1] <;> rfl) (by rfl) (by simp [hw]) ?_
      refine evSeq_go (by simp [wants, h0, h1, hs, hB1]) (by simp [h0, h1, hs, hB1] <;> rfl) (by rfl) (by simp [hw]) ?_
      refine evSeq_go (by simp [wants, h0, h1, hs, hB1]) (by simp [h0, h1, hs, hB1] <;> rfl) (by rfl) (by simp [hw]) ?_
      refine evSeq_go rfl (by simp [h0, h1, hs, hB1] <;> rfl) (by rfl) (by simp [hw]) ?_
      refine evSeq_go rfl (by simp [h0, h1, hs, hB1] <;> rfl) (by rfl) (by simp [hw]) ?_
      exact evSeq_nil
    refine inSeq_norm ?_
    refine Tri.ret ?_
    simp [Ends, finish, evResults, evResult, Tryz.f61, h0, h1, hs, hB1]
theorem body_63 {call : CallF} (hC : call.Sound Tryz.prog TT) (s : List UInt8) (l : List V) (b : Bool) (hs : ∀ H, call 62 [.isl 1 l, .s s] H = .val (.b b) H) : Body Tryz.prog TT 76 [.s s, .ipt 1 [.agg [.isl 1 l]] 0 0] (.val (.b b)) := by
  refine ⟨Tryz.f76, _, rfl, rfl, by simp [Tryz.f76], ?_⟩
  have h0 : (Tm.init Tryz.f76.ntmps [.s s, .ipt 1 [.agg [.isl 1 l]] 0 0]).get 0 = .s s := by rw [get_init]; rfl
  have h1 : (Tm.init Tryz.f76.ntmps [.s s, .ipt 1 [.agg [.isl 1 l]] 0 0]).get 1 = .ipt 1 [.agg [.isl 1 l]] 0 0 := by rw [get_init]; rfl
  have hw : (Tm.init Tryz.f76.ntmps [.s s, .ipt 1 [.agg [.isl 1 l]] 0 0]).wid = 7 := rfl
  generalize Tm.init Tryz.f76.ntmps [.s s, .ipt 1 [.agg [.isl 1 l]] 0 0] = t at *
  try simp only [Nd.enc_eq] at *
  refine Tri.seq' ?_
  refine Tri.regN (t' := ?t1) (H' := ?H1) TT_ok hC ?e1 ?q1
  case e1 =>
    refine go_false ?_
    refine evSeq_go rfl (by simp [h0, h1, hs] <;> rfl) (by rfl) (by simp [hw]) ?_
    exact evSeq_nil
  refine inSeq_norm ?_
  refine Tri.seq' ?_
  refine Tri.regN (t' := ?t2) (H' := ?H2) TT_ok hC ?e2 ?q2
  case e2 =>
    refine go_false ?_
    refine evSeq_go rfl (by simp [h0, h1, hs] <;> rfl) (by rfl) (by simp [hw]) ?_
    refine evSeq_go rfl (by simp [h0, h1, hs] <;> rfl) (by rfl) (by simp [hw]) ?_
    refine evSeq_go rfl (by simp [h0, h1, hs] <;> rfl) (by rfl) (by simp [hw]) ?_
    refine evSeq_go rfl (by simp [h0, h1, hs] <;> rfl) (by rfl) (by simp [hw]) ?_
    exact evSeq_nil
  refine inSeq_norm ?_
  refine Tri.ret ?_
  simp [Ends, finish, evResults, evResult, Tryz.f76, h0, h1, hs]
theorem body_83 {call : CallF} (hC : call.Sound Tryz.prog TT) (c : Int) : Body Tryz.prog TT 108 [.i .u8 c] (.val (.b ((decide (97 ≤ c) && decide (c ≤ 122)) || (decide (65 ≤ c) && decide (c ≤ 90)) || (c == 95)))) := by
  refine ⟨Tryz.f108, _, rfl, rfl, by simp [Tryz.f108], ?_⟩
  have h0 : (Tm.init Tryz.f108.ntmps [.i .u8 c]).get 0 = .i .u8 c := by rw [get_init]; rfl
  have hw : (Tm.init Tryz.f108.ntmps [.i .u8 c]).wid = 21 := rfl
  generalize Tm.init Tryz.f108.ntmps [.i .u8 c] = t at *
  try simp only [Nd.enc_eq] at *
  refine Tri.seq' ?_
  refine Tri.regN (t' := ?t1) (H' := ?H1) TT_ok hC ?e1 ?q1
  case e1 =>
    refine go_false ?_
    refine evSeq_go rfl (by simp [h0] <;> rfl) (by rfl) (by simp [hw]) ?_
    exact evSeq_nil
  refine inSeq_norm ?_
  refine Tri.seq' ?_
  cases hB1 : (decide (97 ≤ c) : Bool)
  case false =>
    cases hB2 : (decide (65 ≤ c) : Bool)
    case false =>
      refine Tri.regN (t' := ?tq1fq2f2) (H' := ?Hq1fq2f2) TT_ok hC ?eq1fq2f2 ?qq1fq2f2
      case eq1fq2f2 =>
        refine go_false ?_
        refine evSeq_go rfl (by simp [h0, hB1, hB2] <;> rfl) (by rfl) (by simp [hw]) ?_
        refine evSeq_go rfl (by simp [h0, hB1, hB2] <;> rfl) (by rfl) (by simp [hw]) ?_
        refine evSeq_go rfl (by simp [h0, hB1, hB2] <;> rfl) (by rfl) (by simp [hw]) ?_
        refine evSeq_off (by simp [wants, h0, hB1, hB2]) (by simp [hw]) ?_
        refine evSeq_off (by simp [wants, h0, hB1, hB2]) (by simp [hw]) ?_
        refine evSeq_go rfl (by simp [h0, hB1, hB2] <;> rfl) (by rfl) (by simp [hw]) ?_
        refine evSeq_go rfl (by simp [h0, hB1, hB2] <;> rfl) (by rfl) (by simp [hw]) ?_
        refine evSeq_go (by simp [wants, h0, hB1, hB2]) (by simp [h0, hB1, hB2] <;> rfl) (by rfl) (by simp [hw]) ?_
        refine evSeq_go (by simp [wants, h0, hB1, hB2]) (by simp [h0, hB1, hB2] <;> rfl) (by rfl) (by simp [hw]) ?_
        refine evSeq_go (by simp [wants, h0, hB1, hB2]) (by simp [h0, hB1, hB2] <;> rfl) (by rfl) (by simp [hw]) ?_
        refine evSeq_off (by simp [wants, h0, hB1, hB2]) (by simp [hw]) ?_
        refine evSeq_off (by simp [wants, h0, hB1, hB2]) (by simp [hw]) ?_
        refine evSeq_go (by simp [wants, h0, hB1, hB2]) (by simp [h0, hB1, hB2] <;> rfl) (by rfl) (by simp [hw]) ?_
        refine evSeq_go rfl (by simp [h0, hB1, hB2] <;> rfl) (by rfl) (by simp [hw]) ?_
        refine evSeq_go rfl (by simp [h0, hB1, hB2] <;> rfl) (by rfl) (by simp [hw]) ?_
        refine evSeq_go (by simp [wants, h0, hB1, hB2]) (by simp [h0, hB1, hB2] <;> rfl) (by rfl) (by simp [hw]) ?_
        refine evSeq_go (by simp [wants, h0, hB1, hB2]) (by simp [h0, hB1, hB2] <;> rfl) (by rfl) (by simp [hw]) ?_
        refine evSeq_go rfl (by simp [h0, hB1, hB2] <;> rfl) (by rfl) (by simp [hw]) ?_
        refine evSeq_go rfl (by simp [h0, hB1, hB2] <;> rfl) (by rfl) (by simp [hw]) ?_
        exact evSeq_nil
      refine inSeq_norm ?_
      refine Tri.ret ?_
      simp [Ends, finish, evResults, evResult, Tryz.f108, h0, hB1, hB2]
    case true =>
      cases hB3 : (decide (c ≤ 90) : Bool)
      case false =>
        refine Tri.regN (t' := ?tq1fq2tq3f2) (H' := ?Hq1fq2tq3f2) TT_ok hC ?eq1fq2tq3f2 ?qq1fq2tq3f2
        case eq1fq2tq3f2 =>
          refine go_false ?_
          refine evSeq_go rfl (by simp [h0, hB1, hB2, hB3] <;> rfl) (by rfl) (by simp [hw]) ?_
          refine evSeq_go rfl (by simp [h0, hB1, hB2, hB3] <;> rfl) (by rfl) (by simp [hw]) ?_
          refine evSeq_go rfl (by simp [h0, hB1, hB2, hB3] <;> rfl) (by rfl) (by simp [hw]) ?_
          refine evSeq_off (by simp [wants, h0, hB1, hB2, hB3]) (by simp [hw]) ?_
          refine evSeq_off (by simp [wants, h0, hB1, hB2, hB3]) (by simp [hw]) ?_
          refine evSeq_go rfl (by simp [h0, hB1, hB2, hB3] <;> rfl) (by rfl) (by simp [hw]) ?_
          refine evSeq_go rfl (by simp [h0, hB1, hB2, hB3] <;> rfl) (by rfl) (by simp [hw]) ?_
          refine evSeq_go (by simp [wants, h0, hB1, hB2, hB3]) (by simp [h0, hB1, hB2, hB3] <;> rfl) (by rfl) (by simp [hw]) ?_
          refine evSeq_go (by simp [wants, h0, hB1, hB2, hB3]) (by simp [h0, hB1, hB2, hB3] <;> rfl) (by rfl) (by simp [hw]) ?_
          refine evSeq_go (by simp [wants, h0, hB1, hB2, hB3]) (by simp [h0, hB1, hB2, hB3] <;> rfl) (by rfl) (by simp [hw]) ?_
          refine evSeq_go (by simp [wants, h0, hB1, hB2, hB3]) (by simp [h0, hB1, hB2, hB3] <;> rfl) (by rfl) (by simp [hw]) ?_
          refine evSeq_go (by simp [wants, h0, hB1, hB2, hB3]) (by simp [h0, hB1, hB2, hB3] <;> rfl) (by rfl) (by simp [hw]) ?_
          refine evSeq_go (by simp [wants, h0, hB1, hB2, hB3]) (by simp [h0, hB1, hB2, hB3] <;> rfl) (by rfl) (by simp [hw]) ?_
          refine evSeq_go rfl (by simp [h0, hB1, hB2, hB3] <;> rfl) (by rfl) (by simp [hw]) ?_
          refine evSeq_go rfl (by simp [h0, hB1, hB2, hB3] <;> rfl) (by rfl) (by simp [hw]) ?_
          refine evSeq_go (by simp [wants, h0, hB1, hB2, hB3]) (by simp [h0, hB1, hB2, hB3] <;> rfl) (by rfl) (by simp [hw]) ?_
          refine evSeq_go (by simp [wants, h0, hB1, hB2, hB3]) (by simp [h0, hB1, hB2, hB3] <;> rfl) (by rfl) (by simp [hw]) ?_
          refine evSeq_go rfl (by simp [h0, hB1, hB2, hB3] <;> rfl) (by rfl) (by simp [hw]) ?_
          refine evSeq_go rfl (by simp [h0, hB1, hB2, hB3] <;> rfl) (by rfl) (by simp [hw]) ?_
          exact evSeq_nil
        refine inSeq_norm ?_
        refine Tri.ret ?_
        simp [Ends, finish, evResults, evResult, Tryz.f108, h0, hB1, hB2, hB3]
      case true =>
        refine Tri.regN (t' := ?tq1fq2tq3t2) (H' := ?Hq1fq2tq3t2) TT_ok hC ?eq1fq2tq3t2 ?qq1fq2tq3t2
        case eq1fq2tq3t2 =>
          refine go_false ?_
          refine evSeq_go rfl (by simp [h0, hB1, hB2, hB3] <;> rfl) (by rfl) (by simp [hw]) ?_
          refine evSeq_go rfl (by simp [h0, hB1, hB2, hB3] <;> rfl) (by rfl) (by simp [hw]) ?_
          refine evSeq_go rfl (by simp [h0, hB1, hB2, hB3] <;> rfl) (by rfl) (by simp [hw]) ?_
          refine evSeq_off (by simp [wants, h0, hB1, hB2, hB3]) (by simp [hw]) ?_
          refine evSeq_off (by simp [wants, h0, hB1, hB2, hB3]) (by simp [hw]) ?_
          refine evSeq_go rfl (by simp [h0, hB1, hB2, hB3] <;> rfl) (by rfl) (by simp [hw]) ?_
          refine evSeq_go rfl (by simp [h0, hB1, hB2, hB3] <;> rfl) (by rfl) (by simp [hw]) ?_
          refine evSeq_go (by simp [wants, h0, hB1, hB2, hB3]) (by simp [h0, hB1, hB2, hB3] <;> rfl) (by rfl) (by simp [hw]) ?_
          refine evSeq_go (by simp [wants, h0, hB1, hB2, hB3]) (by simp [h0, hB1, hB2, hB3] <;> rfl) (by rfl) (by simp [hw]) ?_
          refine evSeq_go (by simp [wants, h0, hB1, hB2, hB3]) (by simp [h0, hB1, hB2, hB3] <;> rfl) (by rfl) (by simp [hw]) ?_
          refine evSeq_go (by simp [wants, h0, hB1, hB2, hB3]) (by simp [h0, hB1, hB2, hB3] <;> rfl) (by rfl) (by simp [hw]) ?_
          refine evSeq_go (by simp [wants, h0, hB1, hB2, hB3]) (by simp [h0, hB1, hB2, hB3] <;> rfl) (by rfl) (by simp [hw]) ?_
          refine evSeq_go (by simp [wants, h0, hB1, hB2, hB3]) (by simp [h0, hB1, hB2, hB3] <;> rfl) (by rfl) (by simp [hw]) ?_
          refine evSeq_go rfl (by simp [h0, hB1, hB2, hB3] <;> rfl) (by rfl) (by simp [hw]) ?_
          refine evSeq_go rfl (by simp [h0, hB1, hB2, hB3] <;> rfl) (by rfl) (by simp [hw]) ?_
          refine evSeq_off (by simp [wants, h0, hB1, hB2, hB3]) (by simp [hw]) ?_
          refine evSeq_off (by simp [wants, h0, hB1, hB2, hB3]) (by simp [hw]) ?_
          refine evSeq_go rfl (by simp [h0, hB1, hB2, hB3] <;> rfl) (by rfl) (by simp [hw]) ?_
          refine evSeq_go rfl (by simp [h0, hB1, hB2, hB3] <;> rfl) (by rfl) (by simp [hw]) ?_
          exact evSeq_nil
        refine inSeq_norm ?_
        refine Tri.ret ?_
        simp [Ends, finish, evResults, evResult, Tryz.f108, h0, hB1, hB2, hB3]
  case true =>
    cases hB4 : (decide (c ≤ 122) : Bool)
    case false =>
      cases hB5 : (decide (65 ≤ c) : Bool)
      case false =>
        refine Tri.regN (t' := ?tq1tq4fq5f2) (H' := ?Hq1tq4fq5f2) TT_ok hC ?eq1tq4fq5f2 ?qq1tq4fq5f2
        case eq1tq4fq5f2 =>
          refine go_false ?_
          refine evSeq_go rfl (by simp [h0, hB1, hB4, hB5] <;> rfl) (by rfl) (by simp [hw]) ?_
          refine evSeq_go rfl (by simp [h0, hB1, hB4, hB5] <;> rfl) (by rfl) (by simp [hw]) ?_
          refine evSeq_go rfl (by simp [h0, hB1, hB4, hB5] <;> rfl) (by rfl) (by simp [hw]) ?_
          refine evSeq_go (by simp [wants, h0, hB1, hB4, hB5]) (by simp [h0, hB1, hB4, hB5] <;> rfl) (by rfl) (by simp [hw]) ?_
          refine evSeq_go (by simp [wants, h0, hB1, hB4, hB5]) (by simp [h0, hB1, hB4, hB5] <;> rfl) (by rfl) (by simp [hw]) ?_
          refine evSeq_go rfl (by simp [h0, hB1, hB4, hB5] <;> rfl) (by rfl) (by simp [hw]) ?_
          refine evSeq_go rfl (by simp [h0, hB1, hB4, hB5] <;> rfl) (by rfl) (by simp [hw]) ?_
          refine evSeq_go (by simp [wants, h0, hB1, hB4, hB5]) (by simp [h0, hB1, hB4, hB5] <;> rfl) (by rfl) (by simp [hw]) ?_
          refine evSeq_go (by simp [wants, h0, hB1, hB4, hB5]) (by simp [h0, hB1, hB4, hB5] <;> rfl) (by rfl) (by simp [hw]) ?_
          refine evSeq_go (by simp [wants, h0, hB1, hB4, hB5]) (by simp [h0, hB1, hB4, hB5] <;> rfl) (by rfl) (by simp [hw]) ?_
          refine evSeq_off (by simp [wants, h0, hB1, hB4, hB5]) (by simp [hw]) ?_
          refine evSeq_off (by simp [wants, h0, hB1, hB4, hB5]) (by simp [hw]) ?_
          refine evSeq_go (by simp [wants, h0, hB1, hB4, hB5]) (by simp [h0, hB1, hB4, hB5] <;> rfl) (by rfl) (by simp [hw]) ?_
          refine evSeq_go rfl (by simp [h0, hB1, hB4, hB5] <;> rfl) (by rfl) (by simp [hw]) ?_
          refine evSeq_go rfl (by simp [h0, hB1, hB4, hB5] <;> rfl) (by rfl) (by simp [hw]) ?_
          refine evSeq_go (by simp [wants, h0, hB1, hB4, hB5]) (by simp [h0, hB1, hB4, hB5] <;> rfl) (by rfl) (by simp [hw]) ?_
          refine evSeq_go (by simp [wants, h0, hB1, hB4, hB5]) (by simp [h0, hB1, hB4, hB5] <;> rfl) (by rfl) (by simp [hw]) ?_
          refine evSeq_go rfl (by simp [h0, hB1, hB4, hB5] <;> rfl) (by rfl) (by simp [hw]) ?_
          refine evSeq_go rfl (by simp [h0, hB1, hB4, hB5] <;> rfl) (by rfl) (by simp [hw]) ?_
          exact evSeq_nil
        refine inSeq_norm ?_
        refine Tri.ret ?_
        simp [Ends, finish, evResults, evResult, Tryz.f108, h0, hB1, hB4, hB5]
      case true =>
        cases hB6 : (decide (c ≤ 90) : Bool)
        case false =>
          refine Tri.regN (t' := ?tq1tq4fq5tq6f2) (H' := ?Hq1tq4fq5tq6f2) TT_ok hC ?eq1tq4fq5tq6f2 ?qq1tq4fq5tq6f2
          case eq1tq4fq5tq6f2 =>
            refine go_false ?_
            refine evSeq_go rfl (by simp [h0, hB1, hB4, hB5, hB6] <;> rfl) (by rfl) (by simp [hw]) ?_
            refine evSeq_go rfl (by simp [h0, hB1, hB4, hB5, hB6] <;> rfl) (by rfl) (by simp [hw]) ?_
            refine evSeq_go rfl (by simp [h0, hB1, hB4, hB5, hB6] <;> rfl) (by rfl) (by simp [hw]) ?_
            refine evSeq_go (by simp [wants, h0, hB1, hB4, hB5, hB6]) (by simp [h0, hB1, hB4, hB5, hB6] <;> rfl) (by rfl) (by simp [hw]) ?_
            refine evSeq_go (by simp [wants, h0, hB1, hB4, hB5, hB6]) (by simp [h0, hB1, hB4, hB5, hB6] <;> rfl) (by rfl) (by simp [hw]) ?_
            refine evSeq_go rfl (by simp [h0, hB1, hB4, hB5, hB6] <;> rfl) (by rfl) (by simp [hw]) ?_
            refine evSeq_go rfl (by simp [h0, hB1, hB4, hB5, hB6] <;> rfl) (by rfl) (by simp [hw]) ?_
            refine evSeq_go (by simp [wants, h0, hB1, hB4, hB5, hB6]) (by simp [h0, hB1, hB4, hB5, hB6] <;> rfl) (by rfl) (by simp [hw]) ?_
            refine evSeq_go (by simp [wants, h0, hB1, hB4, hB5, hB6]) (by simp [h0, hB1, hB4, hB5, hB6] <;> rfl) (by rfl) (by simp [hw]) ?_
            refine evSeq_go (by simp [wants, h0, hB1, hB4, hB5, hB6]) (by simp [h0, hB1, hB4, hB5, hB6] <;> rfl) (by rfl) (by simp [hw]) ?_
            refine evSeq_go (by simp [wants, h0, hB1, hB4, hB5, hB6]) (by simp [h0, hB1, hB4, hB5, hB6] <;> rfl) (by rfl) (by simp [hw]) ?_
            refine evSeq_go (by simp [wants, h0, hB1, hB4, hB5, hB6]) (by simp [h0, hB1, hB4, hB5, hB6] <;> rfl) (by rfl) (by simp [hw]) ?_
            refine evSeq_go (by simp [wants, h0, hB1, hB4, hB5, hB6]) (by simp [h0, hB1, hB4, hB5, hB6] <;> rfl) (by rfl) (by simp [hw]) ?_
            refine evSeq_go rfl (by simp [h0, hB1, hB4, hB5, hB6] <;> rfl) (by rfl) (by simp [hw]) ?_
            refine evSeq_go rfl (by simp [h0, hB1, hB4, hB5, hB6] <;> rfl) (by rfl) (by simp [hw]) ?_
            refine evSeq_go (by simp [wants, h0, hB1, hB4, hB5, hB6]) (by simp [h0, hB1, hB4, hB5, hB6] <;> rfl) (by rfl) (by simp [hw]) ?_
            refine evSeq_go (by simp [wants, h0, hB1, hB4, hB5, hB6]) (by simp [h0, hB1, hB4, hB5, hB6] <;> rfl) (by rfl) (by simp [hw]) ?_
            refine evSeq_go rfl (by simp [h0, hB1, hB4, hB5, hB6] <;> rfl) (by rfl) (by simp [hw]) ?_
            refine evSeq_go rfl (by simp [h0, hB1, hB4, hB5, hB6] <;> rfl) (by rfl) (by simp [hw]) ?_
            exact evSeq_nil
          refine inSeq_norm ?_
          refine Tri.ret ?_
          simp [Ends, finish, evResults, evResult, Tryz.f108, h0, hB1, hB4, hB5, hB6]
        case true =>
          refine Tri.regN (t' := ?tq1tq4fq5tq6t2) (H' := ?Hq1tq4fq5tq6t2) TT_ok hC ?eq1tq4fq5tq6t2 ?qq1tq4fq5tq6t2
          case eq1tq4fq5tq6t2 =>
            refine go_false ?_
            refine evSeq_go rfl (by simp [h0, hB1, hB4, hB5, hB6] <;> rfl) (by rfl) (by simp [hw]) ?_
            refine evSeq_go rfl (by simp [h0, hB1, hB4, hB5, hB6] <;> rfl) (by rfl) (by simp [hw]) ?_
            refine evSeq_go rfl (by simp [h0, hB1, hB4, hB5, hB6] <;> rfl) (by rfl) (by simp [hw]) ?_
            refine evSeq_go (by simp [wants, h0, hB1, hB4, hB5, hB6]) (by simp [h0, hB1, hB4, hB5, hB6] <;> rfl) (by rfl) (by simp [hw]) ?_
            refine evSeq_go (by simp [wants, h0, hB1, hB4, hB5, hB6]) (by simp [h0, hB1, hB4, hB5, hB6] <;> rfl) (by rfl) (by simp [hw]) ?_
            refine evSeq_go rfl (by simp [h0, hB1, hB4, hB5, hB6] <;> rfl) (by rfl) (by simp [hw]) ?_
            refine evSeq_go rfl (by simp [h0, hB1, hB4, hB5, hB6] <;> rfl) (by rfl) (by simp [hw]) ?_
            refine evSeq_go (by simp [wants, h0, hB1, hB4, hB5, hB6]) (by simp [h0, hB1, hB4, hB5, hB6] <;> rfl) (by rfl) (by simp [hw]) ?_
            refine evSeq_go (by simp [wants, h0, hB1, hB4, hB5, hB6]) (by simp [h0, hB1, hB4, hB5, hB6] <;> rfl) (by rfl) (by simp [hw]) ?_
            refine evSeq_go (by simp [wants, h0, hB1, hB4, hB5, hB6]) (by simp [h0, hB1, hB4, hB5, hB6] <;> rfl) (by rfl) (by simp [hw]) ?_
            refine evSeq_go (by simp [wants, h0, hB1, hB4, hB5, hB6]) (by simp [h0, hB1, hB4, hB5, hB6] <;> rfl) (by rfl) (by simp [hw]) ?_
            refine evSeq_go (by simp [wants, h0, hB1, hB4, hB5, hB6]) (by simp [h0, hB1, hB4, hB5, hB6] <;> rfl) (by rfl) (by simp [hw]) ?_
            refine evSeq_go (by simp [wants, h0, hB1, hB4, hB5, hB6]) (by simp [h0, hB1, hB4, hB5, hB6] <;> rfl) (by rfl) (by simp [hw]) ?_
            refine evSeq_go rfl (by simp [h0, hB1, hB4, hB5, hB6] <;> rfl) (by rfl) (by simp [hw]) ?_
            refine evSeq_go rfl (by simp [h0, hB1, hB4, hB5, hB6] <;> rfl) (by rfl) (by simp [hw]) ?_
            refine evSeq_off (by simp [wants, h0, hB1, hB4, hB5, hB6]) (by simp [hw]) ?_
            refine evSeq_off (by simp [wants, h0, hB1, hB4, hB5, hB6]) (by simp [hw]) ?_
            refine evSeq_go rfl (by simp [h0, hB1, hB4, hB5, hB6] <;> rfl) (by rfl) (by simp [hw]) ?_
            refine evSeq_go rfl (by simp [h0, hB1, hB4, hB5, hB6] <;> rfl) (by rfl) (by simp [hw]) ?_
            exact evSeq_nil
          refine inSeq_norm ?_
          refine Tri.ret ?_
          simp [Ends, finish, evResults, evResult, Tryz.f108, h0, hB1, hB4, hB5, hB6]
    case true =>
      refine Tri.regN (t' := ?tq1tq4t2) (H' := ?Hq1tq4t2) TT_ok hC ?eq1tq4t2 ?qq1tq4t2
      case eq1tq4t2 =>
        refine go_false ?_
        refine evSeq_go rfl (by simp [h0, hB1, hB4] <;> rfl) (by rfl) (by simp [hw]) ?_
        refine evSeq_go rfl (by simp [h0, hB1, hB4] <;> rfl) (by rfl) (by simp [hw]) ?_
        refine evSeq_go rfl (by simp [h0, hB1, hB4] <;> rfl) (by rfl) (by simp [hw]) ?_
        refine evSeq_go (by simp [wants, h0, hB1, hB4]) (by simp [h0, hB1, hB4] <;> rfl) (by rfl) (by simp [hw]) ?_
        refine evSeq_go (by simp [wants, h0, hB1, hB4]) (by simp [h0, hB1, hB4] <;> rfl) (by rfl) (by simp [hw]) ?_
        refine evSeq_go rfl (by simp [h0, hB1, hB4] <;> rfl) (by rfl) (by simp [hw]) ?_
        refine evSeq_go rfl (by simp [h0, hB1, hB4] <;> rfl) (by rfl) (by simp [hw]) ?_
        refine evSeq_off (by simp [wants, h0, hB1, hB4]) (by simp [hw]) ?_
        refine evSeq_off (by simp [wants, h0, hB1, hB4]) (by simp [hw]) ?_
        refine evSeq_off (by simp [wants, h0, hB1, hB4]) (by simp [hw]) ?_
        refine evSeq_off (by simp [wants, h0, hB1, hB4]) (by simp [hw]) ?_
        refine evSeq_off (by simp [wants, h0, hB1, hB4]) (by simp [hw]) ?_
        refine evSeq_off (by simp [wants, h0, hB1, hB4]) (by simp [hw]) ?_
        refine evSeq_go rfl (by simp [h0, hB1, hB4] <;> rfl) (by rfl) (by simp [hw]) ?_
        refine evSeq_go rfl (by simp [h0, hB1, hB4] <;> rfl) (by rfl) (by simp [hw]) ?_
        refine evSeq_off (by simp [wants, h0, hB1, hB4]) (by simp [hw]) ?_
        refine evSeq_off (by simp [wants, h0, hB1, hB4]) (by simp [hw]) ?_
        refine evSeq_go rfl (by simp [h0, hB1, hB4] <;> rfl) (by rfl) (by simp [hw]) ?_
        refine evSeq_go rfl (by simp [h0, hB1, hB4] <;> rfl) (by rfl) (by simp [hw]) ?_
        exact evSeq_nil
      refine inSeq_norm ?_
      refine Tri.ret ?_
      simp [Ends, finish, evResults, evResult, Tryz.f108, h0, hB1, hB4]
theorem body_99 {call : CallF} (hC : call.Sound Tryz.prog TT) (c : Int) : Body Tryz.prog TT 130 [.i .u8 c] (.val (.b (decide (48 ≤ c) && decide (c ≤ 57)))) := by
  refine ⟨Tryz.f130, _, rfl, rfl, by simp [Tryz.f130], ?_⟩
  have h0 : (Tm.init Tryz.f130.ntmps [.i .u8 c]).get 0 = .i .u8 c := by rw [get_init]; rfl
  have hw : (Tm.init Tryz.f130.ntmps [.i .u8 c]).wid = 9 := rfl
  generalize Tm.init Tryz.f130.ntmps [.i .u8 c] = t at *
  try simp only [Nd.enc_eq] at *
  refine Tri.seq' ?_
  refine Tri.regN (t' := ?t1) (H' := ?H1) TT_ok hC ?e1 ?q1
  case e1 =>
    refine go_false ?_
    refine evSeq_go rfl (by simp [h0] <;> rfl) (by rfl) (by simp [hw]) ?_
    exact evSeq_nil
  refine inSeq_norm ?_
  refine Tri.seq' ?_
  cases hB1 : (decide (48 ≤ c) : Bool)
  case false =>
    refine Tri.regN (t' := ?tq1f2) (H' := ?Hq1f2) TT_ok hC ?eq1f2 ?qq1f2
    case eq1f2 =>
      refine go_false ?_
      refine evSeq_go rfl (by simp [h0, hB1] <;> rfl) (by rfl) (by simp [hw]) ?_
      refine evSeq_go rfl (by simp [h0, hB1] <;> rfl) (by rfl) (by simp [hw]) ?_
      refine evSeq_go rfl (by simp [h0, hB1] <;> rfl) (by rfl) (by simp [hw]) ?_
      refine evSeq_off (by simp [wants, h0, hB1]) (by simp [hw]) ?_
      refine evSeq_off (by simp [wants, h0, hB1]) (by simp [hw]) ?_
      refine evSeq_go rfl (by simp [h0, hB1] <;> rfl) (by rfl) (by simp [hw]) ?_
      refine evSeq_go rfl (by simp [h0, hB1] <;> rfl) (by rfl) (by simp [hw]) ?_
      exact evSeq_nil
    refine inSeq_norm ?_
    refine Tri.ret ?_
    simp [Ends, finish, evResults, evResult, Tryz.f130, h0, hB1]
  case true =>
    refine Tri.regN (t' := ?tq1t2) (H' := ?Hq1t2) TT_ok hC ?eq1t2 ?qq1t2
    case eq1t2 =>
      refine go_false ?_
      refine evSeq_go rfl (by simp [h0, hB1] <;> rfl) (by rfl) (by simp [hw]) ?_
      refine evSeq_go rfl (by simp [h0, hB1] <;> rfl) (by rfl) (by simp [hw]) ?_
      refine evSeq_go rfl (by simp [h0, hB1] <;> rfl) (by rfl) (by simp [hw]) ?_
      refine evSeq_go (by simp [wants, h0, hB1]) (by simp [h0, hB1] <;> rfl) (by rfl) (by simp [hw]) ?_
      refine evSeq_go (by simp [wants, h0, hB1]) (by simp [h0, hB1] <;> rfl) (by rfl) (by simp [hw]) ?_
      refine evSeq_go rfl (by simp [h0, hB1] <;> rfl) (by rfl) (by simp [hw]) ?_
      refine evSeq_go rfl (by simp [h0, hB1] <;> rfl) (by rfl) (by simp [hw]) ?_
      exact evSeq_nil
    refine inSeq_norm ?_
    refine Tri.ret ?_
    simp [Ends, finish, evResults, evResult, Tryz.f130, h0, hB1]
theorem body_84 {call : CallF} (hC : call.Sound Tryz.prog TT) (c : Int) (b b2 : Bool) (hs : ∀ H, call 108 [.i .u8 c] H = .val (.b b) H) (h2 : ∀ H, call 130 [.i .u8 c] H = .val (.b b2) H) : Body Tryz.prog TT 109 [.i .u8 c] (.val (.b (b || b2))) := by
  refine ⟨Tryz.f109, _, rfl, rfl, by simp [Tryz.f109], ?_⟩
  have h0 : (Tm.init Tryz.f109.ntmps [.i .u8 c]).get 0 = .i .u8 c := by rw [get_init]; rfl
  have hw : (Tm.init Tryz.f109.ntmps [.i .u8 c]).wid = 9 := rfl
  generalize Tm.init Tryz.f109.ntmps [.i .u8 c] = t at *
  try simp only [Nd.enc_eq] at *
  refine Tri.seq' ?_
  refine Tri.regN (t' := ?t1) (H' := ?H1) TT_ok hC ?e1 ?q1
  case e1 =>
    refine go_false ?_
    refine evSeq_go rfl (by simp [h0, hs, h2] <;> rfl) (by rfl) (by simp [hw]) ?_
    exact evSeq_nil
  refine inSeq_norm ?_
  refine Tri.seq' ?_
  cases hB1 : (b : Bool)
  case false =>
    refine Tri.regN (t' := ?tq1f2) (H' := ?Hq1f2) TT_ok hC ?eq1f2 ?qq1f2
    case eq1f2 =>
      refine go_false ?_
      refine evSeq_go rfl (by simp [h0, hs, h2, hB1] <;> rfl) (by rfl) (by simp [hw]) ?_
      refine evSeq_go rfl (by simp [h0, hs, h2, hB1] <;> rfl) (by rfl) (by simp [hw]) ?_
      refine evSeq_go rfl (by simp [h0, hs, h2, hB1] <;> rfl) (by rfl) (by simp [hw]) ?_
      refine evSeq_go (by simp [wants, h0, hs, h2, hB1]) (by simp [h0, hs, h2, hB1] <;> rfl) (by rfl) (by simp [hw]) ?_
      refine evSeq_go (by simp [wants, h0, hs, h2, hB1]) (by simp [h0, hs, h2, hB1] <;> rfl) (by rfl) (by simp [hw]) ?_
      refine evSeq_go rfl (by simp [h0, hs, h2, hB1] <;> rfl) (by rfl) (by simp [hw]) ?_
      refine evSeq_go rfl (by simp [h0, hs, h2, hB1] <;> rfl) (by rfl) (by simp [hw]) ?_
      exact evSeq_nil
    refine inSeq_norm ?_
    refine Tri.ret ?_
    simp [Ends, finish, evResults, evResult, Tryz.f109, h0, hs, h2, hB1]
  case true =>
    refine Tri.regN (t' := ?tq1t2) (H' := ?Hq1t2) TT_ok hC ?eq1t2 ?qq1t2
    case eq1t2 =>
      refine go_false ?_
      refine evSeq_go rfl (by simp [h0, hs, h2, hB1] <;> rfl) (by rfl) (by simp [hw]) ?_
      refine evSeq_go rfl (by simp [h0, hs, h2, hB1] <;> rfl) (by rfl) (by simp [hw]) ?_
      refine evSeq_go rfl (by simp [h0, hs, h2, hB1] <;> rfl) (by rfl) (by simp [hw]) ?_
      refine evSeq_off (by simp [wants, h0, hs, h2, hB1]) (by simp [hw]) ?_
      refine evSeq_off (by simp [wants, h0, hs, h2, hB1]) (by simp [hw]) ?_
      refine evSeq_go rfl (by simp [h0, hs, h2, hB1] <;> rfl) (by rfl) (by simp [hw]) ?_
      refine evSeq_go rfl (by simp [h0, hs, h2, hB1] <;> rfl) (by rfl) (by simp [hw]) ?_
      exact evSeq_nil
    refine inSeq_norm ?_
    refine Tri.ret ?_
    simp [Ends, finish, evResults, evResult, Tryz.f109, h0, hs, h2, hB1]
theorem body_26a {call : CallF} (hC : call.Sound Tryz.prog TT) (s : List UInt8) (b : Bool) (hl : decide ((s.length : Int) ≤ 60) = true) (hs : ∀ H, call 65 [.s s] H = .val (.b b) H) : Body Tryz.prog TT 41 [.s s] (.val (.b b)) := by
  refine ⟨Tryz.f41, _, rfl, rfl, by simp [Tryz.f41], ?_⟩
  have h0 : (Tm.init Tryz.f41.ntmps [.s s]).get 0 = .s s := by rw [get_init]; rfl
  have hw : (Tm.init Tryz.f41.ntmps [.s s]).wid = 10 := rfl
  generalize Tm.init Tryz.f41.ntmps [.s s] = t at *
  try simp only [Nd.enc_eq] at *
  refine Tri.seq' ?_
  refine Tri.regN (t' := ?t1) (H' := ?H1) TT_ok hC ?e1 ?q1
  case e1 =>
    refine go_false ?_
    refine evSeq_go rfl (by simp [h0, hs, hl] <;> rfl) (by rfl) (by simp [hw]) ?_
    exact evSeq_nil
  refine inSeq_norm ?_
  refine Tri.seq' ?_
  refine Tri.regN (t' := ?t2) (H' := ?H2) TT_ok hC ?e2 ?q2
  case e2 =>
    refine go_false ?_
    refine evSeq_go rfl (by simp [h0, hs, hl] <;> rfl) (by rfl) (by simp [hw]) ?_
    refine evSeq_go rfl (by simp [h0, hs, hl] <;> rfl) (by rfl) (by simp [hw]) ?_
    refine evSeq_go rfl (by simp [h0, hs, hl] <;> rfl) (by rfl) (by simp [hw]) ?_
    refine evSeq_go rfl (by simp [h0, hs, hl] <;> rfl) (by rfl) (by simp [hw]) ?_
    refine evSeq_go (by simp [wants, h0, hs, hl]) (by simp [h0, hs, hl] <;> rfl) (by rfl) (by simp [hw]) ?_
    refine evSeq_go (by simp [wants, h0, hs, hl]) (by simp [h0, hs, hl] <;> rfl) (by rfl) (by simp [hw]) ?_
    refine evSeq_go rfl (by simp [h0, hs, hl] <;> rfl) (by rfl) (by simp [hw]) ?_
    refine evSeq_go rfl (by simp [h0, hs, hl] <;> rfl) (by rfl) (by simp [hw]) ?_
    exact evSeq_nil
  refine inSeq_norm ?_
  refine Tri.ret ?_
  simp [Ends, finish, evResults, evResult, Tryz.f41, h0, hs, hl]
theorem body_26b {call : CallF} (hC : call.Sound Tryz.prog TT) (s : List UInt8) (hl : decide ((s.length : Int) ≤ 60) = false) : Body Tryz.prog TT 41 [.s s] (.val (.b false)) := by
  refine ⟨Tryz.f41, _, rfl, rfl, by simp [Tryz.f41], ?_⟩
  have h0 : (Tm.init Tryz.f41.ntmps [.s s]).get 0 = .s s := by rw [get_init]; rfl
  have hw : (Tm.init Tryz.f41.ntmps [.s s]).wid = 10 := rfl
  generalize Tm.init Tryz.f41.ntmps [.s s] = t at *
  try simp only [Nd.enc_eq] at *
  refine Tri.seq' ?_
  refine Tri.regN (t' := ?t1) (H' := ?H1) TT_ok hC ?e1 ?q1
  case e1 =>
    refine go_false ?_
    refine evSeq_go rfl (by simp [h0, hl] <;> rfl) (by rfl) (by simp [hw]) ?_
    exact evSeq_nil
  refine inSeq_norm ?_
  refine Tri.seq' ?_
  refine Tri.regN (t' := ?t2) (H' := ?H2) TT_ok hC ?e2 ?q2
  case e2 =>
    refine go_false ?_
    refine evSeq_go rfl (by simp [h0, hl] <;> rfl) (by rfl) (by simp [hw]) ?_
    refine evSeq_go rfl (by simp [h0, hl] <;> rfl) (by rfl) (by simp [hw]) ?_
    refine evSeq_go rfl (by simp [h0, hl] <;> rfl) (by rfl) (by simp [hw]) ?_
    refine evSeq_go rfl (by simp [h0, hl] <;> rfl) (by rfl) (by simp [hw]) ?_
    refine evSeq_off (by simp [wants, h0, hl]) (by simp [hw]) ?_
    refine evSeq_off (by simp [wants, h0, hl]) (by simp [hw]) ?_
    refine evSeq_go rfl (by simp [h0, hl] <;> rfl) (by rfl) (by simp [hw]) ?_
    refine evSeq_go rfl (by simp [h0, hl] <;> rfl) (by rfl) (by simp [hw]) ?_
    exact evSeq_nil
  refine inSeq_norm ?_
  refine Tri.ret ?_
  simp [Ends, finish, evResults, evResult, Tryz.f41, h0, hl]
theorem body_42 {call : CallF} (hC : call.Sound Tryz.prog TT) (x : Nd) (v : V) (b : Bool) (hs : ∀ H, call 32 [v, x.enc] H = .val (.b b) H) : Body Tryz.prog TT 56 [x.enc, .ipt 1 [.agg [v]] 0 0] (.val (.b (!b))) := by
  refine ⟨Tryz.f56, _, rfl, rfl, by simp [Tryz.f56], ?_⟩
  have h0 : (Tm.init Tryz.f56.ntmps [x.enc, .ipt 1 [.agg [v]] 0 0]).get 0 = x.enc := by rw [get_init]; rfl
  have h1 : (Tm.init Tryz.f56.ntmps [x.enc, .ipt 1 [.agg [v]] 0 0]).get 1 = .ipt 1 [.agg [v]] 0 0 := by rw [get_init]; rfl
  have hw : (Tm.init Tryz.f56.ntmps [x.enc, .ipt 1 [.agg [v]] 0 0]).wid = 8 := rfl
  generalize Tm.init Tryz.f56.ntmps [x.enc, .ipt 1 [.agg [v]] 0 0] = t at *
  try simp only [Nd.enc_eq] at *
  refine Tri.seq' ?_
  refine Tri.regN (t' := ?t1) (H' := ?H1) TT_ok hC ?e1 ?q1
  case e1 =>
    refine go_false ?_
    refine evSeq_go rfl (by simp [h0, h1, hs] <;> rfl) (by rfl) (by simp [hw]) ?_
    refine evSeq_go rfl (by simp [h0, h1, hs] <;> rfl) (by rfl) (by simp [hw]) ?_
    exact evSeq_nil
  refine inSeq_norm ?_
  refine Tri.seq' ?_
  refine Tri.regN (t' := ?t2) (H' := ?H2) TT_ok hC ?e2 ?q2
  case e2 =>
    refine go_false ?_
    refine evSeq_go rfl (by simp [h0, h1, hs] <;> rfl) (by rfl) (by simp [hw]) ?_
    refine evSeq_go rfl (by simp [h0, h1, hs] <;> rfl) (by rfl) (by simp [hw]) ?_
    refine evSeq_go rfl (by simp [h0, h1, hs] <;> rfl) (by rfl) (by simp [hw]) ?_
    refine evSeq_go rfl (by simp [h0, h1, hs] <;> rfl) (by rfl) (by simp [hw]) ?_
    refine evSeq_go rfl (by simp [h0, h1, hs] <;> rfl) (by rfl) (by simp [hw]) ?_
    exact evSeq_nil
  refine inSeq_norm ?_
  refine Tri.ret ?_
  simp [Ends, finish, evResults, evResult, Tryz.f56, h0, h1, hs]
theorem body_64 {call : CallF} (hC : call.Sound Tryz.prog TT) (x : Nd) (b : Bool) (hs : ∀ H, call 52 [x.enc] H = .val (.b b) H) : Body Tryz.prog TT 77 [x.enc] (.val (.b (!b))) := by
  refine ⟨Tryz.f77, _, rfl, rfl, by simp [Tryz.f77], ?_⟩
  have h0 : (Tm.init Tryz.f77.ntmps [x.enc]).get 0 = x.enc := by rw [get_init]; rfl
  have hw : (Tm.init Tryz.f77.ntmps [x.enc]).wid = 6 := rfl
  generalize Tm.init Tryz.f77.ntmps [x.enc] = t at *
  try simp only [Nd.enc_eq] at *
  refine Tri.seq' ?_
  refine Tri.regN (t' := ?t1) (H' := ?H1) TT_ok hC ?e1 ?q1
  case e1 =>
    refine go_false ?_
    refine evSeq_go rfl (by simp [h0, hs] <;> rfl) (by rfl) (by simp [hw]) ?_
    refine evSeq_go rfl (by simp [h0, hs] <;> rfl) (by rfl) (by simp [hw]) ?_
    exact evSeq_nil
  refine inSeq_norm ?_
  refine Tri.seq' ?_
  refine Tri.regN (t' := ?t2) (H' := ?H2) TT_ok hC ?e2 ?q2
  case e2 =>
    refine go_false ?_
    refine evSeq_go rfl (by simp [h0, hs] <;> rfl) (by rfl) (by simp [hw]) ?_
    refine evSeq_go rfl (by simp [h0, hs] <;> rfl) (by rfl) (by simp [hw]) ?_
    refine evSeq_go rfl (by simp [h0, hs] <;> rfl) (by rfl) (by simp [hw]) ?_
    refine evSeq_go rfl (by simp [h0, hs] <;> rfl) (by rfl) (by simp [hw]) ?_
    exact evSeq_nil
  refine inSeq_norm ?_
  refine Tri.ret ?_
  simp [Ends, finish, evResults, evResult, Tryz.f77, h0, hs]
end Go.Ev
