/- Walks over the looks at names. -/
import Derived.Test.YtddpjgoboboidaaGreatDoorWC
import Derived.Test.YtddpjgoboboidaaGreatDoorShf
namespace Go.Ev
open Go Go.Proofs
set_option maxRecDepth 100000
set_option linter.unusedSimpArgs false
set_option linter.unusedVariables false
theorem body_55 {call : CallF} (hC : call.Sound Tryz.prog TT) (s : List UInt8) (c : UInt8) (l : List (List UInt8)) (hs : ∀ H, call 91 [.s s, .s [c], .i .i64 0, .i .i64 (-1)] H = .val (.isl 1 (encS l)) H)  : Body Tryz.prog TT 68 [.s s, .s [c]] (.val (.isl 1 (encS l))) := by
  refine ⟨Tryz.f68, _, rfl, rfl, by simp [Tryz.f68], ?_⟩
  have h0 : (Tm.init Tryz.f68.ntmps [.s s, .s [c]]).get 0 = .s s := by rw [get_init]; rfl
  have h1 : (Tm.init Tryz.f68.ntmps [.s s, .s [c]]).get 1 = .s [c] := by rw [get_init]; rfl
  have hw : (Tm.init Tryz.f68.ntmps [.s s, .s [c]]).wid = 8 := rfl
  generalize Tm.init Tryz.f68.ntmps [.s s, .s [c]] = t at *
  try simp only [Nd.enc_eq] at *
  refine Tri.seq' ?_
  refine Tri.regN (t' := ?t1) (H' := ?H1) TT_ok hC ?e1 ?q1
  case e1 =>
    refine go_false ?_
    refine evSeq_go rfl (by simp [h0, h1, hs] <;> rfl) (by rfl) (by simp [hw]) ?_
    exact evSeq_nil
  refine inSeq_norm ?_
  refine Tri.seq' ?_
  refine Tri.regN (t' := ?t2) (H' := ?H2) TT_ok hC ?e2 ?q2
  case e2 =>
    refine go_false ?_
    refine evSeq_go rfl (by simp [h0, h1, hs] <;> rfl) (by rfl) (by simp [hw]) ?_
    refine evSeq_go rfl (by simp [h0, h1, hs] <;> rfl) (by rfl) (by simp [hw]) ?_
    refine evSeq_go rfl (by simp [h0, h1, hs] <;> rfl) (by rfl) (by simp [hw]) ?_
    refine evSeq_go rfl (by simp [h0, h1, hs] <;> rfl) (by rfl) (by simp [hw]) ?_
    exact evSeq_nil
  refine inSeq_norm ?_
  refine Tri.ret ?_
  simp [Ends, finish, evResults, evResult, Tryz.f68, h0, h1, hs]
def dig : List UInt8 := [48, 49, 50, 51, 52, 53, 54, 55, 56, 57]
def digitsN (s : List UInt8) : Bool := (!s.isEmpty) && (Lib.trimS s dig == [])
theorem body_60 {call : CallF} (hC : call.Sound Tryz.prog TT) (s : List UInt8) (hs : ∀ H, call 93 [.s s, .s [48, 49, 50, 51, 52, 53, 54, 55, 56, 57]] H = .val (.s (Lib.trimS s dig)) H)  : Body Tryz.prog TT 73 [.s s] (.val (.b (digitsN s))) := by
  refine ⟨Tryz.f73, _, rfl, rfl, by simp [Tryz.f73], ?_⟩
  have h0 : (Tm.init Tryz.f73.ntmps [.s s]).get 0 = .s s := by rw [get_init]; rfl
  have hw : (Tm.init Tryz.f73.ntmps [.s s]).wid = 10 := rfl
  generalize Tm.init Tryz.f73.ntmps [.s s] = t at *
  try simp only [Nd.enc_eq] at *
  refine Tri.seq' ?_
  refine Tri.regN (t' := ?t1) (H' := ?H1) TT_ok hC ?e1 ?q1
  case e1 =>
    refine go_false ?_
    refine evSeq_go rfl (by simp [h0, hs] <;> rfl) (by rfl) (by simp [hw]) ?_
    exact evSeq_nil
  refine inSeq_norm ?_
  refine Tri.seq' ?_
  cases hB1 : (!s.isEmpty : Bool)
  case false =>
    refine Tri.regN (t' := ?tq1f2) (H' := ?Hq1f2) TT_ok hC ?eq1f2 ?qq1f2
    case eq1f2 =>
      refine go_false ?_
      refine evSeq_go rfl (by simp [h0, hs, hB1] <;> rfl) (by rfl) (by simp [hw]) ?_
      refine evSeq_go rfl (by simp [h0, hs, hB1] <;> rfl) (by rfl) (by simp [hw]) ?_
      refine evSeq_go rfl (by simp [h0, hs, hB1] <;> rfl) (by rfl) (by simp [hw]) ?_
      refine evSeq_off (by simp [wants, h0, hs, hB1]) (by simp [hw]) ?_
      refine evSeq_off (by simp [wants, h0, hs, hB1]) (by simp [hw]) ?_
      refine evSeq_off (by simp [wants, h0, hs, hB1]) (by simp [hw]) ?_
      refine evSeq_go rfl (by simp [h0, hs, hB1] <;> rfl) (by rfl) (by simp [hw]) ?_
      refine evSeq_go rfl (by simp [h0, hs, hB1] <;> rfl) (by rfl) (by simp [hw]) ?_
      exact evSeq_nil
    refine inSeq_norm ?_
    refine Tri.ret ?_
    simp [Ends, finish, evResults, evResult, Tryz.f73, digitsN, *]
  case true =>
    refine Tri.regN (t' := ?tq1t2) (H' := ?Hq1t2) TT_ok hC ?eq1t2 ?qq1t2
    case eq1t2 =>
      refine go_false ?_
      refine evSeq_go rfl (by simp [h0, hs, hB1] <;> rfl) (by rfl) (by simp [hw]) ?_
      refine evSeq_go rfl (by simp [h0, hs, hB1] <;> rfl) (by rfl) (by simp [hw]) ?_
      refine evSeq_go rfl (by simp [h0, hs, hB1] <;> rfl) (by rfl) (by simp [hw]) ?_
      refine evSeq_go (by simp [wants, h0, hs, hB1]) (by simp [h0, hs, hB1] <;> rfl) (by rfl) (by simp [hw]) ?_
      refine evSeq_go (by simp [wants, h0, hs, hB1]) (by simp [h0, hs, hB1] <;> rfl) (by rfl) (by simp [hw]) ?_
      refine evSeq_go (by simp [wants, h0, hs, hB1]) (by simp [h0, hs, hB1] <;> rfl) (by rfl) (by simp [hw]) ?_
      refine evSeq_go rfl (by simp [h0, hs, hB1] <;> rfl) (by rfl) (by simp [hw]) ?_
      refine evSeq_go rfl (by simp [h0, hs, hB1] <;> rfl) (by rfl) (by simp [hw]) ?_
      exact evSeq_nil
    refine inSeq_norm ?_
    refine Tri.ret ?_
    simp [Ends, finish, evResults, evResult, Tryz.f73, digitsN, *]
theorem body_34a {call : CallF} (hC : call.Sound Tryz.prog TT) (b : Bool) (hs : ∀ H, call 73 [.s []] H = .val (.b false) H)  : EBody Tryz.prog TT 48 [.s []] (fun r => ∃ b : Bool, r = .val (.b b)) := by
  refine ⟨Tryz.f48, _, rfl, rfl, by simp [Tryz.f48], ?_⟩
  have h0 : (Tm.init Tryz.f48.ntmps [.s []]).get 0 = .s [] := by rw [get_init]; rfl
  have hw : (Tm.init Tryz.f48.ntmps [.s []]).wid = 28 := rfl
  generalize Tm.init Tryz.f48.ntmps [.s []] = t at *
  try simp only [Nd.enc_eq] at *
  refine Tri.seq' ?_
  refine Tri.regN (t' := ?t1) (H' := ?H1) TT_ok hC ?e1 ?q1
  case e1 =>
    refine go_false ?_
    refine evSeq_go rfl (by simp [h0, hs] <;> rfl) (by rfl) (by simp [hw]) ?_
    exact evSeq_nil
  refine inSeq_norm ?_
  refine Tri.seq' ?_
  refine Tri.regN (t' := ?t2) (H' := ?H2) TT_ok hC ?e2 ?q2
  case e2 =>
    refine go_false ?_
    refine evSeq_go rfl (by simp [h0, hs] <;> rfl) (by rfl) (by simp [hw]) ?_
    refine evSeq_go rfl (by simp [h0, hs] <;> rfl) (by rfl) (by simp [hw]) ?_
    refine evSeq_go rfl (by simp [h0, hs] <;> rfl) (by rfl) (by simp [hw]) ?_
    refine evSeq_off (by simp [wants, h0, hs]) (by simp [hw]) ?_
    refine evSeq_off (by simp [wants, h0, hs]) (by simp [hw]) ?_
    refine evSeq_off (by simp [wants, h0, hs]) (by simp [hw]) ?_
    refine evSeq_off (by simp [wants, h0, hs]) (by simp [hw]) ?_
    refine evSeq_off (by simp [wants, h0, hs]) (by simp [hw]) ?_
    refine evSeq_off (by simp [wants, h0, hs]) (by simp [hw]) ?_
    refine evSeq_off (by simp [wants, h0, hs]) (by simp [hw]) ?_
    refine evSeq_go rfl (by simp [h0, hs] <;> rfl) (by rfl) (by simp [hw]) ?_
    refine evSeq_go rfl (by simp [h0, hs] <;> rfl) (by rfl) (by simp [hw]) ?_
    refine evSeq_off (by simp [wants, h0, hs]) (by simp [hw]) ?_
    refine evSeq_off (by simp [wants, h0, hs]) (by simp [hw]) ?_
    refine evSeq_off (by simp [wants, h0, hs]) (by simp [hw]) ?_
    refine evSeq_off (by simp [wants, h0, hs]) (by simp [hw]) ?_
    refine evSeq_off (by simp [wants, h0, hs]) (by simp [hw]) ?_
    refine evSeq_off (by simp [wants, h0, hs]) (by simp [hw]) ?_
    refine evSeq_off (by simp [wants, h0, hs]) (by simp [hw]) ?_
    refine evSeq_off (by simp [wants, h0, hs]) (by simp [hw]) ?_
    refine evSeq_off (by simp [wants, h0, hs]) (by simp [hw]) ?_
    refine evSeq_off (by simp [wants, h0, hs]) (by simp [hw]) ?_
    refine evSeq_off (by simp [wants, h0, hs]) (by simp [hw]) ?_
    refine evSeq_off (by simp [wants, h0, hs]) (by simp [hw]) ?_
    refine evSeq_go rfl (by simp [h0, hs] <;> rfl) (by rfl) (by simp [hw]) ?_
    refine evSeq_go rfl (by simp [h0, hs] <;> rfl) (by rfl) (by simp [hw]) ?_
    exact evSeq_nil
  refine inSeq_norm ?_
  refine Tri.ret ?_
  exact endsB (by simp [finish, evResults, evResult, Tryz.f48] <;> rfl) (by rfl)
theorem body_34b {call : CallF} (hC : call.Sound Tryz.prog TT) (c : UInt8) (r : List UInt8) (b : Bool) (hs : ∀ H, call 73 [.s (c :: r)] H = .val (.b b) H)  : EBody Tryz.prog TT 48 [.s (c :: r)] (fun r => ∃ b : Bool, r = .val (.b b)) := by
  refine ⟨Tryz.f48, _, rfl, rfl, by simp [Tryz.f48], ?_⟩
  have h0 : (Tm.init Tryz.f48.ntmps [.s (c :: r)]).get 0 = .s (c :: r) := by rw [get_init]; rfl
  have hw : (Tm.init Tryz.f48.ntmps [.s (c :: r)]).wid = 28 := rfl
  generalize Tm.init Tryz.f48.ntmps [.s (c :: r)] = t at *
  try simp only [Nd.enc_eq] at *
  refine Tri.seq' ?_
  refine Tri.regN (t' := ?t1) (H' := ?H1) TT_ok hC ?e1 ?q1
  case e1 =>
    refine go_false ?_
    refine evSeq_go rfl (by simp [h0, hs] <;> rfl) (by rfl) (by simp [hw]) ?_
    exact evSeq_nil
  refine inSeq_norm ?_
  refine Tri.seq' ?_
  cases hB1 : (b : Bool)
  case false =>
    refine Tri.regN (t' := ?tq1f2) (H' := ?Hq1f2) TT_ok hC ?eq1f2 ?qq1f2
    case eq1f2 =>
      refine go_false ?_
      refine evSeq_go rfl (by simp [h0, hs, hB1] <;> rfl) (by rfl) (by simp [hw]) ?_
      refine evSeq_go rfl (by simp [h0, hs, hB1] <;> rfl) (by rfl) (by simp [hw]) ?_
      refine evSeq_go rfl (by simp [h0, hs, hB1] <;> rfl) (by rfl) (by simp [hw]) ?_
      refine evSeq_off (by simp [wants, h0, hs, hB1]) (by simp [hw]) ?_
      refine evSeq_off (by simp [wants, h0, hs, hB1]) (by simp [hw]) ?_
      refine evSeq_off (by simp [wants, h0, hs, hB1]) (by simp [hw]) ?_
      refine evSeq_off (by simp [wants, h0, hs, hB1]) (by simp [hw]) ?_
      refine evSeq_off (by simp [wants, h0, hs, hB1]) (by simp [hw]) ?_
      refine evSeq_off (by simp [wants, h0, hs, hB1]) (by simp [hw]) ?_
      refine evSeq_off (by simp [wants, h0, hs, hB1]) (by simp [hw]) ?_
      refine evSeq_go rfl (by simp [h0, hs, hB1] <;> rfl) (by rfl) (by simp [hw]) ?_
      refine evSeq_go rfl (by simp [h0, hs, hB1] <;> rfl) (by rfl) (by simp [hw]) ?_
      refine evSeq_off (by simp [wants, h0, hs, hB1]) (by simp [hw]) ?_
      refine evSeq_off (by simp [wants, h0, hs, hB1]) (by simp [hw]) ?_
      refine evSeq_off (by simp [wants, h0, hs, hB1]) (by simp [hw]) ?_
      refine evSeq_off (by simp [wants, h0, hs, hB1]) (by simp [hw]) ?_
      refine evSeq_off (by simp [wants, h0, hs, hB1]) (by simp [hw]) ?_
      refine evSeq_off (by simp [wants, h0, hs, hB1]) (by simp [hw]) ?_
      refine evSeq_off (by simp [wants, h0, hs, hB1]) (by simp [hw]) ?_
      refine evSeq_off (by simp [wants, h0, hs, hB1]) (by simp [hw]) ?_
      refine evSeq_off (by simp [wants, h0, hs, hB1]) (by simp [hw]) ?_
      refine evSeq_off (by simp [wants, h0, hs, hB1]) (by simp [hw]) ?_
      refine evSeq_off (by simp [wants, h0, hs, hB1]) (by simp [hw]) ?_
      refine evSeq_off (by simp [wants, h0, hs, hB1]) (by simp [hw]) ?_
      refine evSeq_go rfl (by simp [h0, hs, hB1] <;> rfl) (by rfl) (by simp [hw]) ?_
      refine evSeq_go rfl (by simp [h0, hs, hB1] <;> rfl) (by rfl) (by simp [hw]) ?_
      exact evSeq_nil
    refine inSeq_norm ?_
    refine Tri.ret ?_
    exact endsB (by simp [finish, evResults, evResult, Tryz.f48] <;> rfl) (by rfl)
  case true =>
    cases hB2 : ((c :: r) == [48] : Bool)
    case false =>
      cases hB3 : ((c.toNat : Int) != 48 : Bool)
      case false =>
        refine Tri.regN (t' := ?tq1tq2fq3f2) (H' := ?Hq1tq2fq3f2) TT_ok hC ?eq1tq2fq3f2 ?qq1tq2fq3f2
        case eq1tq2fq3f2 =>
          refine go_false ?_
          refine evSeq_go rfl (by simp [h0, hs, hB1, hB2, hB3] <;> rfl) (by rfl) (by simp [hw]) ?_
          refine evSeq_go rfl (by simp [h0, hs, hB1, hB2, hB3] <;> rfl) (by rfl) (by simp [hw]) ?_
          refine evSeq_go rfl (by simp [h0, hs, hB1, hB2, hB3] <;> rfl) (by rfl) (by simp [hw]) ?_
          refine evSeq_go (by simp [wants, h0, hs, hB1, hB2, hB3]) (by simp [h0, hs, hB1, hB2, hB3] <;> rfl) (by rfl) (by simp [hw]) ?_
          refine evSeq_go (by simp [wants, h0, hs, hB1, hB2, hB3]) (by simp [h0, hs, hB1, hB2, hB3] <;> rfl) (by rfl) (by simp [hw]) ?_
          refine evSeq_go (by simp [wants, h0, hs, hB1, hB2, hB3]) (by simp [h0, hs, hB1, hB2, hB3] <;> rfl) (by rfl) (by simp [hw]) ?_
          refine evSeq_go (by simp [wants, h0, hs, hB1, hB2, hB3]) (by simp [h0, hs, hB1, hB2, hB3] <;> rfl) (by rfl) (by simp [hw]) ?_
          refine evSeq_go (by simp [wants, h0, hs, hB1, hB2, hB3]) (by simp [h0, hs, hB1, hB2, hB3] <;> rfl) (by rfl) (by simp [hw]) ?_
          refine evSeq_go (by simp [wants, h0, hs, hB1, hB2, hB3]) (by simp [h0, hs, hB1, hB2, hB3] <;> rfl) (by rfl) (by simp [hw]) ?_
          refine evSeq_go (by simp [wants, h0, hs, hB1, hB2, hB3]) (by simp [h0, hs, hB1, hB2, hB3] <;> rfl) (by rfl) (by simp [hw]) ?_
          refine evSeq_go rfl (by simp [h0, hs, hB1, hB2, hB3] <;> rfl) (by rfl) (by simp [hw]) ?_
          refine evSeq_go rfl (by simp [h0, hs, hB1, hB2, hB3] <;> rfl) (by rfl) (by simp [hw]) ?_
          refine evSeq_off (by simp [wants, h0, hs, hB1, hB2, hB3]) (by simp [hw]) ?_
          refine evSeq_off (by simp [wants, h0, hs, hB1, hB2, hB3]) (by simp [hw]) ?_
          refine evSeq_off (by simp [wants, h0, hs, hB1, hB2, hB3]) (by simp [hw]) ?_
          refine evSeq_off (by simp [wants, h0, hs, hB1, hB2, hB3]) (by simp [hw]) ?_
          refine evSeq_off (by simp [wants, h0, hs, hB1, hB2, hB3]) (by simp [hw]) ?_
          refine evSeq_off (by simp [wants, h0, hs, hB1, hB2, hB3]) (by simp [hw]) ?_
          refine evSeq_off (by simp [wants, h0, hs, hB1, hB2, hB3]) (by simp [hw]) ?_
          refine evSeq_off (by simp [wants, h0, hs, hB1, hB2, hB3]) (by simp [hw]) ?_
          refine evSeq_off (by simp [wants, h0, hs, hB1, hB2, hB3]) (by simp [hw]) ?_
          refine evSeq_off (by simp [wants, h0, hs, hB1, hB2, hB3]) (by simp [hw]) ?_
          refine evSeq_off (by simp [wants, h0, hs, hB1, hB2, hB3]) (by simp [hw]) ?_
          refine evSeq_off (by simp [wants, h0, hs, hB1, hB2, hB3]) (by simp [hw]) ?_
          refine evSeq_go rfl (by simp [h0, hs, hB1, hB2, hB3] <;> rfl) (by rfl) (by simp [hw]) ?_
          refine evSeq_go rfl (by simp [h0, hs, hB1, hB2, hB3] <;> rfl) (by rfl) (by simp [hw]) ?_
          exact evSeq_nil
        refine inSeq_norm ?_
        refine Tri.ret ?_
        exact endsB (by simp [finish, evResults, evResult, Tryz.f48] <;> rfl) (by rfl)
      case true =>
        cases hB4 : (decide ((r.length : Int) + 1 < 39) : Bool)
        case false =>
          cases hB5 : ((r.length : Int) + 1 == 39 : Bool)
          case false =>
            refine Tri.regN (t' := ?tq1tq2fq3tq4fq5f2) (H' := ?Hq1tq2fq3tq4fq5f2) TT_ok hC ?eq1tq2fq3tq4fq5f2 ?qq1tq2fq3tq4fq5f2
            case eq1tq2fq3tq4fq5f2 =>
              refine go_false ?_
              refine evSeq_go rfl (by simp [h0, hs, hB1, hB2, hB3, hB4, hB5] <;> rfl) (by rfl) (by simp [hw]) ?_
              refine evSeq_go rfl (by simp [h0, hs, hB1, hB2, hB3, hB4, hB5] <;> rfl) (by rfl) (by simp [hw]) ?_
              refine evSeq_go rfl (by simp [h0, hs, hB1, hB2, hB3, hB4, hB5] <;> rfl) (by rfl) (by simp [hw]) ?_
              refine evSeq_go (by simp [wants, h0, hs, hB1, hB2, hB3, hB4, hB5]) (by simp [h0, hs, hB1, hB2, hB3, hB4, hB5] <;> rfl) (by rfl) (by simp [hw]) ?_
              refine evSeq_go (by simp [wants, h0, hs, hB1, hB2, hB3, hB4, hB5]) (by simp [h0, hs, hB1, hB2, hB3, hB4, hB5] <;> rfl) (by rfl) (by simp [hw]) ?_
              refine evSeq_go (by simp [wants, h0, hs, hB1, hB2, hB3, hB4, hB5]) (by simp [h0, hs, hB1, hB2, hB3, hB4, hB5] <;> rfl) (by rfl) (by simp [hw]) ?_
              refine evSeq_go (by simp [wants, h0, hs, hB1, hB2, hB3, hB4, hB5]) (by simp [h0, hs, hB1, hB2, hB3, hB4, hB5] <;> rfl) (by rfl) (by simp [hw]) ?_
              refine evSeq_go (by simp [wants, h0, hs, hB1, hB2, hB3, hB4, hB5]) (by simp [h0, hs, hB1, hB2, hB3, hB4, hB5] <;> rfl) (by rfl) (by simp [hw]) ?_
              refine evSeq_go (by simp [wants, h0, hs, hB1, hB2, hB3, hB4, hB5]) (by simp [h0, hs, hB1, hB2, hB3, hB4, hB5] <;> rfl) (by rfl) (by simp [hw]) ?_
              refine evSeq_go (by simp [wants, h0, hs, hB1, hB2, hB3, hB4, hB5]) (by simp [h0, hs, hB1, hB2, hB3, hB4, hB5] <;> rfl) (by rfl) (by simp [hw]) ?_
              refine evSeq_go rfl (by simp [h0, hs, hB1, hB2, hB3, hB4, hB5] <;> rfl) (by rfl) (by simp [hw]) ?_
              refine evSeq_go rfl (by simp [h0, hs, hB1, hB2, hB3, hB4, hB5] <;> rfl) (by rfl) (by simp [hw]) ?_
              refine evSeq_go (by simp [wants, h0, hs, hB1, hB2, hB3, hB4, hB5]) (by simp [h0, hs, hB1, hB2, hB3, hB4, hB5] <;> rfl) (by rfl) (by simp [hw]) ?_
              refine evSeq_go (by simp [wants, h0, hs, hB1, hB2, hB3, hB4, hB5]) (by simp [h0, hs, hB1, hB2, hB3, hB4, hB5] <;> rfl) (by rfl) (by simp [hw]) ?_
              refine evSeq_go (by simp [wants, h0, hs, hB1, hB2, hB3, hB4, hB5]) (by simp [h0, hs, hB1, hB2, hB3, hB4, hB5] <;> rfl) (by rfl) (by simp [hw]) ?_
              refine evSeq_go (by simp [wants, h0, hs, hB1, hB2, hB3, hB4, hB5]) (by simp [h0, hs, hB1, hB2, hB3, hB4, hB5] <;> rfl) (by rfl) (by simp [hw]) ?_
              refine evSeq_go (by simp [wants, h0, hs, hB1, hB2, hB3, hB4, hB5]) (by simp [h0, hs, hB1, hB2, hB3, hB4, hB5] <;> rfl) (by rfl) (by simp [hw]) ?_
              refine evSeq_go (by simp [wants, h0, hs, hB1, hB2, hB3, hB4, hB5]) (by simp [h0, hs, hB1, hB2, hB3, hB4, hB5] <;> rfl) (by rfl) (by simp [hw]) ?_
              refine evSeq_go (by simp [wants, h0, hs, hB1, hB2, hB3, hB4, hB5]) (by simp [h0, hs, hB1, hB2, hB3, hB4, hB5] <;> rfl) (by rfl) (by simp [hw]) ?_
              refine evSeq_go (by simp [wants, h0, hs, hB1, hB2, hB3, hB4, hB5]) (by simp [h0, hs, hB1, hB2, hB3, hB4, hB5] <;> rfl) (by rfl) (by simp [hw]) ?_
              refine evSeq_off (by simp [wants, h0, hs, hB1, hB2, hB3, hB4, hB5]) (by simp [hw]) ?_
              refine evSeq_off (by simp [wants, h0, hs, hB1, hB2, hB3, hB4, hB5]) (by simp [hw]) ?_
              refine evSeq_go (by simp [wants, h0, hs, hB1, hB2, hB3, hB4, hB5]) (by simp [h0, hs, hB1, hB2, hB3, hB4, hB5] <;> rfl) (by rfl) (by simp [hw]) ?_
              refine evSeq_go (by simp [wants, h0, hs, hB1, hB2, hB3, hB4, hB5]) (by simp [h0, hs, hB1, hB2, hB3, hB4, hB5] <;> rfl) (by rfl) (by simp [hw]) ?_
              refine evSeq_go rfl (by simp [h0, hs, hB1, hB2, hB3, hB4, hB5] <;> rfl) (by rfl) (by simp [hw]) ?_
              refine evSeq_go rfl (by simp [h0, hs, hB1, hB2, hB3, hB4, hB5] <;> rfl) (by rfl) (by simp [hw]) ?_
              exact evSeq_nil
            refine inSeq_norm ?_
            refine Tri.ret ?_
            exact endsB (by simp [finish, evResults, evResult, Tryz.f48] <;> rfl) (by rfl)
          case true =>
            refine Tri.regN (t' := ?tq1tq2fq3tq4fq5t2) (H' := ?Hq1tq2fq3tq4fq5t2) TT_ok hC ?eq1tq2fq3tq4fq5t2 ?qq1tq2fq3tq4fq5t2
            case eq1tq2fq3tq4fq5t2 =>
              refine go_false ?_
              refine evSeq_go rfl (by simp [h0, hs, hB1, hB2, hB3, hB4, hB5] <;> rfl) (by rfl) (by simp [hw]) ?_
              refine evSeq_go rfl (by simp [h0, hs, hB1, hB2, hB3, hB4, hB5] <;> rfl) (by rfl) (by simp [hw]) ?_
              refine evSeq_go rfl (by simp [h0, hs, hB1, hB2, hB3, hB4, hB5] <;> rfl) (by rfl) (by simp [hw]) ?_
              refine evSeq_go (by simp [wants, h0, hs, hB1, hB2, hB3, hB4, hB5]) (by simp [h0, hs, hB1, hB2, hB3, hB4, hB5] <;> rfl) (by rfl) (by simp [hw]) ?_
              refine evSeq_go (by simp [wants, h0, hs, hB1, hB2, hB3, hB4, hB5]) (by simp [h0, hs, hB1, hB2, hB3, hB4, hB5] <;> rfl) (by rfl) (by simp [hw]) ?_
              refine evSeq_go (by simp [wants, h0, hs, hB1, hB2, hB3, hB4, hB5]) (by simp [h0, hs, hB1, hB2, hB3, hB4, hB5] <;> rfl) (by rfl) (by simp [hw]) ?_
              refine evSeq_go (by simp [wants, h0, hs, hB1, hB2, hB3, hB4, hB5]) (by simp [h0, hs, hB1, hB2, hB3, hB4, hB5] <;> rfl) (by rfl) (by simp [hw]) ?_
              refine evSeq_go (by simp [wants, h0, hs, hB1, hB2, hB3, hB4, hB5]) (by simp [h0, hs, hB1, hB2, hB3, hB4, hB5] <;> rfl) (by rfl) (by simp [hw]) ?_
              refine evSeq_go (by simp [wants, h0, hs, hB1, hB2, hB3, hB4, hB5]) (by simp [h0, hs, hB1, hB2, hB3, hB4, hB5] <;> rfl) (by rfl) (by simp [hw]) ?_
              refine evSeq_go (by simp [wants, h0, hs, hB1, hB2, hB3, hB4, hB5]) (by simp [h0, hs, hB1, hB2, hB3, hB4, hB5] <;> rfl) (by rfl) (by simp [hw]) ?_
              refine evSeq_go rfl (by simp [h0, hs, hB1, hB2, hB3, hB4, hB5] <;> rfl) (by rfl) (by simp [hw]) ?_
              refine evSeq_go rfl (by simp [h0, hs, hB1, hB2, hB3, hB4, hB5] <;> rfl) (by rfl) (by simp [hw]) ?_
              refine evSeq_go (by simp [wants, h0, hs, hB1, hB2, hB3, hB4, hB5]) (by simp [h0, hs, hB1, hB2, hB3, hB4, hB5] <;> rfl) (by rfl) (by simp [hw]) ?_
              refine evSeq_go (by simp [wants, h0, hs, hB1, hB2, hB3, hB4, hB5]) (by simp [h0, hs, hB1, hB2, hB3, hB4, hB5] <;> rfl) (by rfl) (by simp [hw]) ?_
              refine evSeq_go (by simp [wants, h0, hs, hB1, hB2, hB3, hB4, hB5]) (by simp [h0, hs, hB1, hB2, hB3, hB4, hB5] <;> rfl) (by rfl) (by simp [hw]) ?_
              refine evSeq_go (by simp [wants, h0, hs, hB1, hB2, hB3, hB4, hB5]) (by simp [h0, hs, hB1, hB2, hB3, hB4, hB5] <;> rfl) (by rfl) (by simp [hw]) ?_
              refine evSeq_go (by simp [wants, h0, hs, hB1, hB2, hB3, hB4, hB5]) (by simp [h0, hs, hB1, hB2, hB3, hB4, hB5] <;> rfl) (by rfl) (by simp [hw]) ?_
              refine evSeq_go (by simp [wants, h0, hs, hB1, hB2, hB3, hB4, hB5]) (by simp [h0, hs, hB1, hB2, hB3, hB4, hB5] <;> rfl) (by rfl) (by simp [hw]) ?_
              refine evSeq_go (by simp [wants, h0, hs, hB1, hB2, hB3, hB4, hB5]) (by simp [h0, hs, hB1, hB2, hB3, hB4, hB5] <;> rfl) (by rfl) (by simp [hw]) ?_
              refine evSeq_go (by simp [wants, h0, hs, hB1, hB2, hB3, hB4, hB5]) (by simp [h0, hs, hB1, hB2, hB3, hB4, hB5] <;> rfl) (by rfl) (by simp [hw]) ?_
              refine evSeq_go (by simp [wants, h0, hs, hB1, hB2, hB3, hB4, hB5]) (by simp [h0, hs, hB1, hB2, hB3, hB4, hB5] <;> rfl) (by rfl) (by simp [hw]) ?_
              refine evSeq_go (by simp [wants, h0, hs, hB1, hB2, hB3, hB4, hB5]) (by simp [h0, hs, hB1, hB2, hB3, hB4, hB5] <;> rfl) (by rfl) (by simp [hw]) ?_
              refine evSeq_go (by simp [wants, h0, hs, hB1, hB2, hB3, hB4, hB5]) (by simp [h0, hs, hB1, hB2, hB3, hB4, hB5] <;> rfl) (by rfl) (by simp [hw]) ?_
              refine evSeq_go (by simp [wants, h0, hs, hB1, hB2, hB3, hB4, hB5]) (by simp [h0, hs, hB1, hB2, hB3, hB4, hB5] <;> rfl) (by rfl) (by simp [hw]) ?_
              refine evSeq_go rfl (by simp [h0, hs, hB1, hB2, hB3, hB4, hB5] <;> rfl) (by rfl) (by simp [hw]) ?_
              refine evSeq_go rfl (by simp [h0, hs, hB1, hB2, hB3, hB4, hB5] <;> rfl) (by rfl) (by simp [hw]) ?_
              exact evSeq_nil
            refine inSeq_norm ?_
            refine Tri.ret ?_
            exact endsB (by simp [finish, evResults, evResult, Tryz.f48] <;> rfl) (by rfl)
        case true =>
          refine Tri.regN (t' := ?tq1tq2fq3tq4t2) (H' := ?Hq1tq2fq3tq4t2) TT_ok hC ?eq1tq2fq3tq4t2 ?qq1tq2fq3tq4t2
          case eq1tq2fq3tq4t2 =>
            refine go_false ?_
            refine evSeq_go rfl (by simp [h0, hs, hB1, hB2, hB3, hB4] <;> rfl) (by rfl) (by simp [hw]) ?_
            refine evSeq_go rfl (by simp [h0, hs, hB1, hB2, hB3, hB4] <;> rfl) (by rfl) (by simp [hw]) ?_
            refine evSeq_go rfl (by simp [h0, hs, hB1, hB2, hB3, hB4] <;> rfl) (by rfl) (by simp [hw]) ?_
            refine evSeq_go (by simp [wants, h0, hs, hB1, hB2, hB3, hB4]) (by simp [h0, hs, hB1, hB2, hB3, hB4] <;> rfl) (by rfl) (by simp [hw]) ?_
            refine evSeq_go (by simp [wants, h0, hs, hB1, hB2, hB3, hB4]) (by simp [h0, hs, hB1, hB2, hB3, hB4] <;> rfl) (by rfl) (by simp [hw]) ?_
            refine evSeq_go (by simp [wants, h0, hs, hB1, hB2, hB3, hB4]) (by simp [h0, hs, hB1, hB2, hB3, hB4] <;> rfl) (by rfl) (by simp [hw]) ?_
            refine evSeq_go (by simp [wants, h0, hs, hB1, hB2, hB3, hB4]) (by simp [h0, hs, hB1, hB2, hB3, hB4] <;> rfl) (by rfl) (by simp [hw]) ?_
            refine evSeq_go (by simp [wants, h0, hs, hB1, hB2, hB3, hB4]) (by simp [h0, hs, hB1, hB2, hB3, hB4] <;> rfl) (by rfl) (by simp [hw]) ?_
            refine evSeq_go (by simp [wants, h0, hs, hB1, hB2, hB3, hB4]) (by simp [h0, hs, hB1, hB2, hB3, hB4] <;> rfl) (by rfl) (by simp [hw]) ?_
            refine evSeq_go (by simp [wants, h0, hs, hB1, hB2, hB3, hB4]) (by simp [h0, hs, hB1, hB2, hB3, hB4] <;> rfl) (by rfl) (by simp [hw]) ?_
            refine evSeq_go rfl (by simp [h0, hs, hB1, hB2, hB3, hB4] <;> rfl) (by rfl) (by simp [hw]) ?_
            refine evSeq_go rfl (by simp [h0, hs, hB1, hB2, hB3, hB4] <;> rfl) (by rfl) (by simp [hw]) ?_
            refine evSeq_go (by simp [wants, h0, hs, hB1, hB2, hB3, hB4]) (by simp [h0, hs, hB1, hB2, hB3, hB4] <;> rfl) (by rfl) (by simp [hw]) ?_
            refine evSeq_go (by simp [wants, h0, hs, hB1, hB2, hB3, hB4]) (by simp [h0, hs, hB1, hB2, hB3, hB4] <;> rfl) (by rfl) (by simp [hw]) ?_
            refine evSeq_go (by simp [wants, h0, hs, hB1, hB2, hB3, hB4]) (by simp [h0, hs, hB1, hB2, hB3, hB4] <;> rfl) (by rfl) (by simp [hw]) ?_
            refine evSeq_go (by simp [wants, h0, hs, hB1, hB2, hB3, hB4]) (by simp [h0, hs, hB1, hB2, hB3, hB4] <;> rfl) (by rfl) (by simp [hw]) ?_
            refine evSeq_off (by simp [wants, h0, hs, hB1, hB2, hB3, hB4]) (by simp [hw]) ?_
            refine evSeq_off (by simp [wants, h0, hs, hB1, hB2, hB3, hB4]) (by simp [hw]) ?_
            refine evSeq_off (by simp [wants, h0, hs, hB1, hB2, hB3, hB4]) (by simp [hw]) ?_
            refine evSeq_off (by simp [wants, h0, hs, hB1, hB2, hB3, hB4]) (by simp [hw]) ?_
            refine evSeq_off (by simp [wants, h0, hs, hB1, hB2, hB3, hB4]) (by simp [hw]) ?_
            refine evSeq_off (by simp [wants, h0, hs, hB1, hB2, hB3, hB4]) (by simp [hw]) ?_
            refine evSeq_off (by simp [wants, h0, hs, hB1, hB2, hB3, hB4]) (by simp [hw]) ?_
            refine evSeq_go (by simp [wants, h0, hs, hB1, hB2, hB3, hB4]) (by simp [h0, hs, hB1, hB2, hB3, hB4] <;> rfl) (by rfl) (by simp [hw]) ?_
            refine evSeq_go rfl (by simp [h0, hs, hB1, hB2, hB3, hB4] <;> rfl) (by rfl) (by simp [hw]) ?_
            refine evSeq_go rfl (by simp [h0, hs, hB1, hB2, hB3, hB4] <;> rfl) (by rfl) (by simp [hw]) ?_
            exact evSeq_nil
          refine inSeq_norm ?_
          refine Tri.ret ?_
          exact endsB (by simp [finish, evResults, evResult, Tryz.f48] <;> rfl) (by rfl)
    case true =>
      cases hB6 : (decide ((r.length : Int) + 1 < 39) : Bool)
      case false =>
        cases hB7 : ((r.length : Int) + 1 == 39 : Bool)
        case false =>
          refine Tri.regN (t' := ?tq1tq2tq6fq7f2) (H' := ?Hq1tq2tq6fq7f2) TT_ok hC ?eq1tq2tq6fq7f2 ?qq1tq2tq6fq7f2
          case eq1tq2tq6fq7f2 =>
            refine go_false ?_
            refine evSeq_go rfl (by simp [h0, hs, hB1, hB2, hB6, hB7] <;> rfl) (by rfl) (by simp [hw]) ?_
            refine evSeq_go rfl (by simp [h0, hs, hB1, hB2, hB6, hB7] <;> rfl) (by rfl) (by simp [hw]) ?_
            refine evSeq_go rfl (by simp [h0, hs, hB1, hB2, hB6, hB7] <;> rfl) (by rfl) (by simp [hw]) ?_
            refine evSeq_go (by simp [wants, h0, hs, hB1, hB2, hB6, hB7]) (by simp [h0, hs, hB1, hB2, hB6, hB7] <;> rfl) (by rfl) (by simp [hw]) ?_
            refine evSeq_go (by simp [wants, h0, hs, hB1, hB2, hB6, hB7]) (by simp [h0, hs, hB1, hB2, hB6, hB7] <;> rfl) (by rfl) (by simp [hw]) ?_
            refine evSeq_go (by simp [wants, h0, hs, hB1, hB2, hB6, hB7]) (by simp [h0, hs, hB1, hB2, hB6, hB7] <;> rfl) (by rfl) (by simp [hw]) ?_
            refine evSeq_off (by simp [wants, h0, hs, hB1, hB2, hB6, hB7]) (by simp [hw]) ?_
            refine evSeq_off (by simp [wants, h0, hs, hB1, hB2, hB6, hB7]) (by simp [hw]) ?_
            refine evSeq_off (by simp [wants, h0, hs, hB1, hB2, hB6, hB7]) (by simp [hw]) ?_
            refine evSeq_go (by simp [wants, h0, hs, hB1, hB2, hB6, hB7]) (by simp [h0, hs, hB1, hB2, hB6, hB7] <;> rfl) (by rfl) (by simp [hw]) ?_
            refine evSeq_go rfl (by simp [h0, hs, hB1, hB2, hB6, hB7] <;> rfl) (by rfl) (by simp [hw]) ?_
            refine evSeq_go rfl (by simp [h0, hs, hB1, hB2, hB6, hB7] <;> rfl) (by rfl) (by simp [hw]) ?_
            refine evSeq_go (by simp [wants, h0, hs, hB1, hB2, hB6, hB7]) (by simp [h0, hs, hB1, hB2, hB6, hB7] <;> rfl) (by rfl) (by simp [hw]) ?_
            refine evSeq_go (by simp [wants, h0, hs, hB1, hB2, hB6, hB7]) (by simp [h0, hs, hB1, hB2, hB6, hB7] <;> rfl) (by rfl) (by simp [hw]) ?_
            refine evSeq_go (by simp [wants, h0, hs, hB1, hB2, hB6, hB7]) (by simp [h0, hs, hB1, hB2, hB6, hB7] <;> rfl) (by rfl) (by simp [hw]) ?_
            refine evSeq_go (by simp [wants, h0, hs, hB1, hB2, hB6, hB7]) (by simp [h0, hs, hB1, hB2, hB6, hB7] <;> rfl) (by rfl) (by simp [hw]) ?_
            refine evSeq_go (by simp [wants, h0, hs, hB1, hB2, hB6, hB7]) (by simp [h0, hs, hB1, hB2, hB6, hB7] <;> rfl) (by rfl) (by simp [hw]) ?_
            refine evSeq_go (by simp [wants, h0, hs, hB1, hB2, hB6, hB7]) (by simp [h0, hs, hB1, hB2, hB6, hB7] <;> rfl) (by rfl) (by simp [hw]) ?_
            refine evSeq_go (by simp [wants, h0, hs, hB1, hB2, hB6, hB7]) (by simp [h0, hs, hB1, hB2, hB6, hB7] <;> rfl) (by rfl) (by simp [hw]) ?_
            refine evSeq_go (by simp [wants, h0, hs, hB1, hB2, hB6, hB7]) (by simp [h0, hs, hB1, hB2, hB6, hB7] <;> rfl) (by rfl) (by simp [hw]) ?_
            refine evSeq_off (by simp [wants, h0, hs, hB1, hB2, hB6, hB7]) (by simp [hw]) ?_
            refine evSeq_off (by simp [wants, h0, hs, hB1, hB2, hB6, hB7]) (by simp [hw]) ?_
            refine evSeq_go (by simp [wants, h0, hs, hB1, hB2, hB6, hB7]) (by simp [h0, hs, hB1, hB2, hB6, hB7] <;> rfl) (by rfl) (by simp [hw]) ?_
            refine evSeq_go (by simp [wants, h0, hs, hB1, hB2, hB6, hB7]) (by simp [h0, hs, hB1, hB2, hB6, hB7] <;> rfl) (by rfl) (by simp [hw]) ?_
            refine evSeq_go rfl (by simp [h0, hs, hB1, hB2, hB6, hB7] <;> rfl) (by rfl) (by simp [hw]) ?_
            refine evSeq_go rfl (by simp [h0, hs, hB1, hB2, hB6, hB7] <;> rfl) (by rfl) (by simp [hw]) ?_
            exact evSeq_nil
          refine inSeq_norm ?_
          refine Tri.ret ?_
          exact endsB (by simp [finish, evResults, evResult, Tryz.f48] <;> rfl) (by rfl)
        case true =>
          refine Tri.regN (t' := ?tq1tq2tq6fq7t2) (H' := ?Hq1tq2tq6fq7t2) TT_ok hC ?eq1tq2tq6fq7t2 ?qq1tq2tq6fq7t2
          case eq1tq2tq6fq7t2 =>
            refine go_false ?_
            refine evSeq_go rfl (by simp [h0, hs, hB1, hB2, hB6, hB7] <;> rfl) (by rfl) (by simp [hw]) ?_
            refine evSeq_go rfl (by simp [h0, hs, hB1, hB2, hB6, hB7] <;> rfl) (by rfl) (by simp [hw]) ?_
            refine evSeq_go rfl (by simp [h0, hs, hB1, hB2, hB6, hB7] <;> rfl) (by rfl) (by simp [hw]) ?_
            refine evSeq_go (by simp [wants, h0, hs, hB1, hB2, hB6, hB7]) (by simp [h0, hs, hB1, hB2, hB6, hB7] <;> rfl) (by rfl) (by simp [hw]) ?_
            refine evSeq_go (by simp [wants, h0, hs, hB1, hB2, hB6, hB7]) (by simp [h0, hs, hB1, hB2, hB6, hB7] <;> rfl) (by rfl) (by simp [hw]) ?_
            refine evSeq_go (by simp [wants, h0, hs, hB1, hB2, hB6, hB7]) (by simp [h0, hs, hB1, hB2, hB6, hB7] <;> rfl) (by rfl) (by simp [hw]) ?_
            refine evSeq_off (by simp [wants, h0, hs, hB1, hB2, hB6, hB7]) (by simp [hw]) ?_
            refine evSeq_off (by simp [wants, h0, hs, hB1, hB2, hB6, hB7]) (by simp [hw]) ?_
            refine evSeq_off (by simp [wants, h0, hs, hB1, hB2, hB6, hB7]) (by simp [hw]) ?_
            refine evSeq_go (by simp [wants, h0, hs, hB1, hB2, hB6, hB7]) (by simp [h0, hs, hB1, hB2, hB6, hB7] <;> rfl) (by rfl) (by simp [hw]) ?_
            refine evSeq_go rfl (by simp [h0, hs, hB1, hB2, hB6, hB7] <;> rfl) (by rfl) (by simp [hw]) ?_
            refine evSeq_go rfl (by simp [h0, hs, hB1, hB2, hB6, hB7] <;> rfl) (by rfl) (by simp [hw]) ?_
            refine evSeq_go (by simp [wants, h0, hs, hB1, hB2, hB6, hB7]) (by simp [h0, hs, hB1, hB2, hB6, hB7] <;> rfl) (by rfl) (by simp [hw]) ?_
            refine evSeq_go (by simp [wants, h0, hs, hB1, hB2, hB6, hB7]) (by simp [h0, hs, hB1, hB2, hB6, hB7] <;> rfl) (by rfl) (by simp [hw]) ?_
            refine evSeq_go (by simp [wants, h0, hs, hB1, hB2, hB6, hB7]) (by simp [h0, hs, hB1, hB2, hB6, hB7] <;> rfl) (by rfl) (by simp [hw]) ?_
            refine evSeq_go (by simp [wants, h0, hs, hB1, hB2, hB6, hB7]) (by simp [h0, hs, hB1, hB2, hB6, hB7] <;> rfl) (by rfl) (by simp [hw]) ?_
            refine evSeq_go (by simp [wants, h0, hs, hB1, hB2, hB6, hB7]) (by simp [h0, hs, hB1, hB2, hB6, hB7] <;> rfl) (by rfl) (by simp [hw]) ?_
            refine evSeq_go (by simp [wants, h0, hs, hB1, hB2, hB6, hB7]) (by simp [h0, hs, hB1, hB2, hB6, hB7] <;> rfl) (by rfl) (by simp [hw]) ?_
            refine evSeq_go (by simp [wants, h0, hs, hB1, hB2, hB6, hB7]) (by simp [h0, hs, hB1, hB2, hB6, hB7] <;> rfl) (by rfl) (by simp [hw]) ?_
            refine evSeq_go (by simp [wants, h0, hs, hB1, hB2, hB6, hB7]) (by simp [h0, hs, hB1, hB2, hB6, hB7] <;> rfl) (by rfl) (by simp [hw]) ?_
            refine evSeq_go (by simp [wants, h0, hs, hB1, hB2, hB6, hB7]) (by simp [h0, hs, hB1, hB2, hB6, hB7] <;> rfl) (by rfl) (by simp [hw]) ?_
            refine evSeq_go (by simp [wants, h0, hs, hB1, hB2, hB6, hB7]) (by simp [h0, hs, hB1, hB2, hB6, hB7] <;> rfl) (by rfl) (by simp [hw]) ?_
            refine evSeq_go (by simp [wants, h0, hs, hB1, hB2, hB6, hB7]) (by simp [h0, hs, hB1, hB2, hB6, hB7] <;> rfl) (by rfl) (by simp [hw]) ?_
            refine evSeq_go (by simp [wants, h0, hs, hB1, hB2, hB6, hB7]) (by simp [h0, hs, hB1, hB2, hB6, hB7] <;> rfl) (by rfl) (by simp [hw]) ?_
            refine evSeq_go rfl (by simp [h0, hs, hB1, hB2, hB6, hB7] <;> rfl) (by rfl) (by simp [hw]) ?_
            refine evSeq_go rfl (by simp [h0, hs, hB1, hB2, hB6, hB7] <;> rfl) (by rfl) (by simp [hw]) ?_
            exact evSeq_nil
          refine inSeq_norm ?_
          refine Tri.ret ?_
          exact endsB (by simp [finish, evResults, evResult, Tryz.f48] <;> rfl) (by rfl)
      case true =>
        refine Tri.regN (t' := ?tq1tq2tq6t2) (H' := ?Hq1tq2tq6t2) TT_ok hC ?eq1tq2tq6t2 ?qq1tq2tq6t2
        case eq1tq2tq6t2 =>
          refine go_false ?_
          refine evSeq_go rfl (by simp [h0, hs, hB1, hB2, hB6] <;> rfl) (by rfl) (by simp [hw]) ?_
          refine evSeq_go rfl (by simp [h0, hs, hB1, hB2, hB6] <;> rfl) (by rfl) (by simp [hw]) ?_
          refine evSeq_go rfl (by simp [h0, hs, hB1, hB2, hB6] <;> rfl) (by rfl) (by simp [hw]) ?_
          refine evSeq_go (by simp [wants, h0, hs, hB1, hB2, hB6]) (by simp [h0, hs, hB1, hB2, hB6] <;> rfl) (by rfl) (by simp [hw]) ?_
          refine evSeq_go (by simp [wants, h0, hs, hB1, hB2, hB6]) (by simp [h0, hs, hB1, hB2, hB6] <;> rfl) (by rfl) (by simp [hw]) ?_
          refine evSeq_go (by simp [wants, h0, hs, hB1, hB2, hB6]) (by simp [h0, hs, hB1, hB2, hB6] <;> rfl) (by rfl) (by simp [hw]) ?_
          refine evSeq_off (by simp [wants, h0, hs, hB1, hB2, hB6]) (by simp [hw]) ?_
          refine evSeq_off (by simp [wants, h0, hs, hB1, hB2, hB6]) (by simp [hw]) ?_
          refine evSeq_off (by simp [wants, h0, hs, hB1, hB2, hB6]) (by simp [hw]) ?_
          refine evSeq_go (by simp [wants, h0, hs, hB1, hB2, hB6]) (by simp [h0, hs, hB1, hB2, hB6] <;> rfl) (by rfl) (by simp [hw]) ?_
          refine evSeq_go rfl (by simp [h0, hs, hB1, hB2, hB6] <;> rfl) (by rfl) (by simp [hw]) ?_
          refine evSeq_go rfl (by simp [h0, hs, hB1, hB2, hB6] <;> rfl) (by rfl) (by simp [hw]) ?_
          refine evSeq_go (by simp [wants, h0, hs, hB1, hB2, hB6]) (by simp [h0, hs, hB1, hB2, hB6] <;> rfl) (by rfl) (by simp [hw]) ?_
          refine evSeq_go (by simp [wants, h0, hs, hB1, hB2, hB6]) (by simp [h0, hs, hB1, hB2, hB6] <;> rfl) (by rfl) (by simp [hw]) ?_
          refine evSeq_go (by simp [wants, h0, hs, hB1, hB2, hB6]) (by simp [h0, hs, hB1, hB2, hB6] <;> rfl) (by rfl) (by simp [hw]) ?_
          refine evSeq_go (by simp [wants, h0, hs, hB1, hB2, hB6]) (by simp [h0, hs, hB1, hB2, hB6] <;> rfl) (by rfl) (by simp [hw]) ?_
          refine evSeq_off (by simp [wants, h0, hs, hB1, hB2, hB6]) (by simp [hw]) ?_
          refine evSeq_off (by simp [wants, h0, hs, hB1, hB2, hB6]) (by simp [hw]) ?_
          refine evSeq_off (by simp [wants, h0, hs, hB1, hB2, hB6]) (by simp [hw]) ?_
          refine evSeq_off (by simp [wants, h0, hs, hB1, hB2, hB6]) (by simp [hw]) ?_
          refine evSeq_off (by simp [wants, h0, hs, hB1, hB2, hB6]) (by simp [hw]) ?_
          refine evSeq_off (by simp [wants, h0, hs, hB1, hB2, hB6]) (by simp [hw]) ?_
          refine evSeq_off (by simp [wants, h0, hs, hB1, hB2, hB6]) (by simp [hw]) ?_
          refine evSeq_go (by simp [wants, h0, hs, hB1, hB2, hB6]) (by simp [h0, hs, hB1, hB2, hB6] <;> rfl) (by rfl) (by simp [hw]) ?_
          refine evSeq_go rfl (by simp [h0, hs, hB1, hB2, hB6] <;> rfl) (by rfl) (by simp [hw]) ?_
          refine evSeq_go rfl (by simp [h0, hs, hB1, hB2, hB6] <;> rfl) (by rfl) (by simp [hw]) ?_
          exact evSeq_nil
        refine inSeq_norm ?_
        refine Tri.ret ?_
        exact endsB (by simp [finish, evResults, evResult, Tryz.f48] <;> rfl) (by rfl)
theorem body_76a {call : CallF} (hC : call.Sound Tryz.prog TT) (s : List UInt8) (c : UInt8) (hn : decide (0 ≤ Lib.indexByte s c) = false) (hs : ∀ H, call 120 [.s s, .s [c]] H = .val (.i .i64 (Lib.indexByte s c)) H)  : EBody Tryz.prog TT 94 [.s s, .s [c]] (fun r => ∃ (a b : List UInt8) (f : Bool), r = .val (.tup [.s a, .s b, .b f]) ∧ a.length ≤ s.length ∧ b.length ≤ s.length) := by
  refine ⟨Tryz.f94, _, rfl, rfl, by simp [Tryz.f94], ?_⟩
  have h0 : (Tm.init Tryz.f94.ntmps [.s s, .s [c]]).get 0 = .s s := by rw [get_init]; rfl
  have h1 : (Tm.init Tryz.f94.ntmps [.s s, .s [c]]).get 1 = .s [c] := by rw [get_init]; rfl
  have hw : (Tm.init Tryz.f94.ntmps [.s s, .s [c]]).wid = 23 := rfl
  generalize Tm.init Tryz.f94.ntmps [.s s, .s [c]] = t at *
  try simp only [Nd.enc_eq] at *
  refine Tri.seq' ?_
  refine Tri.regN (t' := ?t1) (H' := ?H1) TT_ok hC ?e1 ?q1
  case e1 =>
    refine go_false ?_
    refine evSeq_go rfl (by simp [h0, h1, hs, hn] <;> rfl) (by rfl) (by simp [hw]) ?_
    refine evSeq_go rfl (by simp [h0, h1, hs, hn] <;> rfl) (by rfl) (by simp [hw]) ?_
    refine evSeq_go rfl (by simp [h0, h1, hs, hn] <;> rfl) (by rfl) (by simp [hw]) ?_
    exact evSeq_nil
  refine inSeq_norm ?_
  refine Tri.seq' ?_
  refine Tri.seq' ?_
  refine Tri.regN (t' := ?t2) (H' := ?H2) TT_ok hC ?e2 ?q2
  case e2 =>
    refine go_false ?_
    refine evSeq_go rfl (by simp [h0, h1, hs, hn] <;> rfl) (by rfl) (by simp [hw]) ?_
    refine evSeq_go rfl (by simp [h0, h1, hs, hn] <;> rfl) (by rfl) (by simp [hw]) ?_
    refine evSeq_go rfl (by simp [h0, h1, hs, hn] <;> rfl) (by rfl) (by simp [hw]) ?_
    refine evSeq_go rfl (by simp [h0, h1, hs, hn] <;> rfl) (by rfl) (by simp [hw]) ?_
    exact evSeq_nil
  refine inSeq_norm ?_
  refine Tri.seq' ?_
  refine Tri.regN (t' := ?t3) (H' := ?H3) TT_ok hC ?e3 ?q3
  case e3 =>
    refine go_false ?_
    refine evSeq_go rfl (by simp [h0, h1, hs, hn] <;> rfl) (by rfl) (by simp [hw]) ?_
    refine evSeq_go rfl (by simp [h0, h1, hs, hn] <;> rfl) (by rfl) (by simp [hw]) ?_
    exact evSeq_nil
  refine inSeq_norm ?_
  refine Tri.condG (o := ?o4) (b := ?b4) ?g4 ?r4 ?y4 ?n4
  case g4 => simp [h0, h1, hs, hn] <;> rfl
  case r4 => rfl
  case y4 =>
    intro hy4
    cases hy4
  case n4 =>
    intro hn4
    refine Tri.skip ?_
    refine inSeq_norm ?_
    refine Tri.seq' ?_
    refine Tri.regN (t' := ?t5) (H' := ?H5) TT_ok hC ?e5 ?q5
    case e5 =>
      refine go_false ?_
      refine evSeq_go rfl (by simp [h0, h1, hs, hn] <;> rfl) (by rfl) (by simp [hw]) ?_
      refine evSeq_go rfl (by simp [h0, h1, hs, hn] <;> rfl) (by rfl) (by simp [hw]) ?_
      refine evSeq_go rfl (by simp [h0, h1, hs, hn] <;> rfl) (by rfl) (by simp [hw]) ?_
      refine evSeq_go rfl (by simp [h0, h1, hs, hn] <;> rfl) (by rfl) (by simp [hw]) ?_
      exact evSeq_nil
    refine inSeq_norm ?_
    refine Tri.ret ?_
    refine endsE (by simp [finish, evResults, evResult, Tryz.f94] <;> rfl) (by rfl) ?_
    exact ⟨_, _, _, rfl, Nat.le_refl _, by simp⟩
theorem body_76b {call : CallF} (hC : call.Sound Tryz.prog TT) (s : List UInt8) (c : UInt8) (n : Nat) (hn : Lib.indexByte s c = n) (hlt : n < s.length) (hle : n ≤ s.length) (hle2 : n + 1 ≤ s.length) (hlt2 : (n : Int) + 1 ≤ s.length) (hw1 : IntKind.i64.wrap ((n : Int) + 1) = n + 1) (hs : ∀ H, call 120 [.s s, .s [c]] H = .val (.i .i64 n) H)  : EBody Tryz.prog TT 94 [.s s, .s [c]] (fun r => ∃ (a b : List UInt8) (f : Bool), r = .val (.tup [.s a, .s b, .b f]) ∧ a.length ≤ s.length ∧ b.length ≤ s.length) := by
  refine ⟨Tryz.f94, _, rfl, rfl, by simp [Tryz.f94], ?_⟩
  have h0 : (Tm.init Tryz.f94.ntmps [.s s, .s [c]]).get 0 = .s s := by rw [get_init]; rfl
  have h1 : (Tm.init Tryz.f94.ntmps [.s s, .s [c]]).get 1 = .s [c] := by rw [get_init]; rfl
  have hw : (Tm.init Tryz.f94.ntmps [.s s, .s [c]]).wid = 23 := rfl
  generalize Tm.init Tryz.f94.ntmps [.s s, .s [c]] = t at *
  try simp only [Nd.enc_eq] at *
  refine Tri.seq' ?_
  refine Tri.regN (t' := ?t1) (H' := ?H1) TT_ok hC ?e1 ?q1
  case e1 =>
    refine go_false ?_
    refine evSeq_go rfl (by simp [h0, h1, hs, hn, hlt, hlt2, hw1, hle, hle2] <;> rfl) (by rfl) (by simp [hw]) ?_
    refine evSeq_go rfl (by simp [h0, h1, hs, hn, hlt, hlt2, hw1, hle, hle2] <;> rfl) (by rfl) (by simp [hw]) ?_
    refine evSeq_go rfl (by simp [h0, h1, hs, hn, hlt, hlt2, hw1, hle, hle2] <;> rfl) (by rfl) (by simp [hw]) ?_
    exact evSeq_nil
  refine inSeq_norm ?_
  refine Tri.seq' ?_
  refine Tri.seq' ?_
  refine Tri.regN (t' := ?t2) (H' := ?H2) TT_ok hC ?e2 ?q2
  case e2 =>
    refine go_false ?_
    refine evSeq_go rfl (by simp [h0, h1, hs, hn, hlt, hlt2, hw1, hle, hle2] <;> rfl) (by rfl) (by simp [hw]) ?_
    refine evSeq_go rfl (by simp [h0, h1, hs, hn, hlt, hlt2, hw1, hle, hle2] <;> rfl) (by rfl) (by simp [hw]) ?_
    refine evSeq_go rfl (by simp [h0, h1, hs, hn, hlt, hlt2, hw1, hle, hle2] <;> rfl) (by rfl) (by simp [hw]) ?_
    refine evSeq_go rfl (by simp [h0, h1, hs, hn, hlt, hlt2, hw1, hle, hle2] <;> rfl) (by rfl) (by simp [hw]) ?_
    exact evSeq_nil
  refine inSeq_norm ?_
  refine Tri.seq' ?_
  refine Tri.regN (t' := ?t3) (H' := ?H3) TT_ok hC ?e3 ?q3
  case e3 =>
    refine go_false ?_
    refine evSeq_go rfl (by simp [h0, h1, hs, hn, hlt, hlt2, hw1, hle, hle2] <;> rfl) (by rfl) (by simp [hw]) ?_
    refine evSeq_go rfl (by simp [h0, h1, hs, hn, hlt, hlt2, hw1, hle, hle2] <;> rfl) (by rfl) (by simp [hw]) ?_
    exact evSeq_nil
  refine inSeq_norm ?_
  refine Tri.condG (o := ?o4) (b := ?b4) ?g4 ?r4 ?y4 ?n4
  case g4 => simp [h0, h1, hs, hn, hlt, hlt2, hw1, hle, hle2] <;> rfl
  case r4 => rfl
  case y4 =>
    intro hy4
    refine Tri.seq' ?_
    refine Tri.regN (t' := ?t5) (H' := ?H5) TT_ok hC ?e5 ?q5
    case e5 =>
      refine evReg_quiet (t' := ?t5) (by kernel_rfl) ?_ ?r905
      refine QR.val rfl (by simp [h0, h1, hs, hn, hlt, hlt2, hw1, hle, hle2] <;> rfl) (by rfl) (by simp [hw]) ?_
      refine QR.val rfl (by simp [h0, h1, hs, hn, hlt, hlt2, hw1, hle, hle2] <;> rfl) (by rfl) (by simp [hw]) ?_
      refine QR.val rfl (by simp [h0, h1, hs, hn, hlt, hlt2, hw1, hle, hle2] <;> rfl) (by rfl) (by simp [hw]) ?_
      refine QR.val rfl (by simp [h0, h1, hs, hn, hlt, hlt2, hw1, hle, hle2] <;> rfl) (by rfl) (by simp [hw]) ?_
      refine QR.val rfl (by simp [h0, h1, hs, hn, hlt, hlt2, hw1, hle, hle2] <;> rfl) (by rfl) (by simp [hw]) ?_
      refine QR.val rfl (by simp [h0, h1, hs, hn, hlt, hlt2, hw1, hle, hle2] <;> rfl) (by rfl) (by simp [hw]) ?_
      refine QR.val rfl (by simp [h0, h1, hs, hn, hlt, hlt2, hw1, hle, hle2] <;> rfl) (by rfl) (by simp [hw]) ?_
      refine QR.val rfl (by simp [h0, h1, hs, hn, hlt, hlt2, hw1, hle, hle2] <;> rfl) (by rfl) (by simp [hw]) ?_
      refine QR.val rfl (by simp [h0, h1, hs, hn, hlt, hlt2, hw1, hle, hle2] <;> rfl) (by rfl) (by simp [hw]) ?_
      refine QR.val rfl (by simp [h0, h1, hs, hn, hlt, hlt2, hw1, hle, hle2] <;> rfl) (by rfl) (by simp [hw]) ?_
      refine QR.val rfl (by simp [h0, h1, hs, hn, hlt, hlt2, hw1, hle, hle2] <;> rfl) (by rfl) (by simp [hw]) ?_
      refine QR.val rfl (by simp [h0, h1, hs, hn, hlt, hlt2, hw1, hle, hle2] <;> rfl) (by rfl) (by simp [hw]) ?_
      exact QR.nil
      case r905 => exact rfl
    refine inSeq_norm ?_
    refine Tri.ret ?_
    refine inSeq_ret ?_
    refine endsE (by simp [finish, evResults, evResult, Tryz.f94] <;> rfl) (by rfl) ?_
    exact ⟨_, _, _, rfl, by simp <;> omega, by simp <;> omega⟩
  case n4 =>
    intro hn4
    cases hn4
theorem body_61 {call : CallF} (hC : call.Sound Tryz.prog TT) (s : List UInt8) (c : UInt8) (a b : List UInt8) (f : Bool) (hs : ∀ H, call 94 [.s s, .s [c]] H = .val (.tup [.s a, .s b, .b f]) H)  : Body Tryz.prog TT 74 [.s s, .s [c]] (.val (.tup [.s a, .s b, .b f])) := by
  refine ⟨Tryz.f74, _, rfl, rfl, by simp [Tryz.f74], ?_⟩
  have h0 : (Tm.init Tryz.f74.ntmps [.s s, .s [c]]).get 0 = .s s := by rw [get_init]; rfl
  have h1 : (Tm.init Tryz.f74.ntmps [.s s, .s [c]]).get 1 = .s [c] := by rw [get_init]; rfl
  have hw : (Tm.init Tryz.f74.ntmps [.s s, .s [c]]).wid = 13 := rfl
  generalize Tm.init Tryz.f74.ntmps [.s s, .s [c]] = t at *
  try simp only [Nd.enc_eq] at *
  refine Tri.seq' ?_
  refine Tri.regN (t' := ?t1) (H' := ?H1) TT_ok hC ?e1 ?q1
  case e1 =>
    refine go_false ?_
    refine evSeq_go rfl (by simp [h0, h1, hs] <;> rfl) (by rfl) (by simp [hw]) ?_
    refine evSeq_go rfl (by simp [h0, h1, hs] <;> rfl) (by rfl) (by simp [hw]) ?_
    refine evSeq_go rfl (by simp [h0, h1, hs] <;> rfl) (by rfl) (by simp [hw]) ?_
    exact evSeq_nil
  refine inSeq_norm ?_
  refine Tri.seq' ?_
  refine Tri.regN (t' := ?t2) (H' := ?H2) TT_ok hC ?e2 ?q2
  case e2 =>
    refine go_false ?_
    refine evSeq_go rfl (by simp [h0, h1, hs] <;> rfl) (by rfl) (by simp [hw]) ?_
    refine evSeq_go rfl (by simp [h0, h1, hs] <;> rfl) (by rfl) (by simp [hw]) ?_
    refine evSeq_go rfl (by simp [h0, h1, hs] <;> rfl) (by rfl) (by simp [hw]) ?_
    refine evSeq_go rfl (by simp [h0, h1, hs] <;> rfl) (by rfl) (by simp [hw]) ?_
    refine evSeq_go rfl (by simp [h0, h1, hs] <;> rfl) (by rfl) (by simp [hw]) ?_
    refine evSeq_go rfl (by simp [h0, h1, hs] <;> rfl) (by rfl) (by simp [hw]) ?_
    refine evSeq_go rfl (by simp [h0, h1, hs] <;> rfl) (by rfl) (by simp [hw]) ?_
    refine evSeq_go rfl (by simp [h0, h1, hs] <;> rfl) (by rfl) (by simp [hw]) ?_
    refine evSeq_go rfl (by simp [h0, h1, hs] <;> rfl) (by rfl) (by simp [hw]) ?_
    exact evSeq_nil
  refine inSeq_norm ?_
  refine Tri.ret ?_
  simp [Ends, finish, evResults, evResult, Tryz.f74, h0, h1, hs]
theorem body_54 {call : CallF} (hC : call.Sound Tryz.prog TT) (s : List UInt8) (c : UInt8) (k : Int) (l : List (List UInt8)) (q : Bool) (hs : ∀ H, call 68 [.s s, .s [c]] H = .val (.isl 1 (encS l)) H) (hq : ∀ H, call 69 [.isl 1 (encS l), .fn 70 []] H = .val (.b q) H)  : EBody Tryz.prog TT 67 [.s s, .ipt 1 [.agg [.s [c]]] 0 0, .ipt 1 [.agg [.i .i64 k]] 0 0] (fun r => ∃ b : Bool, r = .val (.b b)) := by
  refine ⟨Tryz.f67, _, rfl, rfl, by simp [Tryz.f67], ?_⟩
  have h0 : (Tm.init Tryz.f67.ntmps [.s s, .ipt 1 [.agg [.s [c]]] 0 0, .ipt 1 [.agg [.i .i64 k]] 0 0]).get 0 = .s s := by rw [get_init]; rfl
  have h1 : (Tm.init Tryz.f67.ntmps [.s s, .ipt 1 [.agg [.s [c]]] 0 0, .ipt 1 [.agg [.i .i64 k]] 0 0]).get 1 = .ipt 1 [.agg [.s [c]]] 0 0 := by rw [get_init]; rfl
  have h2 : (Tm.init Tryz.f67.ntmps [.s s, .ipt 1 [.agg [.s [c]]] 0 0, .ipt 1 [.agg [.i .i64 k]] 0 0]).get 2 = .ipt 1 [.agg [.i .i64 k]] 0 0 := by rw [get_init]; rfl
  have hw : (Tm.init Tryz.f67.ntmps [.s s, .ipt 1 [.agg [.s [c]]] 0 0, .ipt 1 [.agg [.i .i64 k]] 0 0]).wid = 22 := rfl
  generalize Tm.init Tryz.f67.ntmps [.s s, .ipt 1 [.agg [.s [c]]] 0 0, .ipt 1 [.agg [.i .i64 k]] 0 0] = t at *
  try simp only [Nd.enc_eq] at *
  refine Tri.seq' ?_
  refine Tri.regN (t' := ?t1) (H' := ?H1) TT_ok hC ?e1 ?q1
  case e1 =>
    refine go_false ?_
    refine evSeq_go rfl (by simp [h0, h1, h2, hs, hq, encS_length] <;> rfl) (by rfl) (by simp [hw]) ?_
    exact evSeq_nil
  refine inSeq_norm ?_
  refine Tri.seq' ?_
  refine Tri.regN (t' := ?t2) (H' := ?H2) TT_ok hC ?e2 ?q2
  case e2 =>
    refine go_false ?_
    refine evSeq_go rfl (by simp [h0, h1, h2, hs, hq, encS_length] <;> rfl) (by rfl) (by simp [hw]) ?_
    refine evSeq_go rfl (by simp [h0, h1, h2, hs, hq, encS_length] <;> rfl) (by rfl) (by simp [hw]) ?_
    refine evSeq_go rfl (by simp [h0, h1, h2, hs, hq, encS_length] <;> rfl) (by rfl) (by simp [hw]) ?_
    refine evSeq_go rfl (by simp [h0, h1, h2, hs, hq, encS_length] <;> rfl) (by rfl) (by simp [hw]) ?_
    exact evSeq_nil
  refine inSeq_norm ?_
  refine Tri.seq' ?_
  cases hB1 : (k == 0 : Bool)
  case false =>
    cases hB2 : (decide ((l.length : Int) ≤ k) : Bool)
    case false =>
      refine Tri.regN (t' := ?tq1fq2f3) (H' := ?Hq1fq2f3) TT_ok hC ?eq1fq2f3 ?qq1fq2f3
      case eq1fq2f3 =>
        refine go_false ?_
        refine evSeq_go rfl (by simp [h0, h1, h2, hs, hq, encS_length, hB1, hB2] <;> rfl) (by rfl) (by simp [hw]) ?_
        refine evSeq_go rfl (by simp [h0, h1, h2, hs, hq, encS_length, hB1, hB2] <;> rfl) (by rfl) (by simp [hw]) ?_
        refine evSeq_go rfl (by simp [h0, h1, h2, hs, hq, encS_length, hB1, hB2] <;> rfl) (by rfl) (by simp [hw]) ?_
        refine evSeq_go (by simp [wants, h0, h1, h2, hs, hq, encS_length, hB1, hB2]) (by simp [h0, h1, h2, hs, hq, encS_length, hB1, hB2] <;> rfl) (by rfl) (by simp [hw]) ?_
        refine evSeq_go (by simp [wants, h0, h1, h2, hs, hq, encS_length, hB1, hB2]) (by simp [h0, h1, h2, hs, hq, encS_length, hB1, hB2] <;> rfl) (by rfl) (by simp [hw]) ?_
        refine evSeq_go (by simp [wants, h0, h1, h2, hs, hq, encS_length, hB1, hB2]) (by simp [h0, h1, h2, hs, hq, encS_length, hB1, hB2] <;> rfl) (by rfl) (by simp [hw]) ?_
        refine evSeq_go (by simp [wants, h0, h1, h2, hs, hq, encS_length, hB1, hB2]) (by simp [h0, h1, h2, hs, hq, encS_length, hB1, hB2] <;> rfl) (by rfl) (by simp [hw]) ?_
        refine evSeq_go rfl (by simp [h0, h1, h2, hs, hq, encS_length, hB1, hB2] <;> rfl) (by rfl) (by simp [hw]) ?_
        refine evSeq_go rfl (by simp [h0, h1, h2, hs, hq, encS_length, hB1, hB2] <;> rfl) (by rfl) (by simp [hw]) ?_
        refine evSeq_off (by simp [wants, h0, h1, h2, hs, hq, encS_length, hB1, hB2]) (by simp [hw]) ?_
        refine evSeq_off (by simp [wants, h0, h1, h2, hs, hq, encS_length, hB1, hB2]) (by simp [hw]) ?_
        refine evSeq_off (by simp [wants, h0, h1, h2, hs, hq, encS_length, hB1, hB2]) (by simp [hw]) ?_
        refine evSeq_go rfl (by simp [h0, h1, h2, hs, hq, encS_length, hB1, hB2] <;> rfl) (by rfl) (by simp [hw]) ?_
        refine evSeq_go rfl (by simp [h0, h1, h2, hs, hq, encS_length, hB1, hB2] <;> rfl) (by rfl) (by simp [hw]) ?_
        exact evSeq_nil
      refine inSeq_norm ?_
      refine Tri.ret ?_
      exact endsB (by simp [finish, evResults, evResult, Tryz.f67] <;> rfl) (by rfl)
    case true =>
      refine Tri.regN (t' := ?tq1fq2t3) (H' := ?Hq1fq2t3) TT_ok hC ?eq1fq2t3 ?qq1fq2t3
      case eq1fq2t3 =>
        refine go_false ?_
        refine evSeq_go rfl (by simp [h0, h1, h2, hs, hq, encS_length, hB1, hB2] <;> rfl) (by rfl) (by simp [hw]) ?_
        refine evSeq_go rfl (by simp [h0, h1, h2, hs, hq, encS_length, hB1, hB2] <;> rfl) (by rfl) (by simp [hw]) ?_
        refine evSeq_go rfl (by simp [h0, h1, h2, hs, hq, encS_length, hB1, hB2] <;> rfl) (by rfl) (by simp [hw]) ?_
        refine evSeq_go (by simp [wants, h0, h1, h2, hs, hq, encS_length, hB1, hB2]) (by simp [h0, h1, h2, hs, hq, encS_length, hB1, hB2] <;> rfl) (by rfl) (by simp [hw]) ?_
        refine evSeq_go (by simp [wants, h0, h1, h2, hs, hq, encS_length, hB1, hB2]) (by simp [h0, h1, h2, hs, hq, encS_length, hB1, hB2] <;> rfl) (by rfl) (by simp [hw]) ?_
        refine evSeq_go (by simp [wants, h0, h1, h2, hs, hq, encS_length, hB1, hB2]) (by simp [h0, h1, h2, hs, hq, encS_length, hB1, hB2] <;> rfl) (by rfl) (by simp [hw]) ?_
        refine evSeq_go (by simp [wants, h0, h1, h2, hs, hq, encS_length, hB1, hB2]) (by simp [h0, h1, h2, hs, hq, encS_length, hB1, hB2] <;> rfl) (by rfl) (by simp [hw]) ?_
        refine evSeq_go rfl (by simp [h0, h1, h2, hs, hq, encS_length, hB1, hB2] <;> rfl) (by rfl) (by simp [hw]) ?_
        refine evSeq_go rfl (by simp [h0, h1, h2, hs, hq, encS_length, hB1, hB2] <;> rfl) (by rfl) (by simp [hw]) ?_
        refine evSeq_go (by simp [wants, h0, h1, h2, hs, hq, encS_length, hB1, hB2]) (by simp [h0, h1, h2, hs, hq, encS_length, hB1, hB2] <;> rfl) (by rfl) (by simp [hw]) ?_
        refine evSeq_go (by simp [wants, h0, h1, h2, hs, hq, encS_length, hB1, hB2]) (by simp [h0, h1, h2, hs, hq, encS_length, hB1, hB2] <;> rfl) (by rfl) (by simp [hw]) ?_
        refine evSeq_go (by simp [wants, h0, h1, h2, hs, hq, encS_length, hB1, hB2]) (by simp [h0, h1, h2, hs, hq, encS_length, hB1, hB2] <;> rfl) (by rfl) (by simp [hw]) ?_
        refine evSeq_go rfl (by simp [h0, h1, h2, hs, hq, encS_length, hB1, hB2] <;> rfl) (by rfl) (by simp [hw]) ?_
        refine evSeq_go rfl (by simp [h0, h1, h2, hs, hq, encS_length, hB1, hB2] <;> rfl) (by rfl) (by simp [hw]) ?_
        exact evSeq_nil
      refine inSeq_norm ?_
      refine Tri.ret ?_
      exact endsB (by simp [finish, evResults, evResult, Tryz.f67] <;> rfl) (by rfl)
  case true =>
    refine Tri.regN (t' := ?tq1t3) (H' := ?Hq1t3) TT_ok hC ?eq1t3 ?qq1t3
    case eq1t3 =>
      refine go_false ?_
      refine evSeq_go rfl (by simp [h0, h1, h2, hs, hq, encS_length, hB1] <;> rfl) (by rfl) (by simp [hw]) ?_
      refine evSeq_go rfl (by simp [h0, h1, h2, hs, hq, encS_length, hB1] <;> rfl) (by rfl) (by simp [hw]) ?_
      refine evSeq_go rfl (by simp [h0, h1, h2, hs, hq, encS_length, hB1] <;> rfl) (by rfl) (by simp [hw]) ?_
      refine evSeq_off (by simp [wants, h0, h1, h2, hs, hq, encS_length, hB1]) (by simp [hw]) ?_
      refine evSeq_off (by simp [wants, h0, h1, h2, hs, hq, encS_length, hB1]) (by simp [hw]) ?_
      refine evSeq_off (by simp [wants, h0, h1, h2, hs, hq, encS_length, hB1]) (by simp [hw]) ?_
      refine evSeq_off (by simp [wants, h0, h1, h2, hs, hq, encS_length, hB1]) (by simp [hw]) ?_
      refine evSeq_go rfl (by simp [h0, h1, h2, hs, hq, encS_length, hB1] <;> rfl) (by rfl) (by simp [hw]) ?_
      refine evSeq_go rfl (by simp [h0, h1, h2, hs, hq, encS_length, hB1] <;> rfl) (by rfl) (by simp [hw]) ?_
      refine evSeq_go (by simp [wants, h0, h1, h2, hs, hq, encS_length, hB1]) (by simp [h0, h1, h2, hs, hq, encS_length, hB1] <;> rfl) (by rfl) (by simp [hw]) ?_
      refine evSeq_go (by simp [wants, h0, h1, h2, hs, hq, encS_length, hB1]) (by simp [h0, h1, h2, hs, hq, encS_length, hB1] <;> rfl) (by rfl) (by simp [hw]) ?_
      refine evSeq_go (by simp [wants, h0, h1, h2, hs, hq, encS_length, hB1]) (by simp [h0, h1, h2, hs, hq, encS_length, hB1] <;> rfl) (by rfl) (by simp [hw]) ?_
      refine evSeq_go rfl (by simp [h0, h1, h2, hs, hq, encS_length, hB1] <;> rfl) (by rfl) (by simp [hw]) ?_
      refine evSeq_go rfl (by simp [h0, h1, h2, hs, hq, encS_length, hB1] <;> rfl) (by rfl) (by simp [hw]) ?_
      exact evSeq_nil
    refine inSeq_norm ?_
    refine Tri.ret ?_
    exact endsB (by simp [finish, evResults, evResult, Tryz.f67] <;> rfl) (by rfl)
end Go.Ev
