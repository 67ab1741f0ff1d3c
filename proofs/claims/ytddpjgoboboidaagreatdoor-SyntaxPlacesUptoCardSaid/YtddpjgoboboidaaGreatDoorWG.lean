/- Walks over the rounds of the parts. -/
import Derived.Test.YtddpjgoboboidaaGreatDoorWF
namespace Go.Ev
open Go Go.Proofs
set_option maxRecDepth 100000
set_option linter.unusedSimpArgs false
set_option linter.unusedVariables false
theorem body_40lo {call : CallF} (hC : call.Sound Tryz.prog TT) (x : Nd) (h1k : decide (x.kind < 1) = true)  : EBody Tryz.prog TT 54 [.ipt 285 [.agg shCells] 0 0, x.enc] (fun r => ∃ b : Bool, r = .val (.b b)) := by
  refine ⟨Tryz.f54, _, rfl, rfl, by simp [Tryz.f54], ?_⟩
  have h0 : (Tm.init Tryz.f54.ntmps [.ipt 285 [.agg shCells] 0 0, x.enc]).get 0 = .ipt 285 [.agg shCells] 0 0 := by rw [get_init]; rfl
  have h1 : (Tm.init Tryz.f54.ntmps [.ipt 285 [.agg shCells] 0 0, x.enc]).get 1 = x.enc := by rw [get_init]; rfl
  have hw : (Tm.init Tryz.f54.ntmps [.ipt 285 [.agg shCells] 0 0, x.enc]).wid = 99 := rfl
  generalize Tm.init Tryz.f54.ntmps [.ipt 285 [.agg shCells] 0 0, x.enc] = t at *
  try simp only [Nd.enc_eq] at *
  refine Tri.seq' ?_
  refine Tri.regN (t' := ?t1) (H' := ?H1) TT_ok hC ?e1 ?q1
  case e1 =>
    refine go_false ?_
    refine evSeq_go rfl (by simp [h0, h1, h1k] <;> rfl) (by rfl) (by simp [hw]) ?_
    refine evSeq_go rfl (by simp [h0, h1, h1k] <;> rfl) (by rfl) (by simp [hw]) ?_
    exact evSeq_nil
  refine inSeq_norm ?_
  refine Tri.seq' ?_
  refine Tri.seq' ?_
  refine Tri.regN (t' := ?t2) (H' := ?H2) TT_ok hC ?e2 ?q2
  case e2 =>
    refine go_false ?_
    refine evSeq_go rfl (by simp [h0, h1, h1k] <;> rfl) (by rfl) (by simp [hw]) ?_
    refine evSeq_go rfl (by simp [h0, h1, h1k] <;> rfl) (by rfl) (by simp [hw]) ?_
    refine evSeq_go rfl (by simp [h0, h1, h1k] <;> rfl) (by rfl) (by simp [hw]) ?_
    refine evSeq_go rfl (by simp [h0, h1, h1k] <;> rfl) (by rfl) (by simp [hw]) ?_
    refine evSeq_off (by simp [wants, h0, h1, h1k]) (by simp [hw]) ?_
    refine evSeq_off (by simp [wants, h0, h1, h1k]) (by simp [hw]) ?_
    refine evSeq_off (by simp [wants, h0, h1, h1k]) (by simp [hw]) ?_
    refine evSeq_go rfl (by simp [h0, h1, h1k] <;> rfl) (by rfl) (by simp [hw]) ?_
    exact evSeq_nil
  refine inSeq_norm ?_
  refine Tri.condG (o := ?o3) (b := ?b3) ?g3 ?r3 ?y3 ?n3
  case g3 => simp [h0, h1, h1k] <;> rfl
  case r3 => rfl
  case y3 =>
    intro hy3
    refine Tri.seq' ?_
    refine Tri.regN (t' := ?t4) (H' := ?H4) TT_ok hC ?e4 ?q4
    case e4 =>
      refine go_false ?_
      refine evSeq_go rfl (by simp [h0, h1, h1k] <;> rfl) (by rfl) (by simp [hw]) ?_
      exact evSeq_nil
    refine inSeq_norm ?_
    refine Tri.ret ?_
    refine inSeq_ret ?_
    exact endsB (by simp [finish, evResults, evResult, Tryz.f54] <;> rfl) (by rfl)
  case n3 =>
    intro hn3
    exact absurd hn3 (by simp [h0, h1, h1k])
theorem body_40hi {call : CallF} (hC : call.Sound Tryz.prog TT) (x : Nd) (h1k : decide (x.kind < 1) = false) (h2k : decide ((56 : Int) < x.kind) = true)  : EBody Tryz.prog TT 54 [.ipt 285 [.agg shCells] 0 0, x.enc] (fun r => ∃ b : Bool, r = .val (.b b)) := by
  refine ⟨Tryz.f54, _, rfl, rfl, by simp [Tryz.f54], ?_⟩
  have h0 : (Tm.init Tryz.f54.ntmps [.ipt 285 [.agg shCells] 0 0, x.enc]).get 0 = .ipt 285 [.agg shCells] 0 0 := by rw [get_init]; rfl
  have h1 : (Tm.init Tryz.f54.ntmps [.ipt 285 [.agg shCells] 0 0, x.enc]).get 1 = x.enc := by rw [get_init]; rfl
  have hw : (Tm.init Tryz.f54.ntmps [.ipt 285 [.agg shCells] 0 0, x.enc]).wid = 99 := rfl
  generalize Tm.init Tryz.f54.ntmps [.ipt 285 [.agg shCells] 0 0, x.enc] = t at *
  try simp only [Nd.enc_eq] at *
  refine Tri.seq' ?_
  refine Tri.regN (t' := ?t1) (H' := ?H1) TT_ok hC ?e1 ?q1
  case e1 =>
    refine go_false ?_
    refine evSeq_go rfl (by simp [h0, h1, h1k, h2k] <;> rfl) (by rfl) (by simp [hw]) ?_
    refine evSeq_go rfl (by simp [h0, h1, h1k, h2k] <;> rfl) (by rfl) (by simp [hw]) ?_
    exact evSeq_nil
  refine inSeq_norm ?_
  refine Tri.seq' ?_
  refine Tri.seq' ?_
  refine Tri.regN (t' := ?t2) (H' := ?H2) TT_ok hC ?e2 ?q2
  case e2 =>
    refine go_false ?_
    refine evSeq_go rfl (by simp [h0, h1, h1k, h2k] <;> rfl) (by rfl) (by simp [hw]) ?_
    refine evSeq_go rfl (by simp [h0, h1, h1k, h2k] <;> rfl) (by rfl) (by simp [hw]) ?_
    refine evSeq_go rfl (by simp [h0, h1, h1k, h2k] <;> rfl) (by rfl) (by simp [hw]) ?_
    refine evSeq_go rfl (by simp [h0, h1, h1k, h2k] <;> rfl) (by rfl) (by simp [hw]) ?_
    refine evSeq_go (by simp [wants, h0, h1, h1k, h2k]) (by simp [h0, h1, h1k, h2k] <;> rfl) (by rfl) (by simp [hw]) ?_
    refine evSeq_go (by simp [wants, h0, h1, h1k, h2k]) (by simp [h0, h1, h1k, h2k] <;> rfl) (by rfl) (by simp [hw]) ?_
    refine evSeq_go (by simp [wants, h0, h1, h1k, h2k]) (by simp [h0, h1, h1k, h2k] <;> rfl) (by rfl) (by simp [hw]) ?_
    refine evSeq_go rfl (by simp [h0, h1, h1k, h2k] <;> rfl) (by rfl) (by simp [hw]) ?_
    exact evSeq_nil
  refine inSeq_norm ?_
  refine Tri.condG (o := ?o3) (b := ?b3) ?g3 ?r3 ?y3 ?n3
  case g3 => simp [h0, h1, h1k, h2k] <;> rfl
  case r3 => rfl
  case y3 =>
    intro hy3
    refine Tri.seq' ?_
    refine Tri.regN (t' := ?t4) (H' := ?H4) TT_ok hC ?e4 ?q4
    case e4 =>
      refine go_false ?_
      refine evSeq_go rfl (by simp [h0, h1, h1k, h2k] <;> rfl) (by rfl) (by simp [hw]) ?_
      exact evSeq_nil
    refine inSeq_norm ?_
    refine Tri.ret ?_
    refine inSeq_ret ?_
    exact endsB (by simp [finish, evResults, evResult, Tryz.f54] <;> rfl) (by rfl)
  case n3 =>
    intro hn3
    exact absurd hn3 (by simp [h0, h1, h1k, h2k])
theorem body_40a {call : CallF} (hC : call.Sound Tryz.prog TT) (x : Nd) (k : Nat) (hk : x.kind = k) (k1 : ¬ (k : Int) < 1) (k2 : ¬ (56 : Int) < k) (k3 : (k : Int) < 57) (tf : FuncId) (tc kl : List V) (rs : V) (lst : Int) (c1 : shCells[k * 5 + 1]? = some (.fn tf tc)) (c2 : shCells[k * 5 + 2]? = some (.isl 1 kl)) (c3 : shCells[k * 5 + 3]? = some rs) (c4 : shCells[k * 5 + 4]? = some (.i .i64 lst)) (hx0 : TT.ext tf = none) (wl : IntKind.i64.wrap (kl.length + lst) = kl.length + lst) (ht : ∀ H, call tf (.s x.text :: tc) H = .val (.b false) H)  : EBody Tryz.prog TT 54 [.ipt 285 [.agg shCells] 0 0, x.enc] (fun r => ∃ b : Bool, r = .val (.b b)) := by
  refine ⟨Tryz.f54, _, rfl, rfl, by simp [Tryz.f54], ?_⟩
  have h0 : (Tm.init Tryz.f54.ntmps [.ipt 285 [.agg shCells] 0 0, x.enc]).get 0 = .ipt 285 [.agg shCells] 0 0 := by rw [get_init]; rfl
  have h1 : (Tm.init Tryz.f54.ntmps [.ipt 285 [.agg shCells] 0 0, x.enc]).get 1 = x.enc := by rw [get_init]; rfl
  have hw : (Tm.init Tryz.f54.ntmps [.ipt 285 [.agg shCells] 0 0, x.enc]).wid = 99 := rfl
  generalize Tm.init Tryz.f54.ntmps [.ipt 285 [.agg shCells] 0 0, x.enc] = t at *
  try simp only [Nd.enc_eq] at *
  refine Tri.seq' ?_
  refine Tri.regN (t' := ?t1) (H' := ?H1) TT_ok hC ?e1 ?q1
  case e1 =>
    refine go_false ?_
    refine evSeq_go rfl (by simp [h0, h1, hk, k1, k2, k3, c1, c2, c3, c4, hx0, wl, Nd.encL_length, ht] <;> rfl) (by rfl) (by simp [hw]) ?_
    refine evSeq_go rfl (by simp [h0, h1, hk, k1, k2, k3, c1, c2, c3, c4, hx0, wl, Nd.encL_length, ht] <;> rfl) (by rfl) (by simp [hw]) ?_
    exact evSeq_nil
  refine inSeq_norm ?_
  refine Tri.seq' ?_
  refine Tri.seq' ?_
  refine Tri.regN (t' := ?t2) (H' := ?H2) TT_ok hC ?e2 ?q2
  case e2 =>
    refine go_false ?_
    refine evSeq_go rfl (by simp [h0, h1, hk, k1, k2, k3, c1, c2, c3, c4, hx0, wl, Nd.encL_length, ht] <;> rfl) (by rfl) (by simp [hw]) ?_
    refine evSeq_go rfl (by simp [h0, h1, hk, k1, k2, k3, c1, c2, c3, c4, hx0, wl, Nd.encL_length, ht] <;> rfl) (by rfl) (by simp [hw]) ?_
    refine evSeq_go rfl (by simp [h0, h1, hk, k1, k2, k3, c1, c2, c3, c4, hx0, wl, Nd.encL_length, ht] <;> rfl) (by rfl) (by simp [hw]) ?_
    refine evSeq_go rfl (by simp [h0, h1, hk, k1, k2, k3, c1, c2, c3, c4, hx0, wl, Nd.encL_length, ht] <;> rfl) (by rfl) (by simp [hw]) ?_
    refine evSeq_go (by simp [wants, h0, h1, hk, k1, k2, k3, c1, c2, c3, c4, hx0, wl, Nd.encL_length, ht]) (by simp [h0, h1, hk, k1, k2, k3, c1, c2, c3, c4, hx0, wl, Nd.encL_length, ht] <;> rfl) (by rfl) (by simp [hw]) ?_
    refine evSeq_go (by simp [wants, h0, h1, hk, k1, k2, k3, c1, c2, c3, c4, hx0, wl, Nd.encL_length, ht]) (by simp [h0, h1, hk, k1, k2, k3, c1, c2, c3, c4, hx0, wl, Nd.encL_length, ht] <;> rfl) (by rfl) (by simp [hw]) ?_
    refine evSeq_go (by simp [wants, h0, h1, hk, k1, k2, k3, c1, c2, c3, c4, hx0, wl, Nd.encL_length, ht]) (by simp [h0, h1, hk, k1, k2, k3, c1, c2, c3, c4, hx0, wl, Nd.encL_length, ht] <;> rfl) (by rfl) (by simp [hw]) ?_
    refine evSeq_go rfl (by simp [h0, h1, hk, k1, k2, k3, c1, c2, c3, c4, hx0, wl, Nd.encL_length, ht] <;> rfl) (by rfl) (by simp [hw]) ?_
    exact evSeq_nil
  refine inSeq_norm ?_
  refine Tri.condG (o := ?o3) (b := ?b3) ?g3 ?r3 ?y3 ?n3
  case g3 => simp [h0, h1, hk, k1, k2, k3, c1, c2, c3, c4, hx0, wl, Nd.encL_length, ht] <;> rfl
  case r3 => rfl
  case y3 =>
    intro hy3
    exact absurd hy3 (by simp [h0, h1, hk, k1, k2, k3, c1, c2, c3, c4, hx0, wl, Nd.encL_length, ht])
  case n3 =>
    intro hn3
    refine Tri.skip ?_
    refine inSeq_norm ?_
    refine Tri.seq' ?_
    refine Tri.regN (t' := ?t4) (H' := ?H4) TT_ok hC ?e4 ?q4
    case e4 =>
      refine evReg_quiet (t' := ?t4) (by kernel_rfl) ?_ ?r904
      refine QR.val rfl (by simp [h0, h1, hk, k1, k2, k3, c1, c2, c3, c4, hx0, wl, Nd.encL_length, ht] <;> rfl) (by rfl) (by simp [hw]) ?_
      refine QR.val rfl (by simp [h0, h1, hk, k1, k2, k3, c1, c2, c3, c4, hx0, wl, Nd.encL_length, ht] <;> rfl) (by rfl) (by simp [hw]) ?_
      refine QR.val rfl (by simp [h0, h1, hk, k1, k2, k3, c1, c2, c3, c4, hx0, wl, Nd.encL_length, ht] <;> rfl) (by rfl) (by simp [hw]) ?_
      refine QR.val rfl (by simp [h0, h1, hk, k1, k2, k3, c1, c2, c3, c4, hx0, wl, Nd.encL_length, ht] <;> rfl) (by rfl) (by simp [hw]) ?_
      refine QR.val rfl (by simp [h0, h1, hk, k1, k2, k3, c1, c2, c3, c4, hx0, wl, Nd.encL_length, ht] <;> rfl) (by rfl) (by simp [hw]) ?_
      refine QR.val rfl (by simp [h0, h1, hk, k1, k2, k3, c1, c2, c3, c4, hx0, wl, Nd.encL_length, ht] <;> rfl) (by rfl) (by simp [hw]) ?_
      refine QR.val rfl (by simp [h0, h1, hk, k1, k2, k3, c1, c2, c3, c4, hx0, wl, Nd.encL_length, ht] <;> rfl) (by rfl) (by simp [hw]) ?_
      exact QR.nil
      case r904 => exact rfl
    refine inSeq_norm ?_
    refine Tri.seq' ?_
    refine Tri.seq' ?_
    refine Tri.regN (t' := ?t5) (H' := ?H5) TT_ok hC ?e5 ?q5
    case e5 =>
      refine evReg_quiet (t' := ?t5) (by kernel_rfl) ?_ ?r905
      refine QR.val rfl (by simp [h0, h1, hk, k1, k2, k3, c1, c2, c3, c4, hx0, wl, Nd.encL_length, ht] <;> rfl) (by rfl) (by simp [hw]) ?_
      refine QR.val rfl (by simp [h0, h1, hk, k1, k2, k3, c1, c2, c3, c4, hx0, wl, Nd.encL_length, ht] <;> rfl) (by rfl) (by simp [hw]) ?_
      refine QR.val rfl (by simp [h0, h1, hk, k1, k2, k3, c1, c2, c3, c4, hx0, wl, Nd.encL_length, ht] <;> rfl) (by rfl) (by simp [hw]) ?_
      refine QR.val rfl (by simp [h0, h1, hk, k1, k2, k3, c1, c2, c3, c4, hx0, wl, Nd.encL_length, ht] <;> rfl) (by rfl) (by simp [hw]) ?_
      refine QR.val rfl (by simp [h0, h1, hk, k1, k2, k3, c1, c2, c3, c4, hx0, wl, Nd.encL_length, ht] <;> rfl) (by rfl) (by simp [hw]) ?_
      refine QR.val rfl (by simp [h0, h1, hk, k1, k2, k3, c1, c2, c3, c4, hx0, wl, Nd.encL_length, ht] <;> rfl) (by rfl) (by simp [hw]) ?_
      refine QR.val rfl (by simp [h0, h1, hk, k1, k2, k3, c1, c2, c3, c4, hx0, wl, Nd.encL_length, ht] <;> rfl) (by rfl) (by simp [hw]) ?_
      refine QR.val rfl (by simp [h0, h1, hk, k1, k2, k3, c1, c2, c3, c4, hx0, wl, Nd.encL_length, ht] <;> rfl) (by rfl) (by simp [hw]) ?_
      refine QR.val rfl (by simp [h0, h1, hk, k1, k2, k3, c1, c2, c3, c4, hx0, wl, Nd.encL_length, ht] <;> rfl) (by rfl) (by simp [hw]) ?_
      refine QR.off (by simp [wants, h0, h1, hk, k1, k2, k3, c1, c2, c3, c4, hx0, wl, Nd.encL_length, ht]) (by simp [hw]) ?_
      refine QR.off (by simp [wants, h0, h1, hk, k1, k2, k3, c1, c2, c3, c4, hx0, wl, Nd.encL_length, ht]) (by simp [hw]) ?_
      refine QR.off (by simp [wants, h0, h1, hk, k1, k2, k3, c1, c2, c3, c4, hx0, wl, Nd.encL_length, ht]) (by simp [hw]) ?_
      refine QR.off (by simp [wants, h0, h1, hk, k1, k2, k3, c1, c2, c3, c4, hx0, wl, Nd.encL_length, ht]) (by simp [hw]) ?_
      refine QR.off (by simp [wants, h0, h1, hk, k1, k2, k3, c1, c2, c3, c4, hx0, wl, Nd.encL_length, ht]) (by simp [hw]) ?_
      refine QR.off (by simp [wants, h0, h1, hk, k1, k2, k3, c1, c2, c3, c4, hx0, wl, Nd.encL_length, ht]) (by simp [hw]) ?_
      refine QR.off (by simp [wants, h0, h1, hk, k1, k2, k3, c1, c2, c3, c4, hx0, wl, Nd.encL_length, ht]) (by simp [hw]) ?_
      refine QR.off (by simp [wants, h0, h1, hk, k1, k2, k3, c1, c2, c3, c4, hx0, wl, Nd.encL_length, ht]) (by simp [hw]) ?_
      refine QR.off (by simp [wants, h0, h1, hk, k1, k2, k3, c1, c2, c3, c4, hx0, wl, Nd.encL_length, ht]) (by simp [hw]) ?_
      refine QR.off (by simp [wants, h0, h1, hk, k1, k2, k3, c1, c2, c3, c4, hx0, wl, Nd.encL_length, ht]) (by simp [hw]) ?_
      refine QR.off (by simp [wants, h0, h1, hk, k1, k2, k3, c1, c2, c3, c4, hx0, wl, Nd.encL_length, ht]) (by simp [hw]) ?_
      refine QR.off (by simp [wants, h0, h1, hk, k1, k2, k3, c1, c2, c3, c4, hx0, wl, Nd.encL_length, ht]) (by simp [hw]) ?_
      refine QR.off (by simp [wants, h0, h1, hk, k1, k2, k3, c1, c2, c3, c4, hx0, wl, Nd.encL_length, ht]) (by simp [hw]) ?_
      refine QR.off (by simp [wants, h0, h1, hk, k1, k2, k3, c1, c2, c3, c4, hx0, wl, Nd.encL_length, ht]) (by simp [hw]) ?_
      refine QR.val rfl (by simp [h0, h1, hk, k1, k2, k3, c1, c2, c3, c4, hx0, wl, Nd.encL_length, ht] <;> rfl) (by rfl) (by simp [hw]) ?_
      refine QR.val rfl (by simp [h0, h1, hk, k1, k2, k3, c1, c2, c3, c4, hx0, wl, Nd.encL_length, ht] <;> rfl) (by rfl) (by simp [hw]) ?_
      refine QR.off (by simp [wants, h0, h1, hk, k1, k2, k3, c1, c2, c3, c4, hx0, wl, Nd.encL_length, ht]) (by simp [hw]) ?_
      refine QR.off (by simp [wants, h0, h1, hk, k1, k2, k3, c1, c2, c3, c4, hx0, wl, Nd.encL_length, ht]) (by simp [hw]) ?_
      refine QR.off (by simp [wants, h0, h1, hk, k1, k2, k3, c1, c2, c3, c4, hx0, wl, Nd.encL_length, ht]) (by simp [hw]) ?_
      refine QR.off (by simp [wants, h0, h1, hk, k1, k2, k3, c1, c2, c3, c4, hx0, wl, Nd.encL_length, ht]) (by simp [hw]) ?_
      refine QR.off (by simp [wants, h0, h1, hk, k1, k2, k3, c1, c2, c3, c4, hx0, wl, Nd.encL_length, ht]) (by simp [hw]) ?_
      refine QR.off (by simp [wants, h0, h1, hk, k1, k2, k3, c1, c2, c3, c4, hx0, wl, Nd.encL_length, ht]) (by simp [hw]) ?_
      refine QR.off (by simp [wants, h0, h1, hk, k1, k2, k3, c1, c2, c3, c4, hx0, wl, Nd.encL_length, ht]) (by simp [hw]) ?_
      refine QR.off (by simp [wants, h0, h1, hk, k1, k2, k3, c1, c2, c3, c4, hx0, wl, Nd.encL_length, ht]) (by simp [hw]) ?_
      refine QR.off (by simp [wants, h0, h1, hk, k1, k2, k3, c1, c2, c3, c4, hx0, wl, Nd.encL_length, ht]) (by simp [hw]) ?_
      refine QR.off (by simp [wants, h0, h1, hk, k1, k2, k3, c1, c2, c3, c4, hx0, wl, Nd.encL_length, ht]) (by simp [hw]) ?_
      refine QR.off (by simp [wants, h0, h1, hk, k1, k2, k3, c1, c2, c3, c4, hx0, wl, Nd.encL_length, ht]) (by simp [hw]) ?_
      refine QR.off (by simp [wants, h0, h1, hk, k1, k2, k3, c1, c2, c3, c4, hx0, wl, Nd.encL_length, ht]) (by simp [hw]) ?_
      refine QR.off (by simp [wants, h0, h1, hk, k1, k2, k3, c1, c2, c3, c4, hx0, wl, Nd.encL_length, ht]) (by simp [hw]) ?_
      refine QR.off (by simp [wants, h0, h1, hk, k1, k2, k3, c1, c2, c3, c4, hx0, wl, Nd.encL_length, ht]) (by simp [hw]) ?_
      refine QR.off (by simp [wants, h0, h1, hk, k1, k2, k3, c1, c2, c3, c4, hx0, wl, Nd.encL_length, ht]) (by simp [hw]) ?_
      refine QR.off (by simp [wants, h0, h1, hk, k1, k2, k3, c1, c2, c3, c4, hx0, wl, Nd.encL_length, ht]) (by simp [hw]) ?_
      refine QR.val rfl (by simp [h0, h1, hk, k1, k2, k3, c1, c2, c3, c4, hx0, wl, Nd.encL_length, ht] <;> rfl) (by rfl) (by simp [hw]) ?_
      exact QR.nil
      case r905 => exact rfl
    refine inSeq_norm ?_
    refine Tri.condG (o := ?o6) (b := ?b6) ?g6 ?r6 ?y6 ?n6
    case g6 => simp [h0, h1, hk, k1, k2, k3, c1, c2, c3, c4, hx0, wl, Nd.encL_length, ht] <;> rfl
    case r6 => rfl
    case y6 =>
      intro hy6
      refine Tri.seq' ?_
      refine Tri.regN (t' := ?t7) (H' := ?H7) TT_ok hC ?e7 ?q7
      case e7 =>
        refine go_false ?_
        refine evSeq_go rfl (by simp [h0, h1, hk, k1, k2, k3, c1, c2, c3, c4, hx0, wl, Nd.encL_length, ht] <;> rfl) (by rfl) (by simp [hw]) ?_
        exact evSeq_nil
      refine inSeq_norm ?_
      refine Tri.ret ?_
      refine inSeq_ret ?_
      exact endsB (by simp [finish, evResults, evResult, Tryz.f54] <;> rfl) (by rfl)
    case n6 =>
      intro hn6
      exact absurd hn6 (by simp [h0, h1, hk, k1, k2, k3, c1, c2, c3, c4, hx0, wl, Nd.encL_length, ht])
theorem body_40b {call : CallF} (hC : call.Sound Tryz.prog TT) (x : Nd) (k : Nat) (hk : x.kind = k) (k1 : ¬ (k : Int) < 1) (k2 : ¬ (56 : Int) < k) (k3 : (k : Int) < 57) (tf : FuncId) (tc kl : List V) (rs : V) (lst : Int) (c1 : shCells[k * 5 + 1]? = some (.fn tf tc)) (c2 : shCells[k * 5 + 2]? = some (.isl 1 kl)) (c3 : shCells[k * 5 + 3]? = some rs) (c4 : shCells[k * 5 + 4]? = some (.i .i64 lst)) (hx0 : TT.ext tf = none) (wl : IntKind.i64.wrap (kl.length + lst) = kl.length + lst) (ht : ∀ H, call tf (.s x.text :: tc) H = .val (.b true) H) (hl : (x.kids.length : Int) < kl.length + lst)  : EBody Tryz.prog TT 54 [.ipt 285 [.agg shCells] 0 0, x.enc] (fun r => ∃ b : Bool, r = .val (.b b)) := by
  refine ⟨Tryz.f54, _, rfl, rfl, by simp [Tryz.f54], ?_⟩
  have h0 : (Tm.init Tryz.f54.ntmps [.ipt 285 [.agg shCells] 0 0, x.enc]).get 0 = .ipt 285 [.agg shCells] 0 0 := by rw [get_init]; rfl
  have h1 : (Tm.init Tryz.f54.ntmps [.ipt 285 [.agg shCells] 0 0, x.enc]).get 1 = x.enc := by rw [get_init]; rfl
  have hw : (Tm.init Tryz.f54.ntmps [.ipt 285 [.agg shCells] 0 0, x.enc]).wid = 99 := rfl
  generalize Tm.init Tryz.f54.ntmps [.ipt 285 [.agg shCells] 0 0, x.enc] = t at *
  try simp only [Nd.enc_eq] at *
  refine Tri.seq' ?_
  refine Tri.regN (t' := ?t1) (H' := ?H1) TT_ok hC ?e1 ?q1
  case e1 =>
    refine go_false ?_
    refine evSeq_go rfl (by simp [h0, h1, hk, k1, k2, k3, c1, c2, c3, c4, hx0, wl, Nd.encL_length, ht, hl] <;> rfl) (by rfl) (by simp [hw]) ?_
    refine evSeq_go rfl (by simp [h0, h1, hk, k1, k2, k3, c1, c2, c3, c4, hx0, wl, Nd.encL_length, ht, hl] <;> rfl) (by rfl) (by simp [hw]) ?_
    exact evSeq_nil
  refine inSeq_norm ?_
  refine Tri.seq' ?_
  refine Tri.seq' ?_
  refine Tri.regN (t' := ?t2) (H' := ?H2) TT_ok hC ?e2 ?q2
  case e2 =>
    refine go_false ?_
    refine evSeq_go rfl (by simp [h0, h1, hk, k1, k2, k3, c1, c2, c3, c4, hx0, wl, Nd.encL_length, ht, hl] <;> rfl) (by rfl) (by simp [hw]) ?_
    refine evSeq_go rfl (by simp [h0, h1, hk, k1, k2, k3, c1, c2, c3, c4, hx0, wl, Nd.encL_length, ht, hl] <;> rfl) (by rfl) (by simp [hw]) ?_
    refine evSeq_go rfl (by simp [h0, h1, hk, k1, k2, k3, c1, c2, c3, c4, hx0, wl, Nd.encL_length, ht, hl] <;> rfl) (by rfl) (by simp [hw]) ?_
    refine evSeq_go rfl (by simp [h0, h1, hk, k1, k2, k3, c1, c2, c3, c4, hx0, wl, Nd.encL_length, ht, hl] <;> rfl) (by rfl) (by simp [hw]) ?_
    refine evSeq_go (by simp [wants, h0, h1, hk, k1, k2, k3, c1, c2, c3, c4, hx0, wl, Nd.encL_length, ht, hl]) (by simp [h0, h1, hk, k1, k2, k3, c1, c2, c3, c4, hx0, wl, Nd.encL_length, ht, hl] <;> rfl) (by rfl) (by simp [hw]) ?_
    refine evSeq_go (by simp [wants, h0, h1, hk, k1, k2, k3, c1, c2, c3, c4, hx0, wl, Nd.encL_length, ht, hl]) (by simp [h0, h1, hk, k1, k2, k3, c1, c2, c3, c4, hx0, wl, Nd.encL_length, ht, hl] <;> rfl) (by rfl) (by simp [hw]) ?_
    refine evSeq_go (by simp [wants, h0, h1, hk, k1, k2, k3, c1, c2, c3, c4, hx0, wl, Nd.encL_length, ht, hl]) (by simp [h0, h1, hk, k1, k2, k3, c1, c2, c3, c4, hx0, wl, Nd.encL_length, ht, hl] <;> rfl) (by rfl) (by simp [hw]) ?_
    refine evSeq_go rfl (by simp [h0, h1, hk, k1, k2, k3, c1, c2, c3, c4, hx0, wl, Nd.encL_length, ht, hl] <;> rfl) (by rfl) (by simp [hw]) ?_
    exact evSeq_nil
  refine inSeq_norm ?_
  refine Tri.condG (o := ?o3) (b := ?b3) ?g3 ?r3 ?y3 ?n3
  case g3 => simp [h0, h1, hk, k1, k2, k3, c1, c2, c3, c4, hx0, wl, Nd.encL_length, ht, hl] <;> rfl
  case r3 => rfl
  case y3 =>
    intro hy3
    exact absurd hy3 (by simp [h0, h1, hk, k1, k2, k3, c1, c2, c3, c4, hx0, wl, Nd.encL_length, ht, hl])
  case n3 =>
    intro hn3
    refine Tri.skip ?_
    refine inSeq_norm ?_
    refine Tri.seq' ?_
    refine Tri.regN (t' := ?t4) (H' := ?H4) TT_ok hC ?e4 ?q4
    case e4 =>
      refine evReg_quiet (t' := ?t4) (by kernel_rfl) ?_ ?r904
      refine QR.val rfl (by simp [h0, h1, hk, k1, k2, k3, c1, c2, c3, c4, hx0, wl, Nd.encL_length, ht, hl] <;> rfl) (by rfl) (by simp [hw]) ?_
      refine QR.val rfl (by simp [h0, h1, hk, k1, k2, k3, c1, c2, c3, c4, hx0, wl, Nd.encL_length, ht, hl] <;> rfl) (by rfl) (by simp [hw]) ?_
      refine QR.val rfl (by simp [h0, h1, hk, k1, k2, k3, c1, c2, c3, c4, hx0, wl, Nd.encL_length, ht, hl] <;> rfl) (by rfl) (by simp [hw]) ?_
      refine QR.val rfl (by simp [h0, h1, hk, k1, k2, k3, c1, c2, c3, c4, hx0, wl, Nd.encL_length, ht, hl] <;> rfl) (by rfl) (by simp [hw]) ?_
      refine QR.val rfl (by simp [h0, h1, hk, k1, k2, k3, c1, c2, c3, c4, hx0, wl, Nd.encL_length, ht, hl] <;> rfl) (by rfl) (by simp [hw]) ?_
      refine QR.val rfl (by simp [h0, h1, hk, k1, k2, k3, c1, c2, c3, c4, hx0, wl, Nd.encL_length, ht, hl] <;> rfl) (by rfl) (by simp [hw]) ?_
      refine QR.val rfl (by simp [h0, h1, hk, k1, k2, k3, c1, c2, c3, c4, hx0, wl, Nd.encL_length, ht, hl] <;> rfl) (by rfl) (by simp [hw]) ?_
      exact QR.nil
      case r904 => exact rfl
    refine inSeq_norm ?_
    refine Tri.seq' ?_
    refine Tri.seq' ?_
    refine Tri.regN (t' := ?t5) (H' := ?H5) TT_ok hC ?e5 ?q5
    case e5 =>
      refine evReg_quiet (t' := ?t5) (by kernel_rfl) ?_ ?r905
      refine QR.val rfl (by simp [h0, h1, hk, k1, k2, k3, c1, c2, c3, c4, hx0, wl, Nd.encL_length, ht, hl] <;> rfl) (by rfl) (by simp [hw]) ?_
      refine QR.val rfl (by simp [h0, h1, hk, k1, k2, k3, c1, c2, c3, c4, hx0, wl, Nd.encL_length, ht, hl] <;> rfl) (by rfl) (by simp [hw]) ?_
      refine QR.val rfl (by simp [h0, h1, hk, k1, k2, k3, c1, c2, c3, c4, hx0, wl, Nd.encL_length, ht, hl] <;> rfl) (by rfl) (by simp [hw]) ?_
      refine QR.val rfl (by simp [h0, h1, hk, k1, k2, k3, c1, c2, c3, c4, hx0, wl, Nd.encL_length, ht, hl] <;> rfl) (by rfl) (by simp [hw]) ?_
      refine QR.val rfl (by simp [h0, h1, hk, k1, k2, k3, c1, c2, c3, c4, hx0, wl, Nd.encL_length, ht, hl] <;> rfl) (by rfl) (by simp [hw]) ?_
      refine QR.val rfl (by simp [h0, h1, hk, k1, k2, k3, c1, c2, c3, c4, hx0, wl, Nd.encL_length, ht, hl] <;> rfl) (by rfl) (by simp [hw]) ?_
      refine QR.val rfl (by simp [h0, h1, hk, k1, k2, k3, c1, c2, c3, c4, hx0, wl, Nd.encL_length, ht, hl] <;> rfl) (by rfl) (by simp [hw]) ?_
      refine QR.val rfl (by simp [h0, h1, hk, k1, k2, k3, c1, c2, c3, c4, hx0, wl, Nd.encL_length, ht, hl] <;> rfl) (by rfl) (by simp [hw]) ?_
      refine QR.val rfl (by simp [h0, h1, hk, k1, k2, k3, c1, c2, c3, c4, hx0, wl, Nd.encL_length, ht, hl] <;> rfl) (by rfl) (by simp [hw]) ?_
      refine QR.val (by simp [wants, h0, h1, hk, k1, k2, k3, c1, c2, c3, c4, hx0, wl, Nd.encL_length, ht, hl]) (by simp [h0, h1, hk, k1, k2, k3, c1, c2, c3, c4, hx0, wl, Nd.encL_length, ht, hl] <;> rfl) (by rfl) (by simp [hw]) ?_
      refine QR.val (by simp [wants, h0, h1, hk, k1, k2, k3, c1, c2, c3, c4, hx0, wl, Nd.encL_length, ht, hl]) (by simp [h0, h1, hk, k1, k2, k3, c1, c2, c3, c4, hx0, wl, Nd.encL_length, ht, hl] <;> rfl) (by rfl) (by simp [hw]) ?_
      refine QR.val (by simp [wants, h0, h1, hk, k1, k2, k3, c1, c2, c3, c4, hx0, wl, Nd.encL_length, ht, hl]) (by simp [h0, h1, hk, k1, k2, k3, c1, c2, c3, c4, hx0, wl, Nd.encL_length, ht, hl] <;> rfl) (by rfl) (by simp [hw]) ?_
      refine QR.val (by simp [wants, h0, h1, hk, k1, k2, k3, c1, c2, c3, c4, hx0, wl, Nd.encL_length, ht, hl]) (by simp [h0, h1, hk, k1, k2, k3, c1, c2, c3, c4, hx0, wl, Nd.encL_length, ht, hl] <;> rfl) (by rfl) (by simp [hw]) ?_
      refine QR.val (by simp [wants, h0, h1, hk, k1, k2, k3, c1, c2, c3, c4, hx0, wl, Nd.encL_length, ht, hl]) (by simp [h0, h1, hk, k1, k2, k3, c1, c2, c3, c4, hx0, wl, Nd.encL_length, ht, hl] <;> rfl) (by rfl) (by simp [hw]) ?_
      refine QR.val (by simp [wants, h0, h1, hk, k1, k2, k3, c1, c2, c3, c4, hx0, wl, Nd.encL_length, ht, hl]) (by simp [h0, h1, hk, k1, k2, k3, c1, c2, c3, c4, hx0, wl, Nd.encL_length, ht, hl] <;> rfl) (by rfl) (by simp [hw]) ?_
      refine QR.val (by simp [wants, h0, h1, hk, k1, k2, k3, c1, c2, c3, c4, hx0, wl, Nd.encL_length, ht, hl]) (by simp [h0, h1, hk, k1, k2, k3, c1, c2, c3, c4, hx0, wl, Nd.encL_length, ht, hl] <;> rfl) (by rfl) (by simp [hw]) ?_
      refine QR.val (by simp [wants, h0, h1, hk, k1, k2, k3, c1, c2, c3, c4, hx0, wl, Nd.encL_length, ht, hl]) (by simp [h0, h1, hk, k1, k2, k3, c1, c2, c3, c4, hx0, wl, Nd.encL_length, ht, hl] <;> rfl) (by rfl) (by simp [hw]) ?_
      refine QR.val (by simp [wants, h0, h1, hk, k1, k2, k3, c1, c2, c3, c4, hx0, wl, Nd.encL_length, ht, hl]) (by simp [h0, h1, hk, k1, k2, k3, c1, c2, c3, c4, hx0, wl, Nd.encL_length, ht, hl] <;> rfl) (by rfl) (by simp [hw]) ?_
      refine QR.val (by simp [wants, h0, h1, hk, k1, k2, k3, c1, c2, c3, c4, hx0, wl, Nd.encL_length, ht, hl]) (by simp [h0, h1, hk, k1, k2, k3, c1, c2, c3, c4, hx0, wl, Nd.encL_length, ht, hl] <;> rfl) (by rfl) (by simp [hw]) ?_
      refine QR.val (by simp [wants, h0, h1, hk, k1, k2, k3, c1, c2, c3, c4, hx0, wl, Nd.encL_length, ht, hl]) (by simp [h0, h1, hk, k1, k2, k3, c1, c2, c3, c4, hx0, wl, Nd.encL_length, ht, hl] <;> rfl) (by rfl) (by simp [hw]) ?_
      refine QR.val (by simp [wants, h0, h1, hk, k1, k2, k3, c1, c2, c3, c4, hx0, wl, Nd.encL_length, ht, hl]) (by simp [h0, h1, hk, k1, k2, k3, c1, c2, c3, c4, hx0, wl, Nd.encL_length, ht, hl] <;> rfl) (by rfl) (by simp [hw]) ?_
      refine QR.val (by simp [wants, h0, h1, hk, k1, k2, k3, c1, c2, c3, c4, hx0, wl, Nd.encL_length, ht, hl]) (by simp [h0, h1, hk, k1, k2, k3, c1, c2, c3, c4, hx0, wl, Nd.encL_length, ht, hl] <;> rfl) (by rfl) (by simp [hw]) ?_
      refine QR.val (by simp [wants, h0, h1, hk, k1, k2, k3, c1, c2, c3, c4, hx0, wl, Nd.encL_length, ht, hl]) (by simp [h0, h1, hk, k1, k2, k3, c1, c2, c3, c4, hx0, wl, Nd.encL_length, ht, hl] <;> rfl) (by rfl) (by simp [hw]) ?_
      refine QR.val rfl (by simp [h0, h1, hk, k1, k2, k3, c1, c2, c3, c4, hx0, wl, Nd.encL_length, ht, hl] <;> rfl) (by rfl) (by simp [hw]) ?_
      refine QR.val rfl (by simp [h0, h1, hk, k1, k2, k3, c1, c2, c3, c4, hx0, wl, Nd.encL_length, ht, hl] <;> rfl) (by rfl) (by simp [hw]) ?_
      refine QR.off (by simp [wants, h0, h1, hk, k1, k2, k3, c1, c2, c3, c4, hx0, wl, Nd.encL_length, ht, hl]) (by simp [hw]) ?_
      refine QR.off (by simp [wants, h0, h1, hk, k1, k2, k3, c1, c2, c3, c4, hx0, wl, Nd.encL_length, ht, hl]) (by simp [hw]) ?_
      refine QR.off (by simp [wants, h0, h1, hk, k1, k2, k3, c1, c2, c3, c4, hx0, wl, Nd.encL_length, ht, hl]) (by simp [hw]) ?_
      refine QR.off (by simp [wants, h0, h1, hk, k1, k2, k3, c1, c2, c3, c4, hx0, wl, Nd.encL_length, ht, hl]) (by simp [hw]) ?_
      refine QR.off (by simp [wants, h0, h1, hk, k1, k2, k3, c1, c2, c3, c4, hx0, wl, Nd.encL_length, ht, hl]) (by simp [hw]) ?_
      refine QR.off (by simp [wants, h0, h1, hk, k1, k2, k3, c1, c2, c3, c4, hx0, wl, Nd.encL_length, ht, hl]) (by simp [hw]) ?_
      refine QR.off (by simp [wants, h0, h1, hk, k1, k2, k3, c1, c2, c3, c4, hx0, wl, Nd.encL_length, ht, hl]) (by simp [hw]) ?_
      refine QR.off (by simp [wants, h0, h1, hk, k1, k2, k3, c1, c2, c3, c4, hx0, wl, Nd.encL_length, ht, hl]) (by simp [hw]) ?_
      refine QR.off (by simp [wants, h0, h1, hk, k1, k2, k3, c1, c2, c3, c4, hx0, wl, Nd.encL_length, ht, hl]) (by simp [hw]) ?_
      refine QR.off (by simp [wants, h0, h1, hk, k1, k2, k3, c1, c2, c3, c4, hx0, wl, Nd.encL_length, ht, hl]) (by simp [hw]) ?_
      refine QR.off (by simp [wants, h0, h1, hk, k1, k2, k3, c1, c2, c3, c4, hx0, wl, Nd.encL_length, ht, hl]) (by simp [hw]) ?_
      refine QR.off (by simp [wants, h0, h1, hk, k1, k2, k3, c1, c2, c3, c4, hx0, wl, Nd.encL_length, ht, hl]) (by simp [hw]) ?_
      refine QR.off (by simp [wants, h0, h1, hk, k1, k2, k3, c1, c2, c3, c4, hx0, wl, Nd.encL_length, ht, hl]) (by simp [hw]) ?_
      refine QR.off (by simp [wants, h0, h1, hk, k1, k2, k3, c1, c2, c3, c4, hx0, wl, Nd.encL_length, ht, hl]) (by simp [hw]) ?_
      refine QR.off (by simp [wants, h0, h1, hk, k1, k2, k3, c1, c2, c3, c4, hx0, wl, Nd.encL_length, ht, hl]) (by simp [hw]) ?_
      refine QR.off (by simp [wants, h0, h1, hk, k1, k2, k3, c1, c2, c3, c4, hx0, wl, Nd.encL_length, ht, hl]) (by simp [hw]) ?_
      refine QR.val rfl (by simp [h0, h1, hk, k1, k2, k3, c1, c2, c3, c4, hx0, wl, Nd.encL_length, ht, hl] <;> rfl) (by rfl) (by simp [hw]) ?_
      exact QR.nil
      case r905 => exact rfl
    refine inSeq_norm ?_
    refine Tri.condG (o := ?o6) (b := ?b6) ?g6 ?r6 ?y6 ?n6
    case g6 => simp [h0, h1, hk, k1, k2, k3, c1, c2, c3, c4, hx0, wl, Nd.encL_length, ht, hl] <;> rfl
    case r6 => rfl
    case y6 =>
      intro hy6
      refine Tri.seq' ?_
      refine Tri.regN (t' := ?t7) (H' := ?H7) TT_ok hC ?e7 ?q7
      case e7 =>
        refine go_false ?_
        refine evSeq_go rfl (by simp [h0, h1, hk, k1, k2, k3, c1, c2, c3, c4, hx0, wl, Nd.encL_length, ht, hl] <;> rfl) (by rfl) (by simp [hw]) ?_
        exact evSeq_nil
      refine inSeq_norm ?_
      refine Tri.ret ?_
      refine inSeq_ret ?_
      exact endsB (by simp [finish, evResults, evResult, Tryz.f54] <;> rfl) (by rfl)
    case n6 =>
      intro hn6
      exact absurd hn6 (by simp [h0, h1, hk, k1, k2, k3, c1, c2, c3, c4, hx0, wl, Nd.encL_length, ht, hl])
theorem body_40c {call : CallF} (hC : call.Sound Tryz.prog TT) (x : Nd) (k : Nat) (hk : x.kind = k) (k1 : ¬ (k : Int) < 1) (k2 : ¬ (56 : Int) < k) (k3 : (k : Int) < 57) (tf : FuncId) (tc kl : List V) (rs : V) (lst : Int) (c1 : shCells[k * 5 + 1]? = some (.fn tf tc)) (c2 : shCells[k * 5 + 2]? = some (.isl 1 kl)) (c3 : shCells[k * 5 + 3]? = some rs) (c4 : shCells[k * 5 + 4]? = some (.i .i64 lst)) (hx0 : TT.ext tf = none) (wl : IntKind.i64.wrap (kl.length + lst) = kl.length + lst) (hr : rs = .nilf) (ht : ∀ H, call tf (.s x.text :: tc) H = .val (.b true) H) (hl : ¬ (x.kids.length : Int) < kl.length + lst) (hl2 : (kl.length : Int) < x.kids.length)  : EBody Tryz.prog TT 54 [.ipt 285 [.agg shCells] 0 0, x.enc] (fun r => ∃ b : Bool, r = .val (.b b)) := by
  refine ⟨Tryz.f54, _, rfl, rfl, by simp [Tryz.f54], ?_⟩
  have h0 : (Tm.init Tryz.f54.ntmps [.ipt 285 [.agg shCells] 0 0, x.enc]).get 0 = .ipt 285 [.agg shCells] 0 0 := by rw [get_init]; rfl
  have h1 : (Tm.init Tryz.f54.ntmps [.ipt 285 [.agg shCells] 0 0, x.enc]).get 1 = x.enc := by rw [get_init]; rfl
  have hw : (Tm.init Tryz.f54.ntmps [.ipt 285 [.agg shCells] 0 0, x.enc]).wid = 99 := rfl
  generalize Tm.init Tryz.f54.ntmps [.ipt 285 [.agg shCells] 0 0, x.enc] = t at *
  try simp only [Nd.enc_eq] at *
  refine Tri.seq' ?_
  refine Tri.regN (t' := ?t1) (H' := ?H1) TT_ok hC ?e1 ?q1
  case e1 =>
    refine go_false ?_
    refine evSeq_go rfl (by simp [h0, h1, hk, k1, k2, k3, c1, c2, c3, c4, hx0, wl, Nd.encL_length, ht, hl, hl2, hr] <;> rfl) (by rfl) (by simp [hw]) ?_
    refine evSeq_go rfl (by simp [h0, h1, hk, k1, k2, k3, c1, c2, c3, c4, hx0, wl, Nd.encL_length, ht, hl, hl2, hr] <;> rfl) (by rfl) (by simp [hw]) ?_
    exact evSeq_nil
  refine inSeq_norm ?_
  refine Tri.seq' ?_
  refine Tri.seq' ?_
  refine Tri.regN (t' := ?t2) (H' := ?H2) TT_ok hC ?e2 ?q2
  case e2 =>
    refine go_false ?_
    refine evSeq_go rfl (by simp [h0, h1, hk, k1, k2, k3, c1, c2, c3, c4, hx0, wl, Nd.encL_length, ht, hl, hl2, hr] <;> rfl) (by rfl) (by simp [hw]) ?_
    refine evSeq_go rfl (by simp [h0, h1, hk, k1, k2, k3, c1, c2, c3, c4, hx0, wl, Nd.encL_length, ht, hl, hl2, hr] <;> rfl) (by rfl) (by simp [hw]) ?_
    refine evSeq_go rfl (by simp [h0, h1, hk, k1, k2, k3, c1, c2, c3, c4, hx0, wl, Nd.encL_length, ht, hl, hl2, hr] <;> rfl) (by rfl) (by simp [hw]) ?_
    refine evSeq_go rfl (by simp [h0, h1, hk, k1, k2, k3, c1, c2, c3, c4, hx0, wl, Nd.encL_length, ht, hl, hl2, hr] <;> rfl) (by rfl) (by simp [hw]) ?_
    refine evSeq_go (by simp [wants, h0, h1, hk, k1, k2, k3, c1, c2, c3, c4, hx0, wl, Nd.encL_length, ht, hl, hl2, hr]) (by simp [h0, h1, hk, k1, k2, k3, c1, c2, c3, c4, hx0, wl, Nd.encL_length, ht, hl, hl2, hr] <;> rfl) (by rfl) (by simp [hw]) ?_
    refine evSeq_go (by simp [wants, h0, h1, hk, k1, k2, k3, c1, c2, c3, c4, hx0, wl, Nd.encL_length, ht, hl, hl2, hr]) (by simp [h0, h1, hk, k1, k2, k3, c1, c2, c3, c4, hx0, wl, Nd.encL_length, ht, hl, hl2, hr] <;> rfl) (by rfl) (by simp [hw]) ?_
    refine evSeq_go (by simp [wants, h0, h1, hk, k1, k2, k3, c1, c2, c3, c4, hx0, wl, Nd.encL_length, ht, hl, hl2, hr]) (by simp [h0, h1, hk, k1, k2, k3, c1, c2, c3, c4, hx0, wl, Nd.encL_length, ht, hl, hl2, hr] <;> rfl) (by rfl) (by simp [hw]) ?_
    refine evSeq_go rfl (by simp [h0, h1, hk, k1, k2, k3, c1, c2, c3, c4, hx0, wl, Nd.encL_length, ht, hl, hl2, hr] <;> rfl) (by rfl) (by simp [hw]) ?_
    exact evSeq_nil
  refine inSeq_norm ?_
  refine Tri.condG (o := ?o3) (b := ?b3) ?g3 ?r3 ?y3 ?n3
  case g3 => simp [h0, h1, hk, k1, k2, k3, c1, c2, c3, c4, hx0, wl, Nd.encL_length, ht, hl, hl2, hr] <;> rfl
  case r3 => rfl
  case y3 =>
    intro hy3
    exact absurd hy3 (by simp [h0, h1, hk, k1, k2, k3, c1, c2, c3, c4, hx0, wl, Nd.encL_length, ht, hl, hl2, hr])
  case n3 =>
    intro hn3
    refine Tri.skip ?_
    refine inSeq_norm ?_
    refine Tri.seq' ?_
    refine Tri.regN (t' := ?t4) (H' := ?H4) TT_ok hC ?e4 ?q4
    case e4 =>
      refine evReg_quiet (t' := ?t4) (by kernel_rfl) ?_ ?r904
      refine QR.val rfl (by simp [h0, h1, hk, k1, k2, k3, c1, c2, c3, c4, hx0, wl, Nd.encL_length, ht, hl, hl2, hr] <;> rfl) (by rfl) (by simp [hw]) ?_
      refine QR.val rfl (by simp [h0, h1, hk, k1, k2, k3, c1, c2, c3, c4, hx0, wl, Nd.encL_length, ht, hl, hl2, hr] <;> rfl) (by rfl) (by simp [hw]) ?_
      refine QR.val rfl (by simp [h0, h1, hk, k1, k2, k3, c1, c2, c3, c4, hx0, wl, Nd.encL_length, ht, hl, hl2, hr] <;> rfl) (by rfl) (by simp [hw]) ?_
      refine QR.val rfl (by simp [h0, h1, hk, k1, k2, k3, c1, c2, c3, c4, hx0, wl, Nd.encL_length, ht, hl, hl2, hr] <;> rfl) (by rfl) (by simp [hw]) ?_
      refine QR.val rfl (by simp [h0, h1, hk, k1, k2, k3, c1, c2, c3, c4, hx0, wl, Nd.encL_length, ht, hl, hl2, hr] <;> rfl) (by rfl) (by simp [hw]) ?_
      refine QR.val rfl (by simp [h0, h1, hk, k1, k2, k3, c1, c2, c3, c4, hx0, wl, Nd.encL_length, ht, hl, hl2, hr] <;> rfl) (by rfl) (by simp [hw]) ?_
      refine QR.val rfl (by simp [h0, h1, hk, k1, k2, k3, c1, c2, c3, c4, hx0, wl, Nd.encL_length, ht, hl, hl2, hr] <;> rfl) (by rfl) (by simp [hw]) ?_
      exact QR.nil
      case r904 => exact rfl
    refine inSeq_norm ?_
    refine Tri.seq' ?_
    refine Tri.seq' ?_
    refine Tri.regN (t' := ?t5) (H' := ?H5) TT_ok hC ?e5 ?q5
    case e5 =>
      refine evReg_quiet (t' := ?t5) (by kernel_rfl) ?_ ?r905
      refine QR.val rfl (by simp [h0, h1, hk, k1, k2, k3, c1, c2, c3, c4, hx0, wl, Nd.encL_length, ht, hl, hl2, hr] <;> rfl) (by rfl) (by simp [hw]) ?_
      refine QR.val rfl (by simp [h0, h1, hk, k1, k2, k3, c1, c2, c3, c4, hx0, wl, Nd.encL_length, ht, hl, hl2, hr] <;> rfl) (by rfl) (by simp [hw]) ?_
      refine QR.val rfl (by simp [h0, h1, hk, k1, k2, k3, c1, c2, c3, c4, hx0, wl, Nd.encL_length, ht, hl, hl2, hr] <;> rfl) (by rfl) (by simp [hw]) ?_
      refine QR.val rfl (by simp [h0, h1, hk, k1, k2, k3, c1, c2, c3, c4, hx0, wl, Nd.encL_length, ht, hl, hl2, hr] <;> rfl) (by rfl) (by simp [hw]) ?_
      refine QR.val rfl (by simp [h0, h1, hk, k1, k2, k3, c1, c2, c3, c4, hx0, wl, Nd.encL_length, ht, hl, hl2, hr] <;> rfl) (by rfl) (by simp [hw]) ?_
      refine QR.val rfl (by simp [h0, h1, hk, k1, k2, k3, c1, c2, c3, c4, hx0, wl, Nd.encL_length, ht, hl, hl2, hr] <;> rfl) (by rfl) (by simp [hw]) ?_
      refine QR.val rfl (by simp [h0, h1, hk, k1, k2, k3, c1, c2, c3, c4, hx0, wl, Nd.encL_length, ht, hl, hl2, hr] <;> rfl) (by rfl) (by simp [hw]) ?_
      refine QR.val rfl (by simp [h0, h1, hk, k1, k2, k3, c1, c2, c3, c4, hx0, wl, Nd.encL_length, ht, hl, hl2, hr] <;> rfl) (by rfl) (by simp [hw]) ?_
      refine QR.val rfl (by simp [h0, h1, hk, k1, k2, k3, c1, c2, c3, c4, hx0, wl, Nd.encL_length, ht, hl, hl2, hr] <;> rfl) (by rfl) (by simp [hw]) ?_
      refine QR.val (by simp [wants, h0, h1, hk, k1, k2, k3, c1, c2, c3, c4, hx0, wl, Nd.encL_length, ht, hl, hl2, hr]) (by simp [h0, h1, hk, k1, k2, k3, c1, c2, c3, c4, hx0, wl, Nd.encL_length, ht, hl, hl2, hr] <;> rfl) (by rfl) (by simp [hw]) ?_
      refine QR.val (by simp [wants, h0, h1, hk, k1, k2, k3, c1, c2, c3, c4, hx0, wl, Nd.encL_length, ht, hl, hl2, hr]) (by simp [h0, h1, hk, k1, k2, k3, c1, c2, c3, c4, hx0, wl, Nd.encL_length, ht, hl, hl2, hr] <;> rfl) (by rfl) (by simp [hw]) ?_
      refine QR.val (by simp [wants, h0, h1, hk, k1, k2, k3, c1, c2, c3, c4, hx0, wl, Nd.encL_length, ht, hl, hl2, hr]) (by simp [h0, h1, hk, k1, k2, k3, c1, c2, c3, c4, hx0, wl, Nd.encL_length, ht, hl, hl2, hr] <;> rfl) (by rfl) (by simp [hw]) ?_
      refine QR.val (by simp [wants, h0, h1, hk, k1, k2, k3, c1, c2, c3, c4, hx0, wl, Nd.encL_length, ht, hl, hl2, hr]) (by simp [h0, h1, hk, k1, k2, k3, c1, c2, c3, c4, hx0, wl, Nd.encL_length, ht, hl, hl2, hr] <;> rfl) (by rfl) (by simp [hw]) ?_
      refine QR.val (by simp [wants, h0, h1, hk, k1, k2, k3, c1, c2, c3, c4, hx0, wl, Nd.encL_length, ht, hl, hl2, hr]) (by simp [h0, h1, hk, k1, k2, k3, c1, c2, c3, c4, hx0, wl, Nd.encL_length, ht, hl, hl2, hr] <;> rfl) (by rfl) (by simp [hw]) ?_
      refine QR.val (by simp [wants, h0, h1, hk, k1, k2, k3, c1, c2, c3, c4, hx0, wl, Nd.encL_length, ht, hl, hl2, hr]) (by simp [h0, h1, hk, k1, k2, k3, c1, c2, c3, c4, hx0, wl, Nd.encL_length, ht, hl, hl2, hr] <;> rfl) (by rfl) (by simp [hw]) ?_
      refine QR.val (by simp [wants, h0, h1, hk, k1, k2, k3, c1, c2, c3, c4, hx0, wl, Nd.encL_length, ht, hl, hl2, hr]) (by simp [h0, h1, hk, k1, k2, k3, c1, c2, c3, c4, hx0, wl, Nd.encL_length, ht, hl, hl2, hr] <;> rfl) (by rfl) (by simp [hw]) ?_
      refine QR.val (by simp [wants, h0, h1, hk, k1, k2, k3, c1, c2, c3, c4, hx0, wl, Nd.encL_length, ht, hl, hl2, hr]) (by simp [h0, h1, hk, k1, k2, k3, c1, c2, c3, c4, hx0, wl, Nd.encL_length, ht, hl, hl2, hr] <;> rfl) (by rfl) (by simp [hw]) ?_
      refine QR.val (by simp [wants, h0, h1, hk, k1, k2, k3, c1, c2, c3, c4, hx0, wl, Nd.encL_length, ht, hl, hl2, hr]) (by simp [h0, h1, hk, k1, k2, k3, c1, c2, c3, c4, hx0, wl, Nd.encL_length, ht, hl, hl2, hr] <;> rfl) (by rfl) (by simp [hw]) ?_
      refine QR.val (by simp [wants, h0, h1, hk, k1, k2, k3, c1, c2, c3, c4, hx0, wl, Nd.encL_length, ht, hl, hl2, hr]) (by simp [h0, h1, hk, k1, k2, k3, c1, c2, c3, c4, hx0, wl, Nd.encL_length, ht, hl, hl2, hr] <;> rfl) (by rfl) (by simp [hw]) ?_
      refine QR.val (by simp [wants, h0, h1, hk, k1, k2, k3, c1, c2, c3, c4, hx0, wl, Nd.encL_length, ht, hl, hl2, hr]) (by simp [h0, h1, hk, k1, k2, k3, c1, c2, c3, c4, hx0, wl, Nd.encL_length, ht, hl, hl2, hr] <;> rfl) (by rfl) (by simp [hw]) ?_
      refine QR.val (by simp [wants, h0, h1, hk, k1, k2, k3, c1, c2, c3, c4, hx0, wl, Nd.encL_length, ht, hl, hl2, hr]) (by simp [h0, h1, hk, k1, k2, k3, c1, c2, c3, c4, hx0, wl, Nd.encL_length, ht, hl, hl2, hr] <;> rfl) (by rfl) (by simp [hw]) ?_
      refine QR.val (by simp [wants, h0, h1, hk, k1, k2, k3, c1, c2, c3, c4, hx0, wl, Nd.encL_length, ht, hl, hl2, hr]) (by simp [h0, h1, hk, k1, k2, k3, c1, c2, c3, c4, hx0, wl, Nd.encL_length, ht, hl, hl2, hr] <;> rfl) (by rfl) (by simp [hw]) ?_
      refine QR.val (by simp [wants, h0, h1, hk, k1, k2, k3, c1, c2, c3, c4, hx0, wl, Nd.encL_length, ht, hl, hl2, hr]) (by simp [h0, h1, hk, k1, k2, k3, c1, c2, c3, c4, hx0, wl, Nd.encL_length, ht, hl, hl2, hr] <;> rfl) (by rfl) (by simp [hw]) ?_
      refine QR.val rfl (by simp [h0, h1, hk, k1, k2, k3, c1, c2, c3, c4, hx0, wl, Nd.encL_length, ht, hl, hl2, hr] <;> rfl) (by rfl) (by simp [hw]) ?_
      refine QR.val rfl (by simp [h0, h1, hk, k1, k2, k3, c1, c2, c3, c4, hx0, wl, Nd.encL_length, ht, hl, hl2, hr] <;> rfl) (by rfl) (by simp [hw]) ?_
      refine QR.val (by simp [wants, h0, h1, hk, k1, k2, k3, c1, c2, c3, c4, hx0, wl, Nd.encL_length, ht, hl, hl2, hr]) (by simp [h0, h1, hk, k1, k2, k3, c1, c2, c3, c4, hx0, wl, Nd.encL_length, ht, hl, hl2, hr] <;> rfl) (by rfl) (by simp [hw]) ?_
      refine QR.val (by simp [wants, h0, h1, hk, k1, k2, k3, c1, c2, c3, c4, hx0, wl, Nd.encL_length, ht, hl, hl2, hr]) (by simp [h0, h1, hk, k1, k2, k3, c1, c2, c3, c4, hx0, wl, Nd.encL_length, ht, hl, hl2, hr] <;> rfl) (by rfl) (by simp [hw]) ?_
      refine QR.val (by simp [wants, h0, h1, hk, k1, k2, k3, c1, c2, c3, c4, hx0, wl, Nd.encL_length, ht, hl, hl2, hr]) (by simp [h0, h1, hk, k1, k2, k3, c1, c2, c3, c4, hx0, wl, Nd.encL_length, ht, hl, hl2, hr] <;> rfl) (by rfl) (by simp [hw]) ?_
      refine QR.val (by simp [wants, h0, h1, hk, k1, k2, k3, c1, c2, c3, c4, hx0, wl, Nd.encL_length, ht, hl, hl2, hr]) (by simp [h0, h1, hk, k1, k2, k3, c1, c2, c3, c4, hx0, wl, Nd.encL_length, ht, hl, hl2, hr] <;> rfl) (by rfl) (by simp [hw]) ?_
      refine QR.val (by simp [wants, h0, h1, hk, k1, k2, k3, c1, c2, c3, c4, hx0, wl, Nd.encL_length, ht, hl, hl2, hr]) (by simp [h0, h1, hk, k1, k2, k3, c1, c2, c3, c4, hx0, wl, Nd.encL_length, ht, hl, hl2, hr] <;> rfl) (by rfl) (by simp [hw]) ?_
      refine QR.val (by simp [wants, h0, h1, hk, k1, k2, k3, c1, c2, c3, c4, hx0, wl, Nd.encL_length, ht, hl, hl2, hr]) (by simp [h0, h1, hk, k1, k2, k3, c1, c2, c3, c4, hx0, wl, Nd.encL_length, ht, hl, hl2, hr] <;> rfl) (by rfl) (by simp [hw]) ?_
      refine QR.val (by simp [wants, h0, h1, hk, k1, k2, k3, c1, c2, c3, c4, hx0, wl, Nd.encL_length, ht, hl, hl2, hr]) (by simp [h0, h1, hk, k1, k2, k3, c1, c2, c3, c4, hx0, wl, Nd.encL_length, ht, hl, hl2, hr] <;> rfl) (by rfl) (by simp [hw]) ?_
      refine QR.val (by simp [wants, h0, h1, hk, k1, k2, k3, c1, c2, c3, c4, hx0, wl, Nd.encL_length, ht, hl, hl2, hr]) (by simp [h0, h1, hk, k1, k2, k3, c1, c2, c3, c4, hx0, wl, Nd.encL_length, ht, hl, hl2, hr] <;> rfl) (by rfl) (by simp [hw]) ?_
      refine QR.val (by simp [wants, h0, h1, hk, k1, k2, k3, c1, c2, c3, c4, hx0, wl, Nd.encL_length, ht, hl, hl2, hr]) (by simp [h0, h1, hk, k1, k2, k3, c1, c2, c3, c4, hx0, wl, Nd.encL_length, ht, hl, hl2, hr] <;> rfl) (by rfl) (by simp [hw]) ?_
      refine QR.val (by simp [wants, h0, h1, hk, k1, k2, k3, c1, c2, c3, c4, hx0, wl, Nd.encL_length, ht, hl, hl2, hr]) (by simp [h0, h1, hk, k1, k2, k3, c1, c2, c3, c4, hx0, wl, Nd.encL_length, ht, hl, hl2, hr] <;> rfl) (by rfl) (by simp [hw]) ?_
      refine QR.val (by simp [wants, h0, h1, hk, k1, k2, k3, c1, c2, c3, c4, hx0, wl, Nd.encL_length, ht, hl, hl2, hr]) (by simp [h0, h1, hk, k1, k2, k3, c1, c2, c3, c4, hx0, wl, Nd.encL_length, ht, hl, hl2, hr] <;> rfl) (by rfl) (by simp [hw]) ?_
      refine QR.val (by simp [wants, h0, h1, hk, k1, k2, k3, c1, c2, c3, c4, hx0, wl, Nd.encL_length, ht, hl, hl2, hr]) (by simp [h0, h1, hk, k1, k2, k3, c1, c2, c3, c4, hx0, wl, Nd.encL_length, ht, hl, hl2, hr] <;> rfl) (by rfl) (by simp [hw]) ?_
      refine QR.val (by simp [wants, h0, h1, hk, k1, k2, k3, c1, c2, c3, c4, hx0, wl, Nd.encL_length, ht, hl, hl2, hr]) (by simp [h0, h1, hk, k1, k2, k3, c1, c2, c3, c4, hx0, wl, Nd.encL_length, ht, hl, hl2, hr] <;> rfl) (by rfl) (by simp [hw]) ?_
      refine QR.val (by simp [wants, h0, h1, hk, k1, k2, k3, c1, c2, c3, c4, hx0, wl, Nd.encL_length, ht, hl, hl2, hr]) (by simp [h0, h1, hk, k1, k2, k3, c1, c2, c3, c4, hx0, wl, Nd.encL_length, ht, hl, hl2, hr] <;> rfl) (by rfl) (by simp [hw]) ?_
      refine QR.val (by simp [wants, h0, h1, hk, k1, k2, k3, c1, c2, c3, c4, hx0, wl, Nd.encL_length, ht, hl, hl2, hr]) (by simp [h0, h1, hk, k1, k2, k3, c1, c2, c3, c4, hx0, wl, Nd.encL_length, ht, hl, hl2, hr] <;> rfl) (by rfl) (by simp [hw]) ?_
      refine QR.val (by simp [wants, h0, h1, hk, k1, k2, k3, c1, c2, c3, c4, hx0, wl, Nd.encL_length, ht, hl, hl2, hr]) (by simp [h0, h1, hk, k1, k2, k3, c1, c2, c3, c4, hx0, wl, Nd.encL_length, ht, hl, hl2, hr] <;> rfl) (by rfl) (by simp [hw]) ?_
      refine QR.val rfl (by simp [h0, h1, hk, k1, k2, k3, c1, c2, c3, c4, hx0, wl, Nd.encL_length, ht, hl, hl2, hr] <;> rfl) (by rfl) (by simp [hw]) ?_
      exact QR.nil
      case r905 => exact rfl
    refine inSeq_norm ?_
    refine Tri.condG (o := ?o6) (b := ?b6) ?g6 ?r6 ?y6 ?n6
    case g6 => simp [h0, h1, hk, k1, k2, k3, c1, c2, c3, c4, hx0, wl, Nd.encL_length, ht, hl, hl2, hr] <;> rfl
    case r6 => rfl
    case y6 =>
      intro hy6
      refine Tri.seq' ?_
      refine Tri.regN (t' := ?t7) (H' := ?H7) TT_ok hC ?e7 ?q7
      case e7 =>
        refine go_false ?_
        refine evSeq_go rfl (by simp [h0, h1, hk, k1, k2, k3, c1, c2, c3, c4, hx0, wl, Nd.encL_length, ht, hl, hl2, hr] <;> rfl) (by rfl) (by simp [hw]) ?_
        exact evSeq_nil
      refine inSeq_norm ?_
      refine Tri.ret ?_
      refine inSeq_ret ?_
      exact endsB (by simp [finish, evResults, evResult, Tryz.f54] <;> rfl) (by rfl)
    case n6 =>
      intro hn6
      exact absurd hn6 (by simp [h0, h1, hk, k1, k2, k3, c1, c2, c3, c4, hx0, wl, Nd.encL_length, ht, hl, hl2, hr])
/-- What a kid at a place must be. -/
def KidOK (call : CallF) (kl : List V) (rs : V) (i : Nat) (y : Nd) : Prop :=
  ∃ (f : FuncId) (c : List V) (b : Bool), (if i < kl.length then kl[i]? = some (.fn f c) else rs = .fn f c) ∧ TT.ext f = none ∧ ∀ H, call f (y.enc :: c) H = .val (.b b) H
theorem loop40 {call : CallF} (hC : call.Sound Tryz.prog TT) (k : Nat) (kl : List V) (rs : V) (c2 : shCells[k * 5 + 2]? = some (.isl 1 kl)) (c3 : shCells[k * 5 + 3]? = some rs) (v3 : V) {Q : Out → Prop} : ∀ (L pre : List Nd) (t : Tm) (H : Heap),
    (∀ i y, L[i]? = some y → KidOK call kl rs (pre.length + i) y) → (pre ++ L).length < 1100000 → t.wid = 99 → t.get 0 = .ipt 285 [.agg shCells] 0 0 → t.get 3 = v3 → t.get 5 = .ipt 285 [.agg shCells] 0 (k * 5) → t.get 66 = .isl 3 (Nd.encL (pre ++ L)) → t.get 67 = .i .i64 (pre ++ L).length → t.get 68 = .i .i64 pre.length →
    (∀ t' H', t'.wid = 99 → t'.get 0 = .ipt 285 [.agg shCells] 0 0 → t'.get 3 = v3 → Q (.exit 0 t' H')) → (∀ t' H', t'.wid = 99 → t'.get 4 = .b false → Q (.ret t' H')) → LTri Tryz.prog TT (sub [true, true, true, true, false, true, false, false] (bodyOf Tryz.f54)) t H Q := by
  intro L
  induction L with
  | nil =>
    intro pre t H hp hlen hw h0 h3 h5 h66 h67 h68 hE hR
    refine LTri.round' ?_
    refine Tri.seq' ?_
    refine Tri.regN (t' := ?tz1) (H' := ?Hz1) TT_ok hC ?ez1 ?qz1
    case ez1 =>
      refine go_false ?_
      refine evSeq_go rfl (by simp [h5, h66, h67, h68, Nd.encL_length, Nd.enc_eq] <;> rfl) (by rfl) (by simp [hw]) ?_
      exact evSeq_nil
    refine inSeq_norm ?_
    refine Tri.seq' ?_
    refine Tri.condG (o := ?oz2) (b := ?bz2) ?gz2 ?rz2 ?yz2 ?nz2
    case gz2 => simp [h5, h66, h67, h68, Nd.encL_length, Nd.enc_eq] <;> rfl
    case rz2 => rfl
    case yz2 =>
      intro hy2
      simp at hy2
    case nz2 =>
      intro hn2
      refine Tri.exit ?_
      refine inSeq_exit ?_
      refine inLoop_exit ?_
      exact hE _ _ (by simp [hw]) (by simp [h0]) (by simp [h3])
  | cons x L ih =>
    intro pre t H hp hlen hw h0 h3 h5 h66 h67 h68 hE hR
    have hlt := fin_len pre.length L.length
    have hat := encL_at pre x L
    have hat2 := encL_at2 pre x L
    obtain ⟨f, c, b, hk0, hx1, hcall⟩ := hp 0 x rfl
    simp only [Nd.enc_eq] at hcall
    by_cases hi : pre.length < kl.length
    · rw [Nat.add_zero, if_pos hi] at hk0
      have hk1 : kl[pre.length]? = some (.fn f c) := hk0
      have hk2 : ∀ h, kl[pre.length]'h = .fn f c := fun h => by rw [List.getElem?_eq_getElem h] at hk1; exact Option.some.inj hk1
      refine LTri.round' ?_
      refine Tri.seq' ?_
      refine Tri.regN (t' := ?ta1) (H' := ?Ha1) TT_ok hC ?ea1 ?qa1
      case ea1 =>
        refine go_false ?_
        refine evSeq_go rfl (by simp [h5, h66, h67, h68, Nd.encL_length, Nd.enc_eq, hlt, hat, hat2, hcall, c2, c3, hx1, hi, hk1, hk2] <;> rfl) (by rfl) (by simp [hw]) ?_
        exact evSeq_nil
      refine inSeq_norm ?_
      refine Tri.seq' ?_
      refine Tri.condG (o := ?oa2) (b := ?ba2) ?ga2 ?ra2 ?ya2 ?na2
      case ga2 => simp [h5, h66, h67, h68, Nd.encL_length, Nd.enc_eq, hlt, hat, hat2, hcall, c2, c3, hx1, hi, hk1, hk2] <;> rfl
      case ra2 => rfl
      case ya2 =>
        intro hy2
        refine Tri.skip ?_
        refine inSeq_norm ?_
        refine Tri.seq' ?_
        refine Tri.block' ?_
        refine Tri.seq' ?_
        refine Tri.regN (t' := ?ta3) (H' := ?Ha3) TT_ok hC ?ea3 ?qa3
        case ea3 =>
          refine go_false ?_
          refine evSeq_go rfl (by simp [h5, h66, h67, h68, Nd.encL_length, Nd.enc_eq, hlt, hat, hat2, hcall, c2, c3, hx1, hi, hk1, hk2] <;> rfl) (by rfl) (by simp [hw]) ?_
          refine evSeq_go rfl (by simp [h5, h66, h67, h68, Nd.encL_length, Nd.enc_eq, hlt, hat, hat2, hcall, c2, c3, hx1, hi, hk1, hk2] <;> rfl) (by rfl) (by simp [hw]) ?_
          refine evSeq_go rfl (by simp [h5, h66, h67, h68, Nd.encL_length, Nd.enc_eq, hlt, hat, hat2, hcall, c2, c3, hx1, hi, hk1, hk2] <;> rfl) (by rfl) (by simp [hw]) ?_
          refine evSeq_go rfl (by simp [h5, h66, h67, h68, Nd.encL_length, Nd.enc_eq, hlt, hat, hat2, hcall, c2, c3, hx1, hi, hk1, hk2] <;> rfl) (by rfl) (by simp [hw]) ?_
          refine evSeq_go rfl (by simp [h5, h66, h67, h68, Nd.encL_length, Nd.enc_eq, hlt, hat, hat2, hcall, c2, c3, hx1, hi, hk1, hk2] <;> rfl) (by rfl) (by simp [hw]) ?_
          refine evSeq_go rfl (by simp [h5, h66, h67, h68, Nd.encL_length, Nd.enc_eq, hlt, hat, hat2, hcall, c2, c3, hx1, hi, hk1, hk2] <;> rfl) (by rfl) (by simp [hw]) ?_
          exact evSeq_nil
        refine inSeq_norm ?_
        refine Tri.seq' ?_
        refine Tri.regN (t' := ?ta4) (H' := ?Ha4) TT_ok hC ?ea4 ?qa4
        case ea4 =>
          refine go_false ?_
          refine evSeq_go rfl (by simp [h5, h66, h67, h68, Nd.encL_length, Nd.enc_eq, hlt, hat, hat2, hcall, c2, c3, hx1, hi, hk1, hk2] <;> rfl) (by rfl) (by simp [hw]) ?_
          refine evSeq_go rfl (by simp [h5, h66, h67, h68, Nd.encL_length, Nd.enc_eq, hlt, hat, hat2, hcall, c2, c3, hx1, hi, hk1, hk2] <;> rfl) (by rfl) (by simp [hw]) ?_
          refine evSeq_go rfl (by simp [h5, h66, h67, h68, Nd.encL_length, Nd.enc_eq, hlt, hat, hat2, hcall, c2, c3, hx1, hi, hk1, hk2] <;> rfl) (by rfl) (by simp [hw]) ?_
          refine evSeq_go rfl (by simp [h5, h66, h67, h68, Nd.encL_length, Nd.enc_eq, hlt, hat, hat2, hcall, c2, c3, hx1, hi, hk1, hk2] <;> rfl) (by rfl) (by simp [hw]) ?_
          refine evSeq_go rfl (by simp [h5, h66, h67, h68, Nd.encL_length, Nd.enc_eq, hlt, hat, hat2, hcall, c2, c3, hx1, hi, hk1, hk2] <;> rfl) (by rfl) (by simp [hw]) ?_
          exact evSeq_nil
        refine inSeq_norm ?_
        refine Tri.seq' ?_
        refine Tri.seq' ?_
        refine Tri.regN (t' := ?ta5) (H' := ?Ha5) TT_ok hC ?ea5 ?qa5
        case ea5 =>
          refine go_false ?_
          refine evSeq_go rfl (by simp [h5, h66, h67, h68, Nd.encL_length, Nd.enc_eq, hlt, hat, hat2, hcall, c2, c3, hx1, hi, hk1, hk2] <;> rfl) (by rfl) (by simp [hw]) ?_
          refine evSeq_go rfl (by simp [h5, h66, h67, h68, Nd.encL_length, Nd.enc_eq, hlt, hat, hat2, hcall, c2, c3, hx1, hi, hk1, hk2] <;> rfl) (by rfl) (by simp [hw]) ?_
          refine evSeq_go rfl (by simp [h5, h66, h67, h68, Nd.encL_length, Nd.enc_eq, hlt, hat, hat2, hcall, c2, c3, hx1, hi, hk1, hk2] <;> rfl) (by rfl) (by simp [hw]) ?_
          refine evSeq_go rfl (by simp [h5, h66, h67, h68, Nd.encL_length, Nd.enc_eq, hlt, hat, hat2, hcall, c2, c3, hx1, hi, hk1, hk2] <;> rfl) (by rfl) (by simp [hw]) ?_
          refine evSeq_go rfl (by simp [h5, h66, h67, h68, Nd.encL_length, Nd.enc_eq, hlt, hat, hat2, hcall, c2, c3, hx1, hi, hk1, hk2] <;> rfl) (by rfl) (by simp [hw]) ?_
          refine evSeq_go rfl (by simp [h5, h66, h67, h68, Nd.encL_length, Nd.enc_eq, hlt, hat, hat2, hcall, c2, c3, hx1, hi, hk1, hk2] <;> rfl) (by rfl) (by simp [hw]) ?_
          refine evSeq_go rfl (by simp [h5, h66, h67, h68, Nd.encL_length, Nd.enc_eq, hlt, hat, hat2, hcall, c2, c3, hx1, hi, hk1, hk2] <;> rfl) (by rfl) (by simp [hw]) ?_
          exact evSeq_nil
        refine inSeq_norm ?_
        refine Tri.condG (o := ?oa6) (b := ?ba6) ?ga6 ?ra6 ?ya6 ?na6
        case ga6 => simp [h5, h66, h67, h68, Nd.encL_length, Nd.enc_eq, hlt, hat, hat2, hcall, c2, c3, hx1, hi, hk1, hk2] <;> rfl
        case ra6 => rfl
        case ya6 =>
          intro hy6
          refine Tri.regN (t' := ?ta7) (H' := ?Ha7) TT_ok hC ?ea7 ?qa7
          case ea7 =>
            refine go_false ?_
            refine evSeq_go rfl (by simp [h5, h66, h67, h68, Nd.encL_length, Nd.enc_eq, hlt, hat, hat2, hcall, c2, c3, hx1, hi, hk1, hk2] <;> rfl) (by rfl) (by simp [hw]) ?_
            refine evSeq_go rfl (by simp [h5, h66, h67, h68, Nd.encL_length, Nd.enc_eq, hlt, hat, hat2, hcall, c2, c3, hx1, hi, hk1, hk2] <;> rfl) (by rfl) (by simp [hw]) ?_
            refine evSeq_go rfl (by simp [h5, h66, h67, h68, Nd.encL_length, Nd.enc_eq, hlt, hat, hat2, hcall, c2, c3, hx1, hi, hk1, hk2] <;> rfl) (by rfl) (by simp [hw]) ?_
            refine evSeq_go rfl (by simp [h5, h66, h67, h68, Nd.encL_length, Nd.enc_eq, hlt, hat, hat2, hcall, c2, c3, hx1, hi, hk1, hk2] <;> rfl) (by rfl) (by simp [hw]) ?_
            refine evSeq_go rfl (by simp [h5, h66, h67, h68, Nd.encL_length, Nd.enc_eq, hlt, hat, hat2, hcall, c2, c3, hx1, hi, hk1, hk2] <;> rfl) (by rfl) (by simp [hw]) ?_
            refine evSeq_go rfl (by simp [h5, h66, h67, h68, Nd.encL_length, Nd.enc_eq, hlt, hat, hat2, hcall, c2, c3, hx1, hi, hk1, hk2] <;> rfl) (by rfl) (by simp [hw]) ?_
            refine evSeq_go rfl (by simp [h5, h66, h67, h68, Nd.encL_length, Nd.enc_eq, hlt, hat, hat2, hcall, c2, c3, hx1, hi, hk1, hk2] <;> rfl) (by rfl) (by simp [hw]) ?_
            refine evSeq_go rfl (by simp [h5, h66, h67, h68, Nd.encL_length, Nd.enc_eq, hlt, hat, hat2, hcall, c2, c3, hx1, hi, hk1, hk2] <;> rfl) (by rfl) (by simp [hw]) ?_
            exact evSeq_nil
          refine inSeq_norm ?_
          refine Tri.seq' ?_
          refine Tri.regN (t' := ?ta8) (H' := ?Ha8) TT_ok hC ?ea8 ?qa8
          case ea8 =>
            refine go_false ?_
            refine evSeq_go rfl (by simp [h5, h66, h67, h68, Nd.encL_length, Nd.enc_eq, hlt, hat, hat2, hcall, c2, c3, hx1, hi, hk1, hk2] <;> rfl) (by rfl) (by simp [hw]) ?_
            refine evSeq_go rfl (by simp [h5, h66, h67, h68, Nd.encL_length, Nd.enc_eq, hlt, hat, hat2, hcall, c2, c3, hx1, hi, hk1, hk2] <;> rfl) (by rfl) (by simp [hw]) ?_
            refine evSeq_go rfl (by simp [h5, h66, h67, h68, Nd.encL_length, Nd.enc_eq, hlt, hat, hat2, hcall, c2, c3, hx1, hi, hk1, hk2] <;> rfl) (by rfl) (by simp [hw]) ?_
            refine evSeq_go rfl (by simp [h5, h66, h67, h68, Nd.encL_length, Nd.enc_eq, hlt, hat, hat2, hcall, c2, c3, hx1, hi, hk1, hk2] <;> rfl) (by rfl) (by simp [hw]) ?_
            exact evSeq_nil
          refine inSeq_norm ?_
          refine Tri.condG (o := ?oa9) (b := ?ba9) ?ga9 ?ra9 ?ya9 ?na9
          case ga9 => simp [h5, h66, h67, h68, Nd.encL_length, Nd.enc_eq, hlt, hat, hat2, hcall, c2, c3, hx1, hi, hk1, hk2] <;> rfl
          case ra9 => rfl
          case ya9 =>
            intro hy9
            refine Tri.seq' ?_
            refine Tri.regN (t' := ?ta10) (H' := ?Ha10) TT_ok hC ?ea10 ?qa10
            case ea10 =>
              refine go_false ?_
              refine evSeq_go rfl (by simp [h5, h66, h67, h68, Nd.encL_length, Nd.enc_eq, hlt, hat, hat2, hcall, c2, c3, hx1, hi, hk1, hk2, hy9] <;> rfl) (by rfl) (by simp [hw]) ?_
              exact evSeq_nil
            refine inSeq_norm ?_
            refine Tri.ret ?_
            refine inBlk_ret ?_
            refine inSeq_ret ?_
            refine inLoop_ret ?_
            exact hR _ _ (by simp [hw]) (by simp)
          case na9 =>
            intro hn9
            refine Tri.skip ?_
            refine inBlk_norm ?_
            refine inSeq_norm ?_
            refine Tri.regN (t' := ?ta11) (H' := ?Ha11) TT_ok hC ?ea11 ?qa11
            case ea11 =>
              refine go_false ?_
              refine evSeq_go rfl (by simp [h5, h66, h67, h68, Nd.encL_length, Nd.enc_eq, hlt, hat, hat2, hcall, c2, c3, hx1, hi, hk1, hk2, hn9] <;> rfl) (by rfl) (by simp [hw]) ?_
              refine evSeq_go rfl (by simp [h5, h66, h67, h68, Nd.encL_length, Nd.enc_eq, hlt, hat, hat2, hcall, c2, c3, hx1, hi, hk1, hk2, hn9] <;> rfl) (by rfl) (by simp [hw]) ?_
              exact evSeq_nil
            refine inLoop_norm ?_
            refine ih (pre ++ [x]) _ _ (fun i y hy => by
              have := hp (i + 1) y (by simpa using hy)
              rwa [show pre.length + (i + 1) = (pre ++ [x]).length + i from by simp; omega] at this) (by simpa using hlen) (by simp [hw]) (by simp [h0]) (by simp [h3]) (by simp [h5]) (by simp [h66]) (by simp [h67]) (by simp; exact wrap_i64 (by omega) (by simp at hlen; omega)) hE hR
        case na6 =>
          intro hn6
          exact absurd hn6 (by simp [h5, h66, h67, h68, Nd.encL_length, Nd.enc_eq, hlt, hat, hat2, hcall, c2, c3, hx1, hi, hk1, hk2])
      case na2 =>
        intro hn2
        exfalso
        simp at hn2
    · rw [Nat.add_zero, if_neg hi] at hk0
      have hk1 : rs = .fn f c := hk0
      have hk2 : True := trivial
      rw [hk1] at c3
      refine LTri.round' ?_
      refine Tri.seq' ?_
      refine Tri.regN (t' := ?tb1) (H' := ?Hb1) TT_ok hC ?eb1 ?qb1
      case eb1 =>
        refine go_false ?_
        refine evSeq_go rfl (by simp [h5, h66, h67, h68, Nd.encL_length, Nd.enc_eq, hlt, hat, hat2, hcall, c2, c3, hx1, hi, hk1, hk2] <;> rfl) (by rfl) (by simp [hw]) ?_
        exact evSeq_nil
      refine inSeq_norm ?_
      refine Tri.seq' ?_
      refine Tri.condG (o := ?ob2) (b := ?bb2) ?gb2 ?rb2 ?yb2 ?nb2
      case gb2 => simp [h5, h66, h67, h68, Nd.encL_length, Nd.enc_eq, hlt, hat, hat2, hcall, c2, c3, hx1, hi, hk1, hk2] <;> rfl
      case rb2 => rfl
      case yb2 =>
        intro hy2
        refine Tri.skip ?_
        refine inSeq_norm ?_
        refine Tri.seq' ?_
        refine Tri.block' ?_
        refine Tri.seq' ?_
        refine Tri.regN (t' := ?tb3) (H' := ?Hb3) TT_ok hC ?eb3 ?qb3
        case eb3 =>
          refine go_false ?_
          refine evSeq_go rfl (by simp [h5, h66, h67, h68, Nd.encL_length, Nd.enc_eq, hlt, hat, hat2, hcall, c2, c3, hx1, hi, hk1, hk2] <;> rfl) (by rfl) (by simp [hw]) ?_
          refine evSeq_go rfl (by simp [h5, h66, h67, h68, Nd.encL_length, Nd.enc_eq, hlt, hat, hat2, hcall, c2, c3, hx1, hi, hk1, hk2] <;> rfl) (by rfl) (by simp [hw]) ?_
          refine evSeq_go rfl (by simp [h5, h66, h67, h68, Nd.encL_length, Nd.enc_eq, hlt, hat, hat2, hcall, c2, c3, hx1, hi, hk1, hk2] <;> rfl) (by rfl) (by simp [hw]) ?_
          refine evSeq_go rfl (by simp [h5, h66, h67, h68, Nd.encL_length, Nd.enc_eq, hlt, hat, hat2, hcall, c2, c3, hx1, hi, hk1, hk2] <;> rfl) (by rfl) (by simp [hw]) ?_
          refine evSeq_go rfl (by simp [h5, h66, h67, h68, Nd.encL_length, Nd.enc_eq, hlt, hat, hat2, hcall, c2, c3, hx1, hi, hk1, hk2] <;> rfl) (by rfl) (by simp [hw]) ?_
          refine evSeq_go rfl (by simp [h5, h66, h67, h68, Nd.encL_length, Nd.enc_eq, hlt, hat, hat2, hcall, c2, c3, hx1, hi, hk1, hk2] <;> rfl) (by rfl) (by simp [hw]) ?_
          exact evSeq_nil
        refine inSeq_norm ?_
        refine Tri.seq' ?_
        refine Tri.regN (t' := ?tb4) (H' := ?Hb4) TT_ok hC ?eb4 ?qb4
        case eb4 =>
          refine go_false ?_
          refine evSeq_go rfl (by simp [h5, h66, h67, h68, Nd.encL_length, Nd.enc_eq, hlt, hat, hat2, hcall, c2, c3, hx1, hi, hk1, hk2] <;> rfl) (by rfl) (by simp [hw]) ?_
          refine evSeq_go rfl (by simp [h5, h66, h67, h68, Nd.encL_length, Nd.enc_eq, hlt, hat, hat2, hcall, c2, c3, hx1, hi, hk1, hk2] <;> rfl) (by rfl) (by simp [hw]) ?_
          refine evSeq_go rfl (by simp [h5, h66, h67, h68, Nd.encL_length, Nd.enc_eq, hlt, hat, hat2, hcall, c2, c3, hx1, hi, hk1, hk2] <;> rfl) (by rfl) (by simp [hw]) ?_
          refine evSeq_go rfl (by simp [h5, h66, h67, h68, Nd.encL_length, Nd.enc_eq, hlt, hat, hat2, hcall, c2, c3, hx1, hi, hk1, hk2] <;> rfl) (by rfl) (by simp [hw]) ?_
          refine evSeq_go rfl (by simp [h5, h66, h67, h68, Nd.encL_length, Nd.enc_eq, hlt, hat, hat2, hcall, c2, c3, hx1, hi, hk1, hk2] <;> rfl) (by rfl) (by simp [hw]) ?_
          exact evSeq_nil
        refine inSeq_norm ?_
        refine Tri.seq' ?_
        refine Tri.seq' ?_
        refine Tri.regN (t' := ?tb5) (H' := ?Hb5) TT_ok hC ?eb5 ?qb5
        case eb5 =>
          refine go_false ?_
          refine evSeq_go rfl (by simp [h5, h66, h67, h68, Nd.encL_length, Nd.enc_eq, hlt, hat, hat2, hcall, c2, c3, hx1, hi, hk1, hk2] <;> rfl) (by rfl) (by simp [hw]) ?_
          refine evSeq_go rfl (by simp [h5, h66, h67, h68, Nd.encL_length, Nd.enc_eq, hlt, hat, hat2, hcall, c2, c3, hx1, hi, hk1, hk2] <;> rfl) (by rfl) (by simp [hw]) ?_
          refine evSeq_go rfl (by simp [h5, h66, h67, h68, Nd.encL_length, Nd.enc_eq, hlt, hat, hat2, hcall, c2, c3, hx1, hi, hk1, hk2] <;> rfl) (by rfl) (by simp [hw]) ?_
          refine evSeq_go rfl (by simp [h5, h66, h67, h68, Nd.encL_length, Nd.enc_eq, hlt, hat, hat2, hcall, c2, c3, hx1, hi, hk1, hk2] <;> rfl) (by rfl) (by simp [hw]) ?_
          refine evSeq_go rfl (by simp [h5, h66, h67, h68, Nd.encL_length, Nd.enc_eq, hlt, hat, hat2, hcall, c2, c3, hx1, hi, hk1, hk2] <;> rfl) (by rfl) (by simp [hw]) ?_
          refine evSeq_go rfl (by simp [h5, h66, h67, h68, Nd.encL_length, Nd.enc_eq, hlt, hat, hat2, hcall, c2, c3, hx1, hi, hk1, hk2] <;> rfl) (by rfl) (by simp [hw]) ?_
          refine evSeq_go rfl (by simp [h5, h66, h67, h68, Nd.encL_length, Nd.enc_eq, hlt, hat, hat2, hcall, c2, c3, hx1, hi, hk1, hk2] <;> rfl) (by rfl) (by simp [hw]) ?_
          exact evSeq_nil
        refine inSeq_norm ?_
        refine Tri.condG (o := ?ob6) (b := ?bb6) ?gb6 ?rb6 ?yb6 ?nb6
        case gb6 => simp [h5, h66, h67, h68, Nd.encL_length, Nd.enc_eq, hlt, hat, hat2, hcall, c2, c3, hx1, hi, hk1, hk2] <;> rfl
        case rb6 => rfl
        case yb6 =>
          intro hy6
          exact absurd hy6 (by simp [h5, h66, h67, h68, Nd.encL_length, Nd.enc_eq, hlt, hat, hat2, hcall, c2, c3, hx1, hi, hk1, hk2])
        case nb6 =>
          intro hn6
          refine Tri.skip ?_
          refine inSeq_norm ?_
          refine Tri.seq' ?_
          refine Tri.regN (t' := ?tb7) (H' := ?Hb7) TT_ok hC ?eb7 ?qb7
          case eb7 =>
            refine go_false ?_
            refine evSeq_go rfl (by simp [h5, h66, h67, h68, Nd.encL_length, Nd.enc_eq, hlt, hat, hat2, hcall, c2, c3, hx1, hi, hk1, hk2] <;> rfl) (by rfl) (by simp [hw]) ?_
            refine evSeq_go rfl (by simp [h5, h66, h67, h68, Nd.encL_length, Nd.enc_eq, hlt, hat, hat2, hcall, c2, c3, hx1, hi, hk1, hk2] <;> rfl) (by rfl) (by simp [hw]) ?_
            refine evSeq_go rfl (by simp [h5, h66, h67, h68, Nd.encL_length, Nd.enc_eq, hlt, hat, hat2, hcall, c2, c3, hx1, hi, hk1, hk2] <;> rfl) (by rfl) (by simp [hw]) ?_
            refine evSeq_go rfl (by simp [h5, h66, h67, h68, Nd.encL_length, Nd.enc_eq, hlt, hat, hat2, hcall, c2, c3, hx1, hi, hk1, hk2] <;> rfl) (by rfl) (by simp [hw]) ?_
            exact evSeq_nil
          refine inSeq_norm ?_
          refine Tri.condG (o := ?ob8) (b := ?bb8) ?gb8 ?rb8 ?yb8 ?nb8
          case gb8 => simp [h5, h66, h67, h68, Nd.encL_length, Nd.enc_eq, hlt, hat, hat2, hcall, c2, c3, hx1, hi, hk1, hk2] <;> rfl
          case rb8 => rfl
          case yb8 =>
            intro hy8
            refine Tri.seq' ?_
            refine Tri.regN (t' := ?tb9) (H' := ?Hb9) TT_ok hC ?eb9 ?qb9
            case eb9 =>
              refine go_false ?_
              refine evSeq_go rfl (by simp [h5, h66, h67, h68, Nd.encL_length, Nd.enc_eq, hlt, hat, hat2, hcall, c2, c3, hx1, hi, hk1, hk2, hy8] <;> rfl) (by rfl) (by simp [hw]) ?_
              exact evSeq_nil
            refine inSeq_norm ?_
            refine Tri.ret ?_
            refine inBlk_ret ?_
            refine inSeq_ret ?_
            refine inLoop_ret ?_
            exact hR _ _ (by simp [hw]) (by simp)
          case nb8 =>
            intro hn8
            refine Tri.skip ?_
            refine inBlk_norm ?_
            refine inSeq_norm ?_
            refine Tri.regN (t' := ?tb10) (H' := ?Hb10) TT_ok hC ?eb10 ?qb10
            case eb10 =>
              refine go_false ?_
              refine evSeq_go rfl (by simp [h5, h66, h67, h68, Nd.encL_length, Nd.enc_eq, hlt, hat, hat2, hcall, c2, c3, hx1, hi, hk1, hk2, hn8] <;> rfl) (by rfl) (by simp [hw]) ?_
              refine evSeq_go rfl (by simp [h5, h66, h67, h68, Nd.encL_length, Nd.enc_eq, hlt, hat, hat2, hcall, c2, c3, hx1, hi, hk1, hk2, hn8] <;> rfl) (by rfl) (by simp [hw]) ?_
              exact evSeq_nil
            refine inLoop_norm ?_
            refine ih (pre ++ [x]) _ _ (fun i y hy => by
              have := hp (i + 1) y (by simpa using hy)
              rwa [show pre.length + (i + 1) = (pre ++ [x]).length + i from by simp; omega] at this) (by simpa using hlen) (by simp [hw]) (by simp [h0]) (by simp [h3]) (by simp [h5]) (by simp [h66]) (by simp [h67]) (by simp; exact wrap_i64 (by omega) (by simp at hlen; omega)) hE hR
      case nb2 =>
        intro hn2
        exfalso
        simp at hn2

theorem body_40d {call : CallF} (hC : call.Sound Tryz.prog TT) (x : Nd) (k : Nat) (hk : x.kind = k) (k1 : ¬ (k : Int) < 1) (k2 : ¬ (56 : Int) < k) (k3 : (k : Int) < 57) (tf : FuncId) (tc kl : List V) (rs : V) (lst : Int) (c1 : shCells[k * 5 + 1]? = some (.fn tf tc)) (c2 : shCells[k * 5 + 2]? = some (.isl 1 kl)) (c3 : shCells[k * 5 + 3]? = some rs) (c4 : shCells[k * 5 + 4]? = some (.i .i64 lst)) (hx0 : TT.ext tf = none) (wl : IntKind.i64.wrap (kl.length + lst) = kl.length + lst) (hr : rs = .nilf) (hl2 : ¬ (kl.length : Int) < x.kids.length) (q : Bool) (hm : ∀ H, call 78 [.ipt 285 [.agg shCells] 0 0, x.enc] H = .val (.b q) H) (hp : ∀ i y, x.kids[i]? = some y → KidOK call kl rs i y) (hlen : x.kids.length < 1100000) (ht : ∀ H, call tf (.s x.text :: tc) H = .val (.b true) H) (hl : ¬ (x.kids.length : Int) < kl.length + lst)   : EBody Tryz.prog TT 54 [.ipt 285 [.agg shCells] 0 0, x.enc] (fun r => ∃ b : Bool, r = .val (.b b)) := by
  refine ⟨Tryz.f54, _, rfl, rfl, by simp [Tryz.f54], ?_⟩
  have h0 : (Tm.init Tryz.f54.ntmps [.ipt 285 [.agg shCells] 0 0, x.enc]).get 0 = .ipt 285 [.agg shCells] 0 0 := by rw [get_init]; rfl
  have h1 : (Tm.init Tryz.f54.ntmps [.ipt 285 [.agg shCells] 0 0, x.enc]).get 1 = x.enc := by rw [get_init]; rfl
  have hw : (Tm.init Tryz.f54.ntmps [.ipt 285 [.agg shCells] 0 0, x.enc]).wid = 99 := rfl
  generalize Tm.init Tryz.f54.ntmps [.ipt 285 [.agg shCells] 0 0, x.enc] = t at *
  try simp only [Nd.enc_eq] at *
  refine Tri.seq' ?_
  refine Tri.regN (t' := ?t1) (H' := ?H1) TT_ok hC ?e1 ?q1
  case e1 =>
    refine go_false ?_
    refine evSeq_go rfl (by simp [h0, h1, hk, k1, k2, k3, c1, c2, c3, c4, hx0, wl, Nd.encL_length, ht, hl, hl2, hm, hr] <;> rfl) (by rfl) (by simp [hw]) ?_
    refine evSeq_go rfl (by simp [h0, h1, hk, k1, k2, k3, c1, c2, c3, c4, hx0, wl, Nd.encL_length, ht, hl, hl2, hm, hr] <;> rfl) (by rfl) (by simp [hw]) ?_
    exact evSeq_nil
  refine inSeq_norm ?_
  refine Tri.seq' ?_
  refine Tri.seq' ?_
  rw [hk] at hm
  refine Tri.freeze_put 3 30 (v := .ipt 3 [.agg [.i .i64 k, .s x.text, .isl 3 (Nd.encL x.kids)]] 0 0) (by simp [fz, fzL, nl, nlL, Nd.encL_nl, h0, h1, hk] <;> rfl) ?_
  refine Tri.regN (t' := ?t2) (H' := ?H2) TT_ok hC ?e2 ?q2
  case e2 =>
    refine go_false ?_
    refine evSeq_go rfl (by simp [h0, h1, hk, k1, k2, k3, c1, c2, c3, c4, hx0, wl, Nd.encL_length, ht, hl, hl2, hm, hr] <;> rfl) (by rfl) (by simp [hw]) ?_
    refine evSeq_go rfl (by simp [h0, h1, hk, k1, k2, k3, c1, c2, c3, c4, hx0, wl, Nd.encL_length, ht, hl, hl2, hm, hr] <;> rfl) (by rfl) (by simp [hw]) ?_
    refine evSeq_go rfl (by simp [h0, h1, hk, k1, k2, k3, c1, c2, c3, c4, hx0, wl, Nd.encL_length, ht, hl, hl2, hm, hr] <;> rfl) (by rfl) (by simp [hw]) ?_
    refine evSeq_go rfl (by simp [h0, h1, hk, k1, k2, k3, c1, c2, c3, c4, hx0, wl, Nd.encL_length, ht, hl, hl2, hm, hr] <;> rfl) (by rfl) (by simp [hw]) ?_
    refine evSeq_go (by simp [wants, h0, h1, hk, k1, k2, k3, c1, c2, c3, c4, hx0, wl, Nd.encL_length, ht, hl, hl2, hm, hr]) (by simp [h0, h1, hk, k1, k2, k3, c1, c2, c3, c4, hx0, wl, Nd.encL_length, ht, hl, hl2, hm, hr] <;> rfl) (by rfl) (by simp [hw]) ?_
    refine evSeq_go (by simp [wants, h0, h1, hk, k1, k2, k3, c1, c2, c3, c4, hx0, wl, Nd.encL_length, ht, hl, hl2, hm, hr]) (by simp [h0, h1, hk, k1, k2, k3, c1, c2, c3, c4, hx0, wl, Nd.encL_length, ht, hl, hl2, hm, hr] <;> rfl) (by rfl) (by simp [hw]) ?_
    refine evSeq_go (by simp [wants, h0, h1, hk, k1, k2, k3, c1, c2, c3, c4, hx0, wl, Nd.encL_length, ht, hl, hl2, hm, hr]) (by simp [h0, h1, hk, k1, k2, k3, c1, c2, c3, c4, hx0, wl, Nd.encL_length, ht, hl, hl2, hm, hr] <;> rfl) (by rfl) (by simp [hw]) ?_
    refine evSeq_go rfl (by simp [h0, h1, hk, k1, k2, k3, c1, c2, c3, c4, hx0, wl, Nd.encL_length, ht, hl, hl2, hm, hr] <;> rfl) (by rfl) (by simp [hw]) ?_
    exact evSeq_nil
  refine inSeq_norm ?_
  refine Tri.condG (o := ?o3) (b := ?b3) ?g3 ?r3 ?y3 ?n3
  case g3 => simp [h0, h1, hk, k1, k2, k3, c1, c2, c3, c4, hx0, wl, Nd.encL_length, ht, hl, hl2, hm, hr] <;> rfl
  case r3 => rfl
  case y3 =>
    intro hy3
    exact absurd hy3 (by simp [h0, h1, hk, k1, k2, k3, c1, c2, c3, c4, hx0, wl, Nd.encL_length, ht, hl, hl2, hm, hr])
  case n3 =>
    intro hn3
    refine Tri.skip ?_
    refine inSeq_norm ?_
    refine Tri.seq' ?_
    refine Tri.regN (t' := ?t4) (H' := ?H4) TT_ok hC ?e4 ?q4
    case e4 =>
      refine evReg_quiet (t' := ?t4) (by kernel_rfl) ?_ ?r904
      refine QR.val rfl (by simp [h0, h1, hk, k1, k2, k3, c1, c2, c3, c4, hx0, wl, Nd.encL_length, ht, hl, hl2, hm, hr] <;> rfl) (by rfl) (by simp [hw]) ?_
      refine QR.val rfl (by simp [h0, h1, hk, k1, k2, k3, c1, c2, c3, c4, hx0, wl, Nd.encL_length, ht, hl, hl2, hm, hr] <;> rfl) (by rfl) (by simp [hw]) ?_
      refine QR.val rfl (by simp [h0, h1, hk, k1, k2, k3, c1, c2, c3, c4, hx0, wl, Nd.encL_length, ht, hl, hl2, hm, hr] <;> rfl) (by rfl) (by simp [hw]) ?_
      refine QR.val rfl (by simp [h0, h1, hk, k1, k2, k3, c1, c2, c3, c4, hx0, wl, Nd.encL_length, ht, hl, hl2, hm, hr] <;> rfl) (by rfl) (by simp [hw]) ?_
      refine QR.val rfl (by simp [h0, h1, hk, k1, k2, k3, c1, c2, c3, c4, hx0, wl, Nd.encL_length, ht, hl, hl2, hm, hr] <;> rfl) (by rfl) (by simp [hw]) ?_
      refine QR.val rfl (by simp [h0, h1, hk, k1, k2, k3, c1, c2, c3, c4, hx0, wl, Nd.encL_length, ht, hl, hl2, hm, hr] <;> rfl) (by rfl) (by simp [hw]) ?_
      refine QR.val rfl (by simp [h0, h1, hk, k1, k2, k3, c1, c2, c3, c4, hx0, wl, Nd.encL_length, ht, hl, hl2, hm, hr] <;> rfl) (by rfl) (by simp [hw]) ?_
      exact QR.nil
      case r904 => exact rfl
    refine inSeq_norm ?_
    refine Tri.seq' ?_
    refine Tri.seq' ?_
    refine Tri.regN (t' := ?t5) (H' := ?H5) TT_ok hC ?e5 ?q5
    case e5 =>
      refine evReg_quiet (t' := ?t5) (by kernel_rfl) ?_ ?r905
      refine QR.val rfl (by simp [h0, h1, hk, k1, k2, k3, c1, c2, c3, c4, hx0, wl, Nd.encL_length, ht, hl, hl2, hm, hr] <;> rfl) (by rfl) (by simp [hw]) ?_
      refine QR.val rfl (by simp [h0, h1, hk, k1, k2, k3, c1, c2, c3, c4, hx0, wl, Nd.encL_length, ht, hl, hl2, hm, hr] <;> rfl) (by rfl) (by simp [hw]) ?_
      refine QR.val rfl (by simp [h0, h1, hk, k1, k2, k3, c1, c2, c3, c4, hx0, wl, Nd.encL_length, ht, hl, hl2, hm, hr] <;> rfl) (by rfl) (by simp [hw]) ?_
      refine QR.val rfl (by simp [h0, h1, hk, k1, k2, k3, c1, c2, c3, c4, hx0, wl, Nd.encL_length, ht, hl, hl2, hm, hr] <;> rfl) (by rfl) (by simp [hw]) ?_
      refine QR.val rfl (by simp [h0, h1, hk, k1, k2, k3, c1, c2, c3, c4, hx0, wl, Nd.encL_length, ht, hl, hl2, hm, hr] <;> rfl) (by rfl) (by simp [hw]) ?_
      refine QR.val rfl (by simp [h0, h1, hk, k1, k2, k3, c1, c2, c3, c4, hx0, wl, Nd.encL_length, ht, hl, hl2, hm, hr] <;> rfl) (by rfl) (by simp [hw]) ?_
      refine QR.val rfl (by simp [h0, h1, hk, k1, k2, k3, c1, c2, c3, c4, hx0, wl, Nd.encL_length, ht, hl, hl2, hm, hr] <;> rfl) (by rfl) (by simp [hw]) ?_
      refine QR.val rfl (by simp [h0, h1, hk, k1, k2, k3, c1, c2, c3, c4, hx0, wl, Nd.encL_length, ht, hl, hl2, hm, hr] <;> rfl) (by rfl) (by simp [hw]) ?_
      refine QR.val rfl (by simp [h0, h1, hk, k1, k2, k3, c1, c2, c3, c4, hx0, wl, Nd.encL_length, ht, hl, hl2, hm, hr] <;> rfl) (by rfl) (by simp [hw]) ?_
      refine QR.val (by simp [wants, h0, h1, hk, k1, k2, k3, c1, c2, c3, c4, hx0, wl, Nd.encL_length, ht, hl, hl2, hm, hr]) (by simp [h0, h1, hk, k1, k2, k3, c1, c2, c3, c4, hx0, wl, Nd.encL_length, ht, hl, hl2, hm, hr] <;> rfl) (by rfl) (by simp [hw]) ?_
      refine QR.val (by simp [wants, h0, h1, hk, k1, k2, k3, c1, c2, c3, c4, hx0, wl, Nd.encL_length, ht, hl, hl2, hm, hr]) (by simp [h0, h1, hk, k1, k2, k3, c1, c2, c3, c4, hx0, wl, Nd.encL_length, ht, hl, hl2, hm, hr] <;> rfl) (by rfl) (by simp [hw]) ?_
      refine QR.val (by simp [wants, h0, h1, hk, k1, k2, k3, c1, c2, c3, c4, hx0, wl, Nd.encL_length, ht, hl, hl2, hm, hr]) (by simp [h0, h1, hk, k1, k2, k3, c1, c2, c3, c4, hx0, wl, Nd.encL_length, ht, hl, hl2, hm, hr] <;> rfl) (by rfl) (by simp [hw]) ?_
      refine QR.val (by simp [wants, h0, h1, hk, k1, k2, k3, c1, c2, c3, c4, hx0, wl, Nd.encL_length, ht, hl, hl2, hm, hr]) (by simp [h0, h1, hk, k1, k2, k3, c1, c2, c3, c4, hx0, wl, Nd.encL_length, ht, hl, hl2, hm, hr] <;> rfl) (by rfl) (by simp [hw]) ?_
      refine QR.val (by simp [wants, h0, h1, hk, k1, k2, k3, c1, c2, c3, c4, hx0, wl, Nd.encL_length, ht, hl, hl2, hm, hr]) (by simp [h0, h1, hk, k1, k2, k3, c1, c2, c3, c4, hx0, wl, Nd.encL_length, ht, hl, hl2, hm, hr] <;> rfl) (by rfl) (by simp [hw]) ?_
      refine QR.val (by simp [wants, h0, h1, hk, k1, k2, k3, c1, c2, c3, c4, hx0, wl, Nd.encL_length, ht, hl, hl2, hm, hr]) (by simp [h0, h1, hk, k1, k2, k3, c1, c2, c3, c4, hx0, wl, Nd.encL_length, ht, hl, hl2, hm, hr] <;> rfl) (by rfl) (by simp [hw]) ?_
      refine QR.val (by simp [wants, h0, h1, hk, k1, k2, k3, c1, c2, c3, c4, hx0, wl, Nd.encL_length, ht, hl, hl2, hm, hr]) (by simp [h0, h1, hk, k1, k2, k3, c1, c2, c3, c4, hx0, wl, Nd.encL_length, ht, hl, hl2, hm, hr] <;> rfl) (by rfl) (by simp [hw]) ?_
      refine QR.val (by simp [wants, h0, h1, hk, k1, k2, k3, c1, c2, c3, c4, hx0, wl, Nd.encL_length, ht, hl, hl2, hm, hr]) (by simp [h0, h1, hk, k1, k2, k3, c1, c2, c3, c4, hx0, wl, Nd.encL_length, ht, hl, hl2, hm, hr] <;> rfl) (by rfl) (by simp [hw]) ?_
      refine QR.val (by simp [wants, h0, h1, hk, k1, k2, k3, c1, c2, c3, c4, hx0, wl, Nd.encL_length, ht, hl, hl2, hm, hr]) (by simp [h0, h1, hk, k1, k2, k3, c1, c2, c3, c4, hx0, wl, Nd.encL_length, ht, hl, hl2, hm, hr] <;> rfl) (by rfl) (by simp [hw]) ?_
      refine QR.val (by simp [wants, h0, h1, hk, k1, k2, k3, c1, c2, c3, c4, hx0, wl, Nd.encL_length, ht, hl, hl2, hm, hr]) (by simp [h0, h1, hk, k1, k2, k3, c1, c2, c3, c4, hx0, wl, Nd.encL_length, ht, hl, hl2, hm, hr] <;> rfl) (by rfl) (by simp [hw]) ?_
      refine QR.val (by simp [wants, h0, h1, hk, k1, k2, k3, c1, c2, c3, c4, hx0, wl, Nd.encL_length, ht, hl, hl2, hm, hr]) (by simp [h0, h1, hk, k1, k2, k3, c1, c2, c3, c4, hx0, wl, Nd.encL_length, ht, hl, hl2, hm, hr] <;> rfl) (by rfl) (by simp [hw]) ?_
      refine QR.val (by simp [wants, h0, h1, hk, k1, k2, k3, c1, c2, c3, c4, hx0, wl, Nd.encL_length, ht, hl, hl2, hm, hr]) (by simp [h0, h1, hk, k1, k2, k3, c1, c2, c3, c4, hx0, wl, Nd.encL_length, ht, hl, hl2, hm, hr] <;> rfl) (by rfl) (by simp [hw]) ?_
      refine QR.val (by simp [wants, h0, h1, hk, k1, k2, k3, c1, c2, c3, c4, hx0, wl, Nd.encL_length, ht, hl, hl2, hm, hr]) (by simp [h0, h1, hk, k1, k2, k3, c1, c2, c3, c4, hx0, wl, Nd.encL_length, ht, hl, hl2, hm, hr] <;> rfl) (by rfl) (by simp [hw]) ?_
      refine QR.val (by simp [wants, h0, h1, hk, k1, k2, k3, c1, c2, c3, c4, hx0, wl, Nd.encL_length, ht, hl, hl2, hm, hr]) (by simp [h0, h1, hk, k1, k2, k3, c1, c2, c3, c4, hx0, wl, Nd.encL_length, ht, hl, hl2, hm, hr] <;> rfl) (by rfl) (by simp [hw]) ?_
      refine QR.val rfl (by simp [h0, h1, hk, k1, k2, k3, c1, c2, c3, c4, hx0, wl, Nd.encL_length, ht, hl, hl2, hm, hr] <;> rfl) (by rfl) (by simp [hw]) ?_
      refine QR.val rfl (by simp [h0, h1, hk, k1, k2, k3, c1, c2, c3, c4, hx0, wl, Nd.encL_length, ht, hl, hl2, hm, hr] <;> rfl) (by rfl) (by simp [hw]) ?_
      refine QR.val (by simp [wants, h0, h1, hk, k1, k2, k3, c1, c2, c3, c4, hx0, wl, Nd.encL_length, ht, hl, hl2, hm, hr]) (by simp [h0, h1, hk, k1, k2, k3, c1, c2, c3, c4, hx0, wl, Nd.encL_length, ht, hl, hl2, hm, hr] <;> rfl) (by rfl) (by simp [hw]) ?_
      refine QR.val (by simp [wants, h0, h1, hk, k1, k2, k3, c1, c2, c3, c4, hx0, wl, Nd.encL_length, ht, hl, hl2, hm, hr]) (by simp [h0, h1, hk, k1, k2, k3, c1, c2, c3, c4, hx0, wl, Nd.encL_length, ht, hl, hl2, hm, hr] <;> rfl) (by rfl) (by simp [hw]) ?_
      refine QR.val (by simp [wants, h0, h1, hk, k1, k2, k3, c1, c2, c3, c4, hx0, wl, Nd.encL_length, ht, hl, hl2, hm, hr]) (by simp [h0, h1, hk, k1, k2, k3, c1, c2, c3, c4, hx0, wl, Nd.encL_length, ht, hl, hl2, hm, hr] <;> rfl) (by rfl) (by simp [hw]) ?_
      refine QR.val (by simp [wants, h0, h1, hk, k1, k2, k3, c1, c2, c3, c4, hx0, wl, Nd.encL_length, ht, hl, hl2, hm, hr]) (by simp [h0, h1, hk, k1, k2, k3, c1, c2, c3, c4, hx0, wl, Nd.encL_length, ht, hl, hl2, hm, hr] <;> rfl) (by rfl) (by simp [hw]) ?_
      refine QR.val (by simp [wants, h0, h1, hk, k1, k2, k3, c1, c2, c3, c4, hx0, wl, Nd.encL_length, ht, hl, hl2, hm, hr]) (by simp [h0, h1, hk, k1, k2, k3, c1, c2, c3, c4, hx0, wl, Nd.encL_length, ht, hl, hl2, hm, hr] <;> rfl) (by rfl) (by simp [hw]) ?_
      refine QR.val (by simp [wants, h0, h1, hk, k1, k2, k3, c1, c2, c3, c4, hx0, wl, Nd.encL_length, ht, hl, hl2, hm, hr]) (by simp [h0, h1, hk, k1, k2, k3, c1, c2, c3, c4, hx0, wl, Nd.encL_length, ht, hl, hl2, hm, hr] <;> rfl) (by rfl) (by simp [hw]) ?_
      refine QR.val (by simp [wants, h0, h1, hk, k1, k2, k3, c1, c2, c3, c4, hx0, wl, Nd.encL_length, ht, hl, hl2, hm, hr]) (by simp [h0, h1, hk, k1, k2, k3, c1, c2, c3, c4, hx0, wl, Nd.encL_length, ht, hl, hl2, hm, hr] <;> rfl) (by rfl) (by simp [hw]) ?_
      refine QR.val (by simp [wants, h0, h1, hk, k1, k2, k3, c1, c2, c3, c4, hx0, wl, Nd.encL_length, ht, hl, hl2, hm, hr]) (by simp [h0, h1, hk, k1, k2, k3, c1, c2, c3, c4, hx0, wl, Nd.encL_length, ht, hl, hl2, hm, hr] <;> rfl) (by rfl) (by simp [hw]) ?_
      refine QR.val (by simp [wants, h0, h1, hk, k1, k2, k3, c1, c2, c3, c4, hx0, wl, Nd.encL_length, ht, hl, hl2, hm, hr]) (by simp [h0, h1, hk, k1, k2, k3, c1, c2, c3, c4, hx0, wl, Nd.encL_length, ht, hl, hl2, hm, hr] <;> rfl) (by rfl) (by simp [hw]) ?_
      refine QR.val (by simp [wants, h0, h1, hk, k1, k2, k3, c1, c2, c3, c4, hx0, wl, Nd.encL_length, ht, hl, hl2, hm, hr]) (by simp [h0, h1, hk, k1, k2, k3, c1, c2, c3, c4, hx0, wl, Nd.encL_length, ht, hl, hl2, hm, hr] <;> rfl) (by rfl) (by simp [hw]) ?_
      refine QR.val (by simp [wants, h0, h1, hk, k1, k2, k3, c1, c2, c3, c4, hx0, wl, Nd.encL_length, ht, hl, hl2, hm, hr]) (by simp [h0, h1, hk, k1, k2, k3, c1, c2, c3, c4, hx0, wl, Nd.encL_length, ht, hl, hl2, hm, hr] <;> rfl) (by rfl) (by simp [hw]) ?_
      refine QR.val (by simp [wants, h0, h1, hk, k1, k2, k3, c1, c2, c3, c4, hx0, wl, Nd.encL_length, ht, hl, hl2, hm, hr]) (by simp [h0, h1, hk, k1, k2, k3, c1, c2, c3, c4, hx0, wl, Nd.encL_length, ht, hl, hl2, hm, hr] <;> rfl) (by rfl) (by simp [hw]) ?_
      refine QR.val (by simp [wants, h0, h1, hk, k1, k2, k3, c1, c2, c3, c4, hx0, wl, Nd.encL_length, ht, hl, hl2, hm, hr]) (by simp [h0, h1, hk, k1, k2, k3, c1, c2, c3, c4, hx0, wl, Nd.encL_length, ht, hl, hl2, hm, hr] <;> rfl) (by rfl) (by simp [hw]) ?_
      refine QR.val (by simp [wants, h0, h1, hk, k1, k2, k3, c1, c2, c3, c4, hx0, wl, Nd.encL_length, ht, hl, hl2, hm, hr]) (by simp [h0, h1, hk, k1, k2, k3, c1, c2, c3, c4, hx0, wl, Nd.encL_length, ht, hl, hl2, hm, hr] <;> rfl) (by rfl) (by simp [hw]) ?_
      refine QR.val (by simp [wants, h0, h1, hk, k1, k2, k3, c1, c2, c3, c4, hx0, wl, Nd.encL_length, ht, hl, hl2, hm, hr]) (by simp [h0, h1, hk, k1, k2, k3, c1, c2, c3, c4, hx0, wl, Nd.encL_length, ht, hl, hl2, hm, hr] <;> rfl) (by rfl) (by simp [hw]) ?_
      refine QR.val (by simp [wants, h0, h1, hk, k1, k2, k3, c1, c2, c3, c4, hx0, wl, Nd.encL_length, ht, hl, hl2, hm, hr]) (by simp [h0, h1, hk, k1, k2, k3, c1, c2, c3, c4, hx0, wl, Nd.encL_length, ht, hl, hl2, hm, hr] <;> rfl) (by rfl) (by simp [hw]) ?_
      refine QR.val rfl (by simp [h0, h1, hk, k1, k2, k3, c1, c2, c3, c4, hx0, wl, Nd.encL_length, ht, hl, hl2, hm, hr] <;> rfl) (by rfl) (by simp [hw]) ?_
      exact QR.nil
      case r905 => exact rfl
    refine inSeq_norm ?_
    refine Tri.condG (o := ?o6) (b := ?b6) ?g6 ?r6 ?y6 ?n6
    case g6 => simp [h0, h1, hk, k1, k2, k3, c1, c2, c3, c4, hx0, wl, Nd.encL_length, ht, hl, hl2, hm, hr] <;> rfl
    case r6 => rfl
    case y6 =>
      intro hy6
      exact absurd hy6 (by simp [h0, h1, hk, k1, k2, k3, c1, c2, c3, c4, hx0, wl, Nd.encL_length, ht, hl, hl2, hm, hr])
    case n6 =>
      intro hn6
      refine Tri.skip ?_
      refine inSeq_norm ?_
      refine Tri.seq' ?_
      refine Tri.seq' ?_
      refine Tri.regN (t' := ?t7) (H' := ?H7) TT_ok hC ?e7 ?q7
      case e7 =>
        refine go_false ?_
        refine evSeq_go rfl (by simp [h0, h1, hk, k1, k2, k3, c1, c2, c3, c4, hx0, wl, Nd.encL_length, ht, hl, hl2, hm, hr] <;> rfl) (by rfl) (by simp [hw]) ?_
        refine evSeq_go rfl (by simp [h0, h1, hk, k1, k2, k3, c1, c2, c3, c4, hx0, wl, Nd.encL_length, ht, hl, hl2, hm, hr] <;> rfl) (by rfl) (by simp [hw]) ?_
        refine evSeq_go rfl (by simp [h0, h1, hk, k1, k2, k3, c1, c2, c3, c4, hx0, wl, Nd.encL_length, ht, hl, hl2, hm, hr] <;> rfl) (by rfl) (by simp [hw]) ?_
        refine evSeq_go rfl (by simp [h0, h1, hk, k1, k2, k3, c1, c2, c3, c4, hx0, wl, Nd.encL_length, ht, hl, hl2, hm, hr] <;> rfl) (by rfl) (by simp [hw]) ?_
        exact evSeq_nil
      refine inSeq_norm ?_
      refine Tri.block' ?_
      refine Tri.loop ?_
      refine loop40 hC k kl rs c2 (by first | exact c3 | (rw [hr]; exact hr ▸ c3)) (.ipt 3 [.agg [.i .i64 k, .s x.text, .isl 3 (Nd.encL x.kids)]] 0 0) x.kids [] _ _ (fun i y hy => by rw [List.length_nil, Nat.zero_add]; exact hp i y hy) (by simpa using hlen) (by simp [hw]) (by simp [h0]) (by simp [hk]) (by simp) (by simp) (by simp [Nd.encL_length]) (by simp) ?exit ?ret
      case exit =>
        intro t2 H2 hw h0 h3
        refine inBlk_exit ?_
        refine inSeq_norm ?_
        refine Tri.seq' ?_
        have h4 : True := trivial
        refine Tri.regN (t' := ?t8) (H' := ?H8) TT_ok hC ?e8 ?q8
        case e8 =>
          refine go_false ?_
          refine evSeq_go rfl (by simp [h0, h1, hk, k1, k2, k3, c1, c2, c3, c4, hx0, wl, Nd.encL_length, ht, hl, hl2, hm, hr, h0, h3] <;> rfl) (by rfl) (by simp [hw]) ?_
          refine evSeq_go rfl (by simp [h0, h1, hk, k1, k2, k3, c1, c2, c3, c4, hx0, wl, Nd.encL_length, ht, hl, hl2, hm, hr, h0, h3] <;> rfl) (by rfl) (by simp [hw]) ?_
          refine evSeq_go rfl (by simp [h0, h1, hk, k1, k2, k3, c1, c2, c3, c4, hx0, wl, Nd.encL_length, ht, hl, hl2, hm, hr, h0, h3] <;> rfl) (by rfl) (by simp [hw]) ?_
          refine evSeq_go rfl (by simp [h0, h1, hk, k1, k2, k3, c1, c2, c3, c4, hx0, wl, Nd.encL_length, ht, hl, hl2, hm, hr, h0, h3] <;> rfl) (by rfl) (by simp [hw]) ?_
          exact evSeq_nil
        refine inSeq_norm ?_
        refine Tri.ret ?_
        exact endsB (by simp [finish, evResults, evResult, Tryz.f54, h4] <;> rfl) (by rfl)
      case ret =>
        intro t2 H2 hw h4
        refine inBlk_ret ?_
        refine inSeq_ret ?_
        exact endsB (by simp [finish, evResults, evResult, Tryz.f54, h4] <;> rfl) (by rfl)
theorem body_40e {call : CallF} (hC : call.Sound Tryz.prog TT) (x : Nd) (k : Nat) (hk : x.kind = k) (k1 : ¬ (k : Int) < 1) (k2 : ¬ (56 : Int) < k) (k3 : (k : Int) < 57) (tf : FuncId) (tc kl : List V) (rs : V) (lst : Int) (c1 : shCells[k * 5 + 1]? = some (.fn tf tc)) (c2 : shCells[k * 5 + 2]? = some (.isl 1 kl)) (c3 : shCells[k * 5 + 3]? = some rs) (c4 : shCells[k * 5 + 4]? = some (.i .i64 lst)) (hx0 : TT.ext tf = none) (wl : IntKind.i64.wrap (kl.length + lst) = kl.length + lst) (rf : FuncId) (rc : List V) (hr : rs = .fn rf rc) (q : Bool) (hm : ∀ H, call 78 [.ipt 285 [.agg shCells] 0 0, x.enc] H = .val (.b q) H) (hp : ∀ i y, x.kids[i]? = some y → KidOK call kl rs i y) (hlen : x.kids.length < 1100000) (ht : ∀ H, call tf (.s x.text :: tc) H = .val (.b true) H) (hl : ¬ (x.kids.length : Int) < kl.length + lst)   : EBody Tryz.prog TT 54 [.ipt 285 [.agg shCells] 0 0, x.enc] (fun r => ∃ b : Bool, r = .val (.b b)) := by
  refine ⟨Tryz.f54, _, rfl, rfl, by simp [Tryz.f54], ?_⟩
  have h0 : (Tm.init Tryz.f54.ntmps [.ipt 285 [.agg shCells] 0 0, x.enc]).get 0 = .ipt 285 [.agg shCells] 0 0 := by rw [get_init]; rfl
  have h1 : (Tm.init Tryz.f54.ntmps [.ipt 285 [.agg shCells] 0 0, x.enc]).get 1 = x.enc := by rw [get_init]; rfl
  have hw : (Tm.init Tryz.f54.ntmps [.ipt 285 [.agg shCells] 0 0, x.enc]).wid = 99 := rfl
  generalize Tm.init Tryz.f54.ntmps [.ipt 285 [.agg shCells] 0 0, x.enc] = t at *
  try simp only [Nd.enc_eq] at *
  refine Tri.seq' ?_
  refine Tri.regN (t' := ?t1) (H' := ?H1) TT_ok hC ?e1 ?q1
  case e1 =>
    refine go_false ?_
    refine evSeq_go rfl (by simp [h0, h1, hk, k1, k2, k3, c1, c2, c3, c4, hx0, wl, Nd.encL_length, ht, hl, hm, hr] <;> rfl) (by rfl) (by simp [hw]) ?_
    refine evSeq_go rfl (by simp [h0, h1, hk, k1, k2, k3, c1, c2, c3, c4, hx0, wl, Nd.encL_length, ht, hl, hm, hr] <;> rfl) (by rfl) (by simp [hw]) ?_
    exact evSeq_nil
  refine inSeq_norm ?_
  refine Tri.seq' ?_
  refine Tri.seq' ?_
  rw [hk] at hm
  refine Tri.freeze_put 3 30 (v := .ipt 3 [.agg [.i .i64 k, .s x.text, .isl 3 (Nd.encL x.kids)]] 0 0) (by simp [fz, fzL, nl, nlL, Nd.encL_nl, h0, h1, hk] <;> rfl) ?_
  refine Tri.regN (t' := ?t2) (H' := ?H2) TT_ok hC ?e2 ?q2
  case e2 =>
    refine go_false ?_
    refine evSeq_go rfl (by simp [h0, h1, hk, k1, k2, k3, c1, c2, c3, c4, hx0, wl, Nd.encL_length, ht, hl, hm, hr] <;> rfl) (by rfl) (by simp [hw]) ?_
    refine evSeq_go rfl (by simp [h0, h1, hk, k1, k2, k3, c1, c2, c3, c4, hx0, wl, Nd.encL_length, ht, hl, hm, hr] <;> rfl) (by rfl) (by simp [hw]) ?_
    refine evSeq_go rfl (by simp [h0, h1, hk, k1, k2, k3, c1, c2, c3, c4, hx0, wl, Nd.encL_length, ht, hl, hm, hr] <;> rfl) (by rfl) (by simp [hw]) ?_
    refine evSeq_go rfl (by simp [h0, h1, hk, k1, k2, k3, c1, c2, c3, c4, hx0, wl, Nd.encL_length, ht, hl, hm, hr] <;> rfl) (by rfl) (by simp [hw]) ?_
    refine evSeq_go (by simp [wants, h0, h1, hk, k1, k2, k3, c1, c2, c3, c4, hx0, wl, Nd.encL_length, ht, hl, hm, hr]) (by simp [h0, h1, hk, k1, k2, k3, c1, c2, c3, c4, hx0, wl, Nd.encL_length, ht, hl, hm, hr] <;> rfl) (by rfl) (by simp [hw]) ?_
    refine evSeq_go (by simp [wants, h0, h1, hk, k1, k2, k3, c1, c2, c3, c4, hx0, wl, Nd.encL_length, ht, hl, hm, hr]) (by simp [h0, h1, hk, k1, k2, k3, c1, c2, c3, c4, hx0, wl, Nd.encL_length, ht, hl, hm, hr] <;> rfl) (by rfl) (by simp [hw]) ?_
    refine evSeq_go (by simp [wants, h0, h1, hk, k1, k2, k3, c1, c2, c3, c4, hx0, wl, Nd.encL_length, ht, hl, hm, hr]) (by simp [h0, h1, hk, k1, k2, k3, c1, c2, c3, c4, hx0, wl, Nd.encL_length, ht, hl, hm, hr] <;> rfl) (by rfl) (by simp [hw]) ?_
    refine evSeq_go rfl (by simp [h0, h1, hk, k1, k2, k3, c1, c2, c3, c4, hx0, wl, Nd.encL_length, ht, hl, hm, hr] <;> rfl) (by rfl) (by simp [hw]) ?_
    exact evSeq_nil
  refine inSeq_norm ?_
  refine Tri.condG (o := ?o3) (b := ?b3) ?g3 ?r3 ?y3 ?n3
  case g3 => simp [h0, h1, hk, k1, k2, k3, c1, c2, c3, c4, hx0, wl, Nd.encL_length, ht, hl, hm, hr] <;> rfl
  case r3 => rfl
  case y3 =>
    intro hy3
    exact absurd hy3 (by simp [h0, h1, hk, k1, k2, k3, c1, c2, c3, c4, hx0, wl, Nd.encL_length, ht, hl, hm, hr])
  case n3 =>
    intro hn3
    refine Tri.skip ?_
    refine inSeq_norm ?_
    refine Tri.seq' ?_
    refine Tri.regN (t' := ?t4) (H' := ?H4) TT_ok hC ?e4 ?q4
    case e4 =>
      refine evReg_quiet (t' := ?t4) (by kernel_rfl) ?_ ?r904
      refine QR.val rfl (by simp [h0, h1, hk, k1, k2, k3, c1, c2, c3, c4, hx0, wl, Nd.encL_length, ht, hl, hm, hr] <;> rfl) (by rfl) (by simp [hw]) ?_
      refine QR.val rfl (by simp [h0, h1, hk, k1, k2, k3, c1, c2, c3, c4, hx0, wl, Nd.encL_length, ht, hl, hm, hr] <;> rfl) (by rfl) (by simp [hw]) ?_
      refine QR.val rfl (by simp [h0, h1, hk, k1, k2, k3, c1, c2, c3, c4, hx0, wl, Nd.encL_length, ht, hl, hm, hr] <;> rfl) (by rfl) (by simp [hw]) ?_
      refine QR.val rfl (by simp [h0, h1, hk, k1, k2, k3, c1, c2, c3, c4, hx0, wl, Nd.encL_length, ht, hl, hm, hr] <;> rfl) (by rfl) (by simp [hw]) ?_
      refine QR.val rfl (by simp [h0, h1, hk, k1, k2, k3, c1, c2, c3, c4, hx0, wl, Nd.encL_length, ht, hl, hm, hr] <;> rfl) (by rfl) (by simp [hw]) ?_
      refine QR.val rfl (by simp [h0, h1, hk, k1, k2, k3, c1, c2, c3, c4, hx0, wl, Nd.encL_length, ht, hl, hm, hr] <;> rfl) (by rfl) (by simp [hw]) ?_
      refine QR.val rfl (by simp [h0, h1, hk, k1, k2, k3, c1, c2, c3, c4, hx0, wl, Nd.encL_length, ht, hl, hm, hr] <;> rfl) (by rfl) (by simp [hw]) ?_
      exact QR.nil
      case r904 => exact rfl
    refine inSeq_norm ?_
    refine Tri.seq' ?_
    refine Tri.seq' ?_
    refine Tri.regN (t' := ?t5) (H' := ?H5) TT_ok hC ?e5 ?q5
    case e5 =>
      refine evReg_quiet (t' := ?t5) (by kernel_rfl) ?_ ?r905
      refine QR.val rfl (by simp [h0, h1, hk, k1, k2, k3, c1, c2, c3, c4, hx0, wl, Nd.encL_length, ht, hl, hm, hr] <;> rfl) (by rfl) (by simp [hw]) ?_
      refine QR.val rfl (by simp [h0, h1, hk, k1, k2, k3, c1, c2, c3, c4, hx0, wl, Nd.encL_length, ht, hl, hm, hr] <;> rfl) (by rfl) (by simp [hw]) ?_
      refine QR.val rfl (by simp [h0, h1, hk, k1, k2, k3, c1, c2, c3, c4, hx0, wl, Nd.encL_length, ht, hl, hm, hr] <;> rfl) (by rfl) (by simp [hw]) ?_
      refine QR.val rfl (by simp [h0, h1, hk, k1, k2, k3, c1, c2, c3, c4, hx0, wl, Nd.encL_length, ht, hl, hm, hr] <;> rfl) (by rfl) (by simp [hw]) ?_
      refine QR.val rfl (by simp [h0, h1, hk, k1, k2, k3, c1, c2, c3, c4, hx0, wl, Nd.encL_length, ht, hl, hm, hr] <;> rfl) (by rfl) (by simp [hw]) ?_
      refine QR.val rfl (by simp [h0, h1, hk, k1, k2, k3, c1, c2, c3, c4, hx0, wl, Nd.encL_length, ht, hl, hm, hr] <;> rfl) (by rfl) (by simp [hw]) ?_
      refine QR.val rfl (by simp [h0, h1, hk, k1, k2, k3, c1, c2, c3, c4, hx0, wl, Nd.encL_length, ht, hl, hm, hr] <;> rfl) (by rfl) (by simp [hw]) ?_
      refine QR.val rfl (by simp [h0, h1, hk, k1, k2, k3, c1, c2, c3, c4, hx0, wl, Nd.encL_length, ht, hl, hm, hr] <;> rfl) (by rfl) (by simp [hw]) ?_
      refine QR.val rfl (by simp [h0, h1, hk, k1, k2, k3, c1, c2, c3, c4, hx0, wl, Nd.encL_length, ht, hl, hm, hr] <;> rfl) (by rfl) (by simp [hw]) ?_
      refine QR.val (by simp [wants, h0, h1, hk, k1, k2, k3, c1, c2, c3, c4, hx0, wl, Nd.encL_length, ht, hl, hm, hr]) (by simp [h0, h1, hk, k1, k2, k3, c1, c2, c3, c4, hx0, wl, Nd.encL_length, ht, hl, hm, hr] <;> rfl) (by rfl) (by simp [hw]) ?_
      refine QR.val (by simp [wants, h0, h1, hk, k1, k2, k3, c1, c2, c3, c4, hx0, wl, Nd.encL_length, ht, hl, hm, hr]) (by simp [h0, h1, hk, k1, k2, k3, c1, c2, c3, c4, hx0, wl, Nd.encL_length, ht, hl, hm, hr] <;> rfl) (by rfl) (by simp [hw]) ?_
      refine QR.val (by simp [wants, h0, h1, hk, k1, k2, k3, c1, c2, c3, c4, hx0, wl, Nd.encL_length, ht, hl, hm, hr]) (by simp [h0, h1, hk, k1, k2, k3, c1, c2, c3, c4, hx0, wl, Nd.encL_length, ht, hl, hm, hr] <;> rfl) (by rfl) (by simp [hw]) ?_
      refine QR.val (by simp [wants, h0, h1, hk, k1, k2, k3, c1, c2, c3, c4, hx0, wl, Nd.encL_length, ht, hl, hm, hr]) (by simp [h0, h1, hk, k1, k2, k3, c1, c2, c3, c4, hx0, wl, Nd.encL_length, ht, hl, hm, hr] <;> rfl) (by rfl) (by simp [hw]) ?_
      refine QR.val (by simp [wants, h0, h1, hk, k1, k2, k3, c1, c2, c3, c4, hx0, wl, Nd.encL_length, ht, hl, hm, hr]) (by simp [h0, h1, hk, k1, k2, k3, c1, c2, c3, c4, hx0, wl, Nd.encL_length, ht, hl, hm, hr] <;> rfl) (by rfl) (by simp [hw]) ?_
      refine QR.val (by simp [wants, h0, h1, hk, k1, k2, k3, c1, c2, c3, c4, hx0, wl, Nd.encL_length, ht, hl, hm, hr]) (by simp [h0, h1, hk, k1, k2, k3, c1, c2, c3, c4, hx0, wl, Nd.encL_length, ht, hl, hm, hr] <;> rfl) (by rfl) (by simp [hw]) ?_
      refine QR.val (by simp [wants, h0, h1, hk, k1, k2, k3, c1, c2, c3, c4, hx0, wl, Nd.encL_length, ht, hl, hm, hr]) (by simp [h0, h1, hk, k1, k2, k3, c1, c2, c3, c4, hx0, wl, Nd.encL_length, ht, hl, hm, hr] <;> rfl) (by rfl) (by simp [hw]) ?_
      refine QR.val (by simp [wants, h0, h1, hk, k1, k2, k3, c1, c2, c3, c4, hx0, wl, Nd.encL_length, ht, hl, hm, hr]) (by simp [h0, h1, hk, k1, k2, k3, c1, c2, c3, c4, hx0, wl, Nd.encL_length, ht, hl, hm, hr] <;> rfl) (by rfl) (by simp [hw]) ?_
      refine QR.val (by simp [wants, h0, h1, hk, k1, k2, k3, c1, c2, c3, c4, hx0, wl, Nd.encL_length, ht, hl, hm, hr]) (by simp [h0, h1, hk, k1, k2, k3, c1, c2, c3, c4, hx0, wl, Nd.encL_length, ht, hl, hm, hr] <;> rfl) (by rfl) (by simp [hw]) ?_
      refine QR.val (by simp [wants, h0, h1, hk, k1, k2, k3, c1, c2, c3, c4, hx0, wl, Nd.encL_length, ht, hl, hm, hr]) (by simp [h0, h1, hk, k1, k2, k3, c1, c2, c3, c4, hx0, wl, Nd.encL_length, ht, hl, hm, hr] <;> rfl) (by rfl) (by simp [hw]) ?_
      refine QR.val (by simp [wants, h0, h1, hk, k1, k2, k3, c1, c2, c3, c4, hx0, wl, Nd.encL_length, ht, hl, hm, hr]) (by simp [h0, h1, hk, k1, k2, k3, c1, c2, c3, c4, hx0, wl, Nd.encL_length, ht, hl, hm, hr] <;> rfl) (by rfl) (by simp [hw]) ?_
      refine QR.val (by simp [wants, h0, h1, hk, k1, k2, k3, c1, c2, c3, c4, hx0, wl, Nd.encL_length, ht, hl, hm, hr]) (by simp [h0, h1, hk, k1, k2, k3, c1, c2, c3, c4, hx0, wl, Nd.encL_length, ht, hl, hm, hr] <;> rfl) (by rfl) (by simp [hw]) ?_
      refine QR.val (by simp [wants, h0, h1, hk, k1, k2, k3, c1, c2, c3, c4, hx0, wl, Nd.encL_length, ht, hl, hm, hr]) (by simp [h0, h1, hk, k1, k2, k3, c1, c2, c3, c4, hx0, wl, Nd.encL_length, ht, hl, hm, hr] <;> rfl) (by rfl) (by simp [hw]) ?_
      refine QR.val (by simp [wants, h0, h1, hk, k1, k2, k3, c1, c2, c3, c4, hx0, wl, Nd.encL_length, ht, hl, hm, hr]) (by simp [h0, h1, hk, k1, k2, k3, c1, c2, c3, c4, hx0, wl, Nd.encL_length, ht, hl, hm, hr] <;> rfl) (by rfl) (by simp [hw]) ?_
      refine QR.val rfl (by simp [h0, h1, hk, k1, k2, k3, c1, c2, c3, c4, hx0, wl, Nd.encL_length, ht, hl, hm, hr] <;> rfl) (by rfl) (by simp [hw]) ?_
      refine QR.val rfl (by simp [h0, h1, hk, k1, k2, k3, c1, c2, c3, c4, hx0, wl, Nd.encL_length, ht, hl, hm, hr] <;> rfl) (by rfl) (by simp [hw]) ?_
      refine QR.val (by simp [wants, h0, h1, hk, k1, k2, k3, c1, c2, c3, c4, hx0, wl, Nd.encL_length, ht, hl, hm, hr]) (by simp [h0, h1, hk, k1, k2, k3, c1, c2, c3, c4, hx0, wl, Nd.encL_length, ht, hl, hm, hr] <;> rfl) (by rfl) (by simp [hw]) ?_
      refine QR.val (by simp [wants, h0, h1, hk, k1, k2, k3, c1, c2, c3, c4, hx0, wl, Nd.encL_length, ht, hl, hm, hr]) (by simp [h0, h1, hk, k1, k2, k3, c1, c2, c3, c4, hx0, wl, Nd.encL_length, ht, hl, hm, hr] <;> rfl) (by rfl) (by simp [hw]) ?_
      refine QR.val (by simp [wants, h0, h1, hk, k1, k2, k3, c1, c2, c3, c4, hx0, wl, Nd.encL_length, ht, hl, hm, hr]) (by simp [h0, h1, hk, k1, k2, k3, c1, c2, c3, c4, hx0, wl, Nd.encL_length, ht, hl, hm, hr] <;> rfl) (by rfl) (by simp [hw]) ?_
      refine QR.val (by simp [wants, h0, h1, hk, k1, k2, k3, c1, c2, c3, c4, hx0, wl, Nd.encL_length, ht, hl, hm, hr]) (by simp [h0, h1, hk, k1, k2, k3, c1, c2, c3, c4, hx0, wl, Nd.encL_length, ht, hl, hm, hr] <;> rfl) (by rfl) (by simp [hw]) ?_
      refine QR.val (by simp [wants, h0, h1, hk, k1, k2, k3, c1, c2, c3, c4, hx0, wl, Nd.encL_length, ht, hl, hm, hr]) (by simp [h0, h1, hk, k1, k2, k3, c1, c2, c3, c4, hx0, wl, Nd.encL_length, ht, hl, hm, hr] <;> rfl) (by rfl) (by simp [hw]) ?_
      refine QR.val (by simp [wants, h0, h1, hk, k1, k2, k3, c1, c2, c3, c4, hx0, wl, Nd.encL_length, ht, hl, hm, hr]) (by simp [h0, h1, hk, k1, k2, k3, c1, c2, c3, c4, hx0, wl, Nd.encL_length, ht, hl, hm, hr] <;> rfl) (by rfl) (by simp [hw]) ?_
      refine QR.off (by simp [wants, h0, h1, hk, k1, k2, k3, c1, c2, c3, c4, hx0, wl, Nd.encL_length, ht, hl, hm, hr]) (by simp [hw]) ?_
      refine QR.off (by simp [wants, h0, h1, hk, k1, k2, k3, c1, c2, c3, c4, hx0, wl, Nd.encL_length, ht, hl, hm, hr]) (by simp [hw]) ?_
      refine QR.off (by simp [wants, h0, h1, hk, k1, k2, k3, c1, c2, c3, c4, hx0, wl, Nd.encL_length, ht, hl, hm, hr]) (by simp [hw]) ?_
      refine QR.off (by simp [wants, h0, h1, hk, k1, k2, k3, c1, c2, c3, c4, hx0, wl, Nd.encL_length, ht, hl, hm, hr]) (by simp [hw]) ?_
      refine QR.off (by simp [wants, h0, h1, hk, k1, k2, k3, c1, c2, c3, c4, hx0, wl, Nd.encL_length, ht, hl, hm, hr]) (by simp [hw]) ?_
      refine QR.off (by simp [wants, h0, h1, hk, k1, k2, k3, c1, c2, c3, c4, hx0, wl, Nd.encL_length, ht, hl, hm, hr]) (by simp [hw]) ?_
      refine QR.off (by simp [wants, h0, h1, hk, k1, k2, k3, c1, c2, c3, c4, hx0, wl, Nd.encL_length, ht, hl, hm, hr]) (by simp [hw]) ?_
      refine QR.off (by simp [wants, h0, h1, hk, k1, k2, k3, c1, c2, c3, c4, hx0, wl, Nd.encL_length, ht, hl, hm, hr]) (by simp [hw]) ?_
      refine QR.off (by simp [wants, h0, h1, hk, k1, k2, k3, c1, c2, c3, c4, hx0, wl, Nd.encL_length, ht, hl, hm, hr]) (by simp [hw]) ?_
      refine QR.val (by simp [wants, h0, h1, hk, k1, k2, k3, c1, c2, c3, c4, hx0, wl, Nd.encL_length, ht, hl, hm, hr]) (by simp [h0, h1, hk, k1, k2, k3, c1, c2, c3, c4, hx0, wl, Nd.encL_length, ht, hl, hm, hr] <;> rfl) (by rfl) (by simp [hw]) ?_
      refine QR.val rfl (by simp [h0, h1, hk, k1, k2, k3, c1, c2, c3, c4, hx0, wl, Nd.encL_length, ht, hl, hm, hr] <;> rfl) (by rfl) (by simp [hw]) ?_
      exact QR.nil
      case r905 => exact rfl
    refine inSeq_norm ?_
    refine Tri.condG (o := ?o6) (b := ?b6) ?g6 ?r6 ?y6 ?n6
    case g6 => simp [h0, h1, hk, k1, k2, k3, c1, c2, c3, c4, hx0, wl, Nd.encL_length, ht, hl, hm, hr] <;> rfl
    case r6 => rfl
    case y6 =>
      intro hy6
      exact absurd hy6 (by simp [h0, h1, hk, k1, k2, k3, c1, c2, c3, c4, hx0, wl, Nd.encL_length, ht, hl, hm, hr])
    case n6 =>
      intro hn6
      refine Tri.skip ?_
      refine inSeq_norm ?_
      refine Tri.seq' ?_
      refine Tri.seq' ?_
      refine Tri.regN (t' := ?t7) (H' := ?H7) TT_ok hC ?e7 ?q7
      case e7 =>
        refine go_false ?_
        refine evSeq_go rfl (by simp [h0, h1, hk, k1, k2, k3, c1, c2, c3, c4, hx0, wl, Nd.encL_length, ht, hl, hm, hr] <;> rfl) (by rfl) (by simp [hw]) ?_
        refine evSeq_go rfl (by simp [h0, h1, hk, k1, k2, k3, c1, c2, c3, c4, hx0, wl, Nd.encL_length, ht, hl, hm, hr] <;> rfl) (by rfl) (by simp [hw]) ?_
        refine evSeq_go rfl (by simp [h0, h1, hk, k1, k2, k3, c1, c2, c3, c4, hx0, wl, Nd.encL_length, ht, hl, hm, hr] <;> rfl) (by rfl) (by simp [hw]) ?_
        refine evSeq_go rfl (by simp [h0, h1, hk, k1, k2, k3, c1, c2, c3, c4, hx0, wl, Nd.encL_length, ht, hl, hm, hr] <;> rfl) (by rfl) (by simp [hw]) ?_
        exact evSeq_nil
      refine inSeq_norm ?_
      refine Tri.block' ?_
      refine Tri.loop ?_
      refine loop40 hC k kl rs c2 (by first | exact c3 | (rw [hr]; exact hr ▸ c3)) (.ipt 3 [.agg [.i .i64 k, .s x.text, .isl 3 (Nd.encL x.kids)]] 0 0) x.kids [] _ _ (fun i y hy => by rw [List.length_nil, Nat.zero_add]; exact hp i y hy) (by simpa using hlen) (by simp [hw]) (by simp [h0]) (by simp [hk]) (by simp) (by simp) (by simp [Nd.encL_length]) (by simp) ?exit ?ret
      case exit =>
        intro t2 H2 hw h0 h3
        refine inBlk_exit ?_
        refine inSeq_norm ?_
        refine Tri.seq' ?_
        have h4 : True := trivial
        refine Tri.regN (t' := ?t8) (H' := ?H8) TT_ok hC ?e8 ?q8
        case e8 =>
          refine go_false ?_
          refine evSeq_go rfl (by simp [h0, h1, hk, k1, k2, k3, c1, c2, c3, c4, hx0, wl, Nd.encL_length, ht, hl, hm, hr, h0, h3] <;> rfl) (by rfl) (by simp [hw]) ?_
          refine evSeq_go rfl (by simp [h0, h1, hk, k1, k2, k3, c1, c2, c3, c4, hx0, wl, Nd.encL_length, ht, hl, hm, hr, h0, h3] <;> rfl) (by rfl) (by simp [hw]) ?_
          refine evSeq_go rfl (by simp [h0, h1, hk, k1, k2, k3, c1, c2, c3, c4, hx0, wl, Nd.encL_length, ht, hl, hm, hr, h0, h3] <;> rfl) (by rfl) (by simp [hw]) ?_
          refine evSeq_go rfl (by simp [h0, h1, hk, k1, k2, k3, c1, c2, c3, c4, hx0, wl, Nd.encL_length, ht, hl, hm, hr, h0, h3] <;> rfl) (by rfl) (by simp [hw]) ?_
          exact evSeq_nil
        refine inSeq_norm ?_
        refine Tri.ret ?_
        exact endsB (by simp [finish, evResults, evResult, Tryz.f54, h4] <;> rfl) (by rfl)
      case ret =>
        intro t2 H2 hw h4
        refine inBlk_ret ?_
        refine inSeq_ret ?_
        exact endsB (by simp [finish, evResults, evResult, Tryz.f54, h4] <;> rfl) (by rfl)
end Go.Ev
