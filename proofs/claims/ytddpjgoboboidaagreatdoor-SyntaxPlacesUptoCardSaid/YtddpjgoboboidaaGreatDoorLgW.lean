/- Walks over the look at all parts of a tree. -/
import Derived.Test.YtddpjgoboboidaaGreatDoorWG
import Derived.Test.YtddpjgoboboidaaGreatDoorLg
import Derived.Test.YtddpjgoboboidaaGreatDoorShT
namespace Go.Ev
open Go Go.Proofs
set_option maxRecDepth 100000
set_option linter.unusedSimpArgs false
set_option linter.unusedVariables false
theorem body_16pf {call : CallF} (hC : call.Sound Tryz.prog TT) (x : Nd) (hs : ∀ H, call 54 [.ipt 285 [.agg shCells] 0 0, x.enc] H = .val (.b false) H)  : EBody Tryz.prog TT 32 [.ipt 285 [.agg shCells] 0 0, x.enc] (fun r => r = .val (.b false)) := by
  refine ⟨Tryz.f32, _, rfl, rfl, by simp [Tryz.f32], ?_⟩
  have h0 : (Tm.init Tryz.f32.ntmps [.ipt 285 [.agg shCells] 0 0, x.enc]).get 0 = .ipt 285 [.agg shCells] 0 0 := by rw [get_init]; rfl
  have h1 : (Tm.init Tryz.f32.ntmps [.ipt 285 [.agg shCells] 0 0, x.enc]).get 1 = x.enc := by rw [get_init]; rfl
  have hw : (Tm.init Tryz.f32.ntmps [.ipt 285 [.agg shCells] 0 0, x.enc]).wid = 15 := rfl
  generalize Tm.init Tryz.f32.ntmps [.ipt 285 [.agg shCells] 0 0, x.enc] = t at *
  try simp only [Nd.enc_eq] at *
  refine Tri.seq' ?_
  refine Tri.regN (t' := ?t1) (H' := ?H1) TT_ok hC ?e1 ?q1
  case e1 =>
    refine go_false ?_
    refine evSeq_go rfl (by simp [h0, h1, hs] <;> rfl) (by rfl) (by simp [hw]) ?_
    refine evSeq_go rfl (by simp [h0, h1, hs] <;> rfl) (by rfl) (by simp [hw]) ?_
    refine evSeq_go rfl (by simp [h0, h1, hs] <;> rfl) (by rfl) (by simp [hw]) ?_
    exact evSeq_nil
  refine inSeq_norm ?_
  refine Tri.seq' ?_
  refine Tri.regN (t' := ?t2) (H' := ?H2) TT_ok hC ?e2 ?q2
  case e2 =>
    refine go_false ?_
    refine evSeq_go rfl (by simp [h0, h1, hs] <;> rfl) (by rfl) (by simp [hw]) ?_
    refine evSeq_go rfl (by simp [h0, h1, hs] <;> rfl) (by rfl) (by simp [hw]) ?_
    refine evSeq_go rfl (by simp [h0, h1, hs] <;> rfl) (by rfl) (by simp [hw]) ?_
    refine evSeq_go rfl (by simp [h0, h1, hs] <;> rfl) (by rfl) (by simp [hw]) ?_
    refine evSeq_off (by simp [wants, h0, h1, hs]) (by simp [hw]) ?_
    refine evSeq_off (by simp [wants, h0, h1, hs]) (by simp [hw]) ?_
    refine evSeq_off (by simp [wants, h0, h1, hs]) (by simp [hw]) ?_
    refine evSeq_off (by simp [wants, h0, h1, hs]) (by simp [hw]) ?_
    refine evSeq_off (by simp [wants, h0, h1, hs]) (by simp [hw]) ?_
    refine evSeq_go rfl (by simp [h0, h1, hs] <;> rfl) (by rfl) (by simp [hw]) ?_
    refine evSeq_go rfl (by simp [h0, h1, hs] <;> rfl) (by rfl) (by simp [hw]) ?_
    exact evSeq_nil
  refine inSeq_norm ?_
  refine Tri.ret ?_
  refine endsE (by simp [finish, evResults, evResult, Tryz.f32] <;> rfl) (by rfl) ?_
  first
    | rfl
    | simp
theorem body_16pt {call : CallF} (hC : call.Sound Tryz.prog TT) (x : Nd) (q : Bool) (hs : ∀ H, call 54 [.ipt 285 [.agg shCells] 0 0, x.enc] H = .val (.b true) H) (hq : ∀ H, call 55 [.isl 3 (Nd.encL x.kids), .fn 56 [.ipt 1 [.agg [.ipt 285 [.agg shCells] 0 0]] 0 0]] H = .val (.b q) H)  : EBody Tryz.prog TT 32 [.ipt 285 [.agg shCells] 0 0, x.enc] (fun r => r = .val (.b (!q))) := by
  refine ⟨Tryz.f32, _, rfl, rfl, by simp [Tryz.f32], ?_⟩
  have h0 : (Tm.init Tryz.f32.ntmps [.ipt 285 [.agg shCells] 0 0, x.enc]).get 0 = .ipt 285 [.agg shCells] 0 0 := by rw [get_init]; rfl
  have h1 : (Tm.init Tryz.f32.ntmps [.ipt 285 [.agg shCells] 0 0, x.enc]).get 1 = x.enc := by rw [get_init]; rfl
  have hw : (Tm.init Tryz.f32.ntmps [.ipt 285 [.agg shCells] 0 0, x.enc]).wid = 15 := rfl
  generalize Tm.init Tryz.f32.ntmps [.ipt 285 [.agg shCells] 0 0, x.enc] = t at *
  try simp only [Nd.enc_eq] at *
  refine Tri.seq' ?_
  refine Tri.regN (t' := ?t1) (H' := ?H1) TT_ok hC ?e1 ?q1
  case e1 =>
    refine go_false ?_
    refine evSeq_go rfl (by simp [h0, h1, hs, hq] <;> rfl) (by rfl) (by simp [hw]) ?_
    refine evSeq_go rfl (by simp [h0, h1, hs, hq] <;> rfl) (by rfl) (by simp [hw]) ?_
    refine evSeq_go rfl (by simp [h0, h1, hs, hq] <;> rfl) (by rfl) (by simp [hw]) ?_
    exact evSeq_nil
  refine inSeq_norm ?_
  refine Tri.seq' ?_
  refine Tri.freeze_put2 2 3 30 (v := .ipt 1 [.agg [.ipt 285 [.agg shCells] 0 0]] 0 0) (u := .ipt 3 [.agg [.i .i64 x.kind, .s x.text, .isl 3 (Nd.encL x.kids)]] 0 0) (by simp [fz, fzL, nl, nlL, shCells_nl, Nd.encL_nl, h0, h1] <;> rfl) (by simp [fz, fzL, nl, nlL, Nd.encL_nl, h0, h1] <;> rfl) ?_
  refine Tri.regN (t' := ?t2) (H' := ?H2) TT_ok hC ?e2 ?q2
  case e2 =>
    refine go_false ?_
    refine evSeq_go rfl (by simp [h0, h1, hs, hq] <;> rfl) (by rfl) (by simp [hw]) ?_
    refine evSeq_go rfl (by simp [h0, h1, hs, hq] <;> rfl) (by rfl) (by simp [hw]) ?_
    refine evSeq_go rfl (by simp [h0, h1, hs, hq] <;> rfl) (by rfl) (by simp [hw]) ?_
    refine evSeq_go rfl (by simp [h0, h1, hs, hq] <;> rfl) (by rfl) (by simp [hw]) ?_
    refine evSeq_go (by simp [wants, h0, h1, hs, hq]) (by simp [h0, h1, hs, hq] <;> rfl) (by rfl) (by simp [hw]) ?_
    refine evSeq_go (by simp [wants, h0, h1, hs, hq]) (by simp [h0, h1, hs, hq] <;> rfl) (by rfl) (by simp [hw]) ?_
    refine evSeq_go (by simp [wants, h0, h1, hs, hq]) (by simp [h0, h1, hs, hq] <;> rfl) (by rfl) (by simp [hw]) ?_
    refine evSeq_go (by simp [wants, h0, h1, hs, hq]) (by simp [h0, h1, hs, hq] <;> rfl) (by rfl) (by simp [hw]) ?_
    refine evSeq_go (by simp [wants, h0, h1, hs, hq]) (by simp [h0, h1, hs, hq] <;> rfl) (by rfl) (by simp [hw]) ?_
    refine evSeq_go rfl (by simp [h0, h1, hs, hq] <;> rfl) (by rfl) (by simp [hw]) ?_
    refine evSeq_go rfl (by simp [h0, h1, hs, hq] <;> rfl) (by rfl) (by simp [hw]) ?_
    exact evSeq_nil
  refine inSeq_norm ?_
  refine Tri.ret ?_
  refine endsE (by simp [finish, evResults, evResult, Tryz.f32] <;> rfl) (by rfl) ?_
  first
    | rfl
    | simp
theorem build51 : evBuild TT 59 [(0, .agg shCells)] = some (.agg shCells) := by kernel_rfl
theorem shFlat : shCells.all flat = true := by kernel_rfl
theorem shLen : shCells.length = 285 := by kernel_rfl
theorem shFz (H : Heap) : fzL H 3000 shCells = some shCells := by kernel_rfl

theorem body_8pl {call : CallF} (hC : call.Sound Tryz.prog TT) (x : Nd) (hs : ∀ H, call 30 [x.enc] H = .val (.b true) H)  : EBody Tryz.prog TT 14 [x.enc] (fun r => r = .val (.i .i64 4)) := by
  refine ⟨Tryz.f14, _, rfl, rfl, by simp [Tryz.f14], ?_⟩
  have h0 : (Tm.init Tryz.f14.ntmps [x.enc]).get 0 = x.enc := by rw [get_init]; rfl
  have hw : (Tm.init Tryz.f14.ntmps [x.enc]).wid = 13 := rfl
  generalize Tm.init Tryz.f14.ntmps [x.enc] = t at *
  try simp only [Nd.enc_eq] at *
  refine Tri.seq' ?_
  refine Tri.regN (t' := ?t1) (H' := ?H1) TT_ok hC ?e1 ?q1
  case e1 =>
    refine go_false ?_
    refine evSeq_go rfl (by simp [h0, hs] <;> rfl) (by rfl) (by simp [hw]) ?_
    refine evSeq_go rfl (by simp [h0, hs] <;> rfl) (by rfl) (by simp [hw]) ?_
    exact evSeq_nil
  refine inSeq_norm ?_
  refine Tri.seq' ?_
  refine Tri.seq' ?_
  refine Tri.regN (t' := ?t2) (H' := ?H2) TT_ok hC ?e2 ?q2
  case e2 =>
    refine go_false ?_
    refine evSeq_go rfl (by simp [h0, hs] <;> rfl) (by rfl) (by simp [hw]) ?_
    refine evSeq_go rfl (by simp [h0, hs] <;> rfl) (by rfl) (by simp [hw]) ?_
    exact evSeq_nil
  refine inSeq_norm ?_
  refine Tri.condG (o := ?o3) (b := ?b3) ?g3 ?r3 ?y3 ?n3
  case g3 => simp [h0, hs] <;> rfl
  case r3 => rfl
  case y3 =>
    intro hy3
    refine Tri.seq' ?_
    refine Tri.regN (t' := ?t4) (H' := ?H4) TT_ok hC ?e4 ?q4
    case e4 =>
      refine go_false ?_
      refine evSeq_go rfl (by simp [h0, hs] <;> rfl) (by rfl) (by simp [hw]) ?_
      exact evSeq_nil
    refine inSeq_norm ?_
    refine Tri.ret ?_
    refine inSeq_ret ?_
    refine endsE (by simp [finish, evResults, evResult, Tryz.f14] <;> rfl) (by rfl) ?_
    first
      | rfl
      | simp
  case n3 =>
    intro hn3
    exact absurd hn3 (by simp [h0, hs])
theorem body_8pst {call : CallF} (hC : call.Sound Tryz.prog TT) (x : Nd) (hs : ∀ H, call 30 [x.enc] H = .val (.b false) H) (hsh : ∀ H, call 31 [] H = .val (.agg shCells) H) (hq : ∀ H, call 32 [.ipt 285 [.agg shCells] 0 0, x.enc] H = .val (.b true) H)  : EBody Tryz.prog TT 14 [x.enc] (fun r => r = .val (.i .i64 0)) := by
  refine ⟨Tryz.f14, _, rfl, rfl, by simp [Tryz.f14], ?_⟩
  have h0 : (Tm.init Tryz.f14.ntmps [x.enc]).get 0 = x.enc := by rw [get_init]; rfl
  have hw : (Tm.init Tryz.f14.ntmps [x.enc]).wid = 13 := rfl
  generalize Tm.init Tryz.f14.ntmps [x.enc] = t at *
  try simp only [Nd.enc_eq] at *
  refine Tri.seq' ?_
  refine Tri.regN (t' := ?t1) (H' := ?H1) TT_ok hC ?e1 ?q1
  case e1 =>
    refine go_false ?_
    refine evSeq_go rfl (by simp [h0, hs, hsh, hq] <;> rfl) (by rfl) (by simp [hw]) ?_
    refine evSeq_go rfl (by simp [h0, hs, hsh, hq] <;> rfl) (by rfl) (by simp [hw]) ?_
    exact evSeq_nil
  refine inSeq_norm ?_
  refine Tri.seq' ?_
  refine Tri.seq' ?_
  refine Tri.regN (t' := ?t2) (H' := ?H2) TT_ok hC ?e2 ?q2
  case e2 =>
    refine go_false ?_
    refine evSeq_go rfl (by simp [h0, hs, hsh, hq] <;> rfl) (by rfl) (by simp [hw]) ?_
    refine evSeq_go rfl (by simp [h0, hs, hsh, hq] <;> rfl) (by rfl) (by simp [hw]) ?_
    exact evSeq_nil
  refine inSeq_norm ?_
  refine Tri.condG (o := ?o3) (b := ?b3) ?g3 ?r3 ?y3 ?n3
  case g3 => simp [h0, hs, hsh, hq] <;> rfl
  case r3 => rfl
  case y3 =>
    intro hy3
    exact absurd hy3 (by simp [h0, hs, hsh, hq])
  case n3 =>
    intro hn3
    refine Tri.skip ?_
    refine inSeq_norm ?_
    refine Tri.seq' ?_
    refine Tri.seq' ?_
    refine Tri.regN (t' := ?t4) (H' := ?H4) TT_ok hC ?e4 ?q4
    case e4 =>
      refine go_false ?_
      refine evSeq_go rfl (by simp [h0, hs, hsh, hq, -evBuild, build51, -flat, -List.all_eq_true, shFlat, shLen] <;> rfl) (by rfl) (by simp [hw]) ?_
      refine evSeq_go rfl (by simp [h0, hs, hsh, hq, -evBuild, build51, -flat, -List.all_eq_true, shFlat, shLen] <;> rfl) (by rfl) (by simp [hw]) ?_
      refine evSeq_go rfl (by simp [h0, hs, hsh, hq, -evBuild, build51, -flat, -List.all_eq_true, shFlat, shLen] <;> rfl) (by rfl) (by simp [hw]) ?_
      refine evSeq_go rfl (by simp [h0, hs, hsh, hq, -evBuild, build51, -flat, -List.all_eq_true, shFlat, shLen] <;> rfl) (by rfl) (by simp [hw]) ?_
      exact evSeq_nil
    refine inSeq_norm ?_
    refine Tri.seq' ?_
    refine Tri.freeze_put2 1 3 3001 (v := .ipt 3 [.agg [.i .i64 x.kind, .s x.text, .isl 3 (Nd.encL x.kids)]] 0 0) (u := .ipt 285 [.agg shCells] 0 0) (by simp [fz, fzL, nl, nlL, Nd.encL_nl, h0] <;> rfl) (by simp [fz, shFz, shLen] <;> rfl) ?_
    refine Tri.regN (t' := ?t5) (H' := ?H5) TT_ok hC ?e5 ?q5
    case e5 =>
      refine go_false ?_
      refine evSeq_go rfl (by simp [h0, hs, hsh, hq] <;> rfl) (by rfl) (by simp [hw]) ?_
      refine evSeq_go rfl (by simp [h0, hs, hsh, hq] <;> rfl) (by rfl) (by simp [hw]) ?_
      refine evSeq_go rfl (by simp [h0, hs, hsh, hq] <;> rfl) (by rfl) (by simp [hw]) ?_
      refine evSeq_go rfl (by simp [h0, hs, hsh, hq] <;> rfl) (by rfl) (by simp [hw]) ?_
      exact evSeq_nil
    refine inSeq_norm ?_
    refine Tri.condG (o := ?o6) (b := ?b6) ?g6 ?r6 ?y6 ?n6
    case g6 => simp [h0, hs, hsh, hq] <;> rfl
    case r6 => rfl
    case y6 =>
      intro hy6
      exact absurd hy6 (by simp [h0, hs, hsh, hq])
    case n6 =>
      intro hn6
      refine Tri.skip ?_
      refine inSeq_norm ?_
      refine Tri.seq' ?_
      refine Tri.regN (t' := ?t7) (H' := ?H7) TT_ok hC ?e7 ?q7
      case e7 =>
        refine go_false ?_
        refine evSeq_go rfl (by simp [h0, hs, hsh, hq] <;> rfl) (by rfl) (by simp [hw]) ?_
        exact evSeq_nil
      refine inSeq_norm ?_
      refine Tri.ret ?_
      refine endsE (by simp [finish, evResults, evResult, Tryz.f14] <;> rfl) (by rfl) ?_
      first
        | rfl
        | simp
theorem body_8psf {call : CallF} (hC : call.Sound Tryz.prog TT) (x : Nd) (hs : ∀ H, call 30 [x.enc] H = .val (.b false) H) (hsh : ∀ H, call 31 [] H = .val (.agg shCells) H) (hq : ∀ H, call 32 [.ipt 285 [.agg shCells] 0 0, x.enc] H = .val (.b false) H)  : EBody Tryz.prog TT 14 [x.enc] (fun r => r = .val (.i .i64 2)) := by
  refine ⟨Tryz.f14, _, rfl, rfl, by simp [Tryz.f14], ?_⟩
  have h0 : (Tm.init Tryz.f14.ntmps [x.enc]).get 0 = x.enc := by rw [get_init]; rfl
  have hw : (Tm.init Tryz.f14.ntmps [x.enc]).wid = 13 := rfl
  generalize Tm.init Tryz.f14.ntmps [x.enc] = t at *
  try simp only [Nd.enc_eq] at *
  refine Tri.seq' ?_
  refine Tri.regN (t' := ?t1) (H' := ?H1) TT_ok hC ?e1 ?q1
  case e1 =>
    refine go_false ?_
    refine evSeq_go rfl (by simp [h0, hs, hsh, hq] <;> rfl) (by rfl) (by simp [hw]) ?_
    refine evSeq_go rfl (by simp [h0, hs, hsh, hq] <;> rfl) (by rfl) (by simp [hw]) ?_
    exact evSeq_nil
  refine inSeq_norm ?_
  refine Tri.seq' ?_
  refine Tri.seq' ?_
  refine Tri.regN (t' := ?t2) (H' := ?H2) TT_ok hC ?e2 ?q2
  case e2 =>
    refine go_false ?_
    refine evSeq_go rfl (by simp [h0, hs, hsh, hq] <;> rfl) (by rfl) (by simp [hw]) ?_
    refine evSeq_go rfl (by simp [h0, hs, hsh, hq] <;> rfl) (by rfl) (by simp [hw]) ?_
    exact evSeq_nil
  refine inSeq_norm ?_
  refine Tri.condG (o := ?o3) (b := ?b3) ?g3 ?r3 ?y3 ?n3
  case g3 => simp [h0, hs, hsh, hq] <;> rfl
  case r3 => rfl
  case y3 =>
    intro hy3
    exact absurd hy3 (by simp [h0, hs, hsh, hq])
  case n3 =>
    intro hn3
    refine Tri.skip ?_
    refine inSeq_norm ?_
    refine Tri.seq' ?_
    refine Tri.seq' ?_
    refine Tri.regN (t' := ?t4) (H' := ?H4) TT_ok hC ?e4 ?q4
    case e4 =>
      refine go_false ?_
      refine evSeq_go rfl (by simp [h0, hs, hsh, hq, -evBuild, build51, -flat, -List.all_eq_true, shFlat, shLen] <;> rfl) (by rfl) (by simp [hw]) ?_
      refine evSeq_go rfl (by simp [h0, hs, hsh, hq, -evBuild, build51, -flat, -List.all_eq_true, shFlat, shLen] <;> rfl) (by rfl) (by simp [hw]) ?_
      refine evSeq_go rfl (by simp [h0, hs, hsh, hq, -evBuild, build51, -flat, -List.all_eq_true, shFlat, shLen] <;> rfl) (by rfl) (by simp [hw]) ?_
      refine evSeq_go rfl (by simp [h0, hs, hsh, hq, -evBuild, build51, -flat, -List.all_eq_true, shFlat, shLen] <;> rfl) (by rfl) (by simp [hw]) ?_
      exact evSeq_nil
    refine inSeq_norm ?_
    refine Tri.seq' ?_
    refine Tri.freeze_put2 1 3 3001 (v := .ipt 3 [.agg [.i .i64 x.kind, .s x.text, .isl 3 (Nd.encL x.kids)]] 0 0) (u := .ipt 285 [.agg shCells] 0 0) (by simp [fz, fzL, nl, nlL, Nd.encL_nl, h0] <;> rfl) (by simp [fz, shFz, shLen] <;> rfl) ?_
    refine Tri.regN (t' := ?t5) (H' := ?H5) TT_ok hC ?e5 ?q5
    case e5 =>
      refine go_false ?_
      refine evSeq_go rfl (by simp [h0, hs, hsh, hq] <;> rfl) (by rfl) (by simp [hw]) ?_
      refine evSeq_go rfl (by simp [h0, hs, hsh, hq] <;> rfl) (by rfl) (by simp [hw]) ?_
      refine evSeq_go rfl (by simp [h0, hs, hsh, hq] <;> rfl) (by rfl) (by simp [hw]) ?_
      refine evSeq_go rfl (by simp [h0, hs, hsh, hq] <;> rfl) (by rfl) (by simp [hw]) ?_
      exact evSeq_nil
    refine inSeq_norm ?_
    refine Tri.condG (o := ?o6) (b := ?b6) ?g6 ?r6 ?y6 ?n6
    case g6 => simp [h0, hs, hsh, hq] <;> rfl
    case r6 => rfl
    case y6 =>
      intro hy6
      refine Tri.seq' ?_
      refine Tri.regN (t' := ?t7) (H' := ?H7) TT_ok hC ?e7 ?q7
      case e7 =>
        refine go_false ?_
        refine evSeq_go rfl (by simp [h0, hs, hsh, hq] <;> rfl) (by rfl) (by simp [hw]) ?_
        exact evSeq_nil
      refine inSeq_norm ?_
      refine Tri.ret ?_
      refine inSeq_ret ?_
      refine endsE (by simp [finish, evResults, evResult, Tryz.f14] <;> rfl) (by rfl) ?_
      first
        | rfl
        | simp
    case n6 =>
      intro hn6
      exact absurd hn6 (by simp [h0, hs, hsh, hq])
end Go.Ev
