/- Walks over Put of the reference. -/
import Derived.Test.YtddpjgoboboidaaGreatDoorPtS
import Derived.Test.YtddpjgoboboidaaGreatDoorEvIter
import Derived.Test.YtddpjgoboboidaaGreatDoorCp
namespace Go.Ev
open Go Go.Proofs
set_option maxRecDepth 100000
set_option linter.unusedSimpArgs false
set_option linter.unusedVariables false
theorem body_1011z {call : CallF} (hC : call.Sound Tryz.prog TT) (x y : Nd)  : HBody Tryz.prog TT 11 [x.enc, .isl 1 [], y.enc] [] (fun v _ => v = .tup [.agg [.i .i64 y.kind, .s y.text, .isl 3 (Nd.encL y.kids)], .i .i64 0]) := by
  refine ⟨Tryz.f11, _, rfl, rfl, by simp [Tryz.f11], ?_⟩
  have h0 : (Tm.init Tryz.f11.ntmps [x.enc, .isl 1 [], y.enc]).get 0 = x.enc := by rw [get_init]; rfl
  have h1 : (Tm.init Tryz.f11.ntmps [x.enc, .isl 1 [], y.enc]).get 1 = .isl 1 [] := by rw [get_init]; rfl
  have h2 : (Tm.init Tryz.f11.ntmps [x.enc, .isl 1 [], y.enc]).get 2 = y.enc := by rw [get_init]; rfl
  have hw : (Tm.init Tryz.f11.ntmps [x.enc, .isl 1 [], y.enc]).wid = 59 := rfl
  generalize Tm.init Tryz.f11.ntmps [x.enc, .isl 1 [], y.enc] = t at *
  try simp only [Nd.enc_eq] at *
  refine Tri.seq' ?_
  refine Tri.regN (t' := ?t1) (H' := ?H1) TT_ok hC ?e1 ?q1
  case e1 =>
    refine go_false ?_
    refine evSeq_go rfl (by simp [h0, h1, h2] <;> rfl) (by rfl) (by simp [fits_some, fits_none, hw, Nat.blt_eq]) ?_
    refine evSeq_go rfl (by simp [h0, h1, h2] <;> rfl) (by rfl) (by simp [fits_some, fits_none, hw, Nat.blt_eq]) ?_
    refine evSeq_go rfl (by simp [h0, h1, h2] <;> rfl) (by rfl) (by simp [fits_some, fits_none, hw, Nat.blt_eq]) ?_
    refine evSeq_go rfl (by simp [h0, h1, h2] <;> rfl) (by rfl) (by simp [fits_some, fits_none, hw, Nat.blt_eq]) ?_
    exact evSeq_nil
  refine inSeq_norm ?_
  refine Tri.seq' ?_
  refine Tri.seq' ?_
  refine Tri.regN (t' := ?t2) (H' := ?H2) TT_ok hC ?e2 ?q2
  case e2 =>
    refine go_false ?_
    refine evSeq_go rfl (by simp [h0, h1, h2] <;> rfl) (by rfl) (by simp [fits_some, fits_none, hw, Nat.blt_eq]) ?_
    refine evSeq_go rfl (by simp [h0, h1, h2] <;> rfl) (by rfl) (by simp [fits_some, fits_none, hw, Nat.blt_eq]) ?_
    refine evSeq_go rfl (by simp [h0, h1, h2] <;> rfl) (by rfl) (by simp [fits_some, fits_none, hw, Nat.blt_eq]) ?_
    exact evSeq_nil
  refine inSeq_norm ?_
  refine Tri.condG (o := ?o3) (b := ?b3) ?g3 ?r3 ?y3 ?n3
  case g3 => simp [h0, h1, h2] <;> rfl
  case r3 => rfl
  case y3 =>
    intro hy3
    refine Tri.seq' ?_
    refine Tri.regN (t' := ?t4) (H' := ?H4) TT_ok hC ?e4 ?q4
    case e4 =>
      refine go_false ?_
      refine evSeq_go rfl (by simp [h0, h1, h2] <;> rfl) (by rfl) (by simp [fits_some, fits_none, hw, Nat.blt_eq]) ?_
      refine evSeq_go rfl (by simp [h0, h1, h2] <;> rfl) (by rfl) (by simp [fits_some, fits_none, hw, Nat.blt_eq]) ?_
      refine evSeq_go rfl (by simp [h0, h1, h2] <;> rfl) (by rfl) (by simp [fits_some, fits_none, hw, Nat.blt_eq]) ?_
      exact evSeq_nil
    refine inSeq_norm ?_
    refine Tri.ret ?_
    refine inSeq_ret ?_
    exact endsH (by simp [finish, evResults, evResult, Tryz.f11] <;> rfl) (by rfl) rfl
  case n3 =>
    intro hn3
    exact absurd hn3 (by simp [h0, h1, h2])
theorem body_1011a {call : CallF} (hC : call.Sound Tryz.prog TT) (x y : Nd) (i : Int) (p : List Int) (hz : ((p.length : Int) + 1 == 0) = false) (h1p : (1 : Int) ≤ (p.length : Int) + 1) (htk : List.take p.length (List.map (V.i .i64) p) = List.map (V.i .i64) p) (hlo : i < 0)  : HBody Tryz.prog TT 11 [x.enc, .isl 1 (encI (i :: p)), y.enc] [] (fun v _ => v = .tup [.agg [.i .i64 0, .s [], .nils], .i .i64 5]) := by
  refine ⟨Tryz.f11, _, rfl, rfl, by simp [Tryz.f11], ?_⟩
  have h0 : (Tm.init Tryz.f11.ntmps [x.enc, .isl 1 (encI (i :: p)), y.enc]).get 0 = x.enc := by rw [get_init]; rfl
  have h1 : (Tm.init Tryz.f11.ntmps [x.enc, .isl 1 (encI (i :: p)), y.enc]).get 1 = .isl 1 (encI (i :: p)) := by rw [get_init]; rfl
  have h2 : (Tm.init Tryz.f11.ntmps [x.enc, .isl 1 (encI (i :: p)), y.enc]).get 2 = y.enc := by rw [get_init]; rfl
  have hw : (Tm.init Tryz.f11.ntmps [x.enc, .isl 1 (encI (i :: p)), y.enc]).wid = 59 := rfl
  generalize Tm.init Tryz.f11.ntmps [x.enc, .isl 1 (encI (i :: p)), y.enc] = t at *
  try simp only [Nd.enc_eq] at *
  refine Tri.seq' ?_
  refine Tri.regN (t' := ?t1) (H' := ?H1) TT_ok hC ?e1 ?q1
  case e1 =>
    refine go_false ?_
    refine evSeq_go rfl (by simp [h0, h1, h2, encI, List.map_cons, Nd.encL_length, hz, h1p, htk, hlo] <;> rfl) (by rfl) (by simp [fits_some, fits_none, hw, Nat.blt_eq]) ?_
    refine evSeq_go rfl (by simp [h0, h1, h2, encI, List.map_cons, Nd.encL_length, hz, h1p, htk, hlo] <;> rfl) (by rfl) (by simp [fits_some, fits_none, hw, Nat.blt_eq]) ?_
    refine evSeq_go rfl (by simp [h0, h1, h2, encI, List.map_cons, Nd.encL_length, hz, h1p, htk, hlo] <;> rfl) (by rfl) (by simp [fits_some, fits_none, hw, Nat.blt_eq]) ?_
    refine evSeq_go rfl (by simp [h0, h1, h2, encI, List.map_cons, Nd.encL_length, hz, h1p, htk, hlo] <;> rfl) (by rfl) (by simp [fits_some, fits_none, hw, Nat.blt_eq]) ?_
    exact evSeq_nil
  refine inSeq_norm ?_
  refine Tri.seq' ?_
  refine Tri.seq' ?_
  refine Tri.regN (t' := ?t2) (H' := ?H2) TT_ok hC ?e2 ?q2
  case e2 =>
    refine go_false ?_
    refine evSeq_go rfl (by simp [h0, h1, h2, encI, List.map_cons, Nd.encL_length, hz, h1p, htk, hlo] <;> rfl) (by rfl) (by simp [fits_some, fits_none, hw, Nat.blt_eq]) ?_
    refine evSeq_go rfl (by simp [h0, h1, h2, encI, List.map_cons, Nd.encL_length, hz, h1p, htk, hlo] <;> rfl) (by rfl) (by simp [fits_some, fits_none, hw, Nat.blt_eq]) ?_
    refine evSeq_go rfl (by simp [h0, h1, h2, encI, List.map_cons, Nd.encL_length, hz, h1p, htk, hlo] <;> rfl) (by rfl) (by simp [fits_some, fits_none, hw, Nat.blt_eq]) ?_
    exact evSeq_nil
  refine inSeq_norm ?_
  refine Tri.condG (o := ?o3) (b := ?b3) ?g3 ?r3 ?y3 ?n3
  case g3 => simp [h0, h1, h2, encI, List.map_cons, Nd.encL_length, hz, h1p, htk, hlo] <;> rfl
  case r3 => rfl
  case y3 =>
    intro hy3
    exact absurd hy3 (by simp [h0, h1, h2, encI, List.map_cons, Nd.encL_length, hz, h1p, htk, hlo])
  case n3 =>
    intro hn3
    refine Tri.skip ?_
    refine inSeq_norm ?_
    refine Tri.seq' ?_
    refine Tri.seq' ?_
    refine Tri.regN (t' := ?t4) (H' := ?H4) TT_ok hC ?e4 ?q4
    case e4 =>
      refine evReg_quiet (t' := ?t4) (by kernel_rfl) ?_ ?r904
      refine QR.val rfl (by simp [h0, h1, h2, encI, List.map_cons, Nd.encL_length, hz, h1p, htk, hlo] <;> rfl) (by rfl) (by simp [fits_some, fits_none, hw, Nat.blt_eq]) ?_
      refine QR.val rfl (by simp [h0, h1, h2, encI, List.map_cons, Nd.encL_length, hz, h1p, htk, hlo] <;> rfl) (by rfl) (by simp [fits_some, fits_none, hw, Nat.blt_eq]) ?_
      refine QR.val rfl (by simp [h0, h1, h2, encI, List.map_cons, Nd.encL_length, hz, h1p, htk, hlo] <;> rfl) (by rfl) (by simp [fits_some, fits_none, hw, Nat.blt_eq]) ?_
      refine QR.val rfl (by simp [h0, h1, h2, encI, List.map_cons, Nd.encL_length, hz, h1p, htk, hlo] <;> rfl) (by rfl) (by simp [fits_some, fits_none, hw, Nat.blt_eq]) ?_
      refine QR.val rfl (by simp [h0, h1, h2, encI, List.map_cons, Nd.encL_length, hz, h1p, htk, hlo] <;> rfl) (by rfl) (by simp [fits_some, fits_none, hw, Nat.blt_eq]) ?_
      refine QR.off (by simp [wants, h0, h1, h2, encI, List.map_cons, Nd.encL_length, hz, h1p, htk, hlo]) (by simp [fits_some, fits_none, hw, Nat.blt_eq]) ?_
      refine QR.off (by simp [wants, h0, h1, h2, encI, List.map_cons, Nd.encL_length, hz, h1p, htk, hlo]) (by simp [fits_some, fits_none, hw, Nat.blt_eq]) ?_
      refine QR.off (by simp [wants, h0, h1, h2, encI, List.map_cons, Nd.encL_length, hz, h1p, htk, hlo]) (by simp [fits_some, fits_none, hw, Nat.blt_eq]) ?_
      refine QR.off (by simp [wants, h0, h1, h2, encI, List.map_cons, Nd.encL_length, hz, h1p, htk, hlo]) (by simp [fits_some, fits_none, hw, Nat.blt_eq]) ?_
      refine QR.off (by simp [wants, h0, h1, h2, encI, List.map_cons, Nd.encL_length, hz, h1p, htk, hlo]) (by simp [fits_some, fits_none, hw, Nat.blt_eq]) ?_
      refine QR.off (by simp [wants, h0, h1, h2, encI, List.map_cons, Nd.encL_length, hz, h1p, htk, hlo]) (by simp [fits_some, fits_none, hw, Nat.blt_eq]) ?_
      refine QR.off (by simp [wants, h0, h1, h2, encI, List.map_cons, Nd.encL_length, hz, h1p, htk, hlo]) (by simp [fits_some, fits_none, hw, Nat.blt_eq]) ?_
      refine QR.val rfl (by simp [h0, h1, h2, encI, List.map_cons, Nd.encL_length, hz, h1p, htk, hlo] <;> rfl) (by rfl) (by simp [fits_some, fits_none, hw, Nat.blt_eq]) ?_
      exact QR.nil
      case r904 => exact rfl
    refine inSeq_norm ?_
    refine Tri.condG (o := ?o5) (b := ?b5) ?g5 ?r5 ?y5 ?n5
    case g5 => simp [h0, h1, h2, encI, List.map_cons, Nd.encL_length, hz, h1p, htk, hlo] <;> rfl
    case r5 => rfl
    case y5 =>
      intro hy5
      refine Tri.seq' ?_
      refine Tri.regN (t' := ?t6) (H' := ?H6) TT_ok hC ?e6 ?q6
      case e6 =>
        refine go_false ?_
        refine evSeq_go rfl (by simp [h0, h1, h2, encI, List.map_cons, Nd.encL_length, hz, h1p, htk, hlo] <;> rfl) (by rfl) (by simp [fits_some, fits_none, hw, Nat.blt_eq]) ?_
        refine evSeq_go rfl (by simp [h0, h1, h2, encI, List.map_cons, Nd.encL_length, hz, h1p, htk, hlo] <;> rfl) (by rfl) (by simp [fits_some, fits_none, hw, Nat.blt_eq]) ?_
        refine evSeq_go rfl (by simp [h0, h1, h2, encI, List.map_cons, Nd.encL_length, hz, h1p, htk, hlo] <;> rfl) (by rfl) (by simp [fits_some, fits_none, hw, Nat.blt_eq]) ?_
        exact evSeq_nil
      refine inSeq_norm ?_
      refine Tri.ret ?_
      refine inSeq_ret ?_
      exact endsH (by simp [finish, evResults, evResult, Tryz.f11] <;> rfl) (by rfl) rfl
    case n5 =>
      intro hn5
      exact absurd hn5 (by simp [h0, h1, h2, encI, List.map_cons, Nd.encL_length, hz, h1p, htk, hlo])
theorem body_1011b {call : CallF} (hC : call.Sound Tryz.prog TT) (x y : Nd) (i : Int) (p : List Int) (hz : ((p.length : Int) + 1 == 0) = false) (h1p : (1 : Int) ≤ (p.length : Int) + 1) (htk : List.take p.length (List.map (V.i .i64) p) = List.map (V.i .i64) p) (hlo : ¬ i < 0) (hhi : (x.kids.length : Int) ≤ i)  : HBody Tryz.prog TT 11 [x.enc, .isl 1 (encI (i :: p)), y.enc] [] (fun v _ => v = .tup [.agg [.i .i64 0, .s [], .nils], .i .i64 5]) := by
  refine ⟨Tryz.f11, _, rfl, rfl, by simp [Tryz.f11], ?_⟩
  have h0 : (Tm.init Tryz.f11.ntmps [x.enc, .isl 1 (encI (i :: p)), y.enc]).get 0 = x.enc := by rw [get_init]; rfl
  have h1 : (Tm.init Tryz.f11.ntmps [x.enc, .isl 1 (encI (i :: p)), y.enc]).get 1 = .isl 1 (encI (i :: p)) := by rw [get_init]; rfl
  have h2 : (Tm.init Tryz.f11.ntmps [x.enc, .isl 1 (encI (i :: p)), y.enc]).get 2 = y.enc := by rw [get_init]; rfl
  have hw : (Tm.init Tryz.f11.ntmps [x.enc, .isl 1 (encI (i :: p)), y.enc]).wid = 59 := rfl
  generalize Tm.init Tryz.f11.ntmps [x.enc, .isl 1 (encI (i :: p)), y.enc] = t at *
  try simp only [Nd.enc_eq] at *
  refine Tri.seq' ?_
  refine Tri.regN (t' := ?t1) (H' := ?H1) TT_ok hC ?e1 ?q1
  case e1 =>
    refine go_false ?_
    refine evSeq_go rfl (by simp [h0, h1, h2, encI, List.map_cons, Nd.encL_length, hz, h1p, htk, hlo, hhi] <;> rfl) (by rfl) (by simp [fits_some, fits_none, hw, Nat.blt_eq]) ?_
    refine evSeq_go rfl (by simp [h0, h1, h2, encI, List.map_cons, Nd.encL_length, hz, h1p, htk, hlo, hhi] <;> rfl) (by rfl) (by simp [fits_some, fits_none, hw, Nat.blt_eq]) ?_
    refine evSeq_go rfl (by simp [h0, h1, h2, encI, List.map_cons, Nd.encL_length, hz, h1p, htk, hlo, hhi] <;> rfl) (by rfl) (by simp [fits_some, fits_none, hw, Nat.blt_eq]) ?_
    refine evSeq_go rfl (by simp [h0, h1, h2, encI, List.map_cons, Nd.encL_length, hz, h1p, htk, hlo, hhi] <;> rfl) (by rfl) (by simp [fits_some, fits_none, hw, Nat.blt_eq]) ?_
    exact evSeq_nil
  refine inSeq_norm ?_
  refine Tri.seq' ?_
  refine Tri.seq' ?_
  refine Tri.regN (t' := ?t2) (H' := ?H2) TT_ok hC ?e2 ?q2
  case e2 =>
    refine go_false ?_
    refine evSeq_go rfl (by simp [h0, h1, h2, encI, List.map_cons, Nd.encL_length, hz, h1p, htk, hlo, hhi] <;> rfl) (by rfl) (by simp [fits_some, fits_none, hw, Nat.blt_eq]) ?_
    refine evSeq_go rfl (by simp [h0, h1, h2, encI, List.map_cons, Nd.encL_length, hz, h1p, htk, hlo, hhi] <;> rfl) (by rfl) (by simp [fits_some, fits_none, hw, Nat.blt_eq]) ?_
    refine evSeq_go rfl (by simp [h0, h1, h2, encI, List.map_cons, Nd.encL_length, hz, h1p, htk, hlo, hhi] <;> rfl) (by rfl) (by simp [fits_some, fits_none, hw, Nat.blt_eq]) ?_
    exact evSeq_nil
  refine inSeq_norm ?_
  refine Tri.condG (o := ?o3) (b := ?b3) ?g3 ?r3 ?y3 ?n3
  case g3 => simp [h0, h1, h2, encI, List.map_cons, Nd.encL_length, hz, h1p, htk, hlo, hhi] <;> rfl
  case r3 => rfl
  case y3 =>
    intro hy3
    exact absurd hy3 (by simp [h0, h1, h2, encI, List.map_cons, Nd.encL_length, hz, h1p, htk, hlo, hhi])
  case n3 =>
    intro hn3
    refine Tri.skip ?_
    refine inSeq_norm ?_
    refine Tri.seq' ?_
    refine Tri.seq' ?_
    refine Tri.regN (t' := ?t4) (H' := ?H4) TT_ok hC ?e4 ?q4
    case e4 =>
      refine evReg_quiet (t' := ?t4) (by kernel_rfl) ?_ ?r904
      refine QR.val rfl (by simp [h0, h1, h2, encI, List.map_cons, Nd.encL_length, hz, h1p, htk, hlo, hhi] <;> rfl) (by rfl) (by simp [fits_some, fits_none, hw, Nat.blt_eq]) ?_
      refine QR.val rfl (by simp [h0, h1, h2, encI, List.map_cons, Nd.encL_length, hz, h1p, htk, hlo, hhi] <;> rfl) (by rfl) (by simp [fits_some, fits_none, hw, Nat.blt_eq]) ?_
      refine QR.val rfl (by simp [h0, h1, h2, encI, List.map_cons, Nd.encL_length, hz, h1p, htk, hlo, hhi] <;> rfl) (by rfl) (by simp [fits_some, fits_none, hw, Nat.blt_eq]) ?_
      refine QR.val rfl (by simp [h0, h1, h2, encI, List.map_cons, Nd.encL_length, hz, h1p, htk, hlo, hhi] <;> rfl) (by rfl) (by simp [fits_some, fits_none, hw, Nat.blt_eq]) ?_
      refine QR.val rfl (by simp [h0, h1, h2, encI, List.map_cons, Nd.encL_length, hz, h1p, htk, hlo, hhi] <;> rfl) (by rfl) (by simp [fits_some, fits_none, hw, Nat.blt_eq]) ?_
      refine QR.val (by simp [wants, h0, h1, h2, encI, List.map_cons, Nd.encL_length, hz, h1p, htk, hlo, hhi]) (by simp [h0, h1, h2, encI, List.map_cons, Nd.encL_length, hz, h1p, htk, hlo, hhi] <;> rfl) (by rfl) (by simp [fits_some, fits_none, hw, Nat.blt_eq]) ?_
      refine QR.val (by simp [wants, h0, h1, h2, encI, List.map_cons, Nd.encL_length, hz, h1p, htk, hlo, hhi]) (by simp [h0, h1, h2, encI, List.map_cons, Nd.encL_length, hz, h1p, htk, hlo, hhi] <;> rfl) (by rfl) (by simp [fits_some, fits_none, hw, Nat.blt_eq]) ?_
      refine QR.val (by simp [wants, h0, h1, h2, encI, List.map_cons, Nd.encL_length, hz, h1p, htk, hlo, hhi]) (by simp [h0, h1, h2, encI, List.map_cons, Nd.encL_length, hz, h1p, htk, hlo, hhi] <;> rfl) (by rfl) (by simp [fits_some, fits_none, hw, Nat.blt_eq]) ?_
      refine QR.val (by simp [wants, h0, h1, h2, encI, List.map_cons, Nd.encL_length, hz, h1p, htk, hlo, hhi]) (by simp [h0, h1, h2, encI, List.map_cons, Nd.encL_length, hz, h1p, htk, hlo, hhi] <;> rfl) (by rfl) (by simp [fits_some, fits_none, hw, Nat.blt_eq]) ?_
      refine QR.val (by simp [wants, h0, h1, h2, encI, List.map_cons, Nd.encL_length, hz, h1p, htk, hlo, hhi]) (by simp [h0, h1, h2, encI, List.map_cons, Nd.encL_length, hz, h1p, htk, hlo, hhi] <;> rfl) (by rfl) (by simp [fits_some, fits_none, hw, Nat.blt_eq]) ?_
      refine QR.val (by simp [wants, h0, h1, h2, encI, List.map_cons, Nd.encL_length, hz, h1p, htk, hlo, hhi]) (by simp [h0, h1, h2, encI, List.map_cons, Nd.encL_length, hz, h1p, htk, hlo, hhi] <;> rfl) (by rfl) (by simp [fits_some, fits_none, hw, Nat.blt_eq]) ?_
      refine QR.val (by simp [wants, h0, h1, h2, encI, List.map_cons, Nd.encL_length, hz, h1p, htk, hlo, hhi]) (by simp [h0, h1, h2, encI, List.map_cons, Nd.encL_length, hz, h1p, htk, hlo, hhi] <;> rfl) (by rfl) (by simp [fits_some, fits_none, hw, Nat.blt_eq]) ?_
      refine QR.val rfl (by simp [h0, h1, h2, encI, List.map_cons, Nd.encL_length, hz, h1p, htk, hlo, hhi] <;> rfl) (by rfl) (by simp [fits_some, fits_none, hw, Nat.blt_eq]) ?_
      exact QR.nil
      case r904 => exact rfl
    refine inSeq_norm ?_
    refine Tri.condG (o := ?o5) (b := ?b5) ?g5 ?r5 ?y5 ?n5
    case g5 => simp [h0, h1, h2, encI, List.map_cons, Nd.encL_length, hz, h1p, htk, hlo, hhi] <;> rfl
    case r5 => rfl
    case y5 =>
      intro hy5
      refine Tri.seq' ?_
      refine Tri.regN (t' := ?t6) (H' := ?H6) TT_ok hC ?e6 ?q6
      case e6 =>
        refine go_false ?_
        refine evSeq_go rfl (by simp [h0, h1, h2, encI, List.map_cons, Nd.encL_length, hz, h1p, htk, hlo, hhi] <;> rfl) (by rfl) (by simp [fits_some, fits_none, hw, Nat.blt_eq]) ?_
        refine evSeq_go rfl (by simp [h0, h1, h2, encI, List.map_cons, Nd.encL_length, hz, h1p, htk, hlo, hhi] <;> rfl) (by rfl) (by simp [fits_some, fits_none, hw, Nat.blt_eq]) ?_
        refine evSeq_go rfl (by simp [h0, h1, h2, encI, List.map_cons, Nd.encL_length, hz, h1p, htk, hlo, hhi] <;> rfl) (by rfl) (by simp [fits_some, fits_none, hw, Nat.blt_eq]) ?_
        exact evSeq_nil
      refine inSeq_norm ?_
      refine Tri.ret ?_
      refine inSeq_ret ?_
      exact endsH (by simp [finish, evResults, evResult, Tryz.f11] <;> rfl) (by rfl) rfl
    case n5 =>
      intro hn5
      exact absurd hn5 (by simp [h0, h1, h2, encI, List.map_cons, Nd.encL_length, hz, h1p, htk, hlo, hhi])
theorem body_1011c {call : CallF} (hC : call.Sound Tryz.prog TT) (x y : Nd) (i : Int) (p : List Int) (hz : ((p.length : Int) + 1 == 0) = false) (h1p : (1 : Int) ≤ (p.length : Int) + 1) (htk : List.take p.length (List.map (V.i .i64) p) = List.map (V.i .i64) p) (hlo : 0 ≤ i) (hlo2 : ¬ i < 0) (hhi : i < x.kids.length) (hhi2 : ¬ (x.kids.length : Int) ≤ i) (k : Nd) (hik : (Nd.encL x.kids)[i.toNat]? = some (.agg [.i .i64 k.kind, .s k.text, .isl 3 (Nd.encL k.kids)])) (hik2 : ∀ h, (Nd.encL x.kids)[i.toNat]'h = .agg [.i .i64 k.kind, .s k.text, .isl 3 (Nd.encL k.kids)]) (hrec : ∀ K, call 11 [.agg [.i .i64 k.kind, .s k.text, .isl 3 (Nd.encL k.kids)], .isl 1 (p.map (V.i .i64)), .agg [.i .i64 y.kind, .s y.text, .isl 3 (Nd.encL y.kids)]] K = .val (.tup [.agg [.i .i64 0, .s [], .isl 3 []], .i .i64 5]) K)  : HBody Tryz.prog TT 11 [x.enc, .isl 1 (encI (i :: p)), y.enc] [] (fun v _ => v = .tup [.agg [.i .i64 0, .s [], .nils], .i .i64 5]) := by
  refine ⟨Tryz.f11, _, rfl, rfl, by simp [Tryz.f11], ?_⟩
  have h0 : (Tm.init Tryz.f11.ntmps [x.enc, .isl 1 (encI (i :: p)), y.enc]).get 0 = x.enc := by rw [get_init]; rfl
  have h1 : (Tm.init Tryz.f11.ntmps [x.enc, .isl 1 (encI (i :: p)), y.enc]).get 1 = .isl 1 (encI (i :: p)) := by rw [get_init]; rfl
  have h2 : (Tm.init Tryz.f11.ntmps [x.enc, .isl 1 (encI (i :: p)), y.enc]).get 2 = y.enc := by rw [get_init]; rfl
  have hw : (Tm.init Tryz.f11.ntmps [x.enc, .isl 1 (encI (i :: p)), y.enc]).wid = 59 := rfl
  generalize Tm.init Tryz.f11.ntmps [x.enc, .isl 1 (encI (i :: p)), y.enc] = t at *
  try simp only [Nd.enc_eq] at *
  refine Tri.seq' ?_
  refine Tri.regN (t' := ?t1) (H' := ?H1) TT_ok hC ?e1 ?q1
  case e1 =>
    refine go_false ?_
    refine evSeq_go rfl (by simp [h0, h1, h2, encI, List.map_cons, Nd.encL_length, hz, h1p, htk, hlo, hlo2, hhi, hhi2, hik, hik2, hrec] <;> rfl) (by rfl) (by simp [fits_some, fits_none, hw, Nat.blt_eq]) ?_
    refine evSeq_go rfl (by simp [h0, h1, h2, encI, List.map_cons, Nd.encL_length, hz, h1p, htk, hlo, hlo2, hhi, hhi2, hik, hik2, hrec] <;> rfl) (by rfl) (by simp [fits_some, fits_none, hw, Nat.blt_eq]) ?_
    refine evSeq_go rfl (by simp [h0, h1, h2, encI, List.map_cons, Nd.encL_length, hz, h1p, htk, hlo, hlo2, hhi, hhi2, hik, hik2, hrec] <;> rfl) (by rfl) (by simp [fits_some, fits_none, hw, Nat.blt_eq]) ?_
    refine evSeq_go rfl (by simp [h0, h1, h2, encI, List.map_cons, Nd.encL_length, hz, h1p, htk, hlo, hlo2, hhi, hhi2, hik, hik2, hrec] <;> rfl) (by rfl) (by simp [fits_some, fits_none, hw, Nat.blt_eq]) ?_
    exact evSeq_nil
  refine inSeq_norm ?_
  refine Tri.seq' ?_
  refine Tri.seq' ?_
  refine Tri.regN (t' := ?t2) (H' := ?H2) TT_ok hC ?e2 ?q2
  case e2 =>
    refine go_false ?_
    refine evSeq_go rfl (by simp [h0, h1, h2, encI, List.map_cons, Nd.encL_length, hz, h1p, htk, hlo, hlo2, hhi, hhi2, hik, hik2, hrec] <;> rfl) (by rfl) (by simp [fits_some, fits_none, hw, Nat.blt_eq]) ?_
    refine evSeq_go rfl (by simp [h0, h1, h2, encI, List.map_cons, Nd.encL_length, hz, h1p, htk, hlo, hlo2, hhi, hhi2, hik, hik2, hrec] <;> rfl) (by rfl) (by simp [fits_some, fits_none, hw, Nat.blt_eq]) ?_
    refine evSeq_go rfl (by simp [h0, h1, h2, encI, List.map_cons, Nd.encL_length, hz, h1p, htk, hlo, hlo2, hhi, hhi2, hik, hik2, hrec] <;> rfl) (by rfl) (by simp [fits_some, fits_none, hw, Nat.blt_eq]) ?_
    exact evSeq_nil
  refine inSeq_norm ?_
  refine Tri.condG (o := ?o3) (b := ?b3) ?g3 ?r3 ?y3 ?n3
  case g3 => simp [h0, h1, h2, encI, List.map_cons, Nd.encL_length, hz, h1p, htk, hlo, hlo2, hhi, hhi2, hik, hik2, hrec] <;> rfl
  case r3 => rfl
  case y3 =>
    intro hy3
    exact absurd hy3 (by simp [h0, h1, h2, encI, List.map_cons, Nd.encL_length, hz, h1p, htk, hlo, hlo2, hhi, hhi2, hik, hik2, hrec])
  case n3 =>
    intro hn3
    refine Tri.skip ?_
    refine inSeq_norm ?_
    refine Tri.seq' ?_
    refine Tri.seq' ?_
    refine Tri.regN (t' := ?t4) (H' := ?H4) TT_ok hC ?e4 ?q4
    case e4 =>
      refine evReg_quiet (t' := ?t4) (by kernel_rfl) ?_ ?r904
      refine QR.val rfl (by simp [h0, h1, h2, encI, List.map_cons, Nd.encL_length, hz, h1p, htk, hlo, hlo2, hhi, hhi2, hik, hik2, hrec] <;> rfl) (by rfl) (by simp [fits_some, fits_none, hw, Nat.blt_eq]) ?_
      refine QR.val rfl (by simp [h0, h1, h2, encI, List.map_cons, Nd.encL_length, hz, h1p, htk, hlo, hlo2, hhi, hhi2, hik, hik2, hrec] <;> rfl) (by rfl) (by simp [fits_some, fits_none, hw, Nat.blt_eq]) ?_
      refine QR.val rfl (by simp [h0, h1, h2, encI, List.map_cons, Nd.encL_length, hz, h1p, htk, hlo, hlo2, hhi, hhi2, hik, hik2, hrec] <;> rfl) (by rfl) (by simp [fits_some, fits_none, hw, Nat.blt_eq]) ?_
      refine QR.val rfl (by simp [h0, h1, h2, encI, List.map_cons, Nd.encL_length, hz, h1p, htk, hlo, hlo2, hhi, hhi2, hik, hik2, hrec] <;> rfl) (by rfl) (by simp [fits_some, fits_none, hw, Nat.blt_eq]) ?_
      refine QR.val rfl (by simp [h0, h1, h2, encI, List.map_cons, Nd.encL_length, hz, h1p, htk, hlo, hlo2, hhi, hhi2, hik, hik2, hrec] <;> rfl) (by rfl) (by simp [fits_some, fits_none, hw, Nat.blt_eq]) ?_
      refine QR.val (by simp [wants, h0, h1, h2, encI, List.map_cons, Nd.encL_length, hz, h1p, htk, hlo, hlo2, hhi, hhi2, hik, hik2, hrec]) (by simp [h0, h1, h2, encI, List.map_cons, Nd.encL_length, hz, h1p, htk, hlo, hlo2, hhi, hhi2, hik, hik2, hrec] <;> rfl) (by rfl) (by simp [fits_some, fits_none, hw, Nat.blt_eq]) ?_
      refine QR.val (by simp [wants, h0, h1, h2, encI, List.map_cons, Nd.encL_length, hz, h1p, htk, hlo, hlo2, hhi, hhi2, hik, hik2, hrec]) (by simp [h0, h1, h2, encI, List.map_cons, Nd.encL_length, hz, h1p, htk, hlo, hlo2, hhi, hhi2, hik, hik2, hrec] <;> rfl) (by rfl) (by simp [fits_some, fits_none, hw, Nat.blt_eq]) ?_
      refine QR.val (by simp [wants, h0, h1, h2, encI, List.map_cons, Nd.encL_length, hz, h1p, htk, hlo, hlo2, hhi, hhi2, hik, hik2, hrec]) (by simp [h0, h1, h2, encI, List.map_cons, Nd.encL_length, hz, h1p, htk, hlo, hlo2, hhi, hhi2, hik, hik2, hrec] <;> rfl) (by rfl) (by simp [fits_some, fits_none, hw, Nat.blt_eq]) ?_
      refine QR.val (by simp [wants, h0, h1, h2, encI, List.map_cons, Nd.encL_length, hz, h1p, htk, hlo, hlo2, hhi, hhi2, hik, hik2, hrec]) (by simp [h0, h1, h2, encI, List.map_cons, Nd.encL_length, hz, h1p, htk, hlo, hlo2, hhi, hhi2, hik, hik2, hrec] <;> rfl) (by rfl) (by simp [fits_some, fits_none, hw, Nat.blt_eq]) ?_
      refine QR.val (by simp [wants, h0, h1, h2, encI, List.map_cons, Nd.encL_length, hz, h1p, htk, hlo, hlo2, hhi, hhi2, hik, hik2, hrec]) (by simp [h0, h1, h2, encI, List.map_cons, Nd.encL_length, hz, h1p, htk, hlo, hlo2, hhi, hhi2, hik, hik2, hrec] <;> rfl) (by rfl) (by simp [fits_some, fits_none, hw, Nat.blt_eq]) ?_
      refine QR.val (by simp [wants, h0, h1, h2, encI, List.map_cons, Nd.encL_length, hz, h1p, htk, hlo, hlo2, hhi, hhi2, hik, hik2, hrec]) (by simp [h0, h1, h2, encI, List.map_cons, Nd.encL_length, hz, h1p, htk, hlo, hlo2, hhi, hhi2, hik, hik2, hrec] <;> rfl) (by rfl) (by simp [fits_some, fits_none, hw, Nat.blt_eq]) ?_
      refine QR.val (by simp [wants, h0, h1, h2, encI, List.map_cons, Nd.encL_length, hz, h1p, htk, hlo, hlo2, hhi, hhi2, hik, hik2, hrec]) (by simp [h0, h1, h2, encI, List.map_cons, Nd.encL_length, hz, h1p, htk, hlo, hlo2, hhi, hhi2, hik, hik2, hrec] <;> rfl) (by rfl) (by simp [fits_some, fits_none, hw, Nat.blt_eq]) ?_
      refine QR.val rfl (by simp [h0, h1, h2, encI, List.map_cons, Nd.encL_length, hz, h1p, htk, hlo, hlo2, hhi, hhi2, hik, hik2, hrec] <;> rfl) (by rfl) (by simp [fits_some, fits_none, hw, Nat.blt_eq]) ?_
      exact QR.nil
      case r904 => exact rfl
    refine inSeq_norm ?_
    refine Tri.condG (o := ?o5) (b := ?b5) ?g5 ?r5 ?y5 ?n5
    case g5 => simp [h0, h1, h2, encI, List.map_cons, Nd.encL_length, hz, h1p, htk, hlo, hlo2, hhi, hhi2, hik, hik2, hrec] <;> rfl
    case r5 => rfl
    case y5 =>
      intro hy5
      exact absurd hy5 (by simp [h0, h1, h2, encI, List.map_cons, Nd.encL_length, hz, h1p, htk, hlo, hlo2, hhi, hhi2, hik, hik2, hrec])
    case n5 =>
      intro hn5
      refine Tri.skip ?_
      refine inSeq_norm ?_
      refine Tri.seq' ?_
      refine Tri.regN (t' := ?t6) (H' := ?H6) TT_ok hC ?e6 ?q6
      case e6 =>
        refine evReg_draw (t' := ?t6) (H' := ?H6) (ks := [.q, .a, .q, .q, .a, .q, .a, .q, .q, .a, .a, .q, .q, .q, .e, .e, .q]) (fun K => K[0]? = some (some ⟨24, [.i .i64 x.kind, .s x.text, .isl 3 (Nd.encL x.kids)], .all⟩) ∧ K[1]? = some (some ⟨24, [.i .i64 y.kind, .s y.text, .isl 3 (Nd.encL y.kids)], .all⟩)) (by kernel_rfl) ?A906 ?_ ?r906
        case A906 => simp [h0, h1, h2, encI, List.map_cons, Nd.encL_length, hz, h1p, htk, hlo, hlo2, hhi, hhi2, hik, hik2, hrec]
        refine DR.blind rfl rfl (by simp [h0, h1, h2, encI, List.map_cons, Nd.encL_length, hz, h1p, htk, hlo, hlo2, hhi, hhi2, hik, hik2, hrec] <;> rfl) (by rfl) (by simp [fits_some, fits_none, hw, Nat.blt_eq]) ?_
        refine DR.any rfl (by simp [h0, h1, h2, encI, List.map_cons, Nd.encL_length, hz, h1p, htk, hlo, hlo2, hhi, hhi2, hik, hik2, hrec] <;> rfl) (by rfl) (by simp [fits_some, fits_none, hw, Nat.blt_eq]) (by intro K hK; simp [h0, h1, h2, encI, List.map_cons, Nd.encL_length, hz, h1p, htk, hlo, hlo2, hhi, hhi2, hik, hik2, hrec, hK] <;> rfl) ?_
        refine DR.blind rfl rfl (by simp [h0, h1, h2, encI, List.map_cons, Nd.encL_length, hz, h1p, htk, hlo, hlo2, hhi, hhi2, hik, hik2, hrec] <;> rfl) (by rfl) (by simp [fits_some, fits_none, hw, Nat.blt_eq]) ?_
        refine DR.blind rfl rfl (by simp [h0, h1, h2, encI, List.map_cons, Nd.encL_length, hz, h1p, htk, hlo, hlo2, hhi, hhi2, hik, hik2, hrec] <;> rfl) (by rfl) (by simp [fits_some, fits_none, hw, Nat.blt_eq]) ?_
        refine DR.any rfl (by simp [h0, h1, h2, encI, List.map_cons, Nd.encL_length, hz, h1p, htk, hlo, hlo2, hhi, hhi2, hik, hik2, hrec] <;> rfl) (by rfl) (by simp [fits_some, fits_none, hw, Nat.blt_eq]) (by intro K hK; simp [h0, h1, h2, encI, List.map_cons, Nd.encL_length, hz, h1p, htk, hlo, hlo2, hhi, hhi2, hik, hik2, hrec, hK] <;> rfl) ?_
        refine DR.blind rfl rfl (by simp [h0, h1, h2, encI, List.map_cons, Nd.encL_length, hz, h1p, htk, hlo, hlo2, hhi, hhi2, hik, hik2, hrec] <;> rfl) (by rfl) (by simp [fits_some, fits_none, hw, Nat.blt_eq]) ?_
        refine DR.any rfl (by simp [h0, h1, h2, encI, List.map_cons, Nd.encL_length, hz, h1p, htk, hlo, hlo2, hhi, hhi2, hik, hik2, hrec] <;> rfl) (by rfl) (by simp [fits_some, fits_none, hw, Nat.blt_eq]) (by intro K hK; simp [h0, h1, h2, encI, List.map_cons, Nd.encL_length, hz, h1p, htk, hlo, hlo2, hhi, hhi2, hik, hik2, hrec, hK] <;> rfl) ?_
        refine DR.blind rfl rfl (by simp [h0, h1, h2, encI, List.map_cons, Nd.encL_length, hz, h1p, htk, hlo, hlo2, hhi, hhi2, hik, hik2, hrec] <;> rfl) (by rfl) (by simp [fits_some, fits_none, hw, Nat.blt_eq]) ?_
        refine DR.blind rfl rfl (by simp [h0, h1, h2, encI, List.map_cons, Nd.encL_length, hz, h1p, htk, hlo, hlo2, hhi, hhi2, hik, hik2, hrec] <;> rfl) (by rfl) (by simp [fits_some, fits_none, hw, Nat.blt_eq]) ?_
        refine DR.any rfl (by simp [h0, h1, h2, encI, List.map_cons, Nd.encL_length, hz, h1p, htk, hlo, hlo2, hhi, hhi2, hik, hik2, hrec] <;> rfl) (by rfl) (by simp [fits_some, fits_none, hw, Nat.blt_eq]) (by intro K hK; simp [h0, h1, h2, encI, List.map_cons, Nd.encL_length, hz, h1p, htk, hlo, hlo2, hhi, hhi2, hik, hik2, hrec, hK] <;> rfl) ?_
        refine DR.any rfl (by simp [h0, h1, h2, encI, List.map_cons, Nd.encL_length, hz, h1p, htk, hlo, hlo2, hhi, hhi2, hik, hik2, hrec] <;> rfl) (by rfl) (by simp [fits_some, fits_none, hw, Nat.blt_eq]) (by intro K hK; simp [h0, h1, h2, encI, List.map_cons, Nd.encL_length, hz, h1p, htk, hlo, hlo2, hhi, hhi2, hik, hik2, hrec, hK] <;> rfl) ?_
        refine DR.blind rfl rfl (by simp [h0, h1, h2, encI, List.map_cons, Nd.encL_length, hz, h1p, htk, hlo, hlo2, hhi, hhi2, hik, hik2, hrec] <;> rfl) (by rfl) (by simp [fits_some, fits_none, hw, Nat.blt_eq]) ?_
        refine DR.blind rfl rfl (by simp [h0, h1, h2, encI, List.map_cons, Nd.encL_length, hz, h1p, htk, hlo, hlo2, hhi, hhi2, hik, hik2, hrec] <;> rfl) (by rfl) (by simp [fits_some, fits_none, hw, Nat.blt_eq]) ?_
        refine DR.blind rfl rfl (by simp [h0, h1, h2, encI, List.map_cons, Nd.encL_length, hz, h1p, htk, hlo, hlo2, hhi, hhi2, hik, hik2, hrec] <;> rfl) (by rfl) (by simp [fits_some, fits_none, hw, Nat.blt_eq]) ?_
        refine DR.eff rfl rfl (by simp [h0, h1, h2, encI, List.map_cons, Nd.encL_length, hz, h1p, htk, hlo, hlo2, hhi, hhi2, hik, hik2, hrec] <;> rfl) (by rfl) (by simp [fits_some, fits_none, hw, Nat.blt_eq]) (by simp [h0, h1, h2, encI, List.map_cons, Nd.encL_length, hz, h1p, htk, hlo, hlo2, hhi, hhi2, hik, hik2, hrec]) ?_
        refine DR.eff rfl rfl (by simp [h0, h1, h2, encI, List.map_cons, Nd.encL_length, hz, h1p, htk, hlo, hlo2, hhi, hhi2, hik, hik2, hrec] <;> rfl) (by rfl) (by simp [fits_some, fits_none, hw, Nat.blt_eq]) (by simp [h0, h1, h2, encI, List.map_cons, Nd.encL_length, hz, h1p, htk, hlo, hlo2, hhi, hhi2, hik, hik2, hrec]) ?_
        refine DR.blind rfl rfl (by simp [h0, h1, h2, encI, List.map_cons, Nd.encL_length, hz, h1p, htk, hlo, hlo2, hhi, hhi2, hik, hik2, hrec] <;> rfl) (by rfl) (by simp [fits_some, fits_none, hw, Nat.blt_eq]) ?_
        exact DR.nil
        case r906 => exact rfl
      refine inSeq_norm ?_
      refine Tri.seq' ?_
      refine Tri.seq' ?_
      refine Tri.regN (t' := ?t7) (H' := ?H7) TT_ok hC ?e7 ?q7
      case e7 =>
        refine go_false ?_
        refine evSeq_go rfl (by simp [h0, h1, h2, encI, List.map_cons, Nd.encL_length, hz, h1p, htk, hlo, hlo2, hhi, hhi2, hik, hik2, hrec] <;> rfl) (by rfl) (by simp [fits_some, fits_none, hw, Nat.blt_eq]) ?_
        refine evSeq_go rfl (by simp [h0, h1, h2, encI, List.map_cons, Nd.encL_length, hz, h1p, htk, hlo, hlo2, hhi, hhi2, hik, hik2, hrec] <;> rfl) (by rfl) (by simp [fits_some, fits_none, hw, Nat.blt_eq]) ?_
        exact evSeq_nil
      refine inSeq_norm ?_
      refine Tri.condG (o := ?o8) (b := ?b8) ?g8 ?r8 ?y8 ?n8
      case g8 => simp [h0, h1, h2, encI, List.map_cons, Nd.encL_length, hz, h1p, htk, hlo, hlo2, hhi, hhi2, hik, hik2, hrec] <;> rfl
      case r8 => rfl
      case y8 =>
        intro hy8
        refine Tri.seq' ?_
        refine Tri.regN (t' := ?t9) (H' := ?H9) TT_ok hC ?e9 ?q9
        case e9 =>
          refine go_false ?_
          refine evSeq_go rfl (by simp [h0, h1, h2, encI, List.map_cons, Nd.encL_length, hz, h1p, htk, hlo, hlo2, hhi, hhi2, hik, hik2, hrec] <;> rfl) (by rfl) (by simp [fits_some, fits_none, hw, Nat.blt_eq]) ?_
          refine evSeq_go rfl (by simp [h0, h1, h2, encI, List.map_cons, Nd.encL_length, hz, h1p, htk, hlo, hlo2, hhi, hhi2, hik, hik2, hrec] <;> rfl) (by rfl) (by simp [fits_some, fits_none, hw, Nat.blt_eq]) ?_
          refine evSeq_go rfl (by simp [h0, h1, h2, encI, List.map_cons, Nd.encL_length, hz, h1p, htk, hlo, hlo2, hhi, hhi2, hik, hik2, hrec] <;> rfl) (by rfl) (by simp [fits_some, fits_none, hw, Nat.blt_eq]) ?_
          refine evSeq_go rfl (by simp [h0, h1, h2, encI, List.map_cons, Nd.encL_length, hz, h1p, htk, hlo, hlo2, hhi, hhi2, hik, hik2, hrec] <;> rfl) (by rfl) (by simp [fits_some, fits_none, hw, Nat.blt_eq]) ?_
          exact evSeq_nil
        refine inSeq_norm ?_
        refine Tri.ret ?_
        refine inSeq_ret ?_
        exact endsH (by simp [finish, evResults, evResult, Tryz.f11] <;> rfl) (by rfl) rfl
      case n8 =>
        intro hn8
        exact absurd hn8 (by simp [h0, h1, h2, encI, List.map_cons, Nd.encL_length, hz, h1p, htk, hlo, hlo2, hhi, hhi2, hik, hik2, hrec])
theorem body_1011d {call : CallF} (hC : call.Sound Tryz.prog TT) (x y : Nd) (i : Int) (p : List Int) (hz : ((p.length : Int) + 1 == 0) = false) (h1p : (1 : Int) ≤ (p.length : Int) + 1) (htk : List.take p.length (List.map (V.i .i64) p) = List.map (V.i .i64) p) (hlo : 0 ≤ i) (hlo2 : ¬ i < 0) (hhi : i < x.kids.length) (hhi2 : ¬ (x.kids.length : Int) ≤ i) (k : Nd) (hik : (Nd.encL x.kids)[i.toNat]? = some (.agg [.i .i64 k.kind, .s k.text, .isl 3 (Nd.encL k.kids)])) (hik2 : ∀ h, (Nd.encL x.kids)[i.toNat]'h = .agg [.i .i64 k.kind, .s k.text, .isl 3 (Nd.encL k.kids)]) (z : Nd) (hrec : ∀ K, call 11 [.agg [.i .i64 k.kind, .s k.text, .isl 3 (Nd.encL k.kids)], .isl 1 (p.map (V.i .i64)), .agg [.i .i64 y.kind, .s y.text, .isl 3 (Nd.encL y.kids)]] K = .val (.tup [.agg [.i .i64 z.kind, .s z.text, .isl 3 (Nd.encL z.kids)], .i .i64 0]) K) (hap : evAppend TT 22 (.sl 4 3 0 0 (some 0)) (.isl 3 (Nd.encL x.kids)) [some ⟨24, [.i .i64 x.kind, .s x.text, .isl 3 (Nd.encL x.kids)], .all⟩, some ⟨24, [.i .i64 y.kind, .s y.text, .isl 3 (Nd.encL y.kids)], .all⟩, some ⟨24, [.i .i64 0, .s [], .nils], .all⟩, some ⟨24, [.i .i64 z.kind, .s z.text, .isl 3 (Nd.encL z.kids)], .all⟩, some ⟨24, [], .all⟩] = .val (.sl 5 3 0 x.kids.length none) [some ⟨24, [.i .i64 x.kind, .s x.text, .isl 3 (Nd.encL x.kids)], .all⟩, some ⟨24, [.i .i64 y.kind, .s y.text, .isl 3 (Nd.encL y.kids)], .all⟩, some ⟨24, [.i .i64 0, .s [], .nils], .all⟩, some ⟨24, [.i .i64 z.kind, .s z.text, .isl 3 (Nd.encL z.kids)], .all⟩, some ⟨24, [], .all⟩, some ⟨24, cellsN x.kids, .more⟩]) (hle : i.toNat * 3 + 3 ≤ (cellsN x.kids).length)  : HBody Tryz.prog TT 11 [x.enc, .isl 1 (encI (i :: p)), y.enc] [] (fun v K => v = .tup [.agg [.i .i64 x.kind, .s x.text, .sl 5 3 0 x.kids.length none], .i .i64 0] ∧ K[5]? = some (some ⟨24, (cellsN x.kids).take (i.toNat * 3) ++ .i .i64 z.kind :: .s z.text :: .isl 3 (Nd.encL z.kids) :: (cellsN x.kids).drop (i.toNat * 3 + 3), .more⟩)) := by
  refine ⟨Tryz.f11, _, rfl, rfl, by simp [Tryz.f11], ?_⟩
  have h0 : (Tm.init Tryz.f11.ntmps [x.enc, .isl 1 (encI (i :: p)), y.enc]).get 0 = x.enc := by rw [get_init]; rfl
  have h1 : (Tm.init Tryz.f11.ntmps [x.enc, .isl 1 (encI (i :: p)), y.enc]).get 1 = .isl 1 (encI (i :: p)) := by rw [get_init]; rfl
  have h2 : (Tm.init Tryz.f11.ntmps [x.enc, .isl 1 (encI (i :: p)), y.enc]).get 2 = y.enc := by rw [get_init]; rfl
  have hw : (Tm.init Tryz.f11.ntmps [x.enc, .isl 1 (encI (i :: p)), y.enc]).wid = 59 := rfl
  generalize Tm.init Tryz.f11.ntmps [x.enc, .isl 1 (encI (i :: p)), y.enc] = t at *
  try simp only [Nd.enc_eq] at *
  refine Tri.seq' ?_
  refine Tri.regN (t' := ?t1) (H' := ?H1) TT_ok hC ?e1 ?q1
  case e1 =>
    refine go_false ?_
    refine evSeq_go rfl (by simp [h0, h1, h2, encI, List.map_cons, Nd.encL_length, hz, h1p, htk, hlo, hlo2, hhi, hhi2, hik, hik2, hrec, build_none, hap, hle] <;> rfl) (by rfl) (by simp [fits_some, fits_none, hw, Nat.blt_eq]) ?_
    refine evSeq_go rfl (by simp [h0, h1, h2, encI, List.map_cons, Nd.encL_length, hz, h1p, htk, hlo, hlo2, hhi, hhi2, hik, hik2, hrec, build_none, hap, hle] <;> rfl) (by rfl) (by simp [fits_some, fits_none, hw, Nat.blt_eq]) ?_
    refine evSeq_go rfl (by simp [h0, h1, h2, encI, List.map_cons, Nd.encL_length, hz, h1p, htk, hlo, hlo2, hhi, hhi2, hik, hik2, hrec, build_none, hap, hle] <;> rfl) (by rfl) (by simp [fits_some, fits_none, hw, Nat.blt_eq]) ?_
    refine evSeq_go rfl (by simp [h0, h1, h2, encI, List.map_cons, Nd.encL_length, hz, h1p, htk, hlo, hlo2, hhi, hhi2, hik, hik2, hrec, build_none, hap, hle] <;> rfl) (by rfl) (by simp [fits_some, fits_none, hw, Nat.blt_eq]) ?_
    exact evSeq_nil
  refine inSeq_norm ?_
  refine Tri.seq' ?_
  refine Tri.seq' ?_
  refine Tri.regN (t' := ?t2) (H' := ?H2) TT_ok hC ?e2 ?q2
  case e2 =>
    refine go_false ?_
    refine evSeq_go rfl (by simp [h0, h1, h2, encI, List.map_cons, Nd.encL_length, hz, h1p, htk, hlo, hlo2, hhi, hhi2, hik, hik2, hrec, build_none, hap, hle] <;> rfl) (by rfl) (by simp [fits_some, fits_none, hw, Nat.blt_eq]) ?_
    refine evSeq_go rfl (by simp [h0, h1, h2, encI, List.map_cons, Nd.encL_length, hz, h1p, htk, hlo, hlo2, hhi, hhi2, hik, hik2, hrec, build_none, hap, hle] <;> rfl) (by rfl) (by simp [fits_some, fits_none, hw, Nat.blt_eq]) ?_
    refine evSeq_go rfl (by simp [h0, h1, h2, encI, List.map_cons, Nd.encL_length, hz, h1p, htk, hlo, hlo2, hhi, hhi2, hik, hik2, hrec, build_none, hap, hle] <;> rfl) (by rfl) (by simp [fits_some, fits_none, hw, Nat.blt_eq]) ?_
    exact evSeq_nil
  refine inSeq_norm ?_
  refine Tri.condG (o := ?o3) (b := ?b3) ?g3 ?r3 ?y3 ?n3
  case g3 => simp [h0, h1, h2, encI, List.map_cons, Nd.encL_length, hz, h1p, htk, hlo, hlo2, hhi, hhi2, hik, hik2, hrec, build_none, hap, hle] <;> rfl
  case r3 => rfl
  case y3 =>
    intro hy3
    exact absurd hy3 (by simp [h0, h1, h2, encI, List.map_cons, Nd.encL_length, hz, h1p, htk, hlo, hlo2, hhi, hhi2, hik, hik2, hrec, build_none, hap, hle])
  case n3 =>
    intro hn3
    refine Tri.skip ?_
    refine inSeq_norm ?_
    refine Tri.seq' ?_
    refine Tri.seq' ?_
    refine Tri.regN (t' := ?t4) (H' := ?H4) TT_ok hC ?e4 ?q4
    case e4 =>
      refine evReg_quiet (t' := ?t4) (by kernel_rfl) ?_ ?r904
      refine QR.val rfl (by simp [h0, h1, h2, encI, List.map_cons, Nd.encL_length, hz, h1p, htk, hlo, hlo2, hhi, hhi2, hik, hik2, hrec, build_none, hap, hle] <;> rfl) (by rfl) (by simp [fits_some, fits_none, hw, Nat.blt_eq]) ?_
      refine QR.val rfl (by simp [h0, h1, h2, encI, List.map_cons, Nd.encL_length, hz, h1p, htk, hlo, hlo2, hhi, hhi2, hik, hik2, hrec, build_none, hap, hle] <;> rfl) (by rfl) (by simp [fits_some, fits_none, hw, Nat.blt_eq]) ?_
      refine QR.val rfl (by simp [h0, h1, h2, encI, List.map_cons, Nd.encL_length, hz, h1p, htk, hlo, hlo2, hhi, hhi2, hik, hik2, hrec, build_none, hap, hle] <;> rfl) (by rfl) (by simp [fits_some, fits_none, hw, Nat.blt_eq]) ?_
      refine QR.val rfl (by simp [h0, h1, h2, encI, List.map_cons, Nd.encL_length, hz, h1p, htk, hlo, hlo2, hhi, hhi2, hik, hik2, hrec, build_none, hap, hle] <;> rfl) (by rfl) (by simp [fits_some, fits_none, hw, Nat.blt_eq]) ?_
      refine QR.val rfl (by simp [h0, h1, h2, encI, List.map_cons, Nd.encL_length, hz, h1p, htk, hlo, hlo2, hhi, hhi2, hik, hik2, hrec, build_none, hap, hle] <;> rfl) (by rfl) (by simp [fits_some, fits_none, hw, Nat.blt_eq]) ?_
      refine QR.val (by simp [wants, h0, h1, h2, encI, List.map_cons, Nd.encL_length, hz, h1p, htk, hlo, hlo2, hhi, hhi2, hik, hik2, hrec, build_none, hap, hle]) (by simp [h0, h1, h2, encI, List.map_cons, Nd.encL_length, hz, h1p, htk, hlo, hlo2, hhi, hhi2, hik, hik2, hrec, build_none, hap, hle] <;> rfl) (by rfl) (by simp [fits_some, fits_none, hw, Nat.blt_eq]) ?_
      refine QR.val (by simp [wants, h0, h1, h2, encI, List.map_cons, Nd.encL_length, hz, h1p, htk, hlo, hlo2, hhi, hhi2, hik, hik2, hrec, build_none, hap, hle]) (by simp [h0, h1, h2, encI, List.map_cons, Nd.encL_length, hz, h1p, htk, hlo, hlo2, hhi, hhi2, hik, hik2, hrec, build_none, hap, hle] <;> rfl) (by rfl) (by simp [fits_some, fits_none, hw, Nat.blt_eq]) ?_
      refine QR.val (by simp [wants, h0, h1, h2, encI, List.map_cons, Nd.encL_length, hz, h1p, htk, hlo, hlo2, hhi, hhi2, hik, hik2, hrec, build_none, hap, hle]) (by simp [h0, h1, h2, encI, List.map_cons, Nd.encL_length, hz, h1p, htk, hlo, hlo2, hhi, hhi2, hik, hik2, hrec, build_none, hap, hle] <;> rfl) (by rfl) (by simp [fits_some, fits_none, hw, Nat.blt_eq]) ?_
      refine QR.val (by simp [wants, h0, h1, h2, encI, List.map_cons, Nd.encL_length, hz, h1p, htk, hlo, hlo2, hhi, hhi2, hik, hik2, hrec, build_none, hap, hle]) (by simp [h0, h1, h2, encI, List.map_cons, Nd.encL_length, hz, h1p, htk, hlo, hlo2, hhi, hhi2, hik, hik2, hrec, build_none, hap, hle] <;> rfl) (by rfl) (by simp [fits_some, fits_none, hw, Nat.blt_eq]) ?_
      refine QR.val (by simp [wants, h0, h1, h2, encI, List.map_cons, Nd.encL_length, hz, h1p, htk, hlo, hlo2, hhi, hhi2, hik, hik2, hrec, build_none, hap, hle]) (by simp [h0, h1, h2, encI, List.map_cons, Nd.encL_length, hz, h1p, htk, hlo, hlo2, hhi, hhi2, hik, hik2, hrec, build_none, hap, hle] <;> rfl) (by rfl) (by simp [fits_some, fits_none, hw, Nat.blt_eq]) ?_
      refine QR.val (by simp [wants, h0, h1, h2, encI, List.map_cons, Nd.encL_length, hz, h1p, htk, hlo, hlo2, hhi, hhi2, hik, hik2, hrec, build_none, hap, hle]) (by simp [h0, h1, h2, encI, List.map_cons, Nd.encL_length, hz, h1p, htk, hlo, hlo2, hhi, hhi2, hik, hik2, hrec, build_none, hap, hle] <;> rfl) (by rfl) (by simp [fits_some, fits_none, hw, Nat.blt_eq]) ?_
      refine QR.val (by simp [wants, h0, h1, h2, encI, List.map_cons, Nd.encL_length, hz, h1p, htk, hlo, hlo2, hhi, hhi2, hik, hik2, hrec, build_none, hap, hle]) (by simp [h0, h1, h2, encI, List.map_cons, Nd.encL_length, hz, h1p, htk, hlo, hlo2, hhi, hhi2, hik, hik2, hrec, build_none, hap, hle] <;> rfl) (by rfl) (by simp [fits_some, fits_none, hw, Nat.blt_eq]) ?_
      refine QR.val rfl (by simp [h0, h1, h2, encI, List.map_cons, Nd.encL_length, hz, h1p, htk, hlo, hlo2, hhi, hhi2, hik, hik2, hrec, build_none, hap, hle] <;> rfl) (by rfl) (by simp [fits_some, fits_none, hw, Nat.blt_eq]) ?_
      exact QR.nil
      case r904 => exact rfl
    refine inSeq_norm ?_
    refine Tri.condG (o := ?o5) (b := ?b5) ?g5 ?r5 ?y5 ?n5
    case g5 => simp [h0, h1, h2, encI, List.map_cons, Nd.encL_length, hz, h1p, htk, hlo, hlo2, hhi, hhi2, hik, hik2, hrec, build_none, hap, hle] <;> rfl
    case r5 => rfl
    case y5 =>
      intro hy5
      exact absurd hy5 (by simp [h0, h1, h2, encI, List.map_cons, Nd.encL_length, hz, h1p, htk, hlo, hlo2, hhi, hhi2, hik, hik2, hrec, build_none, hap, hle])
    case n5 =>
      intro hn5
      refine Tri.skip ?_
      refine inSeq_norm ?_
      refine Tri.seq' ?_
      refine Tri.regN (t' := ?t6) (H' := ?H6) TT_ok hC ?e6 ?q6
      case e6 =>
        refine evReg_draw (t' := ?t6) (H' := ?H6) (ks := [.q, .a, .q, .q, .a, .q, .a, .q, .q, .a, .a, .q, .q, .q, .e, .e, .q]) (fun K => K[0]? = some (some ⟨24, [.i .i64 x.kind, .s x.text, .isl 3 (Nd.encL x.kids)], .all⟩) ∧ K[1]? = some (some ⟨24, [.i .i64 y.kind, .s y.text, .isl 3 (Nd.encL y.kids)], .all⟩)) (by kernel_rfl) ?A906 ?_ ?r906
        case A906 => simp [h0, h1, h2, encI, List.map_cons, Nd.encL_length, hz, h1p, htk, hlo, hlo2, hhi, hhi2, hik, hik2, hrec, build_none, hap, hle]
        refine DR.blind rfl rfl (by simp [h0, h1, h2, encI, List.map_cons, Nd.encL_length, hz, h1p, htk, hlo, hlo2, hhi, hhi2, hik, hik2, hrec, build_none, hap, hle] <;> rfl) (by rfl) (by simp [fits_some, fits_none, hw, Nat.blt_eq]) ?_
        refine DR.any rfl (by simp [h0, h1, h2, encI, List.map_cons, Nd.encL_length, hz, h1p, htk, hlo, hlo2, hhi, hhi2, hik, hik2, hrec, build_none, hap, hle] <;> rfl) (by rfl) (by simp [fits_some, fits_none, hw, Nat.blt_eq]) (by intro K hK; simp [h0, h1, h2, encI, List.map_cons, Nd.encL_length, hz, h1p, htk, hlo, hlo2, hhi, hhi2, hik, hik2, hrec, build_none, hap, hle, hK] <;> rfl) ?_
        refine DR.blind rfl rfl (by simp [h0, h1, h2, encI, List.map_cons, Nd.encL_length, hz, h1p, htk, hlo, hlo2, hhi, hhi2, hik, hik2, hrec, build_none, hap, hle] <;> rfl) (by rfl) (by simp [fits_some, fits_none, hw, Nat.blt_eq]) ?_
        refine DR.blind rfl rfl (by simp [h0, h1, h2, encI, List.map_cons, Nd.encL_length, hz, h1p, htk, hlo, hlo2, hhi, hhi2, hik, hik2, hrec, build_none, hap, hle] <;> rfl) (by rfl) (by simp [fits_some, fits_none, hw, Nat.blt_eq]) ?_
        refine DR.any rfl (by simp [h0, h1, h2, encI, List.map_cons, Nd.encL_length, hz, h1p, htk, hlo, hlo2, hhi, hhi2, hik, hik2, hrec, build_none, hap, hle] <;> rfl) (by rfl) (by simp [fits_some, fits_none, hw, Nat.blt_eq]) (by intro K hK; simp [h0, h1, h2, encI, List.map_cons, Nd.encL_length, hz, h1p, htk, hlo, hlo2, hhi, hhi2, hik, hik2, hrec, build_none, hap, hle, hK] <;> rfl) ?_
        refine DR.blind rfl rfl (by simp [h0, h1, h2, encI, List.map_cons, Nd.encL_length, hz, h1p, htk, hlo, hlo2, hhi, hhi2, hik, hik2, hrec, build_none, hap, hle] <;> rfl) (by rfl) (by simp [fits_some, fits_none, hw, Nat.blt_eq]) ?_
        refine DR.any rfl (by simp [h0, h1, h2, encI, List.map_cons, Nd.encL_length, hz, h1p, htk, hlo, hlo2, hhi, hhi2, hik, hik2, hrec, build_none, hap, hle] <;> rfl) (by rfl) (by simp [fits_some, fits_none, hw, Nat.blt_eq]) (by intro K hK; simp [h0, h1, h2, encI, List.map_cons, Nd.encL_length, hz, h1p, htk, hlo, hlo2, hhi, hhi2, hik, hik2, hrec, build_none, hap, hle, hK] <;> rfl) ?_
        refine DR.blind rfl rfl (by simp [h0, h1, h2, encI, List.map_cons, Nd.encL_length, hz, h1p, htk, hlo, hlo2, hhi, hhi2, hik, hik2, hrec, build_none, hap, hle] <;> rfl) (by rfl) (by simp [fits_some, fits_none, hw, Nat.blt_eq]) ?_
        refine DR.blind rfl rfl (by simp [h0, h1, h2, encI, List.map_cons, Nd.encL_length, hz, h1p, htk, hlo, hlo2, hhi, hhi2, hik, hik2, hrec, build_none, hap, hle] <;> rfl) (by rfl) (by simp [fits_some, fits_none, hw, Nat.blt_eq]) ?_
        refine DR.any rfl (by simp [h0, h1, h2, encI, List.map_cons, Nd.encL_length, hz, h1p, htk, hlo, hlo2, hhi, hhi2, hik, hik2, hrec, build_none, hap, hle] <;> rfl) (by rfl) (by simp [fits_some, fits_none, hw, Nat.blt_eq]) (by intro K hK; simp [h0, h1, h2, encI, List.map_cons, Nd.encL_length, hz, h1p, htk, hlo, hlo2, hhi, hhi2, hik, hik2, hrec, build_none, hap, hle, hK] <;> rfl) ?_
        refine DR.any rfl (by simp [h0, h1, h2, encI, List.map_cons, Nd.encL_length, hz, h1p, htk, hlo, hlo2, hhi, hhi2, hik, hik2, hrec, build_none, hap, hle] <;> rfl) (by rfl) (by simp [fits_some, fits_none, hw, Nat.blt_eq]) (by intro K hK; simp [h0, h1, h2, encI, List.map_cons, Nd.encL_length, hz, h1p, htk, hlo, hlo2, hhi, hhi2, hik, hik2, hrec, build_none, hap, hle, hK] <;> rfl) ?_
        refine DR.blind rfl rfl (by simp [h0, h1, h2, encI, List.map_cons, Nd.encL_length, hz, h1p, htk, hlo, hlo2, hhi, hhi2, hik, hik2, hrec, build_none, hap, hle] <;> rfl) (by rfl) (by simp [fits_some, fits_none, hw, Nat.blt_eq]) ?_
        refine DR.blind rfl rfl (by simp [h0, h1, h2, encI, List.map_cons, Nd.encL_length, hz, h1p, htk, hlo, hlo2, hhi, hhi2, hik, hik2, hrec, build_none, hap, hle] <;> rfl) (by rfl) (by simp [fits_some, fits_none, hw, Nat.blt_eq]) ?_
        refine DR.blind rfl rfl (by simp [h0, h1, h2, encI, List.map_cons, Nd.encL_length, hz, h1p, htk, hlo, hlo2, hhi, hhi2, hik, hik2, hrec, build_none, hap, hle] <;> rfl) (by rfl) (by simp [fits_some, fits_none, hw, Nat.blt_eq]) ?_
        refine DR.eff rfl rfl (by simp [h0, h1, h2, encI, List.map_cons, Nd.encL_length, hz, h1p, htk, hlo, hlo2, hhi, hhi2, hik, hik2, hrec, build_none, hap, hle] <;> rfl) (by rfl) (by simp [fits_some, fits_none, hw, Nat.blt_eq]) (by simp [h0, h1, h2, encI, List.map_cons, Nd.encL_length, hz, h1p, htk, hlo, hlo2, hhi, hhi2, hik, hik2, hrec, build_none, hap, hle]) ?_
        refine DR.eff rfl rfl (by simp [h0, h1, h2, encI, List.map_cons, Nd.encL_length, hz, h1p, htk, hlo, hlo2, hhi, hhi2, hik, hik2, hrec, build_none, hap, hle] <;> rfl) (by rfl) (by simp [fits_some, fits_none, hw, Nat.blt_eq]) (by simp [h0, h1, h2, encI, List.map_cons, Nd.encL_length, hz, h1p, htk, hlo, hlo2, hhi, hhi2, hik, hik2, hrec, build_none, hap, hle]) ?_
        refine DR.blind rfl rfl (by simp [h0, h1, h2, encI, List.map_cons, Nd.encL_length, hz, h1p, htk, hlo, hlo2, hhi, hhi2, hik, hik2, hrec, build_none, hap, hle] <;> rfl) (by rfl) (by simp [fits_some, fits_none, hw, Nat.blt_eq]) ?_
        exact DR.nil
        case r906 => exact rfl
      refine inSeq_norm ?_
      refine Tri.seq' ?_
      refine Tri.seq' ?_
      refine Tri.regN (t' := ?t7) (H' := ?H7) TT_ok hC ?e7 ?q7
      case e7 =>
        refine go_false ?_
        refine evSeq_go rfl (by simp [h0, h1, h2, encI, List.map_cons, Nd.encL_length, hz, h1p, htk, hlo, hlo2, hhi, hhi2, hik, hik2, hrec, build_none, hap, hle] <;> rfl) (by rfl) (by simp [fits_some, fits_none, hw, Nat.blt_eq]) ?_
        refine evSeq_go rfl (by simp [h0, h1, h2, encI, List.map_cons, Nd.encL_length, hz, h1p, htk, hlo, hlo2, hhi, hhi2, hik, hik2, hrec, build_none, hap, hle] <;> rfl) (by rfl) (by simp [fits_some, fits_none, hw, Nat.blt_eq]) ?_
        exact evSeq_nil
      refine inSeq_norm ?_
      refine Tri.condG (o := ?o8) (b := ?b8) ?g8 ?r8 ?y8 ?n8
      case g8 => simp [h0, h1, h2, encI, List.map_cons, Nd.encL_length, hz, h1p, htk, hlo, hlo2, hhi, hhi2, hik, hik2, hrec, build_none, hap, hle] <;> rfl
      case r8 => rfl
      case y8 =>
        intro hy8
        exact absurd hy8 (by simp [h0, h1, h2, encI, List.map_cons, Nd.encL_length, hz, h1p, htk, hlo, hlo2, hhi, hhi2, hik, hik2, hrec, build_none, hap, hle])
      case n8 =>
        intro hn8
        refine Tri.skip ?_
        refine inSeq_norm ?_
        refine Tri.seq' ?_
        refine Tri.regN (t' := ?t9) (H' := ?H9) TT_ok hC ?e9 ?q9
        case e9 =>
          refine go_false ?_
          refine evSeq_go rfl (by simp [h0, h1, h2, encI, List.map_cons, Nd.encL_length, hz, h1p, htk, hlo, hlo2, hhi, hhi2, hik, hik2, hrec, build_none, hap, hle] <;> rfl) (by rfl) (by simp [fits_some, fits_none, hw, Nat.blt_eq]) ?_
          refine evSeq_go rfl (by simp [h0, h1, h2, encI, List.map_cons, Nd.encL_length, hz, h1p, htk, hlo, hlo2, hhi, hhi2, hik, hik2, hrec, build_none, hap, hle] <;> rfl) (by rfl) (by simp [fits_some, fits_none, hw, Nat.blt_eq]) ?_
          refine evSeq_go rfl (by simp [h0, h1, h2, encI, List.map_cons, Nd.encL_length, hz, h1p, htk, hlo, hlo2, hhi, hhi2, hik, hik2, hrec, build_none, hap, hle] <;> rfl) (by rfl) (by simp [fits_some, fits_none, hw, Nat.blt_eq]) ?_
          refine evSeq_go rfl (by simp [h0, h1, h2, encI, List.map_cons, Nd.encL_length, hz, h1p, htk, hlo, hlo2, hhi, hhi2, hik, hik2, hrec, build_none, hap, hle] <;> rfl) (by rfl) (by simp [fits_some, fits_none, hw, Nat.blt_eq]) ?_
          refine evSeq_go rfl (by simp [h0, h1, h2, encI, List.map_cons, Nd.encL_length, hz, h1p, htk, hlo, hlo2, hhi, hhi2, hik, hik2, hrec, build_none, hap, hle] <;> rfl) (by rfl) (by simp [fits_some, fits_none, hw, Nat.blt_eq]) ?_
          refine evSeq_go rfl (by simp [h0, h1, h2, encI, List.map_cons, Nd.encL_length, hz, h1p, htk, hlo, hlo2, hhi, hhi2, hik, hik2, hrec, build_none, hap, hle] <;> rfl) (by rfl) (by simp [fits_some, fits_none, hw, Nat.blt_eq]) ?_
          exact evSeq_nil
        refine inSeq_norm ?_
        refine Tri.seq' ?_
        refine Tri.regN (t' := ?t10) (H' := ?H10) TT_ok hC ?e10 ?q10
        case e10 =>
          refine evReg_draw (t' := ?t10) (H' := ?H10) (ks := [.q, .f, .q, .q, .f, .f, .q, .e]) (fun _ => True) (by kernel_rfl) ?A910 ?_ ?r910
          case A910 => simp [h0, h1, h2, encI, List.map_cons, Nd.encL_length, hz, h1p, htk, hlo, hlo2, hhi, hhi2, hik, hik2, hrec, build_none, hap, hle]
          refine DR.blind rfl rfl (by simp [h0, h1, h2, encI, List.map_cons, Nd.encL_length, hz, h1p, htk, hlo, hlo2, hhi, hhi2, hik, hik2, hrec, build_none, hap, hle] <;> rfl) (by rfl) (by simp [fits_some, fits_none, hw, Nat.blt_eq]) ?_
          refine DR.fix rfl (by simp [h0, h1, h2, encI, List.map_cons, Nd.encL_length, hz, h1p, htk, hlo, hlo2, hhi, hhi2, hik, hik2, hrec, build_none, hap, hle] <;> rfl) (by rfl) (by simp [fits_some, fits_none, hw, Nat.blt_eq]) ?_
          refine DR.blind rfl rfl (by simp [h0, h1, h2, encI, List.map_cons, Nd.encL_length, hz, h1p, htk, hlo, hlo2, hhi, hhi2, hik, hik2, hrec, build_none, hap, hle] <;> rfl) (by rfl) (by simp [fits_some, fits_none, hw, Nat.blt_eq]) ?_
          refine DR.blind rfl rfl (by simp [h0, h1, h2, encI, List.map_cons, Nd.encL_length, hz, h1p, htk, hlo, hlo2, hhi, hhi2, hik, hik2, hrec, build_none, hap, hle] <;> rfl) (by rfl) (by simp [fits_some, fits_none, hw, Nat.blt_eq]) ?_
          refine DR.fix rfl (by simp [h0, h1, h2, encI, List.map_cons, Nd.encL_length, hz, h1p, htk, hlo, hlo2, hhi, hhi2, hik, hik2, hrec, build_none, hap, hle] <;> rfl) (by rfl) (by simp [fits_some, fits_none, hw, Nat.blt_eq]) ?_
          refine DR.fix rfl (by simp [h0, h1, h2, encI, List.map_cons, Nd.encL_length, hz, h1p, htk, hlo, hlo2, hhi, hhi2, hik, hik2, hrec, build_none, hap, hle] <;> rfl) (by rfl) (by simp [fits_some, fits_none, hw, Nat.blt_eq]) ?_
          refine DR.blind rfl rfl (by simp [h0, h1, h2, encI, List.map_cons, Nd.encL_length, hz, h1p, htk, hlo, hlo2, hhi, hhi2, hik, hik2, hrec, build_none, hap, hle] <;> rfl) (by rfl) (by simp [fits_some, fits_none, hw, Nat.blt_eq]) ?_
          refine DR.eff rfl rfl (by simp [h0, h1, h2, encI, List.map_cons, Nd.encL_length, hz, h1p, htk, hlo, hlo2, hhi, hhi2, hik, hik2, hrec, build_none, hap, hle] <;> rfl) (by rfl) (by simp [fits_some, fits_none, hw, Nat.blt_eq]) (by simp [h0, h1, h2, encI, List.map_cons, Nd.encL_length, hz, h1p, htk, hlo, hlo2, hhi, hhi2, hik, hik2, hrec, build_none, hap, hle]) ?_
          exact DR.nil
          case r910 => exact rfl
        refine inSeq_norm ?_
        refine Tri.seq' ?_
        refine Tri.regN (t' := ?t11) (H' := ?H11) TT_ok hC ?e11 ?q11
        case e11 =>
          refine go_false ?_
          refine evSeq_go rfl (by simp [h0, h1, h2, encI, List.map_cons, Nd.encL_length, hz, h1p, htk, hlo, hlo2, hhi, hhi2, hik, hik2, hrec, build_none, hap, hle] <;> rfl) (by rfl) (by simp [fits_some, fits_none, hw, Nat.blt_eq]) ?_
          refine evSeq_go rfl (by simp [h0, h1, h2, encI, List.map_cons, Nd.encL_length, hz, h1p, htk, hlo, hlo2, hhi, hhi2, hik, hik2, hrec, build_none, hap, hle] <;> rfl) (by rfl) (by simp [fits_some, fits_none, hw, Nat.blt_eq]) ?_
          refine evSeq_go rfl (by simp [h0, h1, h2, encI, List.map_cons, Nd.encL_length, hz, h1p, htk, hlo, hlo2, hhi, hhi2, hik, hik2, hrec, build_none, hap, hle] <;> rfl) (by rfl) (by simp [fits_some, fits_none, hw, Nat.blt_eq]) ?_
          exact evSeq_nil
        refine inSeq_norm ?_
        refine Tri.ret ?_
        exact endsH (by simp [finish, evResults, evResult, Tryz.f11] <;> rfl) (by rfl) ⟨rfl, rfl⟩
end Go.Ev
