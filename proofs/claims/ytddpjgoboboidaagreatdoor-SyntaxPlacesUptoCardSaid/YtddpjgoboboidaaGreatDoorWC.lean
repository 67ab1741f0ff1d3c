/- Walks over the counts of nodes. -/
import Derived.Test.YtddpjgoboboidaaGreatDoorWB
namespace Go.Ev
open Go Go.Proofs
set_option maxRecDepth 100000
set_option linter.unusedSimpArgs false
set_option linter.unusedVariables false

theorem loop9 {call : CallF} (hC : call.Sound Tryz.prog TT) (m : Int) {Q : Out → Prop} : ∀ (L pre : List Nd) (o : Int) (t : Tm) (H : Heap),
    (∀ x ∈ L, ∀ q H, call 24 [x.enc, .i .i64 q] H = .val (.i .i64 (sz x q)) H) →
    t.wid = 32 → t.get 1 = .i .i64 m → t.get 14 = .isl 3 (Nd.encL (pre ++ L)) → t.get 15 = .i .i64 (pre ++ L).length → t.get 16 = .i .i64 pre.length → t.get 5 = .i .i64 o → (pre ++ L).length < 1100000 →
    (∀ t' H', t'.wid = 32 → t'.get 5 = .i .i64 (szL L m o) → Q (.exit 0 t' H')) → LTri Tryz.prog TT (sub [true, true, false, true, false, false] (bodyOf Tryz.f24)) t H Q := by
  intro L
  induction L with
  | nil =>
    intro pre o t H hrec hw h1 h14 h15 h16 h5 hlen hE
    refine LTri.round' ?_
    refine Tri.seq' ?_
    refine Tri.regN (t' := ?tz1) (H' := ?Hz1) TT_ok hC ?ez1 ?qz1
    case ez1 =>
      refine go_false ?_
      refine evSeq_go rfl (by simp [h1, h14, h15, h16, h5, Nd.encL_length, Nd.enc_eq] <;> rfl) (by rfl) (by simp [hw]) ?_
      exact evSeq_nil
    refine inSeq_norm ?_
    refine Tri.seq' ?_
    refine Tri.condG (o := ?oz2) (b := ?bz2) ?gz2 ?rz2 ?yz2 ?nz2
    case gz2 => simp [h1, h14, h15, h16, h5, Nd.encL_length, Nd.enc_eq] <;> rfl
    case rz2 => rfl
    case yz2 =>
      intro hy2
      simp at hy2
    case nz2 =>
      intro hn2
      refine Tri.exit ?_
      refine inSeq_exit ?_
      refine inLoop_exit ?_
      exact hE _ _ (by simp [hw]) (by simp [h5, szL])
  | cons x L ih =>
    intro pre o t H hrec hw h1 h14 h15 h16 h5 hlen hE
    have hlt := fin_len pre.length L.length
    have hat := encL_at pre x L
    have hat2 := encL_at2 pre x L
    have hr := hrec x (by simp)
    simp only [Nd.enc_eq] at hr
    refine LTri.round' ?_
    refine Tri.seq' ?_
    refine Tri.regN (t' := ?t1) (H' := ?H1) TT_ok hC ?e1 ?q1
    case e1 =>
      refine go_false ?_
      refine evSeq_go rfl (by simp [h1, h14, h15, h16, h5, Nd.encL_length, Nd.enc_eq, hlt, hat, hat2, hr] <;> rfl) (by rfl) (by simp [hw]) ?_
      exact evSeq_nil
    refine inSeq_norm ?_
    refine Tri.seq' ?_
    refine Tri.condG (o := ?o2) (b := ?b2) ?g2 ?r2 ?y2 ?n2
    case g2 => simp [h1, h14, h15, h16, h5, Nd.encL_length, Nd.enc_eq, hlt, hat, hat2, hr] <;> rfl
    case r2 => rfl
    case y2 =>
      intro hy2
      refine Tri.skip ?_
      refine inSeq_norm ?_
      refine Tri.seq' ?_
      refine Tri.block' ?_
      refine Tri.seq' ?_
      refine Tri.regN (t' := ?t3) (H' := ?H3) TT_ok hC ?e3 ?q3
      case e3 =>
        refine go_false ?_
        refine evSeq_go rfl (by simp [h1, h14, h15, h16, h5, Nd.encL_length, Nd.enc_eq, hlt, hat, hat2, hr] <;> rfl) (by rfl) (by simp [hw]) ?_
        refine evSeq_go rfl (by simp [h1, h14, h15, h16, h5, Nd.encL_length, Nd.enc_eq, hlt, hat, hat2, hr] <;> rfl) (by rfl) (by simp [hw]) ?_
        refine evSeq_go rfl (by simp [h1, h14, h15, h16, h5, Nd.encL_length, Nd.enc_eq, hlt, hat, hat2, hr] <;> rfl) (by rfl) (by simp [hw]) ?_
        refine evSeq_go rfl (by simp [h1, h14, h15, h16, h5, Nd.encL_length, Nd.enc_eq, hlt, hat, hat2, hr] <;> rfl) (by rfl) (by simp [hw]) ?_
        exact evSeq_nil
      refine inSeq_norm ?_
      refine Tri.seq' ?_
      refine Tri.seq' ?_
      refine Tri.regN (t' := ?t4) (H' := ?H4) TT_ok hC ?e4 ?q4
      case e4 =>
        refine go_false ?_
        refine evSeq_go rfl (by simp [h1, h14, h15, h16, h5, Nd.encL_length, Nd.enc_eq, hlt, hat, hat2, hr] <;> rfl) (by rfl) (by simp [hw]) ?_
        refine evSeq_go rfl (by simp [h1, h14, h15, h16, h5, Nd.encL_length, Nd.enc_eq, hlt, hat, hat2, hr] <;> rfl) (by rfl) (by simp [hw]) ?_
        refine evSeq_go rfl (by simp [h1, h14, h15, h16, h5, Nd.encL_length, Nd.enc_eq, hlt, hat, hat2, hr] <;> rfl) (by rfl) (by simp [hw]) ?_
        exact evSeq_nil
      refine inSeq_norm ?_
      refine Tri.condG (o := ?o5) (b := ?b5) ?g5 ?r5 ?y5 ?n5
      case g5 => simp [h1, h14, h15, h16, h5, Nd.encL_length, Nd.enc_eq, hlt, hat, hat2, hr] <;> rfl
      case r5 => rfl
      case y5 =>
        intro hy5
        have hb2 : o > m := by simp at hy5; omega
        refine Tri.exit ?_
        refine inSeq_exit ?_
        refine inBlk_pass rfl ?_
        refine inSeq_exit ?_
        refine inLoop_exit ?_
        exact hE _ _ (by simp [hw]) (by simp [h5, szL, if_pos hb2])
      case n5 =>
        intro hn5
        have hb2 : ¬ o > m := by simp at hn5; omega
        refine Tri.skip ?_
        refine inSeq_norm ?_
        refine Tri.regN (t' := ?t6) (H' := ?H6) TT_ok hC ?e6 ?q6
        case e6 =>
          refine go_false ?_
          refine evSeq_go rfl (by simp [h1, h14, h15, h16, h5, Nd.encL_length, Nd.enc_eq, hlt, hat, hat2, hr] <;> rfl) (by rfl) (by simp [hw]) ?_
          refine evSeq_go rfl (by simp [h1, h14, h15, h16, h5, Nd.encL_length, Nd.enc_eq, hlt, hat, hat2, hr] <;> rfl) (by rfl) (by simp [hw]) ?_
          refine evSeq_go rfl (by simp [h1, h14, h15, h16, h5, Nd.encL_length, Nd.enc_eq, hlt, hat, hat2, hr] <;> rfl) (by rfl) (by simp [hw]) ?_
          refine evSeq_go rfl (by simp [h1, h14, h15, h16, h5, Nd.encL_length, Nd.enc_eq, hlt, hat, hat2, hr] <;> rfl) (by rfl) (by simp [hw]) ?_
          refine evSeq_go rfl (by simp [h1, h14, h15, h16, h5, Nd.encL_length, Nd.enc_eq, hlt, hat, hat2, hr] <;> rfl) (by rfl) (by simp [hw]) ?_
          refine evSeq_go rfl (by simp [h1, h14, h15, h16, h5, Nd.encL_length, Nd.enc_eq, hlt, hat, hat2, hr] <;> rfl) (by rfl) (by simp [hw]) ?_
          refine evSeq_go rfl (by simp [h1, h14, h15, h16, h5, Nd.encL_length, Nd.enc_eq, hlt, hat, hat2, hr] <;> rfl) (by rfl) (by simp [hw]) ?_
          refine evSeq_go rfl (by simp [h1, h14, h15, h16, h5, Nd.encL_length, Nd.enc_eq, hlt, hat, hat2, hr] <;> rfl) (by rfl) (by simp [hw]) ?_
          exact evSeq_nil
        refine inBlk_norm ?_
        refine inSeq_norm ?_
        refine Tri.regN (t' := ?t7) (H' := ?H7) TT_ok hC ?e7 ?q7
        case e7 =>
          refine go_false ?_
          refine evSeq_go rfl (by simp [h1, h14, h15, h16, h5, Nd.encL_length, Nd.enc_eq, hlt, hat, hat2, hr] <;> rfl) (by rfl) (by simp [hw]) ?_
          refine evSeq_go rfl (by simp [h1, h14, h15, h16, h5, Nd.encL_length, Nd.enc_eq, hlt, hat, hat2, hr] <;> rfl) (by rfl) (by simp [hw]) ?_
          exact evSeq_nil
        refine inLoop_norm ?_
        refine ih (pre ++ [x]) _ _ _ (fun x hx q => hrec x (List.mem_cons_of_mem _ hx) q) (by simp [hw]) (by simp [h1]) (by simp [h14]) (by simp [h15]) (by simp; exact wrap_i64 (by omega) (by simp at hlen; omega)) (by simp <;> rfl) (by simpa using hlen) ?_
        intro t' H' hw' h5'
        exact hE t' H' hw' (by rw [h5']; simp only [szL, if_neg hb2])
    case n2 =>
      intro hn2
      exfalso
      simp at hn2
theorem body_9 {call : CallF} (hC : call.Sound Tryz.prog TT) (x : Nd) (m : Int) (hlen : x.kids.length < 1100000) (hrec : ∀ y ∈ x.kids, ∀ q H, call 24 [y.enc, .i .i64 q] H = .val (.i .i64 (sz y q)) H)  : Body Tryz.prog TT 24 [x.enc, .i .i64 m] (.val (.i .i64 (sz x m))) := by
  refine ⟨Tryz.f24, _, rfl, rfl, by simp [Tryz.f24], ?_⟩
  have h0 : (Tm.init Tryz.f24.ntmps [x.enc, .i .i64 m]).get 0 = x.enc := by rw [get_init]; rfl
  have h1 : (Tm.init Tryz.f24.ntmps [x.enc, .i .i64 m]).get 1 = .i .i64 m := by rw [get_init]; rfl
  have hw : (Tm.init Tryz.f24.ntmps [x.enc, .i .i64 m]).wid = 32 := rfl
  generalize Tm.init Tryz.f24.ntmps [x.enc, .i .i64 m] = t at *
  simp only [Nd.enc_eq] at h0
  refine Tri.seq' ?_
  refine Tri.regN (t' := ?t1) (H' := ?H1) TT_ok hC ?e1 ?q1
  case e1 =>
    refine go_false ?_
    refine evSeq_go rfl (by simp [h0, h1, Nd.encL_length] <;> rfl) (by rfl) (by simp [hw]) ?_
    refine evSeq_go rfl (by simp [h0, h1, Nd.encL_length] <;> rfl) (by rfl) (by simp [hw]) ?_
    exact evSeq_nil
  refine inSeq_norm ?_
  refine Tri.seq' ?_
  refine Tri.regN (t' := ?t2) (H' := ?H2) TT_ok hC ?e2 ?q2
  case e2 =>
    refine go_false ?_
    refine evSeq_go rfl (by simp [h0, h1, Nd.encL_length] <;> rfl) (by rfl) (by simp [hw]) ?_
    refine evSeq_go rfl (by simp [h0, h1, Nd.encL_length] <;> rfl) (by rfl) (by simp [hw]) ?_
    refine evSeq_go rfl (by simp [h0, h1, Nd.encL_length] <;> rfl) (by rfl) (by simp [hw]) ?_
    refine evSeq_go rfl (by simp [h0, h1, Nd.encL_length] <;> rfl) (by rfl) (by simp [hw]) ?_
    refine evSeq_go rfl (by simp [h0, h1, Nd.encL_length] <;> rfl) (by rfl) (by simp [hw]) ?_
    refine evSeq_go rfl (by simp [h0, h1, Nd.encL_length] <;> rfl) (by rfl) (by simp [hw]) ?_
    exact evSeq_nil
  refine inSeq_norm ?_
  refine Tri.seq' ?_
  refine Tri.seq' ?_
  refine Tri.regN (t' := ?t3) (H' := ?H3) TT_ok hC ?e3 ?q3
  case e3 =>
    refine go_false ?_
    refine evSeq_go rfl (by simp [h0, h1, Nd.encL_length] <;> rfl) (by rfl) (by simp [hw]) ?_
    refine evSeq_go rfl (by simp [h0, h1, Nd.encL_length] <;> rfl) (by rfl) (by simp [hw]) ?_
    refine evSeq_go rfl (by simp [h0, h1, Nd.encL_length] <;> rfl) (by rfl) (by simp [hw]) ?_
    refine evSeq_go rfl (by simp [h0, h1, Nd.encL_length] <;> rfl) (by rfl) (by simp [hw]) ?_
    exact evSeq_nil
  refine inSeq_norm ?_
  refine Tri.block' ?_
  refine Tri.loop ?_
  refine loop9 hC m x.kids [] _ _ _ hrec (by simp [hw]) (by simp [h1]) (by simp) (by simp [Nd.encL_length]) (by simp) (by simp <;> rfl) (by simpa using hlen) ?exit
  case exit =>
    intro t2 H2 hw h5
    refine inBlk_exit ?_
    refine inSeq_norm ?_
    refine Tri.seq' ?_
    refine Tri.regN (t' := ?t4) (H' := ?H4) TT_ok hC ?e4 ?q4
    case e4 =>
      refine go_false ?_
      refine evSeq_go rfl (by simp [h0, h1, Nd.encL_length, h5] <;> rfl) (by rfl) (by simp [hw]) ?_
      refine evSeq_go rfl (by simp [h0, h1, Nd.encL_length, h5] <;> rfl) (by rfl) (by simp [hw]) ?_
      exact evSeq_nil
    refine inSeq_norm ?_
    refine Tri.ret ?_
    simp [Ends, finish, evResults, evResult, Tryz.f24, h5]
    cases x; simp [sz, Nd.text, Nd.kids]
mutual
def eqN : Nd → Nd → Bool
  | .mk k s l, .mk k' s' l' => (k == k') && (s == s') && eqNL l l'
def eqNL : List Nd → List Nd → Bool
  | [], [] => true
  | x :: l, y :: l' => eqN x y && eqNL l l'
  | _, _ => false
end
theorem eqN_kinds (x y : Nd) : eqN x y = ((x.kind == y.kind) && (x.text == y.text) && eqNL x.kids y.kids) := by
  cases x; cases y; simp [eqN, Nd.kind, Nd.text, Nd.kids]
theorem loop13 {call : CallF} (hC : call.Sound Tryz.prog TT) {Q : Out → Prop} : ∀ (L1 L2 pre1 pre2 : List Nd) (t : Tm) (H : Heap), L1.length = L2.length → pre1.length = pre2.length →
    (∀ x ∈ L1, ∀ y H, call 13 [x.enc, y.enc] H = .val (.b (eqN x y)) H) → (pre1 ++ L1).length < 1100000 →
    t.wid = 32 → t.get 1 = .isl 3 (Nd.encL (pre2 ++ L2)) → t.get 2 = .fn 13 [] → t.get 15 = .isl 3 (Nd.encL (pre1 ++ L1)) → t.get 16 = .i .i64 (pre1 ++ L1).length → t.get 17 = .i .i64 pre1.length →
    (∀ t' H', t'.wid = 32 → eqNL L1 L2 = true → Q (.exit 0 t' H')) → (∀ t' H', t'.wid = 32 → eqNL L1 L2 = false → t'.get 6 = .b false → Q (.ret t' H')) →
    LTri Tryz.prog TT (sub [true, true, false, true, false, false] (bodyOf Tryz.f29)) t H Q := by
  intro L1
  induction L1 with
  | nil =>
    intro L2 pre1 pre2 t H hl hpre hrec hlen hw h1 h2 h15 h16 h17 hE hR
    obtain rfl : L2 = [] := List.eq_nil_of_length_eq_zero hl.symm
    refine LTri.round' ?_
    refine Tri.seq' ?_
    refine Tri.regN (t' := ?tz1) (H' := ?Hz1) TT_ok hC ?ez1 ?qz1
    case ez1 =>
      refine go_false ?_
      refine evSeq_go rfl (by simp [h1, h2, h15, h16, h17, Nd.encL_length, Nd.enc_eq] <;> rfl) (by rfl) (by simp [hw]) ?_
      exact evSeq_nil
    refine inSeq_norm ?_
    refine Tri.seq' ?_
    refine Tri.condG (o := ?oz2) (b := ?bz2) ?gz2 ?rz2 ?yz2 ?nz2
    case gz2 => simp [h1, h2, h15, h16, h17, Nd.encL_length, Nd.enc_eq] <;> rfl
    case rz2 => rfl
    case yz2 =>
      intro hy2
      simp at hy2
    case nz2 =>
      intro hn2
      refine Tri.exit ?_
      refine inSeq_exit ?_
      refine inLoop_exit ?_
      exact hE _ _ (by simp [hw]) (by simp [eqNL])
  | cons x L1 ih =>
    intro L2 pre1 pre2 t H hl hpre hrec hlen hw h1 h2 h15 h16 h17 hE hR
    obtain ⟨y, L2, rfl⟩ : ∃ y l, L2 = y :: l := by
      cases L2 with
      | nil => simp at hl
      | cons y l => exact ⟨y, l, rfl⟩
    have hlt := fin_len pre1.length L1.length
    have hlt2 : (pre1.length : Int) < pre2.length + (L2.length + 1) := by rw [hpre]; omega
    have hat := encL_at pre1 x L1
    have hat2 := encL_at2 pre1 x L1
    have hbt := encL_at pre2 y L2
    rw [← hpre] at hbt
    have hbt2 : ∀ h, (Nd.encL (pre2 ++ y :: L2))[pre1.length]'h = y.enc := fun h => by rw [List.getElem?_eq_getElem h] at hbt; exact Option.some.inj hbt
    have hr := hrec x (by simp) y
    simp only [Nd.enc_eq] at hr
    refine LTri.round' ?_
    refine Tri.seq' ?_
    refine Tri.regN (t' := ?t1) (H' := ?H1) TT_ok hC ?e1 ?q1
    case e1 =>
      refine go_false ?_
      refine evSeq_go rfl (by simp [h1, h2, h15, h16, h17, Nd.encL_length, Nd.enc_eq, hlt, hlt2, hat, hat2, hbt, hbt2, hr] <;> rfl) (by rfl) (by simp [hw]) ?_
      exact evSeq_nil
    refine inSeq_norm ?_
    refine Tri.seq' ?_
    refine Tri.condG (o := ?o2) (b := ?b2) ?g2 ?r2 ?y2 ?n2
    case g2 => simp [h1, h2, h15, h16, h17, Nd.encL_length, Nd.enc_eq, hlt, hlt2, hat, hat2, hbt, hbt2, hr] <;> rfl
    case r2 => rfl
    case y2 =>
      intro hy2
      refine Tri.skip ?_
      refine inSeq_norm ?_
      refine Tri.seq' ?_
      refine Tri.block' ?_
      refine Tri.seq' ?_
      refine Tri.regN (t' := ?t3) (H' := ?H3) TT_ok hC ?e3 ?q3
      case e3 =>
        refine go_false ?_
        refine evSeq_go rfl (by simp [h1, h2, h15, h16, h17, Nd.encL_length, Nd.enc_eq, hlt, hlt2, hat, hat2, hbt, hbt2, hr] <;> rfl) (by rfl) (by simp [hw]) ?_
        refine evSeq_go rfl (by simp [h1, h2, h15, h16, h17, Nd.encL_length, Nd.enc_eq, hlt, hlt2, hat, hat2, hbt, hbt2, hr] <;> rfl) (by rfl) (by simp [hw]) ?_
        refine evSeq_go rfl (by simp [h1, h2, h15, h16, h17, Nd.encL_length, Nd.enc_eq, hlt, hlt2, hat, hat2, hbt, hbt2, hr] <;> rfl) (by rfl) (by simp [hw]) ?_
        refine evSeq_go rfl (by simp [h1, h2, h15, h16, h17, Nd.encL_length, Nd.enc_eq, hlt, hlt2, hat, hat2, hbt, hbt2, hr] <;> rfl) (by rfl) (by simp [hw]) ?_
        refine evSeq_go rfl (by simp [h1, h2, h15, h16, h17, Nd.encL_length, Nd.enc_eq, hlt, hlt2, hat, hat2, hbt, hbt2, hr] <;> rfl) (by rfl) (by simp [hw]) ?_
        refine evSeq_go rfl (by simp [h1, h2, h15, h16, h17, Nd.encL_length, Nd.enc_eq, hlt, hlt2, hat, hat2, hbt, hbt2, hr] <;> rfl) (by rfl) (by simp [hw]) ?_
        exact evSeq_nil
      refine inSeq_norm ?_
      refine Tri.seq' ?_
      refine Tri.regN (t' := ?t4) (H' := ?H4) TT_ok hC ?e4 ?q4
      case e4 =>
        refine go_false ?_
        refine evSeq_go rfl (by simp [h1, h2, h15, h16, h17, Nd.encL_length, Nd.enc_eq, hlt, hlt2, hat, hat2, hbt, hbt2, hr] <;> rfl) (by rfl) (by simp [hw]) ?_
        refine evSeq_go rfl (by simp [h1, h2, h15, h16, h17, Nd.encL_length, Nd.enc_eq, hlt, hlt2, hat, hat2, hbt, hbt2, hr] <;> rfl) (by rfl) (by simp [hw]) ?_
        refine evSeq_go rfl (by simp [h1, h2, h15, h16, h17, Nd.encL_length, Nd.enc_eq, hlt, hlt2, hat, hat2, hbt, hbt2, hr] <;> rfl) (by rfl) (by simp [hw]) ?_
        refine evSeq_go rfl (by simp [h1, h2, h15, h16, h17, Nd.encL_length, Nd.enc_eq, hlt, hlt2, hat, hat2, hbt, hbt2, hr] <;> rfl) (by rfl) (by simp [hw]) ?_
        refine evSeq_go rfl (by simp [h1, h2, h15, h16, h17, Nd.encL_length, Nd.enc_eq, hlt, hlt2, hat, hat2, hbt, hbt2, hr] <;> rfl) (by rfl) (by simp [hw]) ?_
        refine evSeq_go rfl (by simp [h1, h2, h15, h16, h17, Nd.encL_length, Nd.enc_eq, hlt, hlt2, hat, hat2, hbt, hbt2, hr] <;> rfl) (by rfl) (by simp [hw]) ?_
        exact evSeq_nil
      refine inSeq_norm ?_
      refine Tri.seq' ?_
      refine Tri.regN (t' := ?t5) (H' := ?H5) TT_ok hC ?e5 ?q5
      case e5 =>
        refine go_false ?_
        refine evSeq_go rfl (by simp [h1, h2, h15, h16, h17, Nd.encL_length, Nd.enc_eq, hlt, hlt2, hat, hat2, hbt, hbt2, hr] <;> rfl) (by rfl) (by simp [hw]) ?_
        refine evSeq_go rfl (by simp [h1, h2, h15, h16, h17, Nd.encL_length, Nd.enc_eq, hlt, hlt2, hat, hat2, hbt, hbt2, hr] <;> rfl) (by rfl) (by simp [hw]) ?_
        refine evSeq_go rfl (by simp [h1, h2, h15, h16, h17, Nd.encL_length, Nd.enc_eq, hlt, hlt2, hat, hat2, hbt, hbt2, hr] <;> rfl) (by rfl) (by simp [hw]) ?_
        refine evSeq_go rfl (by simp [h1, h2, h15, h16, h17, Nd.encL_length, Nd.enc_eq, hlt, hlt2, hat, hat2, hbt, hbt2, hr] <;> rfl) (by rfl) (by simp [hw]) ?_
        refine evSeq_go rfl (by simp [h1, h2, h15, h16, h17, Nd.encL_length, Nd.enc_eq, hlt, hlt2, hat, hat2, hbt, hbt2, hr] <;> rfl) (by rfl) (by simp [hw]) ?_
        exact evSeq_nil
      refine inSeq_norm ?_
      refine Tri.condG (o := ?o6) (b := ?b6) ?g6 ?r6 ?y6 ?n6
      case g6 => simp [h1, h2, h15, h16, h17, Nd.encL_length, Nd.enc_eq, hlt, hlt2, hat, hat2, hbt, hbt2, hr] <;> rfl
      case r6 => rfl
      case y6 =>
        intro hy6
        refine Tri.seq' ?_
        refine Tri.regN (t' := ?t7) (H' := ?H7) TT_ok hC ?e7 ?q7
        case e7 =>
          refine go_false ?_
          refine evSeq_go rfl (by simp [h1, h2, h15, h16, h17, Nd.encL_length, Nd.enc_eq, hlt, hlt2, hat, hat2, hbt, hbt2, hr] <;> rfl) (by rfl) (by simp [hw]) ?_
          exact evSeq_nil
        refine inSeq_norm ?_
        refine Tri.ret ?_
        refine inBlk_ret ?_
        refine inSeq_ret ?_
        refine inLoop_ret ?_
        exact hR _ _ (by simp [hw]) (by simp at hy6; simp [eqNL, hy6]) (by simp)
      case n6 =>
        intro hn6
        refine Tri.skip ?_
        refine inBlk_norm ?_
        refine inSeq_norm ?_
        refine Tri.regN (t' := ?t8) (H' := ?H8) TT_ok hC ?e8 ?q8
        case e8 =>
          refine go_false ?_
          refine evSeq_go rfl (by simp [h1, h2, h15, h16, h17, Nd.encL_length, Nd.enc_eq, hlt, hlt2, hat, hat2, hbt, hbt2, hr] <;> rfl) (by rfl) (by simp [hw]) ?_
          refine evSeq_go rfl (by simp [h1, h2, h15, h16, h17, Nd.encL_length, Nd.enc_eq, hlt, hlt2, hat, hat2, hbt, hbt2, hr] <;> rfl) (by rfl) (by simp [hw]) ?_
          exact evSeq_nil
        refine inLoop_norm ?_
        simp at hn6
        refine ih L2 (pre1 ++ [x]) (pre2 ++ [y]) _ _ (by simpa using hl) (by simp [hpre]) (fun x hx y => hrec x (List.mem_cons_of_mem _ hx) y) (by simpa using hlen) (by simp [hw]) (by simp [h1]) (by simp [h2]) (by simp [h15]) (by simp [h16]) (by simp; exact wrap_i64 (by omega) (by simp at hlen; omega)) ?_ ?_
        · intro t' H' hw' he
          exact hE t' H' hw' (by simp [eqNL, hn6, he])
        · intro t' H' hw' he h6
          exact hR t' H' hw' (by simp [eqNL, hn6, he]) h6
    case n2 =>
      intro hn2
      exfalso
      simp at hn2
theorem eqNL_length : ∀ l l' : List Nd, eqNL l l' = true → l.length = l'.length
  | [], [], _ => rfl
  | [], _ :: _, h => by simp [eqNL] at h
  | _ :: _, [], h => by simp [eqNL] at h
  | x :: l, y :: l', h => by
    simp only [eqNL, Bool.and_eq_true] at h
    simp [eqNL_length l l' h.2]
theorem body_13 {call : CallF} (hC : call.Sound Tryz.prog TT) (l1 l2 : List Nd) (hrec : ∀ x ∈ l1, ∀ y H, call 13 [x.enc, y.enc] H = .val (.b (eqN x y)) H) (hlen : l1.length < 1100000)  : Body Tryz.prog TT 29 [.isl 3 (Nd.encL l1), .isl 3 (Nd.encL l2), .fn 13 []] (.val (.b (eqNL l1 l2))) := by
  refine ⟨Tryz.f29, _, rfl, rfl, by simp [Tryz.f29], ?_⟩
  have h0 : (Tm.init Tryz.f29.ntmps [.isl 3 (Nd.encL l1), .isl 3 (Nd.encL l2), .fn 13 []]).get 0 = .isl 3 (Nd.encL l1) := by rw [get_init]; rfl
  have h1 : (Tm.init Tryz.f29.ntmps [.isl 3 (Nd.encL l1), .isl 3 (Nd.encL l2), .fn 13 []]).get 1 = .isl 3 (Nd.encL l2) := by rw [get_init]; rfl
  have h2 : (Tm.init Tryz.f29.ntmps [.isl 3 (Nd.encL l1), .isl 3 (Nd.encL l2), .fn 13 []]).get 2 = .fn 13 [] := by rw [get_init]; rfl
  have hw : (Tm.init Tryz.f29.ntmps [.isl 3 (Nd.encL l1), .isl 3 (Nd.encL l2), .fn 13 []]).wid = 32 := rfl
  generalize Tm.init Tryz.f29.ntmps [.isl 3 (Nd.encL l1), .isl 3 (Nd.encL l2), .fn 13 []] = t at *
  
  refine Tri.seq' ?_
  refine Tri.regN (t' := ?t1) (H' := ?H1) TT_ok hC ?e1 ?q1
  case e1 =>
    refine go_false ?_
    refine evSeq_go rfl (by simp [h0, h1, h2, Nd.encL_length] <;> rfl) (by rfl) (by simp [hw]) ?_
    exact evSeq_nil
  refine inSeq_norm ?_
  refine Tri.seq' ?_
  refine Tri.seq' ?_
  refine Tri.regN (t' := ?t2) (H' := ?H2) TT_ok hC ?e2 ?q2
  case e2 =>
    refine go_false ?_
    refine evSeq_go rfl (by simp [h0, h1, h2, Nd.encL_length] <;> rfl) (by rfl) (by simp [hw]) ?_
    refine evSeq_go rfl (by simp [h0, h1, h2, Nd.encL_length] <;> rfl) (by rfl) (by simp [hw]) ?_
    refine evSeq_go rfl (by simp [h0, h1, h2, Nd.encL_length] <;> rfl) (by rfl) (by simp [hw]) ?_
    refine evSeq_go rfl (by simp [h0, h1, h2, Nd.encL_length] <;> rfl) (by rfl) (by simp [hw]) ?_
    refine evSeq_go rfl (by simp [h0, h1, h2, Nd.encL_length] <;> rfl) (by rfl) (by simp [hw]) ?_
    exact evSeq_nil
  refine inSeq_norm ?_
  refine Tri.condG (o := ?o3) (b := ?b3) ?g3 ?r3 ?y3 ?n3
  case g3 => simp [h0, h1, h2, Nd.encL_length] <;> rfl
  case r3 => rfl
  case y3 =>
    intro hy3
    have hne : eqNL l1 l2 = false := by
      cases he : eqNL l1 l2 with
      | false => rfl
      | true => exact absurd (eqNL_length l1 l2 he) (by simp at hy3; omega)
    refine Tri.seq' ?_
    refine Tri.regN (t' := ?t4) (H' := ?H4) TT_ok hC ?e4 ?q4
    case e4 =>
      refine go_false ?_
      refine evSeq_go rfl (by simp [h0, h1, h2, Nd.encL_length] <;> rfl) (by rfl) (by simp [hw]) ?_
      exact evSeq_nil
    refine inSeq_norm ?_
    refine Tri.ret ?_
    refine inSeq_ret ?_
    first
    | (simp [Ends, finish, evResults, evResult, Tryz.f29, hne]; done)
    | (simp [Ends, finish, evResults, evResult, Tryz.f29, he, h6]; done)
    | (simp [Ends, finish, evResults, evResult, Tryz.f29, he]; done)
  case n3 =>
    intro hn3
    have hl : l1.length = l2.length := by simp at hn3; omega
    refine Tri.skip ?_
    refine inSeq_norm ?_
    refine Tri.seq' ?_
    refine Tri.seq' ?_
    refine Tri.regN (t' := ?t5) (H' := ?H5) TT_ok hC ?e5 ?q5
    case e5 =>
      refine go_false ?_
      refine evSeq_go rfl (by simp [h0, h1, h2, Nd.encL_length] <;> rfl) (by rfl) (by simp [hw]) ?_
      refine evSeq_go rfl (by simp [h0, h1, h2, Nd.encL_length] <;> rfl) (by rfl) (by simp [hw]) ?_
      refine evSeq_go rfl (by simp [h0, h1, h2, Nd.encL_length] <;> rfl) (by rfl) (by simp [hw]) ?_
      exact evSeq_nil
    refine inSeq_norm ?_
    refine Tri.block' ?_
    refine Tri.loop ?_
    refine loop13 hC l1 l2 [] [] _ _ hl rfl hrec (by simpa using hlen) (by simp [hw]) (by simp [h1]) (by simp [h2]) (by simp [h0]) (by simp [Nd.encL_length]) (by simp) ?exit ?ret
    case exit =>
      intro t2 H2 hw he
      refine inBlk_exit ?_
      refine inSeq_norm ?_
      refine Tri.seq' ?_
      refine Tri.regN (t' := ?t6) (H' := ?H6) TT_ok hC ?e6 ?q6
      case e6 =>
        refine go_false ?_
        refine evSeq_go rfl (by simp [h0, h1, h2, Nd.encL_length] <;> rfl) (by rfl) (by simp [hw]) ?_
        exact evSeq_nil
      refine inSeq_norm ?_
      refine Tri.ret ?_
      first
      | (simp [Ends, finish, evResults, evResult, Tryz.f29, hne]; done)
      | (simp [Ends, finish, evResults, evResult, Tryz.f29, he, h6]; done)
      | (simp [Ends, finish, evResults, evResult, Tryz.f29, he]; done)
    case ret =>
      intro t2 H2 hw he h6
      refine inBlk_ret ?_
      refine inSeq_ret ?_
      first
      | (simp [Ends, finish, evResults, evResult, Tryz.f29, hne]; done)
      | (simp [Ends, finish, evResults, evResult, Tryz.f29, he, h6]; done)
      | (simp [Ends, finish, evResults, evResult, Tryz.f29, he]; done)
theorem body_6 {call : CallF} (hC : call.Sound Tryz.prog TT) (x y : Nd) (hs : ∀ H, call 29 [.isl 3 (Nd.encL x.kids), .isl 3 (Nd.encL y.kids), .fn 13 []] H = .val (.b (eqNL x.kids y.kids)) H)  : Body Tryz.prog TT 13 [x.enc, y.enc] (.val (.b (eqN x y))) := by
  refine ⟨Tryz.f13, _, rfl, rfl, by simp [Tryz.f13], ?_⟩
  have h0 : (Tm.init Tryz.f13.ntmps [x.enc, y.enc]).get 0 = x.enc := by rw [get_init]; rfl
  have h1 : (Tm.init Tryz.f13.ntmps [x.enc, y.enc]).get 1 = y.enc := by rw [get_init]; rfl
  have hw : (Tm.init Tryz.f13.ntmps [x.enc, y.enc]).wid = 24 := rfl
  generalize Tm.init Tryz.f13.ntmps [x.enc, y.enc] = t at *
  try simp only [Nd.enc_eq] at *
  refine Tri.seq' ?_
  refine Tri.regN (t' := ?t1) (H' := ?H1) TT_ok hC ?e1 ?q1
  case e1 =>
    refine go_false ?_
    refine evSeq_go rfl (by simp [h0, h1, hs] <;> rfl) (by rfl) (by simp [hw]) ?_
    refine evSeq_go rfl (by simp [h0, h1, hs] <;> rfl) (by rfl) (by simp [hw]) ?_
    refine evSeq_go rfl (by simp [h0, h1, hs] <;> rfl) (by rfl) (by simp [hw]) ?_
    exact evSeq_nil
  refine inSeq_norm ?_
  refine Tri.seq' ?_
  cases hB1 : (x.kind == y.kind : Bool)
  case false =>
    refine Tri.regN (t' := ?tq1f2) (H' := ?Hq1f2) TT_ok hC ?eq1f2 ?qq1f2
    case eq1f2 =>
      refine go_false ?_
      refine evSeq_go rfl (by simp [h0, h1, hs, hB1] <;> rfl) (by rfl) (by simp [hw]) ?_
      refine evSeq_go rfl (by simp [h0, h1, hs, hB1] <;> rfl) (by rfl) (by simp [hw]) ?_
      refine evSeq_go rfl (by simp [h0, h1, hs, hB1] <;> rfl) (by rfl) (by simp [hw]) ?_
      refine evSeq_go rfl (by simp [h0, h1, hs, hB1] <;> rfl) (by rfl) (by simp [hw]) ?_
      refine evSeq_go rfl (by simp [h0, h1, hs, hB1] <;> rfl) (by rfl) (by simp [hw]) ?_
      refine evSeq_go rfl (by simp [h0, h1, hs, hB1] <;> rfl) (by rfl) (by simp [hw]) ?_
      refine evSeq_off (by simp [wants, h0, h1, hs, hB1]) (by simp [hw]) ?_
      refine evSeq_off (by simp [wants, h0, h1, hs, hB1]) (by simp [hw]) ?_
      refine evSeq_off (by simp [wants, h0, h1, hs, hB1]) (by simp [hw]) ?_
      refine evSeq_off (by simp [wants, h0, h1, hs, hB1]) (by simp [hw]) ?_
      refine evSeq_off (by simp [wants, h0, h1, hs, hB1]) (by simp [hw]) ?_
      refine evSeq_go rfl (by simp [h0, h1, hs, hB1] <;> rfl) (by rfl) (by simp [hw]) ?_
      refine evSeq_go rfl (by simp [h0, h1, hs, hB1] <;> rfl) (by rfl) (by simp [hw]) ?_
      refine evSeq_off (by simp [wants, h0, h1, hs, hB1]) (by simp [hw]) ?_
      refine evSeq_off (by simp [wants, h0, h1, hs, hB1]) (by simp [hw]) ?_
      refine evSeq_off (by simp [wants, h0, h1, hs, hB1]) (by simp [hw]) ?_
      refine evSeq_off (by simp [wants, h0, h1, hs, hB1]) (by simp [hw]) ?_
      refine evSeq_off (by simp [wants, h0, h1, hs, hB1]) (by simp [hw]) ?_
      refine evSeq_go rfl (by simp [h0, h1, hs, hB1] <;> rfl) (by rfl) (by simp [hw]) ?_
      refine evSeq_go rfl (by simp [h0, h1, hs, hB1] <;> rfl) (by rfl) (by simp [hw]) ?_
      exact evSeq_nil
    refine inSeq_norm ?_
    refine Tri.ret ?_
    simp [Ends, finish, evResults, evResult, Tryz.f13, eqN_kinds, *]
  case true =>
    cases hB2 : (x.text == y.text : Bool)
    case false =>
      refine Tri.regN (t' := ?tq1tq2f2) (H' := ?Hq1tq2f2) TT_ok hC ?eq1tq2f2 ?qq1tq2f2
      case eq1tq2f2 =>
        refine go_false ?_
        refine evSeq_go rfl (by simp [h0, h1, hs, hB1, hB2] <;> rfl) (by rfl) (by simp [hw]) ?_
        refine evSeq_go rfl (by simp [h0, h1, hs, hB1, hB2] <;> rfl) (by rfl) (by simp [hw]) ?_
        refine evSeq_go rfl (by simp [h0, h1, hs, hB1, hB2] <;> rfl) (by rfl) (by simp [hw]) ?_
        refine evSeq_go rfl (by simp [h0, h1, hs, hB1, hB2] <;> rfl) (by rfl) (by simp [hw]) ?_
        refine evSeq_go rfl (by simp [h0, h1, hs, hB1, hB2] <;> rfl) (by rfl) (by simp [hw]) ?_
        refine evSeq_go rfl (by simp [h0, h1, hs, hB1, hB2] <;> rfl) (by rfl) (by simp [hw]) ?_
        refine evSeq_go (by simp [wants, h0, h1, hs, hB1, hB2]) (by simp [h0, h1, hs, hB1, hB2] <;> rfl) (by rfl) (by simp [hw]) ?_
        refine evSeq_go (by simp [wants, h0, h1, hs, hB1, hB2]) (by simp [h0, h1, hs, hB1, hB2] <;> rfl) (by rfl) (by simp [hw]) ?_
        refine evSeq_go (by simp [wants, h0, h1, hs, hB1, hB2]) (by simp [h0, h1, hs, hB1, hB2] <;> rfl) (by rfl) (by simp [hw]) ?_
        refine evSeq_go (by simp [wants, h0, h1, hs, hB1, hB2]) (by simp [h0, h1, hs, hB1, hB2] <;> rfl) (by rfl) (by simp [hw]) ?_
        refine evSeq_go (by simp [wants, h0, h1, hs, hB1, hB2]) (by simp [h0, h1, hs, hB1, hB2] <;> rfl) (by rfl) (by simp [hw]) ?_
        refine evSeq_go rfl (by simp [h0, h1, hs, hB1, hB2] <;> rfl) (by rfl) (by simp [hw]) ?_
        refine evSeq_go rfl (by simp [h0, h1, hs, hB1, hB2] <;> rfl) (by rfl) (by simp [hw]) ?_
        refine evSeq_off (by simp [wants, h0, h1, hs, hB1, hB2]) (by simp [hw]) ?_
        refine evSeq_off (by simp [wants, h0, h1, hs, hB1, hB2]) (by simp [hw]) ?_
        refine evSeq_off (by simp [wants, h0, h1, hs, hB1, hB2]) (by simp [hw]) ?_
        refine evSeq_off (by simp [wants, h0, h1, hs, hB1, hB2]) (by simp [hw]) ?_
        refine evSeq_off (by simp [wants, h0, h1, hs, hB1, hB2]) (by simp [hw]) ?_
        refine evSeq_go rfl (by simp [h0, h1, hs, hB1, hB2] <;> rfl) (by rfl) (by simp [hw]) ?_
        refine evSeq_go rfl (by simp [h0, h1, hs, hB1, hB2] <;> rfl) (by rfl) (by simp [hw]) ?_
        exact evSeq_nil
      refine inSeq_norm ?_
      refine Tri.ret ?_
      simp [Ends, finish, evResults, evResult, Tryz.f13, eqN_kinds, *]
    case true =>
      refine Tri.regN (t' := ?tq1tq2t2) (H' := ?Hq1tq2t2) TT_ok hC ?eq1tq2t2 ?qq1tq2t2
      case eq1tq2t2 =>
        refine go_false ?_
        refine evSeq_go rfl (by simp [h0, h1, hs, hB1, hB2] <;> rfl) (by rfl) (by simp [hw]) ?_
        refine evSeq_go rfl (by simp [h0, h1, hs, hB1, hB2] <;> rfl) (by rfl) (by simp [hw]) ?_
        refine evSeq_go rfl (by simp [h0, h1, hs, hB1, hB2] <;> rfl) (by rfl) (by simp [hw]) ?_
        refine evSeq_go rfl (by simp [h0, h1, hs, hB1, hB2] <;> rfl) (by rfl) (by simp [hw]) ?_
        refine evSeq_go rfl (by simp [h0, h1, hs, hB1, hB2] <;> rfl) (by rfl) (by simp [hw]) ?_
        refine evSeq_go rfl (by simp [h0, h1, hs, hB1, hB2] <;> rfl) (by rfl) (by simp [hw]) ?_
        refine evSeq_go (by simp [wants, h0, h1, hs, hB1, hB2]) (by simp [h0, h1, hs, hB1, hB2] <;> rfl) (by rfl) (by simp [hw]) ?_
        refine evSeq_go (by simp [wants, h0, h1, hs, hB1, hB2]) (by simp [h0, h1, hs, hB1, hB2] <;> rfl) (by rfl) (by simp [hw]) ?_
        refine evSeq_go (by simp [wants, h0, h1, hs, hB1, hB2]) (by simp [h0, h1, hs, hB1, hB2] <;> rfl) (by rfl) (by simp [hw]) ?_
        refine evSeq_go (by simp [wants, h0, h1, hs, hB1, hB2]) (by simp [h0, h1, hs, hB1, hB2] <;> rfl) (by rfl) (by simp [hw]) ?_
        refine evSeq_go (by simp [wants, h0, h1, hs, hB1, hB2]) (by simp [h0, h1, hs, hB1, hB2] <;> rfl) (by rfl) (by simp [hw]) ?_
        refine evSeq_go rfl (by simp [h0, h1, hs, hB1, hB2] <;> rfl) (by rfl) (by simp [hw]) ?_
        refine evSeq_go rfl (by simp [h0, h1, hs, hB1, hB2] <;> rfl) (by rfl) (by simp [hw]) ?_
        refine evSeq_go (by simp [wants, h0, h1, hs, hB1, hB2]) (by simp [h0, h1, hs, hB1, hB2] <;> rfl) (by rfl) (by simp [hw]) ?_
        refine evSeq_go (by simp [wants, h0, h1, hs, hB1, hB2]) (by simp [h0, h1, hs, hB1, hB2] <;> rfl) (by rfl) (by simp [hw]) ?_
        refine evSeq_go (by simp [wants, h0, h1, hs, hB1, hB2]) (by simp [h0, h1, hs, hB1, hB2] <;> rfl) (by rfl) (by simp [hw]) ?_
        refine evSeq_go (by simp [wants, h0, h1, hs, hB1, hB2]) (by simp [h0, h1, hs, hB1, hB2] <;> rfl) (by rfl) (by simp [hw]) ?_
        refine evSeq_go (by simp [wants, h0, h1, hs, hB1, hB2]) (by simp [h0, h1, hs, hB1, hB2] <;> rfl) (by rfl) (by simp [hw]) ?_
        refine evSeq_go rfl (by simp [h0, h1, hs, hB1, hB2] <;> rfl) (by rfl) (by simp [hw]) ?_
        refine evSeq_go rfl (by simp [h0, h1, hs, hB1, hB2] <;> rfl) (by rfl) (by simp [hw]) ?_
        exact evSeq_nil
      refine inSeq_norm ?_
      refine Tri.ret ?_
      simp [Ends, finish, evResults, evResult, Tryz.f13, eqN_kinds, *]
mutual
def Nd.dep : Nd → Nat
  | .mk _ _ l => Nd.depL l 0 + 1
def Nd.depL : List Nd → Nat → Nat
  | [], d => d
  | x :: l, d => Nd.depL l (if x.dep > d then x.dep else d)
end
mutual
theorem Nd.dep_le : ∀ x : Nd, x.dep ≤ x.num
  | .mk _ _ l => by
    have := Nd.depL_le l 0
    simp only [Nd.dep, Nd.num]; omega
theorem Nd.depL_le : ∀ (l : List Nd) (d : Nat), Nd.depL l d ≤ d + Nd.numL l
  | [], d => by simp [Nd.depL]
  | x :: l, d => by
    have h1 := Nd.dep_le x
    have h2 := Nd.depL_le l (if x.dep > d then x.dep else d)
    simp only [Nd.depL, Nd.numL]
    split at h2 <;> split <;> omega
end
theorem loop7 {call : CallF} (hC : call.Sound Tryz.prog TT) {Q : Out → Prop} : ∀ (L pre : List Nd) (n d : Nat) (t : Tm) (H : Heap),
    (∀ x ∈ L, ∀ H, call 15 [x.enc] H = .val (.tup [.i .i64 x.num, .i .i64 x.dep]) H) → n + Nd.numL L < 2200000 → (pre ++ L).length < 1100000 →
    t.wid = 30 → t.get 9 = .isl 3 (Nd.encL (pre ++ L)) → t.get 10 = .i .i64 (pre ++ L).length → t.get 11 = .i .i64 pre.length → t.get 2 = .i .i64 n → t.get 3 = .i .i64 d →
    (∀ t' H', t'.wid = 30 → t'.get 2 = .i .i64 (n + Nd.numL L : Nat) → t'.get 3 = .i .i64 (Nd.depL L d) → Q (.exit 0 t' H')) →
    LTri Tryz.prog TT (sub [true, true, false, true, false, false] (bodyOf Tryz.f15)) t H Q := by
  intro L
  induction L with
  | nil =>
    intro pre n d t H hrec hn hlen hw h9 h10 h11 h2 h3 hE
    refine LTri.round' ?_
    refine Tri.seq' ?_
    refine Tri.regN (t' := ?tz1) (H' := ?Hz1) TT_ok hC ?ez1 ?qz1
    case ez1 =>
      refine go_false ?_
      refine evSeq_go rfl (by simp [h9, h10, h11, h2, h3, Nd.encL_length, Nd.enc_eq] <;> rfl) (by rfl) (by simp [hw]) ?_
      exact evSeq_nil
    refine inSeq_norm ?_
    refine Tri.seq' ?_
    refine Tri.condG (o := ?oz2) (b := ?bz2) ?gz2 ?rz2 ?yz2 ?nz2
    case gz2 => simp [h9, h10, h11, h2, h3, Nd.encL_length, Nd.enc_eq] <;> rfl
    case rz2 => rfl
    case yz2 =>
      intro hy2
      simp at hy2
    case nz2 =>
      intro hn2
      refine Tri.exit ?_
      refine inSeq_exit ?_
      refine inLoop_exit ?_
      exact hE _ _ (by simp [hw]) (by simp [h2, Nd.numL]) (by simp [h3, Nd.depL])
  | cons x L ih =>
    intro pre n d t H hrec hn hlen hw h9 h10 h11 h2 h3 hE
    have hlt := fin_len pre.length L.length
    have hat := encL_at pre x L
    have hat2 := encL_at2 pre x L
    have hr := hrec x (by simp)
    simp only [Nd.enc_eq] at hr
    have hwn : IntKind.i64.wrap ((n : Int) + x.num) = n + x.num := wrap_i64 (by omega) (by simp only [Nd.numL] at hn; omega)
    have hmx : (if (d : Int) < x.dep then (x.dep : Int) else d) = ((if x.dep > d then x.dep else d : Nat) : Int) := by
      by_cases h : d < x.dep
      · rw [if_pos (by omega), if_pos h]
      · rw [if_neg (by omega), if_neg h]
    refine LTri.round' ?_
    refine Tri.seq' ?_
    refine Tri.regN (t' := ?t1) (H' := ?H1) TT_ok hC ?e1 ?q1
    case e1 =>
      refine go_false ?_
      refine evSeq_go rfl (by simp [h9, h10, h11, h2, h3, Nd.encL_length, Nd.enc_eq, hlt, hat, hat2, hr, evMax, hwn, hmx] <;> rfl) (by rfl) (by simp [hw]) ?_
      exact evSeq_nil
    refine inSeq_norm ?_
    refine Tri.seq' ?_
    refine Tri.condG (o := ?o2) (b := ?b2) ?g2 ?r2 ?y2 ?n2
    case g2 => simp [h9, h10, h11, h2, h3, Nd.encL_length, Nd.enc_eq, hlt, hat, hat2, hr, evMax, hwn, hmx] <;> rfl
    case r2 => rfl
    case y2 =>
      intro hy2
      refine Tri.skip ?_
      refine inSeq_norm ?_
      refine Tri.seq' ?_
      refine Tri.block' ?_
      refine Tri.seq' ?_
      refine Tri.regN (t' := ?t3) (H' := ?H3) TT_ok hC ?e3 ?q3
      case e3 =>
        refine go_false ?_
        refine evSeq_go rfl (by simp [h9, h10, h11, h2, h3, Nd.encL_length, Nd.enc_eq, hlt, hat, hat2, hr, evMax, hwn, hmx] <;> rfl) (by rfl) (by simp [hw]) ?_
        refine evSeq_go rfl (by simp [h9, h10, h11, h2, h3, Nd.encL_length, Nd.enc_eq, hlt, hat, hat2, hr, evMax, hwn, hmx] <;> rfl) (by rfl) (by simp [hw]) ?_
        refine evSeq_go rfl (by simp [h9, h10, h11, h2, h3, Nd.encL_length, Nd.enc_eq, hlt, hat, hat2, hr, evMax, hwn, hmx] <;> rfl) (by rfl) (by simp [hw]) ?_
        refine evSeq_go rfl (by simp [h9, h10, h11, h2, h3, Nd.encL_length, Nd.enc_eq, hlt, hat, hat2, hr, evMax, hwn, hmx] <;> rfl) (by rfl) (by simp [hw]) ?_
        exact evSeq_nil
      refine inSeq_norm ?_
      refine Tri.seq' ?_
      refine Tri.regN (t' := ?t4) (H' := ?H4) TT_ok hC ?e4 ?q4
      case e4 =>
        refine go_false ?_
        refine evSeq_go rfl (by simp [h9, h10, h11, h2, h3, Nd.encL_length, Nd.enc_eq, hlt, hat, hat2, hr, evMax, hwn, hmx] <;> rfl) (by rfl) (by simp [hw]) ?_
        refine evSeq_go rfl (by simp [h9, h10, h11, h2, h3, Nd.encL_length, Nd.enc_eq, hlt, hat, hat2, hr, evMax, hwn, hmx] <;> rfl) (by rfl) (by simp [hw]) ?_
        refine evSeq_go rfl (by simp [h9, h10, h11, h2, h3, Nd.encL_length, Nd.enc_eq, hlt, hat, hat2, hr, evMax, hwn, hmx] <;> rfl) (by rfl) (by simp [hw]) ?_
        refine evSeq_go rfl (by simp [h9, h10, h11, h2, h3, Nd.encL_length, Nd.enc_eq, hlt, hat, hat2, hr, evMax, hwn, hmx] <;> rfl) (by rfl) (by simp [hw]) ?_
        refine evSeq_go rfl (by simp [h9, h10, h11, h2, h3, Nd.encL_length, Nd.enc_eq, hlt, hat, hat2, hr, evMax, hwn, hmx] <;> rfl) (by rfl) (by simp [hw]) ?_
        refine evSeq_go rfl (by simp [h9, h10, h11, h2, h3, Nd.encL_length, Nd.enc_eq, hlt, hat, hat2, hr, evMax, hwn, hmx] <;> rfl) (by rfl) (by simp [hw]) ?_
        refine evSeq_go rfl (by simp [h9, h10, h11, h2, h3, Nd.encL_length, Nd.enc_eq, hlt, hat, hat2, hr, evMax, hwn, hmx] <;> rfl) (by rfl) (by simp [hw]) ?_
        exact evSeq_nil
      refine inSeq_norm ?_
      refine Tri.regN (t' := ?t5) (H' := ?H5) TT_ok hC ?e5 ?q5
      case e5 =>
        refine go_false ?_
        refine evSeq_go rfl (by simp [h9, h10, h11, h2, h3, Nd.encL_length, Nd.enc_eq, hlt, hat, hat2, hr, evMax, hwn, hmx] <;> rfl) (by rfl) (by simp [hw]) ?_
        refine evSeq_go rfl (by simp [h9, h10, h11, h2, h3, Nd.encL_length, Nd.enc_eq, hlt, hat, hat2, hr, evMax, hwn, hmx] <;> rfl) (by rfl) (by simp [hw]) ?_
        refine evSeq_go rfl (by simp [h9, h10, h11, h2, h3, Nd.encL_length, Nd.enc_eq, hlt, hat, hat2, hr, evMax, hwn, hmx] <;> rfl) (by rfl) (by simp [hw]) ?_
        refine evSeq_go rfl (by simp [h9, h10, h11, h2, h3, Nd.encL_length, Nd.enc_eq, hlt, hat, hat2, hr, evMax, hwn, hmx] <;> rfl) (by rfl) (by simp [hw]) ?_
        refine evSeq_go rfl (by simp [h9, h10, h11, h2, h3, Nd.encL_length, Nd.enc_eq, hlt, hat, hat2, hr, evMax, hwn, hmx] <;> rfl) (by rfl) (by simp [hw]) ?_
        refine evSeq_go rfl (by simp [h9, h10, h11, h2, h3, Nd.encL_length, Nd.enc_eq, hlt, hat, hat2, hr, evMax, hwn, hmx] <;> rfl) (by rfl) (by simp [hw]) ?_
        refine evSeq_go rfl (by simp [h9, h10, h11, h2, h3, Nd.encL_length, Nd.enc_eq, hlt, hat, hat2, hr, evMax, hwn, hmx] <;> rfl) (by rfl) (by simp [hw]) ?_
        refine evSeq_go rfl (by simp [h9, h10, h11, h2, h3, Nd.encL_length, Nd.enc_eq, hlt, hat, hat2, hr, evMax, hwn, hmx] <;> rfl) (by rfl) (by simp [hw]) ?_
        exact evSeq_nil
      refine inBlk_norm ?_
      refine inSeq_norm ?_
      refine Tri.regN (t' := ?t6) (H' := ?H6) TT_ok hC ?e6 ?q6
      case e6 =>
        refine go_false ?_
        refine evSeq_go rfl (by simp [h9, h10, h11, h2, h3, Nd.encL_length, Nd.enc_eq, hlt, hat, hat2, hr, evMax, hwn, hmx] <;> rfl) (by rfl) (by simp [hw]) ?_
        refine evSeq_go rfl (by simp [h9, h10, h11, h2, h3, Nd.encL_length, Nd.enc_eq, hlt, hat, hat2, hr, evMax, hwn, hmx] <;> rfl) (by rfl) (by simp [hw]) ?_
        exact evSeq_nil
      refine inLoop_norm ?_
      refine ih (pre ++ [x]) (n + x.num) (if x.dep > d then x.dep else d) _ _ (fun x hx => hrec x (List.mem_cons_of_mem _ hx)) (by simp only [Nd.numL] at hn; omega) (by simpa using hlen) (by simp [hw]) (by simp [h9]) (by simp [h10]) (by simp; exact wrap_i64 (by omega) (by simp at hlen; omega)) (by simp [hwn]) (by simp <;> split <;> rfl) ?_
      intro t' H' hw' g2 g3
      exact hE t' H' hw' (by rw [g2]; simp only [Nd.numL]; congr 1; push_cast; omega) (by rw [g3]; simp only [Nd.depL])
    case n2 =>
      intro hn2
      exfalso
      simp at hn2
theorem body_7 {call : CallF} (hC : call.Sound Tryz.prog TT) (x : Nd) (hfit : x.num < 1100000) (hrec : ∀ y ∈ x.kids, ∀ H, call 15 [y.enc] H = .val (.tup [.i .i64 y.num, .i .i64 y.dep]) H)  : Body Tryz.prog TT 15 [x.enc] (.val (.tup [.i .i64 x.num, .i .i64 x.dep])) := by
  refine ⟨Tryz.f15, _, rfl, rfl, by simp [Tryz.f15], ?_⟩
  have h0 : (Tm.init Tryz.f15.ntmps [x.enc]).get 0 = x.enc := by rw [get_init]; rfl
  have hw : (Tm.init Tryz.f15.ntmps [x.enc]).wid = 30 := rfl
  generalize Tm.init Tryz.f15.ntmps [x.enc] = t at *
  try simp only [Nd.enc_eq] at h0
  have hnum : x.num = Nd.numL x.kids + 1 := by cases x; rfl
  have hdep : x.dep = Nd.depL x.kids 0 + 1 := by cases x; rfl
  have hdl := Nd.depL_le x.kids 0
  refine Tri.seq' ?_
  refine Tri.regN (t' := ?t1) (H' := ?H1) TT_ok hC ?e1 ?q1
  case e1 =>
    refine go_false ?_
    refine evSeq_go rfl (by simp [h0, Nd.encL_length] <;> rfl) (by rfl) (by simp [hw]) ?_
    refine evSeq_go rfl (by simp [h0, Nd.encL_length] <;> rfl) (by rfl) (by simp [hw]) ?_
    refine evSeq_go rfl (by simp [h0, Nd.encL_length] <;> rfl) (by rfl) (by simp [hw]) ?_
    exact evSeq_nil
  refine inSeq_norm ?_
  refine Tri.seq' ?_
  refine Tri.regN (t' := ?t2) (H' := ?H2) TT_ok hC ?e2 ?q2
  case e2 =>
    refine go_false ?_
    refine evSeq_go rfl (by simp [h0, Nd.encL_length] <;> rfl) (by rfl) (by simp [hw]) ?_
    exact evSeq_nil
  refine inSeq_norm ?_
  refine Tri.seq' ?_
  refine Tri.seq' ?_
  refine Tri.regN (t' := ?t3) (H' := ?H3) TT_ok hC ?e3 ?q3
  case e3 =>
    refine go_false ?_
    refine evSeq_go rfl (by simp [h0, Nd.encL_length] <;> rfl) (by rfl) (by simp [hw]) ?_
    refine evSeq_go rfl (by simp [h0, Nd.encL_length] <;> rfl) (by rfl) (by simp [hw]) ?_
    refine evSeq_go rfl (by simp [h0, Nd.encL_length] <;> rfl) (by rfl) (by simp [hw]) ?_
    refine evSeq_go rfl (by simp [h0, Nd.encL_length] <;> rfl) (by rfl) (by simp [hw]) ?_
    exact evSeq_nil
  refine inSeq_norm ?_
  refine Tri.block' ?_
  refine Tri.loop ?_
  refine loop7 hC x.kids [] 1 0 _ _ hrec (by rw [hnum] at hfit; omega) (by simp; have := Nd.numL_length x.kids; omega) (by simp [hw]) (by simp) (by simp [Nd.encL_length]) (by simp) (by simp) (by simp) ?exit
  case exit =>
    intro t2 H2 hw h2 h3
    refine inBlk_exit ?_
    refine inSeq_norm ?_
    refine Tri.seq' ?_
    refine Tri.regN (t' := ?t4) (H' := ?H4) TT_ok hC ?e4 ?q4
    case e4 =>
      refine go_false ?_
      refine evSeq_go rfl (by simp [h0, Nd.encL_length, h2, h3] <;> rfl) (by rfl) (by simp [hw]) ?_
      refine evSeq_go rfl (by simp [h0, Nd.encL_length, h2, h3] <;> rfl) (by rfl) (by simp [hw]) ?_
      refine evSeq_go rfl (by simp [h0, Nd.encL_length, h2, h3] <;> rfl) (by rfl) (by simp [hw]) ?_
      refine evSeq_go rfl (by simp [h0, Nd.encL_length, h2, h3] <;> rfl) (by rfl) (by simp [hw]) ?_
      refine evSeq_go rfl (by simp [h0, Nd.encL_length, h2, h3] <;> rfl) (by rfl) (by simp [hw]) ?_
      exact evSeq_nil
    refine inSeq_norm ?_
    refine Tri.ret ?_
    simp [Ends, finish, evResults, evResult, Tryz.f15, h2, h3, hnum, hdep]
    exact ⟨by omega, wrap_i64 (by omega) (by omega)⟩
end Go.Ev
