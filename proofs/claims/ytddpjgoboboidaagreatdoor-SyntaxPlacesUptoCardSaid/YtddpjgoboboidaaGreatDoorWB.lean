/- Walks over the searches in rows. -/
import Derived.Test.YtddpjgoboboidaaGreatDoorWA
namespace Go.Ev
open Go Go.Proofs
set_option maxRecDepth 100000
set_option linter.unusedSimpArgs false
set_option linter.unusedVariables false
/-- Texts. -/
def encS (l : List (List UInt8)) : List V := l.map V.s
theorem encS_length (l : List (List UInt8)) : (encS l).length = l.length := by simp [encS]
theorem encS_at (pre : List (List UInt8)) (x : List UInt8) (l : List (List UInt8)) : (encS (pre ++ x :: l))[pre.length]? = some (.s x) := by simp [encS]
theorem encS_at2 (pre : List (List UInt8)) (x : List UInt8) (l : List (List UInt8)) : ∀ h, (encS (pre ++ x :: l))[pre.length]'h = .s x := fun h => by simp [encS]
theorem encS_nl (l : List (List UInt8)) : nlL (encS l) = true := by
  induction l with
  | nil => rfl
  | cons x l ih => simpa [encS, nlL, nl] using ih

theorem loop69 {call : CallF} (hC : call.Sound Tryz.prog TT) (s : List UInt8) {Q : Out → Prop} : ∀ (L pre : List (List UInt8)) (t : Tm) (H : Heap), 
    (pre ++ L).length < 1100000 → t.wid = 19 → t.get 0 = .isl 1 (encS (pre ++ L)) → t.get 1 = .s s → t.get 7 = .i .i64 (pre ++ L).length → t.get 8 = .i .i64 pre.length →
    (∀ t' H', t'.wid = 19 → (L.any fun x => s == x) = false → Q (.exit 0 t' H')) →
    (∀ t' H' (i : Nat), t'.wid = 19 → (L.any fun x => s == x) = true → t'.get 4 = .i .i64 i → i < (pre ++ L).length → Q (.ret t' H')) →
    LTri Tryz.prog TT (sub [true, false, true, false, false] (bodyOf Tryz.f87)) t H Q := by
  intro L
  induction L with
  | nil =>
    intro pre t H hlen hw h0 h1 h7 h8 hE hR
    refine LTri.round' ?_
    refine Tri.seq' ?_
    refine Tri.regN (t' := ?tz1) (H' := ?Hz1) TT_ok hC ?ez1 ?qz1
    case ez1 =>
      refine go_false ?_
      refine evSeq_go rfl (by simp [h0, h1, h7, h8, encS_length] <;> rfl) (by rfl) (by simp [hw]) ?_
      exact evSeq_nil
    refine inSeq_norm ?_
    refine Tri.seq' ?_
    refine Tri.condG (o := ?oz2) (b := ?bz2) ?gz2 ?rz2 ?yz2 ?nz2
    case gz2 => simp [h0, h1, h7, h8, encS_length] <;> rfl
    case rz2 => rfl
    case yz2 =>
      intro hy2
      simp at hy2
    case nz2 =>
      intro hn2
      refine Tri.exit ?_
      refine inSeq_exit ?_
      refine inLoop_exit ?_
      exact hE _ _ (by simp [hw]) (by simp)
  | cons x L ih =>
    intro pre t H hlen hw h0 h1 h7 h8 hE hR
    have hlt := fin_len pre.length L.length
    have hat := encS_at pre x L
    have hat2 := encS_at2 pre x L
    have hr := trivial
    refine LTri.round' ?_
    refine Tri.seq' ?_
    refine Tri.regN (t' := ?t1) (H' := ?H1) TT_ok hC ?e1 ?q1
    case e1 =>
      refine go_false ?_
      refine evSeq_go rfl (by simp [h0, h1, h7, h8, encS_length, hlt, hat, hat2, hr] <;> rfl) (by rfl) (by simp [hw]) ?_
      exact evSeq_nil
    refine inSeq_norm ?_
    refine Tri.seq' ?_
    refine Tri.condG (o := ?o2) (b := ?b2) ?g2 ?r2 ?y2 ?n2
    case g2 => simp [h0, h1, h7, h8, encS_length, hlt, hat, hat2, hr] <;> rfl
    case r2 => rfl
    case y2 =>
      intro hy2
      refine Tri.skip ?_
      refine inSeq_norm ?_
      refine Tri.seq' ?_
      refine Tri.block' ?_
      refine Tri.seq' ?_
      refine Tri.regN (t' := ?t3) (H' := ?H3) TT_ok hC ?e3 ?q3
      case e3 =>
        refine go_false ?_
        refine evSeq_go rfl (by simp [h0, h1, h7, h8, encS_length, hlt, hat, hat2, hr] <;> rfl) (by rfl) (by simp [hw]) ?_
        refine evSeq_go rfl (by simp [h0, h1, h7, h8, encS_length, hlt, hat, hat2, hr] <;> rfl) (by rfl) (by simp [hw]) ?_
        exact evSeq_nil
      refine inSeq_norm ?_
      refine Tri.seq' ?_
      refine Tri.regN (t' := ?t4) (H' := ?H4) TT_ok hC ?e4 ?q4
      case e4 =>
        refine go_false ?_
        refine evSeq_go rfl (by simp [h0, h1, h7, h8, encS_length, hlt, hat, hat2, hr] <;> rfl) (by rfl) (by simp [hw]) ?_
        refine evSeq_go rfl (by simp [h0, h1, h7, h8, encS_length, hlt, hat, hat2, hr] <;> rfl) (by rfl) (by simp [hw]) ?_
        refine evSeq_go rfl (by simp [h0, h1, h7, h8, encS_length, hlt, hat, hat2, hr] <;> rfl) (by rfl) (by simp [hw]) ?_
        refine evSeq_go rfl (by simp [h0, h1, h7, h8, encS_length, hlt, hat, hat2, hr] <;> rfl) (by rfl) (by simp [hw]) ?_
        refine evSeq_go rfl (by simp [h0, h1, h7, h8, encS_length, hlt, hat, hat2, hr] <;> rfl) (by rfl) (by simp [hw]) ?_
        refine evSeq_go rfl (by simp [h0, h1, h7, h8, encS_length, hlt, hat, hat2, hr] <;> rfl) (by rfl) (by simp [hw]) ?_
        exact evSeq_nil
      refine inSeq_norm ?_
      refine Tri.condG (o := ?o5) (b := ?b5) ?g5 ?r5 ?y5 ?n5
      case g5 => simp [h0, h1, h7, h8, encS_length, hlt, hat, hat2, hr] <;> rfl
      case r5 => rfl
      case y5 =>
        intro hy5
        have hx : (s == x) = true := by simpa using hy5
        refine Tri.seq' ?_
        refine Tri.regN (t' := ?t6) (H' := ?H6) TT_ok hC ?e6 ?q6
        case e6 =>
          refine go_false ?_
          refine evSeq_go rfl (by simp [h0, h1, h7, h8, encS_length, hlt, hat, hat2, hr] <;> rfl) (by rfl) (by simp [hw]) ?_
          refine evSeq_go rfl (by simp [h0, h1, h7, h8, encS_length, hlt, hat, hat2, hr] <;> rfl) (by rfl) (by simp [hw]) ?_
          exact evSeq_nil
        refine inSeq_norm ?_
        refine Tri.ret ?_
        refine inBlk_ret ?_
        refine inSeq_ret ?_
        refine inLoop_ret ?_
        exact hR _ _ pre.length (by simp [hw]) (by simp [hx]) (by simp [get_put, get_none]) (by simp)
      case n5 =>
        intro hn5
        have hx : (s == x) = false := by simpa using hn5
        refine Tri.skip ?_
        refine inBlk_norm ?_
        refine inSeq_norm ?_
        refine Tri.regN (t' := ?t7) (H' := ?H7) TT_ok hC ?e7 ?q7
        case e7 =>
          refine go_false ?_
          refine evSeq_go rfl (by simp [h0, h1, h7, h8, encS_length, hlt, hat, hat2, hr] <;> rfl) (by rfl) (by simp [hw]) ?_
          refine evSeq_go rfl (by simp [h0, h1, h7, h8, encS_length, hlt, hat, hat2, hr] <;> rfl) (by rfl) (by simp [hw]) ?_
          exact evSeq_nil
        refine inLoop_norm ?_
        refine ih (pre ++ [x]) _ _ (by simpa using hlen) (by simp [hw]) (by simp [h0]) (by simp [h1]) (by simp [h7]) (by simp; exact wrap_i64 (by omega) (by simp at hlen; omega)) ?_ ?_
        · intro t' H' hw' he
          exact hE t' H' hw' (by simp [hx, he])
        · intro t' H' i hw' he h4 hi
          exact hR t' H' i hw' (by simp [he]) h4 (by simpa using hi)
    case n2 =>
      intro hn2
      exfalso
      simp at hn2
theorem loop74 {call : CallF} (hC : call.Sound Tryz.prog TT) (g : FuncId) (cs : List V) (p : List UInt8 → Bool) (hx0 : TT.ext g = none) {Q : Out → Prop} : ∀ (L pre : List (List UInt8)) (t : Tm) (H : Heap), (∀ x ∈ L, ∀ H, call g (.s x :: cs) H = .val (.b (p x)) H) →
    (pre ++ L).length < 1100000 → t.wid = 19 → t.get 0 = .isl 1 (encS (pre ++ L)) → t.get 1 = .fn g cs → t.get 7 = .i .i64 (pre ++ L).length → t.get 8 = .i .i64 pre.length →
    (∀ t' H', t'.wid = 19 → (L.any fun x => p x) = false → Q (.exit 0 t' H')) →
    (∀ t' H' (i : Nat), t'.wid = 19 → (L.any fun x => p x) = true → t'.get 4 = .i .i64 i → i < (pre ++ L).length → Q (.ret t' H')) →
    LTri Tryz.prog TT (sub [true, false, true, false, false] (bodyOf Tryz.f92)) t H Q := by
  intro L
  induction L with
  | nil =>
    intro pre t H hg hlen hw h0 h1 h7 h8 hE hR
    refine LTri.round' ?_
    refine Tri.seq' ?_
    refine Tri.regN (t' := ?tz1) (H' := ?Hz1) TT_ok hC ?ez1 ?qz1
    case ez1 =>
      refine go_false ?_
      refine evSeq_go rfl (by simp [h0, h1, h7, h8, encS_length, hx0] <;> rfl) (by rfl) (by simp [hw]) ?_
      exact evSeq_nil
    refine inSeq_norm ?_
    refine Tri.seq' ?_
    refine Tri.condG (o := ?oz2) (b := ?bz2) ?gz2 ?rz2 ?yz2 ?nz2
    case gz2 => simp [h0, h1, h7, h8, encS_length, hx0] <;> rfl
    case rz2 => rfl
    case yz2 =>
      intro hy2
      simp at hy2
    case nz2 =>
      intro hn2
      refine Tri.exit ?_
      refine inSeq_exit ?_
      refine inLoop_exit ?_
      exact hE _ _ (by simp [hw]) (by simp)
  | cons x L ih =>
    intro pre t H hg hlen hw h0 h1 h7 h8 hE hR
    have hlt := fin_len pre.length L.length
    have hat := encS_at pre x L
    have hat2 := encS_at2 pre x L
    have hr := hg x (by simp)
    refine LTri.round' ?_
    refine Tri.seq' ?_
    refine Tri.regN (t' := ?t1) (H' := ?H1) TT_ok hC ?e1 ?q1
    case e1 =>
      refine go_false ?_
      refine evSeq_go rfl (by simp [h0, h1, h7, h8, encS_length, hx0, hlt, hat, hat2, hr] <;> rfl) (by rfl) (by simp [hw]) ?_
      exact evSeq_nil
    refine inSeq_norm ?_
    refine Tri.seq' ?_
    refine Tri.condG (o := ?o2) (b := ?b2) ?g2 ?r2 ?y2 ?n2
    case g2 => simp [h0, h1, h7, h8, encS_length, hx0, hlt, hat, hat2, hr] <;> rfl
    case r2 => rfl
    case y2 =>
      intro hy2
      refine Tri.skip ?_
      refine inSeq_norm ?_
      refine Tri.seq' ?_
      refine Tri.block' ?_
      refine Tri.seq' ?_
      refine Tri.regN (t' := ?t3) (H' := ?H3) TT_ok hC ?e3 ?q3
      case e3 =>
        refine go_false ?_
        refine evSeq_go rfl (by simp [h0, h1, h7, h8, encS_length, hx0, hlt, hat, hat2, hr] <;> rfl) (by rfl) (by simp [hw]) ?_
        refine evSeq_go rfl (by simp [h0, h1, h7, h8, encS_length, hx0, hlt, hat, hat2, hr] <;> rfl) (by rfl) (by simp [hw]) ?_
        exact evSeq_nil
      refine inSeq_norm ?_
      refine Tri.seq' ?_
      refine Tri.regN (t' := ?t4) (H' := ?H4) TT_ok hC ?e4 ?q4
      case e4 =>
        refine go_false ?_
        refine evSeq_go rfl (by simp [h0, h1, h7, h8, encS_length, hx0, hlt, hat, hat2, hr] <;> rfl) (by rfl) (by simp [hw]) ?_
        refine evSeq_go rfl (by simp [h0, h1, h7, h8, encS_length, hx0, hlt, hat, hat2, hr] <;> rfl) (by rfl) (by simp [hw]) ?_
        refine evSeq_go rfl (by simp [h0, h1, h7, h8, encS_length, hx0, hlt, hat, hat2, hr] <;> rfl) (by rfl) (by simp [hw]) ?_
        refine evSeq_go rfl (by simp [h0, h1, h7, h8, encS_length, hx0, hlt, hat, hat2, hr] <;> rfl) (by rfl) (by simp [hw]) ?_
        refine evSeq_go rfl (by simp [h0, h1, h7, h8, encS_length, hx0, hlt, hat, hat2, hr] <;> rfl) (by rfl) (by simp [hw]) ?_
        refine evSeq_go rfl (by simp [h0, h1, h7, h8, encS_length, hx0, hlt, hat, hat2, hr] <;> rfl) (by rfl) (by simp [hw]) ?_
        exact evSeq_nil
      refine inSeq_norm ?_
      refine Tri.condG (o := ?o5) (b := ?b5) ?g5 ?r5 ?y5 ?n5
      case g5 => simp [h0, h1, h7, h8, encS_length, hx0, hlt, hat, hat2, hr] <;> rfl
      case r5 => rfl
      case y5 =>
        intro hy5
        have hx : (p x) = true := by simpa using hy5
        refine Tri.seq' ?_
        refine Tri.regN (t' := ?t6) (H' := ?H6) TT_ok hC ?e6 ?q6
        case e6 =>
          refine go_false ?_
          refine evSeq_go rfl (by simp [h0, h1, h7, h8, encS_length, hx0, hlt, hat, hat2, hr] <;> rfl) (by rfl) (by simp [hw]) ?_
          refine evSeq_go rfl (by simp [h0, h1, h7, h8, encS_length, hx0, hlt, hat, hat2, hr] <;> rfl) (by rfl) (by simp [hw]) ?_
          exact evSeq_nil
        refine inSeq_norm ?_
        refine Tri.ret ?_
        refine inBlk_ret ?_
        refine inSeq_ret ?_
        refine inLoop_ret ?_
        exact hR _ _ pre.length (by simp [hw]) (by simp [hx]) (by simp [get_put, get_none]) (by simp)
      case n5 =>
        intro hn5
        have hx : (p x) = false := by simpa using hn5
        refine Tri.skip ?_
        refine inBlk_norm ?_
        refine inSeq_norm ?_
        refine Tri.regN (t' := ?t7) (H' := ?H7) TT_ok hC ?e7 ?q7
        case e7 =>
          refine go_false ?_
          refine evSeq_go rfl (by simp [h0, h1, h7, h8, encS_length, hx0, hlt, hat, hat2, hr] <;> rfl) (by rfl) (by simp [hw]) ?_
          refine evSeq_go rfl (by simp [h0, h1, h7, h8, encS_length, hx0, hlt, hat, hat2, hr] <;> rfl) (by rfl) (by simp [hw]) ?_
          exact evSeq_nil
        refine inLoop_norm ?_
        refine ih (pre ++ [x]) _ _ (fun x hx => hg x (List.mem_cons_of_mem _ hx)) (by simpa using hlen) (by simp [hw]) (by simp [h0]) (by simp [h1]) (by simp [h7]) (by simp; exact wrap_i64 (by omega) (by simp at hlen; omega)) ?_ ?_
        · intro t' H' hw' he
          exact hE t' H' hw' (by simp [hx, he])
        · intro t' H' i hw' he h4 hi
          exact hR t' H' i hw' (by simp [he]) h4 (by simpa using hi)
    case n2 =>
      intro hn2
      exfalso
      simp at hn2
theorem loop66 {call : CallF} (hC : call.Sound Tryz.prog TT) (g : FuncId) (cs : List V) (p : Nd → Bool) (hx0 : TT.ext g = none) {Q : Out → Prop} : ∀ (L pre : List Nd) (t : Tm) (H : Heap), (∀ x ∈ L, ∀ H, call g (x.enc :: cs) H = .val (.b (p x)) H) →
    (pre ++ L).length < 1100000 → t.wid = 19 → t.get 0 = .isl 3 (Nd.encL (pre ++ L)) → t.get 1 = .fn g cs → t.get 7 = .i .i64 (pre ++ L).length → t.get 8 = .i .i64 pre.length →
    (∀ t' H', t'.wid = 19 → (L.any fun x => p x) = false → Q (.exit 0 t' H')) →
    (∀ t' H' (i : Nat), t'.wid = 19 → (L.any fun x => p x) = true → t'.get 4 = .i .i64 i → i < (pre ++ L).length → Q (.ret t' H')) →
    LTri Tryz.prog TT (sub [true, false, true, false, false] (bodyOf Tryz.f79)) t H Q := by
  intro L
  induction L with
  | nil =>
    intro pre t H hg hlen hw h0 h1 h7 h8 hE hR
    refine LTri.round' ?_
    refine Tri.seq' ?_
    refine Tri.regN (t' := ?tz1) (H' := ?Hz1) TT_ok hC ?ez1 ?qz1
    case ez1 =>
      refine go_false ?_
      refine evSeq_go rfl (by simp [h0, h1, h7, h8, Nd.encL_length, hx0, Nd.enc_eq] <;> rfl) (by rfl) (by simp [hw]) ?_
      exact evSeq_nil
    refine inSeq_norm ?_
    refine Tri.seq' ?_
    refine Tri.condG (o := ?oz2) (b := ?bz2) ?gz2 ?rz2 ?yz2 ?nz2
    case gz2 => simp [h0, h1, h7, h8, Nd.encL_length, hx0, Nd.enc_eq] <;> rfl
    case rz2 => rfl
    case yz2 =>
      intro hy2
      simp at hy2
    case nz2 =>
      intro hn2
      refine Tri.exit ?_
      refine inSeq_exit ?_
      refine inLoop_exit ?_
      exact hE _ _ (by simp [hw]) (by simp)
  | cons x L ih =>
    intro pre t H hg hlen hw h0 h1 h7 h8 hE hR
    have hlt := fin_len pre.length L.length
    have hat := encL_at pre x L
    have hat2 := encL_at2 pre x L
    have hr := hg x (by simp)
    simp only [Nd.enc_eq] at hr
    refine LTri.round' ?_
    refine Tri.seq' ?_
    refine Tri.regN (t' := ?t1) (H' := ?H1) TT_ok hC ?e1 ?q1
    case e1 =>
      refine go_false ?_
      refine evSeq_go rfl (by simp [h0, h1, h7, h8, Nd.encL_length, hx0, Nd.enc_eq, hlt, hat, hat2, hr] <;> rfl) (by rfl) (by simp [hw]) ?_
      exact evSeq_nil
    refine inSeq_norm ?_
    refine Tri.seq' ?_
    refine Tri.condG (o := ?o2) (b := ?b2) ?g2 ?r2 ?y2 ?n2
    case g2 => simp [h0, h1, h7, h8, Nd.encL_length, hx0, Nd.enc_eq, hlt, hat, hat2, hr] <;> rfl
    case r2 => rfl
    case y2 =>
      intro hy2
      refine Tri.skip ?_
      refine inSeq_norm ?_
      refine Tri.seq' ?_
      refine Tri.block' ?_
      refine Tri.seq' ?_
      refine Tri.regN (t' := ?t3) (H' := ?H3) TT_ok hC ?e3 ?q3
      case e3 =>
        refine go_false ?_
        refine evSeq_go rfl (by simp [h0, h1, h7, h8, Nd.encL_length, hx0, Nd.enc_eq, hlt, hat, hat2, hr] <;> rfl) (by rfl) (by simp [hw]) ?_
        refine evSeq_go rfl (by simp [h0, h1, h7, h8, Nd.encL_length, hx0, Nd.enc_eq, hlt, hat, hat2, hr] <;> rfl) (by rfl) (by simp [hw]) ?_
        exact evSeq_nil
      refine inSeq_norm ?_
      refine Tri.seq' ?_
      refine Tri.regN (t' := ?t4) (H' := ?H4) TT_ok hC ?e4 ?q4
      case e4 =>
        refine go_false ?_
        refine evSeq_go rfl (by simp [h0, h1, h7, h8, Nd.encL_length, hx0, Nd.enc_eq, hlt, hat, hat2, hr] <;> rfl) (by rfl) (by simp [hw]) ?_
        refine evSeq_go rfl (by simp [h0, h1, h7, h8, Nd.encL_length, hx0, Nd.enc_eq, hlt, hat, hat2, hr] <;> rfl) (by rfl) (by simp [hw]) ?_
        refine evSeq_go rfl (by simp [h0, h1, h7, h8, Nd.encL_length, hx0, Nd.enc_eq, hlt, hat, hat2, hr] <;> rfl) (by rfl) (by simp [hw]) ?_
        refine evSeq_go rfl (by simp [h0, h1, h7, h8, Nd.encL_length, hx0, Nd.enc_eq, hlt, hat, hat2, hr] <;> rfl) (by rfl) (by simp [hw]) ?_
        refine evSeq_go rfl (by simp [h0, h1, h7, h8, Nd.encL_length, hx0, Nd.enc_eq, hlt, hat, hat2, hr] <;> rfl) (by rfl) (by simp [hw]) ?_
        refine evSeq_go rfl (by simp [h0, h1, h7, h8, Nd.encL_length, hx0, Nd.enc_eq, hlt, hat, hat2, hr] <;> rfl) (by rfl) (by simp [hw]) ?_
        exact evSeq_nil
      refine inSeq_norm ?_
      refine Tri.condG (o := ?o5) (b := ?b5) ?g5 ?r5 ?y5 ?n5
      case g5 => simp [h0, h1, h7, h8, Nd.encL_length, hx0, Nd.enc_eq, hlt, hat, hat2, hr] <;> rfl
      case r5 => rfl
      case y5 =>
        intro hy5
        have hx : (p x) = true := by simpa using hy5
        refine Tri.seq' ?_
        refine Tri.regN (t' := ?t6) (H' := ?H6) TT_ok hC ?e6 ?q6
        case e6 =>
          refine go_false ?_
          refine evSeq_go rfl (by simp [h0, h1, h7, h8, Nd.encL_length, hx0, Nd.enc_eq, hlt, hat, hat2, hr] <;> rfl) (by rfl) (by simp [hw]) ?_
          refine evSeq_go rfl (by simp [h0, h1, h7, h8, Nd.encL_length, hx0, Nd.enc_eq, hlt, hat, hat2, hr] <;> rfl) (by rfl) (by simp [hw]) ?_
          exact evSeq_nil
        refine inSeq_norm ?_
        refine Tri.ret ?_
        refine inBlk_ret ?_
        refine inSeq_ret ?_
        refine inLoop_ret ?_
        exact hR _ _ pre.length (by simp [hw]) (by simp [hx]) (by simp [get_put, get_none]) (by simp)
      case n5 =>
        intro hn5
        have hx : (p x) = false := by simpa using hn5
        refine Tri.skip ?_
        refine inBlk_norm ?_
        refine inSeq_norm ?_
        refine Tri.regN (t' := ?t7) (H' := ?H7) TT_ok hC ?e7 ?q7
        case e7 =>
          refine go_false ?_
          refine evSeq_go rfl (by simp [h0, h1, h7, h8, Nd.encL_length, hx0, Nd.enc_eq, hlt, hat, hat2, hr] <;> rfl) (by rfl) (by simp [hw]) ?_
          refine evSeq_go rfl (by simp [h0, h1, h7, h8, Nd.encL_length, hx0, Nd.enc_eq, hlt, hat, hat2, hr] <;> rfl) (by rfl) (by simp [hw]) ?_
          exact evSeq_nil
        refine inLoop_norm ?_
        refine ih (pre ++ [x]) _ _ (fun x hx => hg x (List.mem_cons_of_mem _ hx)) (by simpa using hlen) (by simp [hw]) (by simp [h0]) (by simp [h1]) (by simp [h7]) (by simp; exact wrap_i64 (by omega) (by simp at hlen; omega)) ?_ ?_
        · intro t' H' hw' he
          exact hE t' H' hw' (by simp [hx, he])
        · intro t' H' i hw' he h4 hi
          exact hR t' H' i hw' (by simp [he]) h4 (by simpa using hi)
    case n2 =>
      intro hn2
      exfalso
      simp at hn2
theorem body_69 {call : CallF} (hC : call.Sound Tryz.prog TT) (l : List (List UInt8)) (s : List UInt8) (hlen : l.length < 1100000)  : EBody Tryz.prog TT 87 [.isl 1 (encS l), .s s] (fun r => ∃ i : Int, r = .val (.i .i64 i) ∧ decide (0 ≤ i) = (l.any fun x => s == x) ∧ -1 ≤ i ∧ i < l.length) := by
  refine ⟨Tryz.f87, _, rfl, rfl, by simp [Tryz.f87], ?_⟩
  have h0 : (Tm.init Tryz.f87.ntmps [.isl 1 (encS l), .s s]).get 0 = .isl 1 (encS l) := by rw [get_init]; rfl
  have h1 : (Tm.init Tryz.f87.ntmps [.isl 1 (encS l), .s s]).get 1 = .s s := by rw [get_init]; rfl
  have hw : (Tm.init Tryz.f87.ntmps [.isl 1 (encS l), .s s]).wid = 19 := rfl
  generalize Tm.init Tryz.f87.ntmps [.isl 1 (encS l), .s s] = t at *
  skip
  refine Tri.seq' ?_
  refine Tri.regN (t' := ?t1) (H' := ?H1) TT_ok hC ?e1 ?q1
  case e1 =>
    refine go_false ?_
    refine evSeq_go rfl (by simp [h0, h1, encS_length] <;> rfl) (by rfl) (by simp [hw]) ?_
    exact evSeq_nil
  refine inSeq_norm ?_
  refine Tri.seq' ?_
  refine Tri.seq' ?_
  refine Tri.regN (t' := ?t2) (H' := ?H2) TT_ok hC ?e2 ?q2
  case e2 =>
    refine go_false ?_
    refine evSeq_go rfl (by simp [h0, h1, encS_length] <;> rfl) (by rfl) (by simp [hw]) ?_
    refine evSeq_go rfl (by simp [h0, h1, encS_length] <;> rfl) (by rfl) (by simp [hw]) ?_
    refine evSeq_go rfl (by simp [h0, h1, encS_length] <;> rfl) (by rfl) (by simp [hw]) ?_
    exact evSeq_nil
  refine inSeq_norm ?_
  refine Tri.block' ?_
  refine Tri.loop ?_
  refine loop69 hC s l [] _ _ (by simpa using hlen) (by simp [hw]) (by simp [h0]) (by simp [h1]) (by simp [encS_length]) (by simp) ?exit ?ret
  case exit =>
    intro t2 H2 hw he
    refine inBlk_exit ?_
    refine inSeq_norm ?_
    refine Tri.seq' ?_
    refine Tri.regN (t' := ?t3) (H' := ?H3) TT_ok hC ?e3 ?q3
    case e3 =>
      refine go_false ?_
      refine evSeq_go rfl (by simp [h0, h1, encS_length] <;> rfl) (by rfl) (by simp [hw]) ?_
      exact evSeq_nil
    refine inSeq_norm ?_
    refine Tri.ret ?_
    first
    | exact ⟨_, ⟨(i : Int), rfl, by rw [he]; simp, by omega, by simp at hi; omega⟩, by simp [Ends, finish, evResults, evResult, Tryz.f87, h4]⟩
    | exact ⟨_, ⟨-1, rfl, by rw [he]; decide, by omega, by omega⟩, by simp [Ends, finish, evResults, evResult, Tryz.f87]⟩
  case ret =>
    intro t2 H2 i hw he h4 hi
    refine inBlk_ret ?_
    refine inSeq_ret ?_
    first
    | exact ⟨_, ⟨(i : Int), rfl, by rw [he]; simp, by omega, by simp at hi; omega⟩, by simp [Ends, finish, evResults, evResult, Tryz.f87, h4]⟩
    | exact ⟨_, ⟨-1, rfl, by rw [he]; decide, by omega, by omega⟩, by simp [Ends, finish, evResults, evResult, Tryz.f87]⟩
theorem body_74 {call : CallF} (hC : call.Sound Tryz.prog TT) (l : List (List UInt8)) (g : FuncId) (cs : List V) (p : List UInt8 → Bool) (hx0 : TT.ext g = none) (hg : ∀ x ∈ l, ∀ H, call g (.s x :: cs) H = .val (.b (p x)) H) (hlen : l.length < 1100000)  : EBody Tryz.prog TT 92 [.isl 1 (encS l), .fn g cs] (fun r => ∃ i : Int, r = .val (.i .i64 i) ∧ decide (0 ≤ i) = (l.any fun x => p x) ∧ -1 ≤ i ∧ i < l.length) := by
  refine ⟨Tryz.f92, _, rfl, rfl, by simp [Tryz.f92], ?_⟩
  have h0 : (Tm.init Tryz.f92.ntmps [.isl 1 (encS l), .fn g cs]).get 0 = .isl 1 (encS l) := by rw [get_init]; rfl
  have h1 : (Tm.init Tryz.f92.ntmps [.isl 1 (encS l), .fn g cs]).get 1 = .fn g cs := by rw [get_init]; rfl
  have hw : (Tm.init Tryz.f92.ntmps [.isl 1 (encS l), .fn g cs]).wid = 19 := rfl
  generalize Tm.init Tryz.f92.ntmps [.isl 1 (encS l), .fn g cs] = t at *
  skip
  refine Tri.seq' ?_
  refine Tri.regN (t' := ?t1) (H' := ?H1) TT_ok hC ?e1 ?q1
  case e1 =>
    refine go_false ?_
    refine evSeq_go rfl (by simp [h0, h1, encS_length] <;> rfl) (by rfl) (by simp [hw]) ?_
    exact evSeq_nil
  refine inSeq_norm ?_
  refine Tri.seq' ?_
  refine Tri.seq' ?_
  refine Tri.regN (t' := ?t2) (H' := ?H2) TT_ok hC ?e2 ?q2
  case e2 =>
    refine go_false ?_
    refine evSeq_go rfl (by simp [h0, h1, encS_length] <;> rfl) (by rfl) (by simp [hw]) ?_
    refine evSeq_go rfl (by simp [h0, h1, encS_length] <;> rfl) (by rfl) (by simp [hw]) ?_
    refine evSeq_go rfl (by simp [h0, h1, encS_length] <;> rfl) (by rfl) (by simp [hw]) ?_
    exact evSeq_nil
  refine inSeq_norm ?_
  refine Tri.block' ?_
  refine Tri.loop ?_
  refine loop74 hC g cs p hx0 l [] _ _ hg (by simpa using hlen) (by simp [hw]) (by simp [h0]) (by simp [h1]) (by simp [encS_length]) (by simp) ?exit ?ret
  case exit =>
    intro t2 H2 hw he
    refine inBlk_exit ?_
    refine inSeq_norm ?_
    refine Tri.seq' ?_
    refine Tri.regN (t' := ?t3) (H' := ?H3) TT_ok hC ?e3 ?q3
    case e3 =>
      refine go_false ?_
      refine evSeq_go rfl (by simp [h0, h1, encS_length] <;> rfl) (by rfl) (by simp [hw]) ?_
      exact evSeq_nil
    refine inSeq_norm ?_
    refine Tri.ret ?_
    first
    | exact ⟨_, ⟨(i : Int), rfl, by rw [he]; simp, by omega, by simp at hi; omega⟩, by simp [Ends, finish, evResults, evResult, Tryz.f92, h4]⟩
    | exact ⟨_, ⟨-1, rfl, by rw [he]; decide, by omega, by omega⟩, by simp [Ends, finish, evResults, evResult, Tryz.f92]⟩
  case ret =>
    intro t2 H2 i hw he h4 hi
    refine inBlk_ret ?_
    refine inSeq_ret ?_
    first
    | exact ⟨_, ⟨(i : Int), rfl, by rw [he]; simp, by omega, by simp at hi; omega⟩, by simp [Ends, finish, evResults, evResult, Tryz.f92, h4]⟩
    | exact ⟨_, ⟨-1, rfl, by rw [he]; decide, by omega, by omega⟩, by simp [Ends, finish, evResults, evResult, Tryz.f92]⟩
theorem body_66 {call : CallF} (hC : call.Sound Tryz.prog TT) (l : List Nd) (g : FuncId) (cs : List V) (p : Nd → Bool) (hx0 : TT.ext g = none) (hg : ∀ x ∈ l, ∀ H, call g (x.enc :: cs) H = .val (.b (p x)) H) (hlen : l.length < 1100000)  : EBody Tryz.prog TT 79 [.isl 3 (Nd.encL l), .fn g cs] (fun r => ∃ i : Int, r = .val (.i .i64 i) ∧ decide (0 ≤ i) = (l.any fun x => p x) ∧ -1 ≤ i ∧ i < l.length) := by
  refine ⟨Tryz.f79, _, rfl, rfl, by simp [Tryz.f79], ?_⟩
  have h0 : (Tm.init Tryz.f79.ntmps [.isl 3 (Nd.encL l), .fn g cs]).get 0 = .isl 3 (Nd.encL l) := by rw [get_init]; rfl
  have h1 : (Tm.init Tryz.f79.ntmps [.isl 3 (Nd.encL l), .fn g cs]).get 1 = .fn g cs := by rw [get_init]; rfl
  have hw : (Tm.init Tryz.f79.ntmps [.isl 3 (Nd.encL l), .fn g cs]).wid = 19 := rfl
  generalize Tm.init Tryz.f79.ntmps [.isl 3 (Nd.encL l), .fn g cs] = t at *
  skip
  refine Tri.seq' ?_
  refine Tri.regN (t' := ?t1) (H' := ?H1) TT_ok hC ?e1 ?q1
  case e1 =>
    refine go_false ?_
    refine evSeq_go rfl (by simp [h0, h1, Nd.encL_length] <;> rfl) (by rfl) (by simp [hw]) ?_
    exact evSeq_nil
  refine inSeq_norm ?_
  refine Tri.seq' ?_
  refine Tri.seq' ?_
  refine Tri.regN (t' := ?t2) (H' := ?H2) TT_ok hC ?e2 ?q2
  case e2 =>
    refine go_false ?_
    refine evSeq_go rfl (by simp [h0, h1, Nd.encL_length] <;> rfl) (by rfl) (by simp [hw]) ?_
    refine evSeq_go rfl (by simp [h0, h1, Nd.encL_length] <;> rfl) (by rfl) (by simp [hw]) ?_
    refine evSeq_go rfl (by simp [h0, h1, Nd.encL_length] <;> rfl) (by rfl) (by simp [hw]) ?_
    exact evSeq_nil
  refine inSeq_norm ?_
  refine Tri.block' ?_
  refine Tri.loop ?_
  refine loop66 hC g cs p hx0 l [] _ _ hg (by simpa using hlen) (by simp [hw]) (by simp [h0]) (by simp [h1]) (by simp [Nd.encL_length]) (by simp) ?exit ?ret
  case exit =>
    intro t2 H2 hw he
    refine inBlk_exit ?_
    refine inSeq_norm ?_
    refine Tri.seq' ?_
    refine Tri.regN (t' := ?t3) (H' := ?H3) TT_ok hC ?e3 ?q3
    case e3 =>
      refine go_false ?_
      refine evSeq_go rfl (by simp [h0, h1, Nd.encL_length] <;> rfl) (by rfl) (by simp [hw]) ?_
      exact evSeq_nil
    refine inSeq_norm ?_
    refine Tri.ret ?_
    first
    | exact ⟨_, ⟨(i : Int), rfl, by rw [he]; simp, by omega, by simp at hi; omega⟩, by simp [Ends, finish, evResults, evResult, Tryz.f79, h4]⟩
    | exact ⟨_, ⟨-1, rfl, by rw [he]; decide, by omega, by omega⟩, by simp [Ends, finish, evResults, evResult, Tryz.f79]⟩
  case ret =>
    intro t2 H2 i hw he h4 hi
    refine inBlk_ret ?_
    refine inSeq_ret ?_
    first
    | exact ⟨_, ⟨(i : Int), rfl, by rw [he]; simp, by omega, by simp at hi; omega⟩, by simp [Ends, finish, evResults, evResult, Tryz.f79, h4]⟩
    | exact ⟨_, ⟨-1, rfl, by rw [he]; decide, by omega, by omega⟩, by simp [Ends, finish, evResults, evResult, Tryz.f79]⟩
theorem body_49 {call : CallF} (hC : call.Sound Tryz.prog TT) (l : List V) (i : Int) (b : Bool) (hb : decide (0 ≤ i) = b) (s : List UInt8) (hs : ∀ H, call 87 [.isl 1 l, .s s] H = .val (.i .i64 i) H)  : Body Tryz.prog TT 62 [.isl 1 l, .s s] (.val (.b b)) := by
  refine ⟨Tryz.f62, _, rfl, rfl, by simp [Tryz.f62], ?_⟩
  have h0 : (Tm.init Tryz.f62.ntmps [.isl 1 l, .s s]).get 0 = .isl 1 l := by rw [get_init]; rfl
  have h1 : (Tm.init Tryz.f62.ntmps [.isl 1 l, .s s]).get 1 = .s s := by rw [get_init]; rfl
  have hw : (Tm.init Tryz.f62.ntmps [.isl 1 l, .s s]).wid = 9 := rfl
  generalize Tm.init Tryz.f62.ntmps [.isl 1 l, .s s] = t at *
  skip
  refine Tri.seq' ?_
  refine Tri.regN (t' := ?t1) (H' := ?H1) TT_ok hC ?e1 ?q1
  case e1 =>
    refine go_false ?_
    refine evSeq_go rfl (by simp [h0, h1, hs, hb] <;> rfl) (by rfl) (by simp [hw]) ?_
    exact evSeq_nil
  refine inSeq_norm ?_
  refine Tri.seq' ?_
  refine Tri.regN (t' := ?t2) (H' := ?H2) TT_ok hC ?e2 ?q2
  case e2 =>
    refine go_false ?_
    refine evSeq_go rfl (by simp [h0, h1, hs, hb] <;> rfl) (by rfl) (by simp [hw]) ?_
    refine evSeq_go rfl (by simp [h0, h1, hs, hb] <;> rfl) (by rfl) (by simp [hw]) ?_
    refine evSeq_go rfl (by simp [h0, h1, hs, hb] <;> rfl) (by rfl) (by simp [hw]) ?_
    refine evSeq_go rfl (by simp [h0, h1, hs, hb] <;> rfl) (by rfl) (by simp [hw]) ?_
    refine evSeq_go rfl (by simp [h0, h1, hs, hb] <;> rfl) (by rfl) (by simp [hw]) ?_
    exact evSeq_nil
  refine inSeq_norm ?_
  refine Tri.ret ?_
  simp [Ends, finish, evResults, evResult, Tryz.f62, h0, h1, hs, hb]
theorem body_56 {call : CallF} (hC : call.Sound Tryz.prog TT) (l : List V) (i : Int) (b : Bool) (hb : decide (0 ≤ i) = b) (g : FuncId) (cs : List V) (hs : ∀ H, call 92 [.isl 1 l, .fn g cs] H = .val (.i .i64 i) H)  : Body Tryz.prog TT 69 [.isl 1 l, .fn g cs] (.val (.b b)) := by
  refine ⟨Tryz.f69, _, rfl, rfl, by simp [Tryz.f69], ?_⟩
  have h0 : (Tm.init Tryz.f69.ntmps [.isl 1 l, .fn g cs]).get 0 = .isl 1 l := by rw [get_init]; rfl
  have h1 : (Tm.init Tryz.f69.ntmps [.isl 1 l, .fn g cs]).get 1 = .fn g cs := by rw [get_init]; rfl
  have hw : (Tm.init Tryz.f69.ntmps [.isl 1 l, .fn g cs]).wid = 9 := rfl
  generalize Tm.init Tryz.f69.ntmps [.isl 1 l, .fn g cs] = t at *
  skip
  refine Tri.seq' ?_
  refine Tri.regN (t' := ?t1) (H' := ?H1) TT_ok hC ?e1 ?q1
  case e1 =>
    refine go_false ?_
    refine evSeq_go rfl (by simp [h0, h1, hs, hb] <;> rfl) (by rfl) (by simp [hw]) ?_
    exact evSeq_nil
  refine inSeq_norm ?_
  refine Tri.seq' ?_
  refine Tri.regN (t' := ?t2) (H' := ?H2) TT_ok hC ?e2 ?q2
  case e2 =>
    refine go_false ?_
    refine evSeq_go rfl (by simp [h0, h1, hs, hb] <;> rfl) (by rfl) (by simp [hw]) ?_
    refine evSeq_go rfl (by simp [h0, h1, hs, hb] <;> rfl) (by rfl) (by simp [hw]) ?_
    refine evSeq_go rfl (by simp [h0, h1, hs, hb] <;> rfl) (by rfl) (by simp [hw]) ?_
    refine evSeq_go rfl (by simp [h0, h1, hs, hb] <;> rfl) (by rfl) (by simp [hw]) ?_
    refine evSeq_go rfl (by simp [h0, h1, hs, hb] <;> rfl) (by rfl) (by simp [hw]) ?_
    exact evSeq_nil
  refine inSeq_norm ?_
  refine Tri.ret ?_
  simp [Ends, finish, evResults, evResult, Tryz.f69, h0, h1, hs, hb]
theorem body_41 {call : CallF} (hC : call.Sound Tryz.prog TT) (l : List V) (i : Int) (b : Bool) (hb : decide (0 ≤ i) = b) (g : FuncId) (cs : List V) (hs : ∀ H, call 79 [.isl 3 l, .fn g cs] H = .val (.i .i64 i) H)  : Body Tryz.prog TT 55 [.isl 3 l, .fn g cs] (.val (.b b)) := by
  refine ⟨Tryz.f55, _, rfl, rfl, by simp [Tryz.f55], ?_⟩
  have h0 : (Tm.init Tryz.f55.ntmps [.isl 3 l, .fn g cs]).get 0 = .isl 3 l := by rw [get_init]; rfl
  have h1 : (Tm.init Tryz.f55.ntmps [.isl 3 l, .fn g cs]).get 1 = .fn g cs := by rw [get_init]; rfl
  have hw : (Tm.init Tryz.f55.ntmps [.isl 3 l, .fn g cs]).wid = 9 := rfl
  generalize Tm.init Tryz.f55.ntmps [.isl 3 l, .fn g cs] = t at *
  skip
  refine Tri.seq' ?_
  refine Tri.regN (t' := ?t1) (H' := ?H1) TT_ok hC ?e1 ?q1
  case e1 =>
    refine go_false ?_
    refine evSeq_go rfl (by simp [h0, h1, hs, hb] <;> rfl) (by rfl) (by simp [hw]) ?_
    exact evSeq_nil
  refine inSeq_norm ?_
  refine Tri.seq' ?_
  refine Tri.regN (t' := ?t2) (H' := ?H2) TT_ok hC ?e2 ?q2
  case e2 =>
    refine go_false ?_
    refine evSeq_go rfl (by simp [h0, h1, hs, hb] <;> rfl) (by rfl) (by simp [hw]) ?_
    refine evSeq_go rfl (by simp [h0, h1, hs, hb] <;> rfl) (by rfl) (by simp [hw]) ?_
    refine evSeq_go rfl (by simp [h0, h1, hs, hb] <;> rfl) (by rfl) (by simp [hw]) ?_
    refine evSeq_go rfl (by simp [h0, h1, hs, hb] <;> rfl) (by rfl) (by simp [hw]) ?_
    refine evSeq_go rfl (by simp [h0, h1, hs, hb] <;> rfl) (by rfl) (by simp [hw]) ?_
    exact evSeq_nil
  refine inSeq_norm ?_
  refine Tri.ret ?_
  simp [Ends, finish, evResults, evResult, Tryz.f55, h0, h1, hs, hb]
end Go.Ev
