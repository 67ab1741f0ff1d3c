/- Walks over the look at a kind. -/
import Derived.Test.YtddpjgoboboidaaGreatDoorWD
namespace Go.Ev
open Go Go.Proofs
set_option maxRecDepth 100000
set_option linter.unusedSimpArgs false
set_option linter.unusedVariables false
theorem loop71a {call : CallF} (hC : call.Sound Tryz.prog TT) (s : List UInt8) (p : Int → Bool) (hp : ∀ c H, call 109 [.i .u8 c] H = .val (.b (p c)) H) (hlen : s.length < 1100000) {Q : Out → Prop} : ∀ (k n : Nat) (t : Tm) (H : Heap), n + k = s.length →
    t.wid = 37 → t.get 0 = .s s → t.get 3 = .i .i64 n → (∀ t' H' (m : Nat), t'.wid = 37 → t'.get 0 = .s s → t'.get 3 = .i .i64 m → m ≤ s.length → Q (.exit 0 t' H')) → LTri Tryz.prog TT (sub [true, true, true, false, false, false] (bodyOf Tryz.f89)) t H Q := by
  intro k
  induction k with
  | zero =>
    intro n t H hk hw h0 h3 hE
    have hge : ¬ n < s.length := by omega
    refine LTri.round' ?_
    refine Tri.seq' ?_
    refine Tri.seq' ?_
    refine Tri.regN (t' := ?tz1) (H' := ?Hz1) TT_ok hC ?ez1 ?qz1
    case ez1 =>
      refine go_false ?_
      refine evSeq_go rfl (by simp [h0, h3, hge] <;> rfl) (by rfl) (by simp [hw]) ?_
      refine evSeq_go rfl (by simp [h0, h3, hge] <;> rfl) (by rfl) (by simp [hw]) ?_
      refine evSeq_go rfl (by simp [h0, h3, hge] <;> rfl) (by rfl) (by simp [hw]) ?_
      refine evSeq_go rfl (by simp [h0, h3, hge] <;> rfl) (by rfl) (by simp [hw]) ?_
      refine evSeq_go rfl (by simp [h0, h3, hge] <;> rfl) (by rfl) (by simp [hw]) ?_
      refine evSeq_off (by simp [wants, h0, h3, hge]) (by simp [hw]) ?_
      refine evSeq_off (by simp [wants, h0, h3, hge]) (by simp [hw]) ?_
      refine evSeq_off (by simp [wants, h0, h3, hge]) (by simp [hw]) ?_
      refine evSeq_off (by simp [wants, h0, h3, hge]) (by simp [hw]) ?_
      refine evSeq_go rfl (by simp [h0, h3, hge] <;> rfl) (by rfl) (by simp [hw]) ?_
      exact evSeq_nil
    refine inSeq_norm ?_
    refine Tri.condG (o := ?oz2) (b := ?bz2) ?gz2 ?rz2 ?yz2 ?nz2
    case gz2 => simp [h0, h3, hge] <;> rfl
    case rz2 => rfl
    case yz2 =>
      intro hy2
      exact absurd hy2 (by simp [h0, h3, hge])
    case nz2 =>
      intro hn2
      refine Tri.exit ?_
      refine inSeq_exit ?_
      refine inLoop_exit ?_
      exact hE _ _ n (by simp [hw]) (by simp [h0]) (by simp [h3]) (by omega)
  | succ k ih =>
    intro n t H hk hw h0 h3 hE
    have hge : n < s.length := by omega
    obtain ⟨c, hc⟩ : ∃ c, s[n]? = some c := ⟨s[n]'(by omega), List.getElem?_eq_getElem _⟩
    refine LTri.round' ?_
    refine Tri.seq' ?_
    refine Tri.seq' ?_
    refine Tri.regN (t' := ?t1) (H' := ?H1) TT_ok hC ?e1 ?q1
    case e1 =>
      refine go_false ?_
      refine evSeq_go rfl (by simp [h0, h3, hge, hc, hp] <;> rfl) (by rfl) (by simp [hw]) ?_
      refine evSeq_go rfl (by simp [h0, h3, hge, hc, hp] <;> rfl) (by rfl) (by simp [hw]) ?_
      refine evSeq_go rfl (by simp [h0, h3, hge, hc, hp] <;> rfl) (by rfl) (by simp [hw]) ?_
      refine evSeq_go rfl (by simp [h0, h3, hge, hc, hp] <;> rfl) (by rfl) (by simp [hw]) ?_
      refine evSeq_go rfl (by simp [h0, h3, hge, hc, hp] <;> rfl) (by rfl) (by simp [hw]) ?_
      refine evSeq_go (by simp [wants, h0, h3, hge, hc, hp]) (by simp [h0, h3, hge, hc, hp] <;> rfl) (by rfl) (by simp [hw]) ?_
      refine evSeq_go (by simp [wants, h0, h3, hge, hc, hp]) (by simp [h0, h3, hge, hc, hp] <;> rfl) (by rfl) (by simp [hw]) ?_
      refine evSeq_go (by simp [wants, h0, h3, hge, hc, hp]) (by simp [h0, h3, hge, hc, hp] <;> rfl) (by rfl) (by simp [hw]) ?_
      refine evSeq_go (by simp [wants, h0, h3, hge, hc, hp]) (by simp [h0, h3, hge, hc, hp] <;> rfl) (by rfl) (by simp [hw]) ?_
      refine evSeq_go rfl (by simp [h0, h3, hge, hc, hp] <;> rfl) (by rfl) (by simp [hw]) ?_
      exact evSeq_nil
    refine inSeq_norm ?_
    refine Tri.condG (o := ?o2) (b := ?b2) ?g2 ?r2 ?y2 ?n2
    case g2 => simp [h0, h3, hge, hc, hp] <;> rfl
    case r2 => rfl
    case y2 =>
      intro hy2
      refine Tri.skip ?_
      refine inSeq_norm ?_
      refine Tri.block' ?_
      refine Tri.regN (t' := ?t3) (H' := ?H3) TT_ok hC ?e3 ?q3
      case e3 =>
        refine go_false ?_
        refine evSeq_go rfl (by simp [h0, h3, hge, hc, hp] <;> rfl) (by rfl) (by simp [hw]) ?_
        refine evSeq_go rfl (by simp [h0, h3, hge, hc, hp] <;> rfl) (by rfl) (by simp [hw]) ?_
        refine evSeq_go rfl (by simp [h0, h3, hge, hc, hp] <;> rfl) (by rfl) (by simp [hw]) ?_
        exact evSeq_nil
      refine inBlk_norm ?_
      refine inLoop_norm ?_
      refine ih (n + 1) _ _ (by omega) (by simp [hw]) (by simp [h0]) (by simp [h3]; exact wrap_i64 (by omega) (by omega)) hE
    case n2 =>
      intro hn2
      refine Tri.exit ?_
      refine inSeq_exit ?_
      refine inLoop_exit ?_
      exact hE _ _ n (by simp [hw]) (by simp [h0]) (by simp [h3]) (by omega)

theorem loop71b {call : CallF} (hC : call.Sound Tryz.prog TT) (s : List UInt8)  (hlen : s.length < 1100000) {Q : Out → Prop} : ∀ (k n : Nat) (t : Tm) (H : Heap), n + k = s.length →
    t.wid = 37 → t.get 0 = .s s → t.get 3 = .i .i64 n → (∀ t' H' (m : Nat), t'.wid = 37 → t'.get 0 = .s s → t'.get 3 = .i .i64 m → m ≤ s.length → Q (.exit 2 t' H')) → LTri Tryz.prog TT (sub [true, true, true, true, false, false, false] (bodyOf Tryz.f89)) t H Q := by
  intro k
  induction k with
  | zero =>
    intro n t H hk hw h0 h3 hE
    have hge : ¬ n < s.length := by omega
    refine LTri.round' ?_
    refine Tri.seq' ?_
    refine Tri.seq' ?_
    refine Tri.regN (t' := ?tz1) (H' := ?Hz1) TT_ok hC ?ez1 ?qz1
    case ez1 =>
      refine go_false ?_
      refine evSeq_go rfl (by simp [h0, h3, hge] <;> rfl) (by rfl) (by simp [hw]) ?_
      refine evSeq_go rfl (by simp [h0, h3, hge] <;> rfl) (by rfl) (by simp [hw]) ?_
      refine evSeq_go rfl (by simp [h0, h3, hge] <;> rfl) (by rfl) (by simp [hw]) ?_
      refine evSeq_go rfl (by simp [h0, h3, hge] <;> rfl) (by rfl) (by simp [hw]) ?_
      refine evSeq_go rfl (by simp [h0, h3, hge] <;> rfl) (by rfl) (by simp [hw]) ?_
      refine evSeq_off (by simp [wants, h0, h3, hge]) (by simp [hw]) ?_
      refine evSeq_off (by simp [wants, h0, h3, hge]) (by simp [hw]) ?_
      refine evSeq_off (by simp [wants, h0, h3, hge]) (by simp [hw]) ?_
      refine evSeq_off (by simp [wants, h0, h3, hge]) (by simp [hw]) ?_
      refine evSeq_go rfl (by simp [h0, h3, hge] <;> rfl) (by rfl) (by simp [hw]) ?_
      exact evSeq_nil
    refine inSeq_norm ?_
    refine Tri.condG (o := ?oz2) (b := ?bz2) ?gz2 ?rz2 ?yz2 ?nz2
    case gz2 => simp [h0, h3, hge] <;> rfl
    case rz2 => rfl
    case yz2 =>
      intro hy2
      exact absurd hy2 (by simp [h0, h3, hge])
    case nz2 =>
      intro hn2
      refine Tri.exit ?_
      refine inSeq_exit ?_
      refine inLoop_exit ?_
      exact hE _ _ n (by simp [hw]) (by simp [h0]) (by simp [h3]) (by omega)
  | succ k ih =>
    intro n t H hk hw h0 h3 hE
    have hge : n < s.length := by omega
    obtain ⟨c, hc⟩ : ∃ c, s[n]? = some c := ⟨s[n]'(by omega), List.getElem?_eq_getElem _⟩
    refine LTri.round' ?_
    refine Tri.seq' ?_
    refine Tri.seq' ?_
    refine Tri.regN (t' := ?t1) (H' := ?H1) TT_ok hC ?e1 ?q1
    case e1 =>
      refine go_false ?_
      refine evSeq_go rfl (by simp [h0, h3, hge, hc] <;> rfl) (by rfl) (by simp [hw]) ?_
      refine evSeq_go rfl (by simp [h0, h3, hge, hc] <;> rfl) (by rfl) (by simp [hw]) ?_
      refine evSeq_go rfl (by simp [h0, h3, hge, hc] <;> rfl) (by rfl) (by simp [hw]) ?_
      refine evSeq_go rfl (by simp [h0, h3, hge, hc] <;> rfl) (by rfl) (by simp [hw]) ?_
      refine evSeq_go rfl (by simp [h0, h3, hge, hc] <;> rfl) (by rfl) (by simp [hw]) ?_
      refine evSeq_go (by simp [wants, h0, h3, hge, hc]) (by simp [h0, h3, hge, hc] <;> rfl) (by rfl) (by simp [hw]) ?_
      refine evSeq_go (by simp [wants, h0, h3, hge, hc]) (by simp [h0, h3, hge, hc] <;> rfl) (by rfl) (by simp [hw]) ?_
      refine evSeq_go (by simp [wants, h0, h3, hge, hc]) (by simp [h0, h3, hge, hc] <;> rfl) (by rfl) (by simp [hw]) ?_
      refine evSeq_go (by simp [wants, h0, h3, hge, hc]) (by simp [h0, h3, hge, hc] <;> rfl) (by rfl) (by simp [hw]) ?_
      refine evSeq_go rfl (by simp [h0, h3, hge, hc] <;> rfl) (by rfl) (by simp [hw]) ?_
      exact evSeq_nil
    refine inSeq_norm ?_
    refine Tri.condG (o := ?o2) (b := ?b2) ?g2 ?r2 ?y2 ?n2
    case g2 => simp [h0, h3, hge, hc] <;> rfl
    case r2 => rfl
    case y2 =>
      intro hy2
      refine Tri.skip ?_
      refine inSeq_norm ?_
      refine Tri.block' ?_
      refine Tri.regN (t' := ?t3) (H' := ?H3) TT_ok hC ?e3 ?q3
      case e3 =>
        refine go_false ?_
        refine evSeq_go rfl (by simp [h0, h3, hge, hc] <;> rfl) (by rfl) (by simp [hw]) ?_
        refine evSeq_go rfl (by simp [h0, h3, hge, hc] <;> rfl) (by rfl) (by simp [hw]) ?_
        refine evSeq_go rfl (by simp [h0, h3, hge, hc] <;> rfl) (by rfl) (by simp [hw]) ?_
        exact evSeq_nil
      refine inBlk_norm ?_
      refine inLoop_norm ?_
      refine ih (n + 1) _ _ (by omega) (by simp [hw]) (by simp [h0]) (by simp [h3]; exact wrap_i64 (by omega) (by omega)) hE
    case n2 =>
      intro hn2
      refine Tri.exit ?_
      refine inSeq_exit ?_
      refine inLoop_exit ?_
      exact hE _ _ n (by simp [hw]) (by simp [h0]) (by simp [h3]) (by omega)

theorem body_71n {call : CallF} (hC : call.Sound Tryz.prog TT)   : EBody Tryz.prog TT 89 [.s []] (fun r => ∃ n : Int, r = .val (.i .i64 n)) := by
  refine ⟨Tryz.f89, _, rfl, rfl, by simp [Tryz.f89], ?_⟩
  have h0 : (Tm.init Tryz.f89.ntmps [.s []]).get 0 = .s [] := by rw [get_init]; rfl
  have hw : (Tm.init Tryz.f89.ntmps [.s []]).wid = 37 := rfl
  generalize Tm.init Tryz.f89.ntmps [.s []] = t at *
  try simp only [Nd.enc_eq] at *
  refine Tri.seq' ?_
  refine Tri.regN (t' := ?t1) (H' := ?H1) TT_ok hC ?e1 ?q1
  case e1 =>
    refine go_false ?_
    refine evSeq_go rfl (by simp [h0] <;> rfl) (by rfl) (by simp [hw]) ?_
    exact evSeq_nil
  refine inSeq_norm ?_
  refine Tri.seq' ?_
  refine Tri.seq' ?_
  refine Tri.regN (t' := ?t2) (H' := ?H2) TT_ok hC ?e2 ?q2
  case e2 =>
    refine go_false ?_
    refine evSeq_go rfl (by simp [h0] <;> rfl) (by rfl) (by simp [hw]) ?_
    refine evSeq_go rfl (by simp [h0] <;> rfl) (by rfl) (by simp [hw]) ?_
    refine evSeq_go rfl (by simp [h0] <;> rfl) (by rfl) (by simp [hw]) ?_
    refine evSeq_off (by simp [wants, h0]) (by simp [hw]) ?_
    refine evSeq_off (by simp [wants, h0]) (by simp [hw]) ?_
    refine evSeq_off (by simp [wants, h0]) (by simp [hw]) ?_
    refine evSeq_off (by simp [wants, h0]) (by simp [hw]) ?_
    refine evSeq_go rfl (by simp [h0] <;> rfl) (by rfl) (by simp [hw]) ?_
    exact evSeq_nil
  refine inSeq_norm ?_
  refine Tri.condG (o := ?o3) (b := ?b3) ?g3 ?r3 ?y3 ?n3
  case g3 => simp [h0] <;> rfl
  case r3 => rfl
  case y3 =>
    intro hy3
    refine Tri.seq' ?_
    refine Tri.regN (t' := ?t4) (H' := ?H4) TT_ok hC ?e4 ?q4
    case e4 =>
      refine go_false ?_
      refine evSeq_go rfl (by simp [h0] <;> rfl) (by rfl) (by simp [hw]) ?_
      exact evSeq_nil
    refine inSeq_norm ?_
    refine Tri.ret ?_
    refine inSeq_ret ?_
    refine endsE (by simp [finish, evResults, evResult, Tryz.f89] <;> rfl) (by rfl) ?_
    exact ⟨_, rfl⟩
  case n3 =>
    intro hn3
    exact absurd hn3 (by simp [h0])
theorem body_71f {call : CallF} (hC : call.Sound Tryz.prog TT) (c : UInt8) (r : List UInt8) (hs : ∀ H, call 108 [.i .u8 c.toNat] H = .val (.b false) H)  : EBody Tryz.prog TT 89 [.s (c :: r)] (fun r => ∃ n : Int, r = .val (.i .i64 n)) := by
  refine ⟨Tryz.f89, _, rfl, rfl, by simp [Tryz.f89], ?_⟩
  have h0 : (Tm.init Tryz.f89.ntmps [.s (c :: r)]).get 0 = .s (c :: r) := by rw [get_init]; rfl
  have hw : (Tm.init Tryz.f89.ntmps [.s (c :: r)]).wid = 37 := rfl
  generalize Tm.init Tryz.f89.ntmps [.s (c :: r)] = t at *
  try simp only [Nd.enc_eq] at *
  refine Tri.seq' ?_
  refine Tri.regN (t' := ?t1) (H' := ?H1) TT_ok hC ?e1 ?q1
  case e1 =>
    refine go_false ?_
    refine evSeq_go rfl (by simp [h0, hs] <;> rfl) (by rfl) (by simp [hw]) ?_
    exact evSeq_nil
  refine inSeq_norm ?_
  refine Tri.seq' ?_
  refine Tri.seq' ?_
  refine Tri.regN (t' := ?t2) (H' := ?H2) TT_ok hC ?e2 ?q2
  case e2 =>
    refine go_false ?_
    refine evSeq_go rfl (by simp [h0, hs] <;> rfl) (by rfl) (by simp [hw]) ?_
    refine evSeq_go rfl (by simp [h0, hs] <;> rfl) (by rfl) (by simp [hw]) ?_
    refine evSeq_go rfl (by simp [h0, hs] <;> rfl) (by rfl) (by simp [hw]) ?_
    refine evSeq_go (by simp [wants, h0, hs]) (by simp [h0, hs] <;> rfl) (by rfl) (by simp [hw]) ?_
    refine evSeq_go (by simp [wants, h0, hs]) (by simp [h0, hs] <;> rfl) (by rfl) (by simp [hw]) ?_
    refine evSeq_go (by simp [wants, h0, hs]) (by simp [h0, hs] <;> rfl) (by rfl) (by simp [hw]) ?_
    refine evSeq_go (by simp [wants, h0, hs]) (by simp [h0, hs] <;> rfl) (by rfl) (by simp [hw]) ?_
    refine evSeq_go rfl (by simp [h0, hs] <;> rfl) (by rfl) (by simp [hw]) ?_
    exact evSeq_nil
  refine inSeq_norm ?_
  refine Tri.condG (o := ?o3) (b := ?b3) ?g3 ?r3 ?y3 ?n3
  case g3 => simp [h0, hs] <;> rfl
  case r3 => rfl
  case y3 =>
    intro hy3
    refine Tri.seq' ?_
    refine Tri.regN (t' := ?t4) (H' := ?H4) TT_ok hC ?e4 ?q4
    case e4 =>
      refine go_false ?_
      refine evSeq_go rfl (by simp [h0, hs] <;> rfl) (by rfl) (by simp [hw]) ?_
      exact evSeq_nil
    refine inSeq_norm ?_
    refine Tri.ret ?_
    refine inSeq_ret ?_
    refine endsE (by simp [finish, evResults, evResult, Tryz.f89] <;> rfl) (by rfl) ?_
    exact ⟨_, rfl⟩
  case n3 =>
    intro hn3
    exact absurd hn3 (by simp [h0, hs])
theorem body_71t {call : CallF} (hC : call.Sound Tryz.prog TT) (c : UInt8) (r : List UInt8) (hlen : (c :: r).length < 1100000) (p : Int → Bool) (hp : ∀ c H, call 109 [.i .u8 c] H = .val (.b (p c)) H) (hs : ∀ H, call 108 [.i .u8 c.toNat] H = .val (.b true) H)  : EBody Tryz.prog TT 89 [.s (c :: r)] (fun r => ∃ n : Int, r = .val (.i .i64 n)) := by
  refine ⟨Tryz.f89, _, rfl, rfl, by simp [Tryz.f89], ?_⟩
  have h0 : (Tm.init Tryz.f89.ntmps [.s (c :: r)]).get 0 = .s (c :: r) := by rw [get_init]; rfl
  have hw : (Tm.init Tryz.f89.ntmps [.s (c :: r)]).wid = 37 := rfl
  generalize Tm.init Tryz.f89.ntmps [.s (c :: r)] = t at *
  try simp only [Nd.enc_eq] at *
  refine Tri.seq' ?_
  refine Tri.regN (t' := ?t1) (H' := ?H1) TT_ok hC ?e1 ?q1
  case e1 =>
    refine go_false ?_
    refine evSeq_go rfl (by simp [h0, hs] <;> rfl) (by rfl) (by simp [hw]) ?_
    exact evSeq_nil
  refine inSeq_norm ?_
  refine Tri.seq' ?_
  refine Tri.seq' ?_
  refine Tri.regN (t' := ?t2) (H' := ?H2) TT_ok hC ?e2 ?q2
  case e2 =>
    refine go_false ?_
    refine evSeq_go rfl (by simp [h0, hs] <;> rfl) (by rfl) (by simp [hw]) ?_
    refine evSeq_go rfl (by simp [h0, hs] <;> rfl) (by rfl) (by simp [hw]) ?_
    refine evSeq_go rfl (by simp [h0, hs] <;> rfl) (by rfl) (by simp [hw]) ?_
    refine evSeq_go (by simp [wants, h0, hs]) (by simp [h0, hs] <;> rfl) (by rfl) (by simp [hw]) ?_
    refine evSeq_go (by simp [wants, h0, hs]) (by simp [h0, hs] <;> rfl) (by rfl) (by simp [hw]) ?_
    refine evSeq_go (by simp [wants, h0, hs]) (by simp [h0, hs] <;> rfl) (by rfl) (by simp [hw]) ?_
    refine evSeq_go (by simp [wants, h0, hs]) (by simp [h0, hs] <;> rfl) (by rfl) (by simp [hw]) ?_
    refine evSeq_go rfl (by simp [h0, hs] <;> rfl) (by rfl) (by simp [hw]) ?_
    exact evSeq_nil
  refine inSeq_norm ?_
  refine Tri.condG (o := ?o3) (b := ?b3) ?g3 ?r3 ?y3 ?n3
  case g3 => simp [h0, hs] <;> rfl
  case r3 => rfl
  case y3 =>
    intro hy3
    exact absurd hy3 (by simp [h0, hs])
  case n3 =>
    intro hn3
    refine Tri.skip ?_
    refine inSeq_norm ?_
    refine Tri.seq' ?_
    refine Tri.regN (t' := ?t4) (H' := ?H4) TT_ok hC ?e4 ?q4
    case e4 =>
      refine go_false ?_
      refine evSeq_go rfl (by simp [h0, hs] <;> rfl) (by rfl) (by simp [hw]) ?_
      exact evSeq_nil
    refine inSeq_norm ?_
    refine Tri.seq' ?_
    refine Tri.block' ?_
    refine Tri.loop ?_
    refine loop71a hC (c :: r) p hp hlen r.length 1 _ _ (by simp; omega) (by simp [hw]) (by simp [h0]) (by simp) ?exit
    case exit =>
      intro t2 H2 m hw h0 h3 hm
      refine inBlk_exit ?_
      refine inSeq_norm ?_
      refine Tri.seq' ?_
      refine Tri.block' ?_
      refine Tri.loop ?_
      refine loop71b hC (c :: r) hlen ((c :: r).length - m) m _ _ (by omega) (by simp [hw]) (by simp [h0]) (by simp [h3]) ?exit2
      case exit2 =>
        intro t3 H3 m2 hw h0 h3 hm2
        refine inBlk_exit ?_
        refine inSeq_norm ?_
        refine Tri.seq' ?_
        refine Tri.regN (t' := ?t5) (H' := ?H5) TT_ok hC ?e5 ?q5
        case e5 =>
          refine go_false ?_
          refine evSeq_go rfl (by simp [h0, hs] <;> rfl) (by rfl) (by simp [hw]) ?_
          refine evSeq_go rfl (by simp [h0, hs] <;> rfl) (by rfl) (by simp [hw]) ?_
          exact evSeq_nil
        refine inSeq_norm ?_
        refine Tri.ret ?_
        refine endsE (by simp [finish, evResults, evResult, Tryz.f89, h3] <;> rfl) (by rfl) ?_
        exact ⟨_, rfl⟩
end Go.Ev
