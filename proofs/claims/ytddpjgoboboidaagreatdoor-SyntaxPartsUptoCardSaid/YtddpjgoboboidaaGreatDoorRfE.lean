/- Walks over Equal of the reference. -/
import Derived.Test.YtddpjgoboboidaaGreatDoorWC
import Derived.Test.YtddpjgoboboidaaGreatDoorSg
import Derived.Test.YtddpjgoboboidaaGreatDoorEvIter
namespace Go.Ev
open Go Go.Proofs
set_option maxRecDepth 100000
set_option linter.unusedSimpArgs false
set_option linter.unusedVariables false
theorem loop1012 {call : CallF} (hC : call.Sound Tryz.prog TT) (x y : Nd) {Q : Out → Prop} : ∀ (L1 L2 p1 p2 : List Nd) (t : Tm), L1.length = L2.length → p1.length = p2.length → (∀ u ∈ L1, ∀ v H, call 12 [u.enc, v.enc] H = .val (.b (eqN u v)) H) → (p1 ++ L1).length < 1100000 →
    t.wid = 46 → t.get 2 = .ptr 0 0 → t.get 3 = .ptr 1 0 → t.get 5 = .i .i64 p1.length →
    (∀ t' : Tm, t'.wid = 46 → eqNL L1 L2 = true → Q (.exit 0 t' [some ⟨24, [.i .i64 x.kind, .s x.text, .isl 3 (Nd.encL (p1 ++ L1))], .all⟩, some ⟨24, [.i .i64 y.kind, .s y.text, .isl 3 (Nd.encL (p2 ++ L2))], .all⟩])) → (∀ (t' : Tm) (K : Heap), eqNL L1 L2 = false → t'.get 4 = .b false → Q (.ret t' K)) →
    LTri Tryz.prog TT (sub [true, true, false, true, false, false] (bodyOf Tryz.f12)) t [some ⟨24, [.i .i64 x.kind, .s x.text, .isl 3 (Nd.encL (p1 ++ L1))], .all⟩, some ⟨24, [.i .i64 y.kind, .s y.text, .isl 3 (Nd.encL (p2 ++ L2))], .all⟩] Q := by
  intro L1
  induction L1 with
  | nil =>
    intro L2 p1 p2 t hl hp hrec hlen hw h2 h3 h5 hE hR
    cases L2 with
    | cons _ _ => simp at hl
    | nil =>
      simp only [List.append_nil] at hE ⊢
      refine LTri.round' ?_
      refine Tri.seq' ?_
      refine Tri.seq' ?_
      refine Tri.regN (t' := ?tz1) (H' := ?Hz1) TT_ok hC ?ez1 ?qz1
      case ez1 =>
        refine go_false ?_
        refine evSeq_go rfl (by simp [h2, h3, h5, Nd.encL_length] <;> rfl) (by rfl) (by simp [fits_some, fits_none, hw, Nat.blt_eq]) ?_
        refine evSeq_go rfl (by simp [h2, h3, h5, Nd.encL_length] <;> rfl) (by rfl) (by simp [fits_some, fits_none, hw, Nat.blt_eq]) ?_
        refine evSeq_go rfl (by simp [h2, h3, h5, Nd.encL_length] <;> rfl) (by rfl) (by simp [fits_some, fits_none, hw, Nat.blt_eq]) ?_
        refine evSeq_go rfl (by simp [h2, h3, h5, Nd.encL_length] <;> rfl) (by rfl) (by simp [fits_some, fits_none, hw, Nat.blt_eq]) ?_
        refine evSeq_go rfl (by simp [h2, h3, h5, Nd.encL_length] <;> rfl) (by rfl) (by simp [fits_some, fits_none, hw, Nat.blt_eq]) ?_
        exact evSeq_nil
      refine inSeq_norm ?_
      refine Tri.condG (o := ?oz2) (b := ?bz2) ?gz2 ?rz2 ?yz2 ?nz2
      case gz2 => simp [h2, h3, h5, Nd.encL_length] <;> rfl
      case rz2 => rfl
      case yz2 =>
        intro hy2
        simp at hy2
      case nz2 =>
        intro hn2
        refine Tri.exit ?_
        refine inSeq_exit ?_
        refine inLoop_exit ?_
        exact hE _ (by simp [hw]) rfl
  | cons a L1 ih =>
    intro L2 p1 p2 t hl hp hrec hlen hw h2 h3 h5 hE hR
    cases L2 with
    | nil => simp at hl
    | cons b L2 =>
      have hlt := fin_len p1.length L1.length
      have hat := encL_at p1 a L1
      have hat2 := encL_at2 p1 a L1
      have hbt : (Nd.encL (p2 ++ b :: L2))[p1.length]? = some b.enc := by rw [hp]; exact encL_at p2 b L2
      have hbt2 : ∀ h, (Nd.encL (p2 ++ b :: L2))[p1.length]'h = b.enc := fun h => Option.some.inj ((List.getElem?_eq_getElem h).symm.trans hbt)
      have hr := hrec a (by simp) b
      simp only [Nd.enc_eq] at hr hat hat2 hbt hbt2
      have hl2 : (p1.length : Int) < p2.length + (L2.length + 1) := by omega
      cases hq : eqN a b with
      | false =>
        simp only [hq] at hr
        refine LTri.round' ?_
        refine Tri.seq' ?_
        refine Tri.seq' ?_
        refine Tri.regN (t' := ?tn1) (H' := ?Hn1) TT_ok hC ?en1 ?qn1
        case en1 =>
          refine go_false ?_
          refine evSeq_go rfl (by simp [h2, h3, h5, Nd.encL_length, hlt, hat, hat2, hbt, hbt2, hr, hl2] <;> rfl) (by rfl) (by simp [fits_some, fits_none, hw, Nat.blt_eq]) ?_
          refine evSeq_go rfl (by simp [h2, h3, h5, Nd.encL_length, hlt, hat, hat2, hbt, hbt2, hr, hl2] <;> rfl) (by rfl) (by simp [fits_some, fits_none, hw, Nat.blt_eq]) ?_
          refine evSeq_go rfl (by simp [h2, h3, h5, Nd.encL_length, hlt, hat, hat2, hbt, hbt2, hr, hl2] <;> rfl) (by rfl) (by simp [fits_some, fits_none, hw, Nat.blt_eq]) ?_
          refine evSeq_go rfl (by simp [h2, h3, h5, Nd.encL_length, hlt, hat, hat2, hbt, hbt2, hr, hl2] <;> rfl) (by rfl) (by simp [fits_some, fits_none, hw, Nat.blt_eq]) ?_
          refine evSeq_go rfl (by simp [h2, h3, h5, Nd.encL_length, hlt, hat, hat2, hbt, hbt2, hr, hl2] <;> rfl) (by rfl) (by simp [fits_some, fits_none, hw, Nat.blt_eq]) ?_
          exact evSeq_nil
        refine inSeq_norm ?_
        refine Tri.condG (o := ?on2) (b := ?bn2) ?gn2 ?rn2 ?yn2 ?nn2
        case gn2 => simp [h2, h3, h5, Nd.encL_length, hlt, hat, hat2, hbt, hbt2, hr, hl2] <;> rfl
        case rn2 => rfl
        case yn2 =>
          intro hy2
          refine Tri.skip ?_
          refine inSeq_norm ?_
          refine Tri.seq' ?_
          refine Tri.block' ?_
          refine Tri.seq' ?_
          refine Tri.regN (t' := ?tn3) (H' := ?Hn3) TT_ok hC ?en3 ?qn3
          case en3 =>
            refine evReg_quiet (t' := ?tn3) (by kernel_rfl) ?_ ?rn903
            refine QR.val rfl (by simp [h2, h3, h5, Nd.encL_length, hlt, hat, hat2, hbt, hbt2, hr, hl2] <;> rfl) (by rfl) (by simp [fits_some, fits_none, hw, Nat.blt_eq]) ?_
            refine QR.val rfl (by simp [h2, h3, h5, Nd.encL_length, hlt, hat, hat2, hbt, hbt2, hr, hl2] <;> rfl) (by rfl) (by simp [fits_some, fits_none, hw, Nat.blt_eq]) ?_
            refine QR.val rfl (by simp [h2, h3, h5, Nd.encL_length, hlt, hat, hat2, hbt, hbt2, hr, hl2] <;> rfl) (by rfl) (by simp [fits_some, fits_none, hw, Nat.blt_eq]) ?_
            refine QR.val rfl (by simp [h2, h3, h5, Nd.encL_length, hlt, hat, hat2, hbt, hbt2, hr, hl2] <;> rfl) (by rfl) (by simp [fits_some, fits_none, hw, Nat.blt_eq]) ?_
            refine QR.val rfl (by simp [h2, h3, h5, Nd.encL_length, hlt, hat, hat2, hbt, hbt2, hr, hl2] <;> rfl) (by rfl) (by simp [fits_some, fits_none, hw, Nat.blt_eq]) ?_
            refine QR.val rfl (by simp [h2, h3, h5, Nd.encL_length, hlt, hat, hat2, hbt, hbt2, hr, hl2] <;> rfl) (by rfl) (by simp [fits_some, fits_none, hw, Nat.blt_eq]) ?_
            refine QR.val rfl (by simp [h2, h3, h5, Nd.encL_length, hlt, hat, hat2, hbt, hbt2, hr, hl2] <;> rfl) (by rfl) (by simp [fits_some, fits_none, hw, Nat.blt_eq]) ?_
            refine QR.val rfl (by simp [h2, h3, h5, Nd.encL_length, hlt, hat, hat2, hbt, hbt2, hr, hl2] <;> rfl) (by rfl) (by simp [fits_some, fits_none, hw, Nat.blt_eq]) ?_
            refine QR.val rfl (by simp [h2, h3, h5, Nd.encL_length, hlt, hat, hat2, hbt, hbt2, hr, hl2] <;> rfl) (by rfl) (by simp [fits_some, fits_none, hw, Nat.blt_eq]) ?_
            refine QR.val rfl (by simp [h2, h3, h5, Nd.encL_length, hlt, hat, hat2, hbt, hbt2, hr, hl2] <;> rfl) (by rfl) (by simp [fits_some, fits_none, hw, Nat.blt_eq]) ?_
            refine QR.val rfl (by simp [h2, h3, h5, Nd.encL_length, hlt, hat, hat2, hbt, hbt2, hr, hl2] <;> rfl) (by rfl) (by simp [fits_some, fits_none, hw, Nat.blt_eq]) ?_
            refine QR.val rfl (by simp [h2, h3, h5, Nd.encL_length, hlt, hat, hat2, hbt, hbt2, hr, hl2] <;> rfl) (by rfl) (by simp [fits_some, fits_none, hw, Nat.blt_eq]) ?_
            exact QR.nil
            case rn903 => exact rfl
          refine inSeq_norm ?_
          refine Tri.condG (o := ?on4) (b := ?bn4) ?gn4 ?rn4 ?yn4 ?nn4
          case gn4 => simp [h2, h3, h5, Nd.encL_length, hlt, hat, hat2, hbt, hbt2, hr, hl2] <;> rfl
          case rn4 => rfl
          case yn4 =>
            intro hy4
            refine Tri.seq' ?_
            refine Tri.regN (t' := ?tn5) (H' := ?Hn5) TT_ok hC ?en5 ?qn5
            case en5 =>
              refine go_false ?_
              refine evSeq_go rfl (by simp [h2, h3, h5, Nd.encL_length, hlt, hat, hat2, hbt, hbt2, hr, hl2] <;> rfl) (by rfl) (by simp [fits_some, fits_none, hw, Nat.blt_eq]) ?_
              exact evSeq_nil
            refine inSeq_norm ?_
            refine Tri.ret ?_
            refine inBlk_ret ?_
            refine inSeq_ret ?_
            refine inLoop_ret ?_
            exact hR _ _ (by simp [eqNL, hq]) (by simp)
          case nn4 =>
            intro hn4
            exact absurd hn4 (by simp [h2, h3, h5, Nd.encL_length, hlt, hat, hat2, hbt, hbt2, hr, hl2])
        case nn2 =>
          intro hn2
          exfalso
          simp at hn2
      | true =>
        simp only [hq] at hr
        refine LTri.round' ?_
        refine Tri.seq' ?_
        refine Tri.seq' ?_
        refine Tri.regN (t' := ?ty1) (H' := ?Hy1) TT_ok hC ?ey1 ?qy1
        case ey1 =>
          refine go_false ?_
          refine evSeq_go rfl (by simp [h2, h3, h5, Nd.encL_length, hlt, hat, hat2, hbt, hbt2, hr, hl2] <;> rfl) (by rfl) (by simp [fits_some, fits_none, hw, Nat.blt_eq]) ?_
          refine evSeq_go rfl (by simp [h2, h3, h5, Nd.encL_length, hlt, hat, hat2, hbt, hbt2, hr, hl2] <;> rfl) (by rfl) (by simp [fits_some, fits_none, hw, Nat.blt_eq]) ?_
          refine evSeq_go rfl (by simp [h2, h3, h5, Nd.encL_length, hlt, hat, hat2, hbt, hbt2, hr, hl2] <;> rfl) (by rfl) (by simp [fits_some, fits_none, hw, Nat.blt_eq]) ?_
          refine evSeq_go rfl (by simp [h2, h3, h5, Nd.encL_length, hlt, hat, hat2, hbt, hbt2, hr, hl2] <;> rfl) (by rfl) (by simp [fits_some, fits_none, hw, Nat.blt_eq]) ?_
          refine evSeq_go rfl (by simp [h2, h3, h5, Nd.encL_length, hlt, hat, hat2, hbt, hbt2, hr, hl2] <;> rfl) (by rfl) (by simp [fits_some, fits_none, hw, Nat.blt_eq]) ?_
          exact evSeq_nil
        refine inSeq_norm ?_
        refine Tri.condG (o := ?oy2) (b := ?by2) ?gy2 ?ry2 ?yy2 ?ny2
        case gy2 => simp [h2, h3, h5, Nd.encL_length, hlt, hat, hat2, hbt, hbt2, hr, hl2] <;> rfl
        case ry2 => rfl
        case yy2 =>
          intro hy2
          refine Tri.skip ?_
          refine inSeq_norm ?_
          refine Tri.seq' ?_
          refine Tri.block' ?_
          refine Tri.seq' ?_
          refine Tri.regN (t' := ?ty3) (H' := ?Hy3) TT_ok hC ?ey3 ?qy3
          case ey3 =>
            refine evReg_quiet (t' := ?ty3) (by kernel_rfl) ?_ ?ry903
            refine QR.val rfl (by simp [h2, h3, h5, Nd.encL_length, hlt, hat, hat2, hbt, hbt2, hr, hl2] <;> rfl) (by rfl) (by simp [fits_some, fits_none, hw, Nat.blt_eq]) ?_
            refine QR.val rfl (by simp [h2, h3, h5, Nd.encL_length, hlt, hat, hat2, hbt, hbt2, hr, hl2] <;> rfl) (by rfl) (by simp [fits_some, fits_none, hw, Nat.blt_eq]) ?_
            refine QR.val rfl (by simp [h2, h3, h5, Nd.encL_length, hlt, hat, hat2, hbt, hbt2, hr, hl2] <;> rfl) (by rfl) (by simp [fits_some, fits_none, hw, Nat.blt_eq]) ?_
            refine QR.val rfl (by simp [h2, h3, h5, Nd.encL_length, hlt, hat, hat2, hbt, hbt2, hr, hl2] <;> rfl) (by rfl) (by simp [fits_some, fits_none, hw, Nat.blt_eq]) ?_
            refine QR.val rfl (by simp [h2, h3, h5, Nd.encL_length, hlt, hat, hat2, hbt, hbt2, hr, hl2] <;> rfl) (by rfl) (by simp [fits_some, fits_none, hw, Nat.blt_eq]) ?_
            refine QR.val rfl (by simp [h2, h3, h5, Nd.encL_length, hlt, hat, hat2, hbt, hbt2, hr, hl2] <;> rfl) (by rfl) (by simp [fits_some, fits_none, hw, Nat.blt_eq]) ?_
            refine QR.val rfl (by simp [h2, h3, h5, Nd.encL_length, hlt, hat, hat2, hbt, hbt2, hr, hl2] <;> rfl) (by rfl) (by simp [fits_some, fits_none, hw, Nat.blt_eq]) ?_
            refine QR.val rfl (by simp [h2, h3, h5, Nd.encL_length, hlt, hat, hat2, hbt, hbt2, hr, hl2] <;> rfl) (by rfl) (by simp [fits_some, fits_none, hw, Nat.blt_eq]) ?_
            refine QR.val rfl (by simp [h2, h3, h5, Nd.encL_length, hlt, hat, hat2, hbt, hbt2, hr, hl2] <;> rfl) (by rfl) (by simp [fits_some, fits_none, hw, Nat.blt_eq]) ?_
            refine QR.val rfl (by simp [h2, h3, h5, Nd.encL_length, hlt, hat, hat2, hbt, hbt2, hr, hl2] <;> rfl) (by rfl) (by simp [fits_some, fits_none, hw, Nat.blt_eq]) ?_
            refine QR.val rfl (by simp [h2, h3, h5, Nd.encL_length, hlt, hat, hat2, hbt, hbt2, hr, hl2] <;> rfl) (by rfl) (by simp [fits_some, fits_none, hw, Nat.blt_eq]) ?_
            refine QR.val rfl (by simp [h2, h3, h5, Nd.encL_length, hlt, hat, hat2, hbt, hbt2, hr, hl2] <;> rfl) (by rfl) (by simp [fits_some, fits_none, hw, Nat.blt_eq]) ?_
            exact QR.nil
            case ry903 => exact rfl
          refine inSeq_norm ?_
          refine Tri.condG (o := ?oy4) (b := ?by4) ?gy4 ?ry4 ?yy4 ?ny4
          case gy4 => simp [h2, h3, h5, Nd.encL_length, hlt, hat, hat2, hbt, hbt2, hr, hl2] <;> rfl
          case ry4 => rfl
          case yy4 =>
            intro hy4
            exact absurd hy4 (by simp [h2, h3, h5, Nd.encL_length, hlt, hat, hat2, hbt, hbt2, hr, hl2])
          case ny4 =>
            intro hn4
            refine Tri.skip ?_
            refine inBlk_norm ?_
            refine inSeq_norm ?_
            refine Tri.regN (t' := ?ty5) (H' := ?Hy5) TT_ok hC ?ey5 ?qy5
            case ey5 =>
              refine go_false ?_
              refine evSeq_go rfl (by simp [h2, h3, h5, Nd.encL_length, hlt, hat, hat2, hbt, hbt2, hr, hl2] <;> rfl) (by rfl) (by simp [fits_some, fits_none, hw, Nat.blt_eq]) ?_
              refine evSeq_go rfl (by simp [h2, h3, h5, Nd.encL_length, hlt, hat, hat2, hbt, hbt2, hr, hl2] <;> rfl) (by rfl) (by simp [fits_some, fits_none, hw, Nat.blt_eq]) ?_
              refine evSeq_go rfl (by simp [h2, h3, h5, Nd.encL_length, hlt, hat, hat2, hbt, hbt2, hr, hl2] <;> rfl) (by rfl) (by simp [fits_some, fits_none, hw, Nat.blt_eq]) ?_
              exact evSeq_nil
            refine inLoop_norm ?_
            rw [show p1 ++ a :: L1 = p1 ++ [a] ++ L1 from by simp, show p2 ++ b :: L2 = p2 ++ [b] ++ L2 from by simp] at *
            refine ih L2 (p1 ++ [a]) (p2 ++ [b]) _ (by simpa using hl) (by simp [hp]) (fun u hu => hrec u (by simp [hu])) hlen (by simp [hw]) (by simp [h2]) (by simp [h3]) (by simp; exact wrap_i64 (by omega) (by simp at hlen; omega)) (fun t' h1 h2 => ?_) (fun t' K h1 h2 => ?_)
            · exact hE t' h1 (by simp [eqNL, hq, h2])
            · exact hR t' K (by simp [eqNL, hq, h1]) h2
        case ny2 =>
          intro hn2
          exfalso
          simp at hn2

theorem body_1012k {call : CallF} (hC : call.Sound Tryz.prog TT) (x y : Nd) (hk : (x.kind != y.kind) = true)  : EBody Tryz.prog TT 12 [x.enc, y.enc] (fun r => r = .val (.b false)) := by
  refine ⟨Tryz.f12, _, rfl, rfl, by simp [Tryz.f12], ?_⟩
  have h0 : (Tm.init Tryz.f12.ntmps [x.enc, y.enc]).get 0 = x.enc := by rw [get_init]; rfl
  have h1 : (Tm.init Tryz.f12.ntmps [x.enc, y.enc]).get 1 = y.enc := by rw [get_init]; rfl
  have hw : (Tm.init Tryz.f12.ntmps [x.enc, y.enc]).wid = 46 := rfl
  generalize Tm.init Tryz.f12.ntmps [x.enc, y.enc] = t at *
  try simp only [Nd.enc_eq] at *
  refine Tri.seq' ?_
  refine Tri.regN (t' := ?t1) (H' := ?H1) TT_ok hC ?e1 ?q1
  case e1 =>
    refine go_false ?_
    refine evSeq_go rfl (by simp [h0, h1, Nd.encL_length, hk] <;> rfl) (by rfl) (by simp [fits_some, fits_none, hw, Nat.blt_eq]) ?_
    refine evSeq_go rfl (by simp [h0, h1, Nd.encL_length, hk] <;> rfl) (by rfl) (by simp [fits_some, fits_none, hw, Nat.blt_eq]) ?_
    refine evSeq_go rfl (by simp [h0, h1, Nd.encL_length, hk] <;> rfl) (by rfl) (by simp [fits_some, fits_none, hw, Nat.blt_eq]) ?_
    exact evSeq_nil
  refine inSeq_norm ?_
  refine Tri.seq' ?_
  refine Tri.seq' ?_
  refine Tri.regN (t' := ?t2) (H' := ?H2) TT_ok hC ?e2 ?q2
  case e2 =>
    refine go_false ?_
    refine evSeq_go rfl (by simp [h0, h1, Nd.encL_length, hk] <;> rfl) (by rfl) (by simp [fits_some, fits_none, hw, Nat.blt_eq]) ?_
    refine evSeq_go rfl (by simp [h0, h1, Nd.encL_length, hk] <;> rfl) (by rfl) (by simp [fits_some, fits_none, hw, Nat.blt_eq]) ?_
    refine evSeq_go rfl (by simp [h0, h1, Nd.encL_length, hk] <;> rfl) (by rfl) (by simp [fits_some, fits_none, hw, Nat.blt_eq]) ?_
    refine evSeq_go rfl (by simp [h0, h1, Nd.encL_length, hk] <;> rfl) (by rfl) (by simp [fits_some, fits_none, hw, Nat.blt_eq]) ?_
    refine evSeq_go rfl (by simp [h0, h1, Nd.encL_length, hk] <;> rfl) (by rfl) (by simp [fits_some, fits_none, hw, Nat.blt_eq]) ?_
    refine evSeq_go rfl (by simp [h0, h1, Nd.encL_length, hk] <;> rfl) (by rfl) (by simp [fits_some, fits_none, hw, Nat.blt_eq]) ?_
    refine evSeq_off (by simp [wants, h0, h1, Nd.encL_length, hk]) (by simp [fits_some, fits_none, hw, Nat.blt_eq]) ?_
    refine evSeq_off (by simp [wants, h0, h1, Nd.encL_length, hk]) (by simp [fits_some, fits_none, hw, Nat.blt_eq]) ?_
    refine evSeq_off (by simp [wants, h0, h1, Nd.encL_length, hk]) (by simp [fits_some, fits_none, hw, Nat.blt_eq]) ?_
    refine evSeq_off (by simp [wants, h0, h1, Nd.encL_length, hk]) (by simp [fits_some, fits_none, hw, Nat.blt_eq]) ?_
    refine evSeq_off (by simp [wants, h0, h1, Nd.encL_length, hk]) (by simp [fits_some, fits_none, hw, Nat.blt_eq]) ?_
    refine evSeq_go rfl (by simp [h0, h1, Nd.encL_length, hk] <;> rfl) (by rfl) (by simp [fits_some, fits_none, hw, Nat.blt_eq]) ?_
    refine evSeq_go rfl (by simp [h0, h1, Nd.encL_length, hk] <;> rfl) (by rfl) (by simp [fits_some, fits_none, hw, Nat.blt_eq]) ?_
    refine evSeq_off (by simp [wants, h0, h1, Nd.encL_length, hk]) (by simp [fits_some, fits_none, hw, Nat.blt_eq]) ?_
    refine evSeq_off (by simp [wants, h0, h1, Nd.encL_length, hk]) (by simp [fits_some, fits_none, hw, Nat.blt_eq]) ?_
    refine evSeq_off (by simp [wants, h0, h1, Nd.encL_length, hk]) (by simp [fits_some, fits_none, hw, Nat.blt_eq]) ?_
    refine evSeq_off (by simp [wants, h0, h1, Nd.encL_length, hk]) (by simp [fits_some, fits_none, hw, Nat.blt_eq]) ?_
    refine evSeq_off (by simp [wants, h0, h1, Nd.encL_length, hk]) (by simp [fits_some, fits_none, hw, Nat.blt_eq]) ?_
    refine evSeq_off (by simp [wants, h0, h1, Nd.encL_length, hk]) (by simp [fits_some, fits_none, hw, Nat.blt_eq]) ?_
    refine evSeq_off (by simp [wants, h0, h1, Nd.encL_length, hk]) (by simp [fits_some, fits_none, hw, Nat.blt_eq]) ?_
    refine evSeq_go rfl (by simp [h0, h1, Nd.encL_length, hk] <;> rfl) (by rfl) (by simp [fits_some, fits_none, hw, Nat.blt_eq]) ?_
    exact evSeq_nil
  refine inSeq_norm ?_
  refine Tri.condG (o := ?o3) (b := ?b3) ?g3 ?r3 ?y3 ?n3
  case g3 => simp [h0, h1, Nd.encL_length, hk] <;> rfl
  case r3 => rfl
  case y3 =>
    intro hy3
    refine Tri.seq' ?_
    refine Tri.regN (t' := ?t4) (H' := ?H4) TT_ok hC ?e4 ?q4
    case e4 =>
      refine go_false ?_
      refine evSeq_go rfl (by simp [h0, h1, Nd.encL_length, hk] <;> rfl) (by rfl) (by simp [fits_some, fits_none, hw, Nat.blt_eq]) ?_
      exact evSeq_nil
    refine inSeq_norm ?_
    refine Tri.ret ?_
    refine inSeq_ret ?_
    refine endsE (by simp [finish, evResults, evResult, Tryz.f12] <;> rfl) (by rfl) ?_
    exact rfl
  case n3 =>
    intro hn3
    exact absurd hn3 (by simp [h0, h1, Nd.encL_length, hk])
theorem body_1012t {call : CallF} (hC : call.Sound Tryz.prog TT) (x y : Nd) (hk : (x.kind != y.kind) = false) (ht : (x.text == y.text) = false)  : EBody Tryz.prog TT 12 [x.enc, y.enc] (fun r => r = .val (.b false)) := by
  refine ⟨Tryz.f12, _, rfl, rfl, by simp [Tryz.f12], ?_⟩
  have h0 : (Tm.init Tryz.f12.ntmps [x.enc, y.enc]).get 0 = x.enc := by rw [get_init]; rfl
  have h1 : (Tm.init Tryz.f12.ntmps [x.enc, y.enc]).get 1 = y.enc := by rw [get_init]; rfl
  have hw : (Tm.init Tryz.f12.ntmps [x.enc, y.enc]).wid = 46 := rfl
  generalize Tm.init Tryz.f12.ntmps [x.enc, y.enc] = t at *
  try simp only [Nd.enc_eq] at *
  refine Tri.seq' ?_
  refine Tri.regN (t' := ?t1) (H' := ?H1) TT_ok hC ?e1 ?q1
  case e1 =>
    refine go_false ?_
    refine evSeq_go rfl (by simp [h0, h1, Nd.encL_length, hk, ht] <;> rfl) (by rfl) (by simp [fits_some, fits_none, hw, Nat.blt_eq]) ?_
    refine evSeq_go rfl (by simp [h0, h1, Nd.encL_length, hk, ht] <;> rfl) (by rfl) (by simp [fits_some, fits_none, hw, Nat.blt_eq]) ?_
    refine evSeq_go rfl (by simp [h0, h1, Nd.encL_length, hk, ht] <;> rfl) (by rfl) (by simp [fits_some, fits_none, hw, Nat.blt_eq]) ?_
    exact evSeq_nil
  refine inSeq_norm ?_
  refine Tri.seq' ?_
  refine Tri.seq' ?_
  refine Tri.regN (t' := ?t2) (H' := ?H2) TT_ok hC ?e2 ?q2
  case e2 =>
    refine go_false ?_
    refine evSeq_go rfl (by simp [h0, h1, Nd.encL_length, hk, ht] <;> rfl) (by rfl) (by simp [fits_some, fits_none, hw, Nat.blt_eq]) ?_
    refine evSeq_go rfl (by simp [h0, h1, Nd.encL_length, hk, ht] <;> rfl) (by rfl) (by simp [fits_some, fits_none, hw, Nat.blt_eq]) ?_
    refine evSeq_go rfl (by simp [h0, h1, Nd.encL_length, hk, ht] <;> rfl) (by rfl) (by simp [fits_some, fits_none, hw, Nat.blt_eq]) ?_
    refine evSeq_go rfl (by simp [h0, h1, Nd.encL_length, hk, ht] <;> rfl) (by rfl) (by simp [fits_some, fits_none, hw, Nat.blt_eq]) ?_
    refine evSeq_go rfl (by simp [h0, h1, Nd.encL_length, hk, ht] <;> rfl) (by rfl) (by simp [fits_some, fits_none, hw, Nat.blt_eq]) ?_
    refine evSeq_go rfl (by simp [h0, h1, Nd.encL_length, hk, ht] <;> rfl) (by rfl) (by simp [fits_some, fits_none, hw, Nat.blt_eq]) ?_
    refine evSeq_go (by simp [wants, h0, h1, Nd.encL_length, hk, ht]) (by simp [h0, h1, Nd.encL_length, hk, ht] <;> rfl) (by rfl) (by simp [fits_some, fits_none, hw, Nat.blt_eq]) ?_
    refine evSeq_go (by simp [wants, h0, h1, Nd.encL_length, hk, ht]) (by simp [h0, h1, Nd.encL_length, hk, ht] <;> rfl) (by rfl) (by simp [fits_some, fits_none, hw, Nat.blt_eq]) ?_
    refine evSeq_go (by simp [wants, h0, h1, Nd.encL_length, hk, ht]) (by simp [h0, h1, Nd.encL_length, hk, ht] <;> rfl) (by rfl) (by simp [fits_some, fits_none, hw, Nat.blt_eq]) ?_
    refine evSeq_go (by simp [wants, h0, h1, Nd.encL_length, hk, ht]) (by simp [h0, h1, Nd.encL_length, hk, ht] <;> rfl) (by rfl) (by simp [fits_some, fits_none, hw, Nat.blt_eq]) ?_
    refine evSeq_go (by simp [wants, h0, h1, Nd.encL_length, hk, ht]) (by simp [h0, h1, Nd.encL_length, hk, ht] <;> rfl) (by rfl) (by simp [fits_some, fits_none, hw, Nat.blt_eq]) ?_
    refine evSeq_go rfl (by simp [h0, h1, Nd.encL_length, hk, ht] <;> rfl) (by rfl) (by simp [fits_some, fits_none, hw, Nat.blt_eq]) ?_
    refine evSeq_go rfl (by simp [h0, h1, Nd.encL_length, hk, ht] <;> rfl) (by rfl) (by simp [fits_some, fits_none, hw, Nat.blt_eq]) ?_
    refine evSeq_off (by simp [wants, h0, h1, Nd.encL_length, hk, ht]) (by simp [fits_some, fits_none, hw, Nat.blt_eq]) ?_
    refine evSeq_off (by simp [wants, h0, h1, Nd.encL_length, hk, ht]) (by simp [fits_some, fits_none, hw, Nat.blt_eq]) ?_
    refine evSeq_off (by simp [wants, h0, h1, Nd.encL_length, hk, ht]) (by simp [fits_some, fits_none, hw, Nat.blt_eq]) ?_
    refine evSeq_off (by simp [wants, h0, h1, Nd.encL_length, hk, ht]) (by simp [fits_some, fits_none, hw, Nat.blt_eq]) ?_
    refine evSeq_off (by simp [wants, h0, h1, Nd.encL_length, hk, ht]) (by simp [fits_some, fits_none, hw, Nat.blt_eq]) ?_
    refine evSeq_off (by simp [wants, h0, h1, Nd.encL_length, hk, ht]) (by simp [fits_some, fits_none, hw, Nat.blt_eq]) ?_
    refine evSeq_off (by simp [wants, h0, h1, Nd.encL_length, hk, ht]) (by simp [fits_some, fits_none, hw, Nat.blt_eq]) ?_
    refine evSeq_go rfl (by simp [h0, h1, Nd.encL_length, hk, ht] <;> rfl) (by rfl) (by simp [fits_some, fits_none, hw, Nat.blt_eq]) ?_
    exact evSeq_nil
  refine inSeq_norm ?_
  refine Tri.condG (o := ?o3) (b := ?b3) ?g3 ?r3 ?y3 ?n3
  case g3 => simp [h0, h1, Nd.encL_length, hk, ht] <;> rfl
  case r3 => rfl
  case y3 =>
    intro hy3
    refine Tri.seq' ?_
    refine Tri.regN (t' := ?t4) (H' := ?H4) TT_ok hC ?e4 ?q4
    case e4 =>
      refine go_false ?_
      refine evSeq_go rfl (by simp [h0, h1, Nd.encL_length, hk, ht] <;> rfl) (by rfl) (by simp [fits_some, fits_none, hw, Nat.blt_eq]) ?_
      exact evSeq_nil
    refine inSeq_norm ?_
    refine Tri.ret ?_
    refine inSeq_ret ?_
    refine endsE (by simp [finish, evResults, evResult, Tryz.f12] <;> rfl) (by rfl) ?_
    exact rfl
  case n3 =>
    intro hn3
    exact absurd hn3 (by simp [h0, h1, Nd.encL_length, hk, ht])
theorem body_1012l {call : CallF} (hC : call.Sound Tryz.prog TT) (x y : Nd) (hk : (x.kind != y.kind) = false) (ht : (x.text == y.text) = true) (hl : ((x.kids.length : Int) != y.kids.length) = true)  : EBody Tryz.prog TT 12 [x.enc, y.enc] (fun r => r = .val (.b false)) := by
  refine ⟨Tryz.f12, _, rfl, rfl, by simp [Tryz.f12], ?_⟩
  have h0 : (Tm.init Tryz.f12.ntmps [x.enc, y.enc]).get 0 = x.enc := by rw [get_init]; rfl
  have h1 : (Tm.init Tryz.f12.ntmps [x.enc, y.enc]).get 1 = y.enc := by rw [get_init]; rfl
  have hw : (Tm.init Tryz.f12.ntmps [x.enc, y.enc]).wid = 46 := rfl
  generalize Tm.init Tryz.f12.ntmps [x.enc, y.enc] = t at *
  try simp only [Nd.enc_eq] at *
  refine Tri.seq' ?_
  refine Tri.regN (t' := ?t1) (H' := ?H1) TT_ok hC ?e1 ?q1
  case e1 =>
    refine go_false ?_
    refine evSeq_go rfl (by simp [h0, h1, Nd.encL_length, hk, ht, hl] <;> rfl) (by rfl) (by simp [fits_some, fits_none, hw, Nat.blt_eq]) ?_
    refine evSeq_go rfl (by simp [h0, h1, Nd.encL_length, hk, ht, hl] <;> rfl) (by rfl) (by simp [fits_some, fits_none, hw, Nat.blt_eq]) ?_
    refine evSeq_go rfl (by simp [h0, h1, Nd.encL_length, hk, ht, hl] <;> rfl) (by rfl) (by simp [fits_some, fits_none, hw, Nat.blt_eq]) ?_
    exact evSeq_nil
  refine inSeq_norm ?_
  refine Tri.seq' ?_
  refine Tri.seq' ?_
  refine Tri.regN (t' := ?t2) (H' := ?H2) TT_ok hC ?e2 ?q2
  case e2 =>
    refine go_false ?_
    refine evSeq_go rfl (by simp [h0, h1, Nd.encL_length, hk, ht, hl] <;> rfl) (by rfl) (by simp [fits_some, fits_none, hw, Nat.blt_eq]) ?_
    refine evSeq_go rfl (by simp [h0, h1, Nd.encL_length, hk, ht, hl] <;> rfl) (by rfl) (by simp [fits_some, fits_none, hw, Nat.blt_eq]) ?_
    refine evSeq_go rfl (by simp [h0, h1, Nd.encL_length, hk, ht, hl] <;> rfl) (by rfl) (by simp [fits_some, fits_none, hw, Nat.blt_eq]) ?_
    refine evSeq_go rfl (by simp [h0, h1, Nd.encL_length, hk, ht, hl] <;> rfl) (by rfl) (by simp [fits_some, fits_none, hw, Nat.blt_eq]) ?_
    refine evSeq_go rfl (by simp [h0, h1, Nd.encL_length, hk, ht, hl] <;> rfl) (by rfl) (by simp [fits_some, fits_none, hw, Nat.blt_eq]) ?_
    refine evSeq_go rfl (by simp [h0, h1, Nd.encL_length, hk, ht, hl] <;> rfl) (by rfl) (by simp [fits_some, fits_none, hw, Nat.blt_eq]) ?_
    refine evSeq_go (by simp [wants, h0, h1, Nd.encL_length, hk, ht, hl]) (by simp [h0, h1, Nd.encL_length, hk, ht, hl] <;> rfl) (by rfl) (by simp [fits_some, fits_none, hw, Nat.blt_eq]) ?_
    refine evSeq_go (by simp [wants, h0, h1, Nd.encL_length, hk, ht, hl]) (by simp [h0, h1, Nd.encL_length, hk, ht, hl] <;> rfl) (by rfl) (by simp [fits_some, fits_none, hw, Nat.blt_eq]) ?_
    refine evSeq_go (by simp [wants, h0, h1, Nd.encL_length, hk, ht, hl]) (by simp [h0, h1, Nd.encL_length, hk, ht, hl] <;> rfl) (by rfl) (by simp [fits_some, fits_none, hw, Nat.blt_eq]) ?_
    refine evSeq_go (by simp [wants, h0, h1, Nd.encL_length, hk, ht, hl]) (by simp [h0, h1, Nd.encL_length, hk, ht, hl] <;> rfl) (by rfl) (by simp [fits_some, fits_none, hw, Nat.blt_eq]) ?_
    refine evSeq_go (by simp [wants, h0, h1, Nd.encL_length, hk, ht, hl]) (by simp [h0, h1, Nd.encL_length, hk, ht, hl] <;> rfl) (by rfl) (by simp [fits_some, fits_none, hw, Nat.blt_eq]) ?_
    refine evSeq_go rfl (by simp [h0, h1, Nd.encL_length, hk, ht, hl] <;> rfl) (by rfl) (by simp [fits_some, fits_none, hw, Nat.blt_eq]) ?_
    refine evSeq_go rfl (by simp [h0, h1, Nd.encL_length, hk, ht, hl] <;> rfl) (by rfl) (by simp [fits_some, fits_none, hw, Nat.blt_eq]) ?_
    refine evSeq_go (by simp [wants, h0, h1, Nd.encL_length, hk, ht, hl]) (by simp [h0, h1, Nd.encL_length, hk, ht, hl] <;> rfl) (by rfl) (by simp [fits_some, fits_none, hw, Nat.blt_eq]) ?_
    refine evSeq_go (by simp [wants, h0, h1, Nd.encL_length, hk, ht, hl]) (by simp [h0, h1, Nd.encL_length, hk, ht, hl] <;> rfl) (by rfl) (by simp [fits_some, fits_none, hw, Nat.blt_eq]) ?_
    refine evSeq_go (by simp [wants, h0, h1, Nd.encL_length, hk, ht, hl]) (by simp [h0, h1, Nd.encL_length, hk, ht, hl] <;> rfl) (by rfl) (by simp [fits_some, fits_none, hw, Nat.blt_eq]) ?_
    refine evSeq_go (by simp [wants, h0, h1, Nd.encL_length, hk, ht, hl]) (by simp [h0, h1, Nd.encL_length, hk, ht, hl] <;> rfl) (by rfl) (by simp [fits_some, fits_none, hw, Nat.blt_eq]) ?_
    refine evSeq_go (by simp [wants, h0, h1, Nd.encL_length, hk, ht, hl]) (by simp [h0, h1, Nd.encL_length, hk, ht, hl] <;> rfl) (by rfl) (by simp [fits_some, fits_none, hw, Nat.blt_eq]) ?_
    refine evSeq_go (by simp [wants, h0, h1, Nd.encL_length, hk, ht, hl]) (by simp [h0, h1, Nd.encL_length, hk, ht, hl] <;> rfl) (by rfl) (by simp [fits_some, fits_none, hw, Nat.blt_eq]) ?_
    refine evSeq_go (by simp [wants, h0, h1, Nd.encL_length, hk, ht, hl]) (by simp [h0, h1, Nd.encL_length, hk, ht, hl] <;> rfl) (by rfl) (by simp [fits_some, fits_none, hw, Nat.blt_eq]) ?_
    refine evSeq_go rfl (by simp [h0, h1, Nd.encL_length, hk, ht, hl] <;> rfl) (by rfl) (by simp [fits_some, fits_none, hw, Nat.blt_eq]) ?_
    exact evSeq_nil
  refine inSeq_norm ?_
  refine Tri.condG (o := ?o3) (b := ?b3) ?g3 ?r3 ?y3 ?n3
  case g3 => simp [h0, h1, Nd.encL_length, hk, ht, hl] <;> rfl
  case r3 => rfl
  case y3 =>
    intro hy3
    refine Tri.seq' ?_
    refine Tri.regN (t' := ?t4) (H' := ?H4) TT_ok hC ?e4 ?q4
    case e4 =>
      refine go_false ?_
      refine evSeq_go rfl (by simp [h0, h1, Nd.encL_length, hk, ht, hl] <;> rfl) (by rfl) (by simp [fits_some, fits_none, hw, Nat.blt_eq]) ?_
      exact evSeq_nil
    refine inSeq_norm ?_
    refine Tri.ret ?_
    refine inSeq_ret ?_
    refine endsE (by simp [finish, evResults, evResult, Tryz.f12] <;> rfl) (by rfl) ?_
    exact rfl
  case n3 =>
    intro hn3
    exact absurd hn3 (by simp [h0, h1, Nd.encL_length, hk, ht, hl])
theorem body_1012e {call : CallF} (hC : call.Sound Tryz.prog TT) (x y : Nd) (hk : (x.kind != y.kind) = false) (ht : (x.text == y.text) = true) (hl : ((x.kids.length : Int) != y.kids.length) = false) (hll : x.kids.length = y.kids.length) (hlen : x.kids.length < 1100000) (hrec : ∀ u ∈ x.kids, ∀ v H, call 12 [u.enc, v.enc] H = .val (.b (eqN u v)) H)  : EBody Tryz.prog TT 12 [x.enc, y.enc] (fun r => r = .val (.b (eqNL x.kids y.kids))) := by
  refine ⟨Tryz.f12, _, rfl, rfl, by simp [Tryz.f12], ?_⟩
  have h0 : (Tm.init Tryz.f12.ntmps [x.enc, y.enc]).get 0 = x.enc := by rw [get_init]; rfl
  have h1 : (Tm.init Tryz.f12.ntmps [x.enc, y.enc]).get 1 = y.enc := by rw [get_init]; rfl
  have hw : (Tm.init Tryz.f12.ntmps [x.enc, y.enc]).wid = 46 := rfl
  generalize Tm.init Tryz.f12.ntmps [x.enc, y.enc] = t at *
  try simp only [Nd.enc_eq] at *
  refine Tri.seq' ?_
  refine Tri.regN (t' := ?t1) (H' := ?H1) TT_ok hC ?e1 ?q1
  case e1 =>
    refine go_false ?_
    refine evSeq_go rfl (by simp [h0, h1, Nd.encL_length, hk, ht, hl] <;> rfl) (by rfl) (by simp [fits_some, fits_none, hw, Nat.blt_eq]) ?_
    refine evSeq_go rfl (by simp [h0, h1, Nd.encL_length, hk, ht, hl] <;> rfl) (by rfl) (by simp [fits_some, fits_none, hw, Nat.blt_eq]) ?_
    refine evSeq_go rfl (by simp [h0, h1, Nd.encL_length, hk, ht, hl] <;> rfl) (by rfl) (by simp [fits_some, fits_none, hw, Nat.blt_eq]) ?_
    exact evSeq_nil
  refine inSeq_norm ?_
  refine Tri.seq' ?_
  refine Tri.seq' ?_
  refine Tri.regN (t' := ?t2) (H' := ?H2) TT_ok hC ?e2 ?q2
  case e2 =>
    refine go_false ?_
    refine evSeq_go rfl (by simp [h0, h1, Nd.encL_length, hk, ht, hl] <;> rfl) (by rfl) (by simp [fits_some, fits_none, hw, Nat.blt_eq]) ?_
    refine evSeq_go rfl (by simp [h0, h1, Nd.encL_length, hk, ht, hl] <;> rfl) (by rfl) (by simp [fits_some, fits_none, hw, Nat.blt_eq]) ?_
    refine evSeq_go rfl (by simp [h0, h1, Nd.encL_length, hk, ht, hl] <;> rfl) (by rfl) (by simp [fits_some, fits_none, hw, Nat.blt_eq]) ?_
    refine evSeq_go rfl (by simp [h0, h1, Nd.encL_length, hk, ht, hl] <;> rfl) (by rfl) (by simp [fits_some, fits_none, hw, Nat.blt_eq]) ?_
    refine evSeq_go rfl (by simp [h0, h1, Nd.encL_length, hk, ht, hl] <;> rfl) (by rfl) (by simp [fits_some, fits_none, hw, Nat.blt_eq]) ?_
    refine evSeq_go rfl (by simp [h0, h1, Nd.encL_length, hk, ht, hl] <;> rfl) (by rfl) (by simp [fits_some, fits_none, hw, Nat.blt_eq]) ?_
    refine evSeq_go (by simp [wants, h0, h1, Nd.encL_length, hk, ht, hl]) (by simp [h0, h1, Nd.encL_length, hk, ht, hl] <;> rfl) (by rfl) (by simp [fits_some, fits_none, hw, Nat.blt_eq]) ?_
    refine evSeq_go (by simp [wants, h0, h1, Nd.encL_length, hk, ht, hl]) (by simp [h0, h1, Nd.encL_length, hk, ht, hl] <;> rfl) (by rfl) (by simp [fits_some, fits_none, hw, Nat.blt_eq]) ?_
    refine evSeq_go (by simp [wants, h0, h1, Nd.encL_length, hk, ht, hl]) (by simp [h0, h1, Nd.encL_length, hk, ht, hl] <;> rfl) (by rfl) (by simp [fits_some, fits_none, hw, Nat.blt_eq]) ?_
    refine evSeq_go (by simp [wants, h0, h1, Nd.encL_length, hk, ht, hl]) (by simp [h0, h1, Nd.encL_length, hk, ht, hl] <;> rfl) (by rfl) (by simp [fits_some, fits_none, hw, Nat.blt_eq]) ?_
    refine evSeq_go (by simp [wants, h0, h1, Nd.encL_length, hk, ht, hl]) (by simp [h0, h1, Nd.encL_length, hk, ht, hl] <;> rfl) (by rfl) (by simp [fits_some, fits_none, hw, Nat.blt_eq]) ?_
    refine evSeq_go rfl (by simp [h0, h1, Nd.encL_length, hk, ht, hl] <;> rfl) (by rfl) (by simp [fits_some, fits_none, hw, Nat.blt_eq]) ?_
    refine evSeq_go rfl (by simp [h0, h1, Nd.encL_length, hk, ht, hl] <;> rfl) (by rfl) (by simp [fits_some, fits_none, hw, Nat.blt_eq]) ?_
    refine evSeq_go (by simp [wants, h0, h1, Nd.encL_length, hk, ht, hl]) (by simp [h0, h1, Nd.encL_length, hk, ht, hl] <;> rfl) (by rfl) (by simp [fits_some, fits_none, hw, Nat.blt_eq]) ?_
    refine evSeq_go (by simp [wants, h0, h1, Nd.encL_length, hk, ht, hl]) (by simp [h0, h1, Nd.encL_length, hk, ht, hl] <;> rfl) (by rfl) (by simp [fits_some, fits_none, hw, Nat.blt_eq]) ?_
    refine evSeq_go (by simp [wants, h0, h1, Nd.encL_length, hk, ht, hl]) (by simp [h0, h1, Nd.encL_length, hk, ht, hl] <;> rfl) (by rfl) (by simp [fits_some, fits_none, hw, Nat.blt_eq]) ?_
    refine evSeq_go (by simp [wants, h0, h1, Nd.encL_length, hk, ht, hl]) (by simp [h0, h1, Nd.encL_length, hk, ht, hl] <;> rfl) (by rfl) (by simp [fits_some, fits_none, hw, Nat.blt_eq]) ?_
    refine evSeq_go (by simp [wants, h0, h1, Nd.encL_length, hk, ht, hl]) (by simp [h0, h1, Nd.encL_length, hk, ht, hl] <;> rfl) (by rfl) (by simp [fits_some, fits_none, hw, Nat.blt_eq]) ?_
    refine evSeq_go (by simp [wants, h0, h1, Nd.encL_length, hk, ht, hl]) (by simp [h0, h1, Nd.encL_length, hk, ht, hl] <;> rfl) (by rfl) (by simp [fits_some, fits_none, hw, Nat.blt_eq]) ?_
    refine evSeq_go (by simp [wants, h0, h1, Nd.encL_length, hk, ht, hl]) (by simp [h0, h1, Nd.encL_length, hk, ht, hl] <;> rfl) (by rfl) (by simp [fits_some, fits_none, hw, Nat.blt_eq]) ?_
    refine evSeq_go rfl (by simp [h0, h1, Nd.encL_length, hk, ht, hl] <;> rfl) (by rfl) (by simp [fits_some, fits_none, hw, Nat.blt_eq]) ?_
    exact evSeq_nil
  refine inSeq_norm ?_
  refine Tri.condG (o := ?o3) (b := ?b3) ?g3 ?r3 ?y3 ?n3
  case g3 => simp [h0, h1, Nd.encL_length, hk, ht, hl] <;> rfl
  case r3 => rfl
  case y3 =>
    intro hy3
    exact absurd hy3 (by simp [h0, h1, Nd.encL_length, hk, ht, hl])
  case n3 =>
    intro hn3
    refine Tri.skip ?_
    refine inSeq_norm ?_
    refine Tri.seq' ?_
    refine Tri.seq' ?_
    refine Tri.regN (t' := ?t4) (H' := ?H4) TT_ok hC ?e4 ?q4
    case e4 =>
      refine go_false ?_
      refine evSeq_go rfl (by simp [h0, h1, Nd.encL_length, hk, ht, hl] <;> rfl) (by rfl) (by simp [fits_some, fits_none, hw, Nat.blt_eq]) ?_
      exact evSeq_nil
    refine inSeq_norm ?_
    refine Tri.block' ?_
    refine Tri.loop ?_
    refine loop1012 hC x y x.kids y.kids [] [] _ hll rfl (fun u hu v H => by rw [Nd.enc_eq u, Nd.enc_eq v]; exact hrec u hu v H) (by simpa using hlen) (by simp [hw]) (by simp) (by simp) (by simp) ?exit ?ret
    case exit =>
      intro t2 hw hres
      have h4 : True := trivial
      refine inBlk_exit ?_
      refine inSeq_norm ?_
      refine Tri.seq' ?_
      refine Tri.regN (t' := ?t5) (H' := ?H5) TT_ok hC ?e5 ?q5
      case e5 =>
        refine go_false ?_
        refine evSeq_go rfl (by simp [h0, h1, Nd.encL_length, hk, ht, hl] <;> rfl) (by rfl) (by simp [fits_some, fits_none, hw, Nat.blt_eq]) ?_
        exact evSeq_nil
      refine inSeq_norm ?_
      refine Tri.ret ?_
      first
        | refine endsE (by simp [finish, evResults, evResult, Tryz.f12, h4] <;> rfl) (by rfl) ?_
          rw [hres]
        | refine endsE (by simp [finish, evResults, evResult, Tryz.f12] <;> rfl) (by rfl) ?_
          rw [hres]
    case ret =>
      intro t2 K2 hres h4
      refine inBlk_ret ?_
      refine inSeq_ret ?_
      first
        | refine endsE (by simp [finish, evResults, evResult, Tryz.f12, h4] <;> rfl) (by rfl) ?_
          rw [hres]
        | refine endsE (by simp [finish, evResults, evResult, Tryz.f12] <;> rfl) (by rfl) ?_
          rw [hres]
end Go.Ev
