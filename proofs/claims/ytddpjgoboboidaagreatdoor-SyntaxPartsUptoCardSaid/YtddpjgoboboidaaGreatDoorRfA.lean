/- Walks over At of the reference. -/
import Derived.Test.YtddpjgoboboidaaGreatDoorPtS
import Derived.Test.YtddpjgoboboidaaGreatDoorEvIter
namespace Go.Ev
open Go Go.Proofs
set_option maxRecDepth 100000
set_option linter.unusedSimpArgs false
set_option linter.unusedVariables false
theorem loop1009 {call : CallF} (hC : call.Sound Tryz.prog TT) {Q : Out → Prop} : ∀ (L d : List Int) (t : Tm) (cur : Nd), (d ++ L).length < 1100000 → t.wid = 38 → t.get 1 = .isl 1 (encI (d ++ L)) → t.get 2 = .ptr 0 0 → t.get 4 = .ptr 1 0 → t.get 6 = .i .i64 d.length →
    (∀ (f : Nd) (t' : Tm), walkN cur L = some f → t'.wid = 38 → t'.get 2 = .ptr 0 0 → t'.get 4 = .ptr 1 0 → Q (.exit 0 t' [some ⟨24, [.i .i64 f.kind, .s f.text, .isl 3 (Nd.encL f.kids)], .all⟩, some ⟨24, [.i .i64 0, .s [], .nils], .all⟩])) →
    (∀ (t' : Tm) (u : Option Blk), walkN cur L = none → t'.get 4 = .ptr 1 0 → t'.get 5 = .i .i64 5 → Q (.ret t' [u, some ⟨24, [.i .i64 0, .s [], .nils], .all⟩])) →
    LTri Tryz.prog TT (sub [true, false, true, false, false] (bodyOf Tryz.f9)) t [some ⟨24, [.i .i64 cur.kind, .s cur.text, .isl 3 (Nd.encL cur.kids)], .all⟩, some ⟨24, [.i .i64 0, .s [], .nils], .all⟩] Q := by
  intro L
  induction L with
  | nil =>
    intro d t cur hlen hw h1 h2 h4 h6 hE hR
    refine LTri.round' ?_
    refine Tri.seq' ?_
    refine Tri.seq' ?_
    refine Tri.regN (t' := ?tz1) (H' := ?Hz1) TT_ok hC ?ez1 ?qz1
    case ez1 =>
      refine go_false ?_
      refine evSeq_go rfl (by simp [h1, h2, h4, h6, encI_length, Nd.encL_length] <;> rfl) (by rfl) (by simp [fits_some, fits_none, hw, Nat.blt_eq]) ?_
      refine evSeq_go rfl (by simp [h1, h2, h4, h6, encI_length, Nd.encL_length] <;> rfl) (by rfl) (by simp [fits_some, fits_none, hw, Nat.blt_eq]) ?_
      refine evSeq_go rfl (by simp [h1, h2, h4, h6, encI_length, Nd.encL_length] <;> rfl) (by rfl) (by simp [fits_some, fits_none, hw, Nat.blt_eq]) ?_
      refine evSeq_go rfl (by simp [h1, h2, h4, h6, encI_length, Nd.encL_length] <;> rfl) (by rfl) (by simp [fits_some, fits_none, hw, Nat.blt_eq]) ?_
      exact evSeq_nil
    refine inSeq_norm ?_
    refine Tri.condG (o := ?oz2) (b := ?bz2) ?gz2 ?rz2 ?yz2 ?nz2
    case gz2 => simp [h1, h2, h4, h6, encI_length, Nd.encL_length] <;> rfl
    case rz2 => rfl
    case yz2 =>
      intro hy2
      simp at hy2
    case nz2 =>
      intro hn2
      refine Tri.exit ?_
      refine inSeq_exit ?_
      refine inLoop_exit ?_
      exact hE cur _ rfl (by simp [hw]) (by simp [h2]) (by simp [h4])
  | cons i L ih =>
    intro d t cur hlen hw h1 h2 h4 h6 hE hR
    have hlt := fin_len d.length L.length
    have hat := encI_at d i L
    have hat2 := encI_at2 d i L
    by_cases hlo : i < 0
    · have hbadw : walkN cur (i :: L) = none := by
        simp only [walkN]
        rw [if_neg (by omega)]
      refine LTri.round' ?_
      refine Tri.seq' ?_
      refine Tri.seq' ?_
      refine Tri.regN (t' := ?tn1) (H' := ?Hn1) TT_ok hC ?en1 ?qn1
      case en1 =>
        refine go_false ?_
        refine evSeq_go rfl (by simp [h1, h2, h4, h6, encI_length, Nd.encL_length, hlt, hat, hat2, hlo] <;> rfl) (by rfl) (by simp [fits_some, fits_none, hw, Nat.blt_eq]) ?_
        refine evSeq_go rfl (by simp [h1, h2, h4, h6, encI_length, Nd.encL_length, hlt, hat, hat2, hlo] <;> rfl) (by rfl) (by simp [fits_some, fits_none, hw, Nat.blt_eq]) ?_
        refine evSeq_go rfl (by simp [h1, h2, h4, h6, encI_length, Nd.encL_length, hlt, hat, hat2, hlo] <;> rfl) (by rfl) (by simp [fits_some, fits_none, hw, Nat.blt_eq]) ?_
        refine evSeq_go rfl (by simp [h1, h2, h4, h6, encI_length, Nd.encL_length, hlt, hat, hat2, hlo] <;> rfl) (by rfl) (by simp [fits_some, fits_none, hw, Nat.blt_eq]) ?_
        exact evSeq_nil
      refine inSeq_norm ?_
      refine Tri.condG (o := ?on2) (b := ?bn2) ?gn2 ?rn2 ?yn2 ?nn2
      case gn2 => simp [h1, h2, h4, h6, encI_length, Nd.encL_length, hlt, hat, hat2, hlo] <;> rfl
      case rn2 => rfl
      case yn2 =>
        intro hy2
        refine Tri.skip ?_
        refine inSeq_norm ?_
        refine Tri.seq' ?_
        refine Tri.block' ?_
        refine Tri.seq' ?_
        refine Tri.seq' ?_
        refine Tri.regN (t' := ?tn3) (H' := ?Hn3) TT_ok hC ?en3 ?qn3
        case en3 =>
          refine evReg_quiet (t' := ?tn3) (by kernel_rfl) ?_ ?rn903
          refine QR.val rfl (by simp [h1, h2, h4, h6, encI_length, Nd.encL_length, hlt, hat, hat2, hlo] <;> rfl) (by rfl) (by simp [fits_some, fits_none, hw, Nat.blt_eq]) ?_
          refine QR.val rfl (by simp [h1, h2, h4, h6, encI_length, Nd.encL_length, hlt, hat, hat2, hlo] <;> rfl) (by rfl) (by simp [fits_some, fits_none, hw, Nat.blt_eq]) ?_
          refine QR.val rfl (by simp [h1, h2, h4, h6, encI_length, Nd.encL_length, hlt, hat, hat2, hlo] <;> rfl) (by rfl) (by simp [fits_some, fits_none, hw, Nat.blt_eq]) ?_
          refine QR.val rfl (by simp [h1, h2, h4, h6, encI_length, Nd.encL_length, hlt, hat, hat2, hlo] <;> rfl) (by rfl) (by simp [fits_some, fits_none, hw, Nat.blt_eq]) ?_
          refine QR.val rfl (by simp [h1, h2, h4, h6, encI_length, Nd.encL_length, hlt, hat, hat2, hlo] <;> rfl) (by rfl) (by simp [fits_some, fits_none, hw, Nat.blt_eq]) ?_
          refine QR.val rfl (by simp [h1, h2, h4, h6, encI_length, Nd.encL_length, hlt, hat, hat2, hlo] <;> rfl) (by rfl) (by simp [fits_some, fits_none, hw, Nat.blt_eq]) ?_
          refine QR.off (by simp [wants, h1, h2, h4, h6, encI_length, Nd.encL_length, hlt, hat, hat2, hlo]) (by simp [fits_some, fits_none, hw, Nat.blt_eq]) ?_
          refine QR.off (by simp [wants, h1, h2, h4, h6, encI_length, Nd.encL_length, hlt, hat, hat2, hlo]) (by simp [fits_some, fits_none, hw, Nat.blt_eq]) ?_
          refine QR.off (by simp [wants, h1, h2, h4, h6, encI_length, Nd.encL_length, hlt, hat, hat2, hlo]) (by simp [fits_some, fits_none, hw, Nat.blt_eq]) ?_
          refine QR.off (by simp [wants, h1, h2, h4, h6, encI_length, Nd.encL_length, hlt, hat, hat2, hlo]) (by simp [fits_some, fits_none, hw, Nat.blt_eq]) ?_
          refine QR.off (by simp [wants, h1, h2, h4, h6, encI_length, Nd.encL_length, hlt, hat, hat2, hlo]) (by simp [fits_some, fits_none, hw, Nat.blt_eq]) ?_
          refine QR.off (by simp [wants, h1, h2, h4, h6, encI_length, Nd.encL_length, hlt, hat, hat2, hlo]) (by simp [fits_some, fits_none, hw, Nat.blt_eq]) ?_
          refine QR.off (by simp [wants, h1, h2, h4, h6, encI_length, Nd.encL_length, hlt, hat, hat2, hlo]) (by simp [fits_some, fits_none, hw, Nat.blt_eq]) ?_
          refine QR.off (by simp [wants, h1, h2, h4, h6, encI_length, Nd.encL_length, hlt, hat, hat2, hlo]) (by simp [fits_some, fits_none, hw, Nat.blt_eq]) ?_
          refine QR.val rfl (by simp [h1, h2, h4, h6, encI_length, Nd.encL_length, hlt, hat, hat2, hlo] <;> rfl) (by rfl) (by simp [fits_some, fits_none, hw, Nat.blt_eq]) ?_
          exact QR.nil
          case rn903 => exact rfl
        refine inSeq_norm ?_
        refine Tri.condG (o := ?on4) (b := ?bn4) ?gn4 ?rn4 ?yn4 ?nn4
        case gn4 => simp [h1, h2, h4, h6, encI_length, Nd.encL_length, hlt, hat, hat2, hlo] <;> rfl
        case rn4 => rfl
        case yn4 =>
          intro hy4
          refine Tri.seq' ?_
          refine Tri.regN (t' := ?tn5) (H' := ?Hn5) TT_ok hC ?en5 ?qn5
          case en5 =>
            refine go_false ?_
            refine evSeq_go rfl (by simp [h1, h2, h4, h6, encI_length, Nd.encL_length, hlt, hat, hat2, hlo] <;> rfl) (by rfl) (by simp [fits_some, fits_none, hw, Nat.blt_eq]) ?_
            refine evSeq_go rfl (by simp [h1, h2, h4, h6, encI_length, Nd.encL_length, hlt, hat, hat2, hlo] <;> rfl) (by rfl) (by simp [fits_some, fits_none, hw, Nat.blt_eq]) ?_
            refine evSeq_go rfl (by simp [h1, h2, h4, h6, encI_length, Nd.encL_length, hlt, hat, hat2, hlo] <;> rfl) (by rfl) (by simp [fits_some, fits_none, hw, Nat.blt_eq]) ?_
            exact evSeq_nil
          refine inSeq_norm ?_
          refine Tri.ret ?_
          refine inSeq_ret ?_
          refine inBlk_ret ?_
          refine inSeq_ret ?_
          refine inLoop_ret ?_
          refine hR _ _ hbadw (by simp [h4]) (by simp)
        case nn4 =>
          intro hn4
          exact absurd hn4 (by simp [h1, h2, h4, h6, encI_length, Nd.encL_length, hlt, hat, hat2, hlo])
      case nn2 =>
        intro hn2
        exfalso
        simp at hn2
    · have hlo2 := hlo
      by_cases hhi : (cur.kids.length : Int) ≤ i
      · have hbadw : walkN cur (i :: L) = none := by
          simp only [walkN]
          rw [if_neg (by omega)]
        refine LTri.round' ?_
        refine Tri.seq' ?_
        refine Tri.seq' ?_
        refine Tri.regN (t' := ?tb1) (H' := ?Hb1) TT_ok hC ?eb1 ?qb1
        case eb1 =>
          refine go_false ?_
          refine evSeq_go rfl (by simp [h1, h2, h4, h6, encI_length, Nd.encL_length, hlt, hat, hat2, hlo2, hhi] <;> rfl) (by rfl) (by simp [fits_some, fits_none, hw, Nat.blt_eq]) ?_
          refine evSeq_go rfl (by simp [h1, h2, h4, h6, encI_length, Nd.encL_length, hlt, hat, hat2, hlo2, hhi] <;> rfl) (by rfl) (by simp [fits_some, fits_none, hw, Nat.blt_eq]) ?_
          refine evSeq_go rfl (by simp [h1, h2, h4, h6, encI_length, Nd.encL_length, hlt, hat, hat2, hlo2, hhi] <;> rfl) (by rfl) (by simp [fits_some, fits_none, hw, Nat.blt_eq]) ?_
          refine evSeq_go rfl (by simp [h1, h2, h4, h6, encI_length, Nd.encL_length, hlt, hat, hat2, hlo2, hhi] <;> rfl) (by rfl) (by simp [fits_some, fits_none, hw, Nat.blt_eq]) ?_
          exact evSeq_nil
        refine inSeq_norm ?_
        refine Tri.condG (o := ?ob2) (b := ?bb2) ?gb2 ?rb2 ?yb2 ?nb2
        case gb2 => simp [h1, h2, h4, h6, encI_length, Nd.encL_length, hlt, hat, hat2, hlo2, hhi] <;> rfl
        case rb2 => rfl
        case yb2 =>
          intro hy2
          refine Tri.skip ?_
          refine inSeq_norm ?_
          refine Tri.seq' ?_
          refine Tri.block' ?_
          refine Tri.seq' ?_
          refine Tri.seq' ?_
          refine Tri.regN (t' := ?tb3) (H' := ?Hb3) TT_ok hC ?eb3 ?qb3
          case eb3 =>
            refine evReg_quiet (t' := ?tb3) (by kernel_rfl) ?_ ?rb903
            refine QR.val rfl (by simp [h1, h2, h4, h6, encI_length, Nd.encL_length, hlt, hat, hat2, hlo2, hhi] <;> rfl) (by rfl) (by simp [fits_some, fits_none, hw, Nat.blt_eq]) ?_
            refine QR.val rfl (by simp [h1, h2, h4, h6, encI_length, Nd.encL_length, hlt, hat, hat2, hlo2, hhi] <;> rfl) (by rfl) (by simp [fits_some, fits_none, hw, Nat.blt_eq]) ?_
            refine QR.val rfl (by simp [h1, h2, h4, h6, encI_length, Nd.encL_length, hlt, hat, hat2, hlo2, hhi] <;> rfl) (by rfl) (by simp [fits_some, fits_none, hw, Nat.blt_eq]) ?_
            refine QR.val rfl (by simp [h1, h2, h4, h6, encI_length, Nd.encL_length, hlt, hat, hat2, hlo2, hhi] <;> rfl) (by rfl) (by simp [fits_some, fits_none, hw, Nat.blt_eq]) ?_
            refine QR.val rfl (by simp [h1, h2, h4, h6, encI_length, Nd.encL_length, hlt, hat, hat2, hlo2, hhi] <;> rfl) (by rfl) (by simp [fits_some, fits_none, hw, Nat.blt_eq]) ?_
            refine QR.val rfl (by simp [h1, h2, h4, h6, encI_length, Nd.encL_length, hlt, hat, hat2, hlo2, hhi] <;> rfl) (by rfl) (by simp [fits_some, fits_none, hw, Nat.blt_eq]) ?_
            refine QR.val (by simp [wants, h1, h2, h4, h6, encI_length, Nd.encL_length, hlt, hat, hat2, hlo2, hhi]) (by simp [h1, h2, h4, h6, encI_length, Nd.encL_length, hlt, hat, hat2, hlo2, hhi] <;> rfl) (by rfl) (by simp [fits_some, fits_none, hw, Nat.blt_eq]) ?_
            refine QR.val (by simp [wants, h1, h2, h4, h6, encI_length, Nd.encL_length, hlt, hat, hat2, hlo2, hhi]) (by simp [h1, h2, h4, h6, encI_length, Nd.encL_length, hlt, hat, hat2, hlo2, hhi] <;> rfl) (by rfl) (by simp [fits_some, fits_none, hw, Nat.blt_eq]) ?_
            refine QR.val (by simp [wants, h1, h2, h4, h6, encI_length, Nd.encL_length, hlt, hat, hat2, hlo2, hhi]) (by simp [h1, h2, h4, h6, encI_length, Nd.encL_length, hlt, hat, hat2, hlo2, hhi] <;> rfl) (by rfl) (by simp [fits_some, fits_none, hw, Nat.blt_eq]) ?_
            refine QR.val (by simp [wants, h1, h2, h4, h6, encI_length, Nd.encL_length, hlt, hat, hat2, hlo2, hhi]) (by simp [h1, h2, h4, h6, encI_length, Nd.encL_length, hlt, hat, hat2, hlo2, hhi] <;> rfl) (by rfl) (by simp [fits_some, fits_none, hw, Nat.blt_eq]) ?_
            refine QR.val (by simp [wants, h1, h2, h4, h6, encI_length, Nd.encL_length, hlt, hat, hat2, hlo2, hhi]) (by simp [h1, h2, h4, h6, encI_length, Nd.encL_length, hlt, hat, hat2, hlo2, hhi] <;> rfl) (by rfl) (by simp [fits_some, fits_none, hw, Nat.blt_eq]) ?_
            refine QR.val (by simp [wants, h1, h2, h4, h6, encI_length, Nd.encL_length, hlt, hat, hat2, hlo2, hhi]) (by simp [h1, h2, h4, h6, encI_length, Nd.encL_length, hlt, hat, hat2, hlo2, hhi] <;> rfl) (by rfl) (by simp [fits_some, fits_none, hw, Nat.blt_eq]) ?_
            refine QR.val (by simp [wants, h1, h2, h4, h6, encI_length, Nd.encL_length, hlt, hat, hat2, hlo2, hhi]) (by simp [h1, h2, h4, h6, encI_length, Nd.encL_length, hlt, hat, hat2, hlo2, hhi] <;> rfl) (by rfl) (by simp [fits_some, fits_none, hw, Nat.blt_eq]) ?_
            refine QR.val (by simp [wants, h1, h2, h4, h6, encI_length, Nd.encL_length, hlt, hat, hat2, hlo2, hhi]) (by simp [h1, h2, h4, h6, encI_length, Nd.encL_length, hlt, hat, hat2, hlo2, hhi] <;> rfl) (by rfl) (by simp [fits_some, fits_none, hw, Nat.blt_eq]) ?_
            refine QR.val rfl (by simp [h1, h2, h4, h6, encI_length, Nd.encL_length, hlt, hat, hat2, hlo2, hhi] <;> rfl) (by rfl) (by simp [fits_some, fits_none, hw, Nat.blt_eq]) ?_
            exact QR.nil
            case rb903 => exact rfl
          refine inSeq_norm ?_
          refine Tri.condG (o := ?ob4) (b := ?bb4) ?gb4 ?rb4 ?yb4 ?nb4
          case gb4 => simp [h1, h2, h4, h6, encI_length, Nd.encL_length, hlt, hat, hat2, hlo2, hhi] <;> rfl
          case rb4 => rfl
          case yb4 =>
            intro hy4
            refine Tri.seq' ?_
            refine Tri.regN (t' := ?tb5) (H' := ?Hb5) TT_ok hC ?eb5 ?qb5
            case eb5 =>
              refine go_false ?_
              refine evSeq_go rfl (by simp [h1, h2, h4, h6, encI_length, Nd.encL_length, hlt, hat, hat2, hlo2, hhi] <;> rfl) (by rfl) (by simp [fits_some, fits_none, hw, Nat.blt_eq]) ?_
              refine evSeq_go rfl (by simp [h1, h2, h4, h6, encI_length, Nd.encL_length, hlt, hat, hat2, hlo2, hhi] <;> rfl) (by rfl) (by simp [fits_some, fits_none, hw, Nat.blt_eq]) ?_
              refine evSeq_go rfl (by simp [h1, h2, h4, h6, encI_length, Nd.encL_length, hlt, hat, hat2, hlo2, hhi] <;> rfl) (by rfl) (by simp [fits_some, fits_none, hw, Nat.blt_eq]) ?_
              exact evSeq_nil
            refine inSeq_norm ?_
            refine Tri.ret ?_
            refine inSeq_ret ?_
            refine inBlk_ret ?_
            refine inSeq_ret ?_
            refine inLoop_ret ?_
            refine hR _ _ hbadw (by simp [h4]) (by simp)
          case nb4 =>
            intro hn4
            exact absurd hn4 (by simp [h1, h2, h4, h6, encI_length, Nd.encL_length, hlt, hat, hat2, hlo2, hhi])
        case nb2 =>
          intro hn2
          exfalso
          simp at hn2
      · have hhi2 := hhi
        replace hlo : 0 ≤ i := by omega
        replace hhi : i < cur.kids.length := by omega
        have hil : i.toNat < cur.kids.length := by omega
        obtain ⟨kid, hk⟩ : ∃ kid, cur.kids[i.toNat]? = some kid := ⟨_, List.getElem?_eq_getElem hil⟩
        have hik := encL_get hk
        have hik2 : ∀ h, (Nd.encL cur.kids)[i.toNat]'h = .agg [.i .i64 kid.kind, .s kid.text, .isl 3 (Nd.encL kid.kids)] := fun h => Option.some.inj ((List.getElem?_eq_getElem h).symm.trans hik)
        refine LTri.round' ?_
        refine Tri.seq' ?_
        refine Tri.seq' ?_
        refine Tri.regN (t' := ?tk1) (H' := ?Hk1) TT_ok hC ?ek1 ?qk1
        case ek1 =>
          refine go_false ?_
          refine evSeq_go rfl (by simp [h1, h2, h4, h6, encI_length, Nd.encL_length, hlt, hat, hat2, hlo, hhi, hlo2, hhi2, hik, hik2] <;> rfl) (by rfl) (by simp [fits_some, fits_none, hw, Nat.blt_eq]) ?_
          refine evSeq_go rfl (by simp [h1, h2, h4, h6, encI_length, Nd.encL_length, hlt, hat, hat2, hlo, hhi, hlo2, hhi2, hik, hik2] <;> rfl) (by rfl) (by simp [fits_some, fits_none, hw, Nat.blt_eq]) ?_
          refine evSeq_go rfl (by simp [h1, h2, h4, h6, encI_length, Nd.encL_length, hlt, hat, hat2, hlo, hhi, hlo2, hhi2, hik, hik2] <;> rfl) (by rfl) (by simp [fits_some, fits_none, hw, Nat.blt_eq]) ?_
          refine evSeq_go rfl (by simp [h1, h2, h4, h6, encI_length, Nd.encL_length, hlt, hat, hat2, hlo, hhi, hlo2, hhi2, hik, hik2] <;> rfl) (by rfl) (by simp [fits_some, fits_none, hw, Nat.blt_eq]) ?_
          exact evSeq_nil
        refine inSeq_norm ?_
        refine Tri.condG (o := ?ok2) (b := ?bk2) ?gk2 ?rk2 ?yk2 ?nk2
        case gk2 => simp [h1, h2, h4, h6, encI_length, Nd.encL_length, hlt, hat, hat2, hlo, hhi, hlo2, hhi2, hik, hik2] <;> rfl
        case rk2 => rfl
        case yk2 =>
          intro hy2
          refine Tri.skip ?_
          refine inSeq_norm ?_
          refine Tri.seq' ?_
          refine Tri.block' ?_
          refine Tri.seq' ?_
          refine Tri.seq' ?_
          refine Tri.regN (t' := ?tk3) (H' := ?Hk3) TT_ok hC ?ek3 ?qk3
          case ek3 =>
            refine evReg_quiet (t' := ?tk3) (by kernel_rfl) ?_ ?rk903
            refine QR.val rfl (by simp [h1, h2, h4, h6, encI_length, Nd.encL_length, hlt, hat, hat2, hlo, hhi, hlo2, hhi2, hik, hik2] <;> rfl) (by rfl) (by simp [fits_some, fits_none, hw, Nat.blt_eq]) ?_
            refine QR.val rfl (by simp [h1, h2, h4, h6, encI_length, Nd.encL_length, hlt, hat, hat2, hlo, hhi, hlo2, hhi2, hik, hik2] <;> rfl) (by rfl) (by simp [fits_some, fits_none, hw, Nat.blt_eq]) ?_
            refine QR.val rfl (by simp [h1, h2, h4, h6, encI_length, Nd.encL_length, hlt, hat, hat2, hlo, hhi, hlo2, hhi2, hik, hik2] <;> rfl) (by rfl) (by simp [fits_some, fits_none, hw, Nat.blt_eq]) ?_
            refine QR.val rfl (by simp [h1, h2, h4, h6, encI_length, Nd.encL_length, hlt, hat, hat2, hlo, hhi, hlo2, hhi2, hik, hik2] <;> rfl) (by rfl) (by simp [fits_some, fits_none, hw, Nat.blt_eq]) ?_
            refine QR.val rfl (by simp [h1, h2, h4, h6, encI_length, Nd.encL_length, hlt, hat, hat2, hlo, hhi, hlo2, hhi2, hik, hik2] <;> rfl) (by rfl) (by simp [fits_some, fits_none, hw, Nat.blt_eq]) ?_
            refine QR.val rfl (by simp [h1, h2, h4, h6, encI_length, Nd.encL_length, hlt, hat, hat2, hlo, hhi, hlo2, hhi2, hik, hik2] <;> rfl) (by rfl) (by simp [fits_some, fits_none, hw, Nat.blt_eq]) ?_
            refine QR.val (by simp [wants, h1, h2, h4, h6, encI_length, Nd.encL_length, hlt, hat, hat2, hlo, hhi, hlo2, hhi2, hik, hik2]) (by simp [h1, h2, h4, h6, encI_length, Nd.encL_length, hlt, hat, hat2, hlo, hhi, hlo2, hhi2, hik, hik2] <;> rfl) (by rfl) (by simp [fits_some, fits_none, hw, Nat.blt_eq]) ?_
            refine QR.val (by simp [wants, h1, h2, h4, h6, encI_length, Nd.encL_length, hlt, hat, hat2, hlo, hhi, hlo2, hhi2, hik, hik2]) (by simp [h1, h2, h4, h6, encI_length, Nd.encL_length, hlt, hat, hat2, hlo, hhi, hlo2, hhi2, hik, hik2] <;> rfl) (by rfl) (by simp [fits_some, fits_none, hw, Nat.blt_eq]) ?_
            refine QR.val (by simp [wants, h1, h2, h4, h6, encI_length, Nd.encL_length, hlt, hat, hat2, hlo, hhi, hlo2, hhi2, hik, hik2]) (by simp [h1, h2, h4, h6, encI_length, Nd.encL_length, hlt, hat, hat2, hlo, hhi, hlo2, hhi2, hik, hik2] <;> rfl) (by rfl) (by simp [fits_some, fits_none, hw, Nat.blt_eq]) ?_
            refine QR.val (by simp [wants, h1, h2, h4, h6, encI_length, Nd.encL_length, hlt, hat, hat2, hlo, hhi, hlo2, hhi2, hik, hik2]) (by simp [h1, h2, h4, h6, encI_length, Nd.encL_length, hlt, hat, hat2, hlo, hhi, hlo2, hhi2, hik, hik2] <;> rfl) (by rfl) (by simp [fits_some, fits_none, hw, Nat.blt_eq]) ?_
            refine QR.val (by simp [wants, h1, h2, h4, h6, encI_length, Nd.encL_length, hlt, hat, hat2, hlo, hhi, hlo2, hhi2, hik, hik2]) (by simp [h1, h2, h4, h6, encI_length, Nd.encL_length, hlt, hat, hat2, hlo, hhi, hlo2, hhi2, hik, hik2] <;> rfl) (by rfl) (by simp [fits_some, fits_none, hw, Nat.blt_eq]) ?_
            refine QR.val (by simp [wants, h1, h2, h4, h6, encI_length, Nd.encL_length, hlt, hat, hat2, hlo, hhi, hlo2, hhi2, hik, hik2]) (by simp [h1, h2, h4, h6, encI_length, Nd.encL_length, hlt, hat, hat2, hlo, hhi, hlo2, hhi2, hik, hik2] <;> rfl) (by rfl) (by simp [fits_some, fits_none, hw, Nat.blt_eq]) ?_
            refine QR.val (by simp [wants, h1, h2, h4, h6, encI_length, Nd.encL_length, hlt, hat, hat2, hlo, hhi, hlo2, hhi2, hik, hik2]) (by simp [h1, h2, h4, h6, encI_length, Nd.encL_length, hlt, hat, hat2, hlo, hhi, hlo2, hhi2, hik, hik2] <;> rfl) (by rfl) (by simp [fits_some, fits_none, hw, Nat.blt_eq]) ?_
            refine QR.val (by simp [wants, h1, h2, h4, h6, encI_length, Nd.encL_length, hlt, hat, hat2, hlo, hhi, hlo2, hhi2, hik, hik2]) (by simp [h1, h2, h4, h6, encI_length, Nd.encL_length, hlt, hat, hat2, hlo, hhi, hlo2, hhi2, hik, hik2] <;> rfl) (by rfl) (by simp [fits_some, fits_none, hw, Nat.blt_eq]) ?_
            refine QR.val rfl (by simp [h1, h2, h4, h6, encI_length, Nd.encL_length, hlt, hat, hat2, hlo, hhi, hlo2, hhi2, hik, hik2] <;> rfl) (by rfl) (by simp [fits_some, fits_none, hw, Nat.blt_eq]) ?_
            exact QR.nil
            case rk903 => exact rfl
          refine inSeq_norm ?_
          refine Tri.condG (o := ?ok4) (b := ?bk4) ?gk4 ?rk4 ?yk4 ?nk4
          case gk4 => simp [h1, h2, h4, h6, encI_length, Nd.encL_length, hlt, hat, hat2, hlo, hhi, hlo2, hhi2, hik, hik2] <;> rfl
          case rk4 => rfl
          case yk4 =>
            intro hy4
            exact absurd hy4 (by simp [h1, h2, h4, h6, encI_length, Nd.encL_length, hlt, hat, hat2, hlo, hhi, hlo2, hhi2, hik, hik2])
          case nk4 =>
            intro hn4
            refine Tri.skip ?_
            refine inSeq_norm ?_
            refine Tri.regN (t' := ?tk5) (H' := ?Hk5) TT_ok hC ?ek5 ?qk5
            case ek5 =>
              refine evReg_draw (t' := ?tk5) (H' := ?Hk5) (ks := [.q, .f, .q, .q, .q, .f, .q, .f, .e]) (fun _ => True) (by kernel_rfl) ?Ak905 ?_ ?rk905
              case Ak905 => simp [h1, h2, h4, h6, encI_length, Nd.encL_length, hlt, hat, hat2, hlo, hhi, hlo2, hhi2, hik, hik2]
              refine DR.blind rfl rfl (by simp [h1, h2, h4, h6, encI_length, Nd.encL_length, hlt, hat, hat2, hlo, hhi, hlo2, hhi2, hik, hik2] <;> rfl) (by rfl) (by simp [fits_some, fits_none, hw, Nat.blt_eq]) ?_
              refine DR.fix rfl (by simp [h1, h2, h4, h6, encI_length, Nd.encL_length, hlt, hat, hat2, hlo, hhi, hlo2, hhi2, hik, hik2] <;> rfl) (by rfl) (by simp [fits_some, fits_none, hw, Nat.blt_eq]) ?_
              refine DR.blind rfl rfl (by simp [h1, h2, h4, h6, encI_length, Nd.encL_length, hlt, hat, hat2, hlo, hhi, hlo2, hhi2, hik, hik2] <;> rfl) (by rfl) (by simp [fits_some, fits_none, hw, Nat.blt_eq]) ?_
              refine DR.blind rfl rfl (by simp [h1, h2, h4, h6, encI_length, Nd.encL_length, hlt, hat, hat2, hlo, hhi, hlo2, hhi2, hik, hik2] <;> rfl) (by rfl) (by simp [fits_some, fits_none, hw, Nat.blt_eq]) ?_
              refine DR.blind rfl rfl (by simp [h1, h2, h4, h6, encI_length, Nd.encL_length, hlt, hat, hat2, hlo, hhi, hlo2, hhi2, hik, hik2] <;> rfl) (by rfl) (by simp [fits_some, fits_none, hw, Nat.blt_eq]) ?_
              refine DR.fix rfl (by simp [h1, h2, h4, h6, encI_length, Nd.encL_length, hlt, hat, hat2, hlo, hhi, hlo2, hhi2, hik, hik2] <;> rfl) (by rfl) (by simp [fits_some, fits_none, hw, Nat.blt_eq]) ?_
              refine DR.blind rfl rfl (by simp [h1, h2, h4, h6, encI_length, Nd.encL_length, hlt, hat, hat2, hlo, hhi, hlo2, hhi2, hik, hik2] <;> rfl) (by rfl) (by simp [fits_some, fits_none, hw, Nat.blt_eq]) ?_
              refine DR.fix rfl (by simp [h1, h2, h4, h6, encI_length, Nd.encL_length, hlt, hat, hat2, hlo, hhi, hlo2, hhi2, hik, hik2] <;> rfl) (by rfl) (by simp [fits_some, fits_none, hw, Nat.blt_eq]) ?_
              refine DR.eff rfl rfl (by simp [h1, h2, h4, h6, encI_length, Nd.encL_length, hlt, hat, hat2, hlo, hhi, hlo2, hhi2, hik, hik2] <;> rfl) (by rfl) (by simp [fits_some, fits_none, hw, Nat.blt_eq]) (by simp [h1, h2, h4, h6, encI_length, Nd.encL_length, hlt, hat, hat2, hlo, hhi, hlo2, hhi2, hik, hik2]) ?_
              exact DR.nil
              case rk905 => exact rfl
            refine inBlk_norm ?_
            refine inSeq_norm ?_
            refine Tri.regN (t' := ?tk6) (H' := ?Hk6) TT_ok hC ?ek6 ?qk6
            case ek6 =>
              refine go_false ?_
              refine evSeq_go rfl (by simp [h1, h2, h4, h6, encI_length, Nd.encL_length, hlt, hat, hat2, hlo, hhi, hlo2, hhi2, hik, hik2] <;> rfl) (by rfl) (by simp [fits_some, fits_none, hw, Nat.blt_eq]) ?_
              refine evSeq_go rfl (by simp [h1, h2, h4, h6, encI_length, Nd.encL_length, hlt, hat, hat2, hlo, hhi, hlo2, hhi2, hik, hik2] <;> rfl) (by rfl) (by simp [fits_some, fits_none, hw, Nat.blt_eq]) ?_
              refine evSeq_go rfl (by simp [h1, h2, h4, h6, encI_length, Nd.encL_length, hlt, hat, hat2, hlo, hhi, hlo2, hhi2, hik, hik2] <;> rfl) (by rfl) (by simp [fits_some, fits_none, hw, Nat.blt_eq]) ?_
              exact evSeq_nil
            refine inLoop_norm ?_
            refine ih (d ++ [i]) _ kid (by simpa using hlen) (by simp [hw]) (by simp [h1]) (by simp [h2]) (by simp [h4]) (by simp; exact wrap_i64 (by omega) (by simp at hlen; omega)) (fun f t' hf => hE f t' (by simp only [walkN]; rw [if_pos ⟨hlo, hhi⟩, hk]; exact hf)) (fun t' u hf => hR t' u (by simp only [walkN]; rw [if_pos ⟨hlo, hhi⟩, hk]; exact hf))
        case nk2 =>
          intro hn2
          exfalso
          simp at hn2

theorem body_1009 {call : CallF} (hC : call.Sound Tryz.prog TT) (x : Nd) (p : List Int) (hlen : p.length < 1100000)  : HBody Tryz.prog TT 9 [x.enc, .isl 1 (encI p)] [] (fun v _ => (∃ f, walkN x p = some f ∧ v = .tup [.agg [.i .i64 f.kind, .s f.text, .isl 3 (Nd.encL f.kids)], .i .i64 0]) ∨ (walkN x p = none ∧ v = .tup [.agg [.i .i64 0, .s [], .nils], .i .i64 5])) := by
  refine ⟨Tryz.f9, _, rfl, rfl, by simp [Tryz.f9], ?_⟩
  have h0 : (Tm.init Tryz.f9.ntmps [x.enc, .isl 1 (encI p)]).get 0 = x.enc := by rw [get_init]; rfl
  have h1 : (Tm.init Tryz.f9.ntmps [x.enc, .isl 1 (encI p)]).get 1 = .isl 1 (encI p) := by rw [get_init]; rfl
  have hw : (Tm.init Tryz.f9.ntmps [x.enc, .isl 1 (encI p)]).wid = 38 := rfl
  generalize Tm.init Tryz.f9.ntmps [x.enc, .isl 1 (encI p)] = t at *
  try simp only [Nd.enc_eq] at *
  refine Tri.seq' ?_
  refine Tri.regN (t' := ?t1) (H' := ?H1) TT_ok hC ?e1 ?q1
  case e1 =>
    refine go_false ?_
    refine evSeq_go rfl (by simp [h0, h1, encI_length] <;> rfl) (by rfl) (by simp [fits_some, fits_none, hw, Nat.blt_eq]) ?_
    refine evSeq_go rfl (by simp [h0, h1, encI_length] <;> rfl) (by rfl) (by simp [fits_some, fits_none, hw, Nat.blt_eq]) ?_
    refine evSeq_go rfl (by simp [h0, h1, encI_length] <;> rfl) (by rfl) (by simp [fits_some, fits_none, hw, Nat.blt_eq]) ?_
    exact evSeq_nil
  refine inSeq_norm ?_
  refine Tri.seq' ?_
  refine Tri.seq' ?_
  refine Tri.regN (t' := ?t2) (H' := ?H2) TT_ok hC ?e2 ?q2
  case e2 =>
    refine go_false ?_
    refine evSeq_go rfl (by simp [h0, h1, encI_length] <;> rfl) (by rfl) (by simp [fits_some, fits_none, hw, Nat.blt_eq]) ?_
    exact evSeq_nil
  refine inSeq_norm ?_
  refine Tri.block' ?_
  refine Tri.loop ?_
  refine loop1009 hC p [] _ x (by simpa using hlen) (by simp [hw]) (by simp [h1]) (by simp) (by simp) (by simp) ?exit ?ret
  case exit =>
    intro f t2 hf hw h2 h4
    have h5 : True := trivial
    have hres := hf
    refine inBlk_exit ?_
    refine inSeq_norm ?_
    refine Tri.seq' ?_
    refine Tri.regN (t' := ?t3) (H' := ?H3) TT_ok hC ?e3 ?q3
    case e3 =>
      refine go_false ?_
      refine evSeq_go rfl (by simp [h0, h1, encI_length, h2, h4] <;> rfl) (by rfl) (by simp [fits_some, fits_none, hw, Nat.blt_eq]) ?_
      refine evSeq_go rfl (by simp [h0, h1, encI_length, h2, h4] <;> rfl) (by rfl) (by simp [fits_some, fits_none, hw, Nat.blt_eq]) ?_
      refine evSeq_go rfl (by simp [h0, h1, encI_length, h2, h4] <;> rfl) (by rfl) (by simp [fits_some, fits_none, hw, Nat.blt_eq]) ?_
      exact evSeq_nil
    refine inSeq_norm ?_
    refine Tri.ret ?_
    first
      | exact endsH (by simp [finish, evResults, evResult, Tryz.f9, h4, h5] <;> rfl) (by rfl) (.inl ⟨f, hres, rfl⟩)
      | exact endsH (by simp [finish, evResults, evResult, Tryz.f9, h4, h5] <;> rfl) (by rfl) (.inr ⟨hres, rfl⟩)
  case ret =>
    intro t2 u hf h4 h5
    have hres := hf
    refine inBlk_ret ?_
    refine inSeq_ret ?_
    first
      | exact endsH (by simp [finish, evResults, evResult, Tryz.f9, h4, h5] <;> rfl) (by rfl) (.inl ⟨f, hres, rfl⟩)
      | exact endsH (by simp [finish, evResults, evResult, Tryz.f9, h4, h5] <;> rfl) (by rfl) (.inr ⟨hres, rfl⟩)
end Go.Ev
