/- Put of a tree, a path and a part is the tree with that part, or none. -/
import Derived.Test.YtddpjgoboboidaaGreatDoorPtW
namespace Go.Ev
open Go Go.Proofs
set_option maxRecDepth 100000
set_option linter.unusedSimpArgs false
set_option linter.unusedVariables false
theorem loop1010 {call : CallF} (hC : call.Sound Tryz.prog TT) {B : Nat} {K : Heap} {t0 : Tm} {fin : Nd} {D : Nd → Nd} {Q : Out → Prop} (hQ : ∀ (t : Tm) (b off : Nat) (C : Nd → Nd), t.wid = 49 → (∀ j, j ≤ 10 → t.get j = t0.get j) → t.get 11 = .ptr b off → Spot B K b off fin C → (∀ y, C y = D y) → Q (.exit 0 t K)) :
    ∀ (L d : List Int) (t : Tm) (b off : Nat) (cur : Nd) (C : Nd → Nd), Spot B K b off cur C → walkN cur L = some fin → (∀ y, C (putN cur L y) = D y) → (d ++ L).length < 1100000 → t.wid = 49 → (∀ j, j ≤ 10 → t.get j = t0.get j) → t.get 31 = .isl 1 (encI (d ++ L)) → t.get 32 = .i .i64 (d ++ L).length → t.get 33 = .i .i64 d.length → t.get 11 = .ptr b off →
    LTri Tryz.prog TT (sub [true, true, true, true, true, false, true, false, false] (bodyOf Tryz.f10)) t K Q := by
  intro L
  induction L with
  | nil =>
    intro d t b off cur C hS hwk hD hlen hw hk h31 h32 h33 h11
    simp only [walkN, Option.some.injEq] at hwk
    subst hwk
    simp only [putN] at hD
    refine LTri.round' ?_
    refine Tri.seq' ?_
    refine Tri.regN (t' := ?tz1) (H' := ?Hz1) TT_ok hC ?ez1 ?qz1
    case ez1 =>
      refine go_false ?_
      refine evSeq_go rfl (by simp [h11, h31, h32, h33, encI_length] <;> rfl) (by rfl) (by simp [hw]) ?_
      exact evSeq_nil
    refine inSeq_norm ?_
    refine Tri.seq' ?_
    refine Tri.condG (o := ?oz2) (b := ?bz2) ?gz2 ?rz2 ?yz2 ?nz2
    case gz2 => simp [h11, h31, h32, h33, encI_length] <;> rfl
    case rz2 => rfl
    case yz2 =>
      intro hy2
      simp at hy2
    case nz2 =>
      intro hn2
      refine Tri.exit ?_
      refine inSeq_exit ?_
      refine inLoop_exit ?_
      exact hQ _ b off C (by simp [hw]) (fun j hj => by
        have : ¬ j = 34 := by omega
        simp [this, hk j hj]) (by simp [h11]) hS hD
  | cons i L ih =>
    intro d t b off cur C hS hwk hD hlen hw hk h31 h32 h33 h11
    have hlt := fin_len d.length L.length
    have hat := encI_at d i L
    have hat2 := encI_at2 d i L
    simp only [walkN] at hwk
    split at hwk
    · rename_i hr
      obtain ⟨hlo, hhi⟩ := hr
      have hlo2 : ¬ i < 0 := by omega
      have hhi2 : ¬ ((cur.kids.length : Int) ≤ i) := by omega
      split at hwk
      · rename_i kid hkk
        have hw2 := hwk
        obtain ⟨c, cs, kd, hb, hkd, hl, g4, hS2⟩ := hS.down hkk
        refine LTri.round' ?_
        refine Tri.seq' ?_
        refine Tri.regN (t' := ?t1) (H' := ?H1) TT_ok hC ?e1 ?q1
        case e1 =>
          refine go_false ?_
          refine evSeq_go rfl (by simp [h11, h31, h32, h33, encI_length, hlt, hat, hat2, hb, hkd, hl, g4, hlo, hhi, hlo2, hhi2] <;> rfl) (by rfl) (by simp [hw]) ?_
          exact evSeq_nil
        refine inSeq_norm ?_
        refine Tri.seq' ?_
        refine Tri.condG (o := ?o2) (b := ?b2) ?g2 ?r2 ?y2 ?n2
        case g2 => simp [h11, h31, h32, h33, encI_length, hlt, hat, hat2, hb, hkd, hl, g4, hlo, hhi, hlo2, hhi2] <;> rfl
        case r2 => rfl
        case y2 =>
          intro hy2
          refine Tri.skip ?_
          refine inSeq_norm ?_
          refine Tri.seq' ?_
          refine Tri.block' ?_
          refine Tri.seq' ?_
          refine Tri.regN (t' := ?t3) (H' := ?H3) TT_ok hC ?e3 ?q3
          case e3 =>
            refine go_false ?_
            refine evSeq_go rfl (by simp [h11, h31, h32, h33, encI_length, hlt, hat, hat2, hb, hkd, hl, g4, hlo, hhi, hlo2, hhi2] <;> rfl) (by rfl) (by simp [hw]) ?_
            refine evSeq_go rfl (by simp [h11, h31, h32, h33, encI_length, hlt, hat, hat2, hb, hkd, hl, g4, hlo, hhi, hlo2, hhi2] <;> rfl) (by rfl) (by simp [hw]) ?_
            refine evSeq_go rfl (by simp [h11, h31, h32, h33, encI_length, hlt, hat, hat2, hb, hkd, hl, g4, hlo, hhi, hlo2, hhi2] <;> rfl) (by rfl) (by simp [hw]) ?_
            exact evSeq_nil
          refine inSeq_norm ?_
          refine Tri.regN (t' := ?t4) (H' := ?H4) TT_ok hC ?e4 ?q4
          case e4 =>
            refine go_false ?_
            refine evSeq_go rfl (by simp [h11, h31, h32, h33, encI_length, hlt, hat, hat2, hb, hkd, hl, g4, hlo, hhi, hlo2, hhi2] <;> rfl) (by rfl) (by simp [hw]) ?_
            refine evSeq_go rfl (by simp [h11, h31, h32, h33, encI_length, hlt, hat, hat2, hb, hkd, hl, g4, hlo, hhi, hlo2, hhi2] <;> rfl) (by rfl) (by simp [hw]) ?_
            refine evSeq_go rfl (by simp [h11, h31, h32, h33, encI_length, hlt, hat, hat2, hb, hkd, hl, g4, hlo, hhi, hlo2, hhi2] <;> rfl) (by rfl) (by simp [hw]) ?_
            refine evSeq_go rfl (by simp [h11, h31, h32, h33, encI_length, hlt, hat, hat2, hb, hkd, hl, g4, hlo, hhi, hlo2, hhi2] <;> rfl) (by rfl) (by simp [hw]) ?_
            refine evSeq_go rfl (by simp [h11, h31, h32, h33, encI_length, hlt, hat, hat2, hb, hkd, hl, g4, hlo, hhi, hlo2, hhi2] <;> rfl) (by rfl) (by simp [hw]) ?_
            refine evSeq_go rfl (by simp [h11, h31, h32, h33, encI_length, hlt, hat, hat2, hb, hkd, hl, g4, hlo, hhi, hlo2, hhi2] <;> rfl) (by rfl) (by simp [hw]) ?_
            refine evSeq_go rfl (by simp [h11, h31, h32, h33, encI_length, hlt, hat, hat2, hb, hkd, hl, g4, hlo, hhi, hlo2, hhi2] <;> rfl) (by rfl) (by simp [hw]) ?_
            exact evSeq_nil
          refine inBlk_norm ?_
          refine inSeq_norm ?_
          refine Tri.regN (t' := ?t5) (H' := ?H5) TT_ok hC ?e5 ?q5
          case e5 =>
            refine go_false ?_
            refine evSeq_go rfl (by simp [h11, h31, h32, h33, encI_length, hlt, hat, hat2, hb, hkd, hl, g4, hlo, hhi, hlo2, hhi2] <;> rfl) (by rfl) (by simp [hw]) ?_
            refine evSeq_go rfl (by simp [h11, h31, h32, h33, encI_length, hlt, hat, hat2, hb, hkd, hl, g4, hlo, hhi, hlo2, hhi2] <;> rfl) (by rfl) (by simp [hw]) ?_
            exact evSeq_nil
          refine inLoop_norm ?_
          refine ih (d ++ [i]) _ c (i.toNat * 3) kid _ hS2 hw2 (fun y => by rw [← hD y, putN_next hkk]) (by simpa using hlen) (by simp [hw]) (fun j hj => ?_) (by simp [h31]) (by simp [h32]) (by simp; exact wrap_i64 (by omega) (by simp at hlen; omega)) (by simp)
          have e : ¬ j = 34 ∧ ¬ j = 35 ∧ ¬ j = 36 ∧ ¬ j = 13 ∧ ¬ j = 37 ∧ ¬ j = 38 ∧ ¬ j = 39 ∧ ¬ j = 40 ∧ ¬ j = 41 ∧ ¬ j = 42 ∧ ¬ j = 43 ∧ ¬ j = 33 ∧ ¬ j = 11 := by omega
          simp [e, hk j hj]
        case n2 =>
          intro hn2
          exfalso
          simp at hn2
      · cases hwk
    · cases hwk

theorem body_1010y {call : CallF} (hC : call.Sound Tryz.prog TT) (x y f : Nd) (p : List Int) (hwk : walkN x p = some f) (hpz : ¬ p = []) (hlen : p.length < 1100000) (hs12 : ∀ K, call 8 [.agg [.i .i64 x.kind, .s x.text, .isl 3 (Nd.encL x.kids)], .isl 1 (encI p)] K = .val (.tup [.agg [.i .i64 f.kind, .s f.text, .isl 3 (Nd.encL f.kids)], .i .i64 0]) K)
    {xp xq xr : V} {K1 : Heap} (fp : flat xp = true) (fq : flat xq = true) (fr : flat xr = true) (hs19x : call 28 [.agg [.i .i64 x.kind, .s x.text, .isl 3 (Nd.encL x.kids)]] [some ⟨24, [.i .i64 x.kind, .s x.text, .isl 3 (Nd.encL x.kids)], .all⟩, some ⟨24, [.i .i64 y.kind, .s y.text, .isl 3 (Nd.encL y.kids)], .all⟩, some ⟨24, [.i .i64 0, .s [], .nils], .all⟩, some ⟨24, [.i .i64 f.kind, .s f.text, .isl 3 (Nd.encL f.kids)], .all⟩] = .val (.agg [xp, xq, xr]) K1)
    (hox : CpOut [some ⟨24, [.i .i64 x.kind, .s x.text, .isl 3 (Nd.encL x.kids)], .all⟩, some ⟨24, [.i .i64 y.kind, .s y.text, .isl 3 (Nd.encL y.kids)], .all⟩, some ⟨24, [.i .i64 0, .s [], .nils], .all⟩, some ⟨24, [.i .i64 f.kind, .s f.text, .isl 3 (Nd.encL f.kids)], .all⟩] x (.agg [xp, xq, xr]) K1)
    (hsy : ∀ K, ∃ v K', call 28 [.agg [.i .i64 y.kind, .s y.text, .isl 3 (Nd.encL y.kids)]] K = .val v K' ∧ CpOut K y v K')  : HBody Tryz.prog TT 10 [x.enc, .isl 1 (encI p), y.enc] [] (fun v K => ∃ xs bs, v = .tup [.agg xs, .i .i64 0] ∧ TreeIn K (putN x p y) (.agg xs) bs) := by
  refine ⟨Tryz.f10, _, rfl, rfl, by simp [Tryz.f10], ?_⟩
  have h0 : (Tm.init Tryz.f10.ntmps [x.enc, .isl 1 (encI p), y.enc]).get 0 = x.enc := by rw [get_init]; rfl
  have h1 : (Tm.init Tryz.f10.ntmps [x.enc, .isl 1 (encI p), y.enc]).get 1 = .isl 1 (encI p) := by rw [get_init]; rfl
  have h2 : (Tm.init Tryz.f10.ntmps [x.enc, .isl 1 (encI p), y.enc]).get 2 = y.enc := by rw [get_init]; rfl
  have hw : (Tm.init Tryz.f10.ntmps [x.enc, .isl 1 (encI p), y.enc]).wid = 49 := rfl
  generalize Tm.init Tryz.f10.ntmps [x.enc, .isl 1 (encI p), y.enc] = t at *
  try simp only [Nd.enc_eq] at *
  refine Tri.seq' ?_
  refine Tri.regN (t' := ?t1) (H' := ?H1) TT_ok hC ?e1 ?q1
  case e1 =>
    refine go_false ?_
    refine evSeq_go rfl (by simp [h0, h1, h2, hs12, hs19x, hpz, encI_length] <;> rfl) (by rfl) (by simp [hw]) ?_
    refine evSeq_go rfl (by simp [h0, h1, h2, hs12, hs19x, hpz, encI_length] <;> rfl) (by rfl) (by simp [hw]) ?_
    refine evSeq_go rfl (by simp [h0, h1, h2, hs12, hs19x, hpz, encI_length] <;> rfl) (by rfl) (by simp [hw]) ?_
    refine evSeq_go rfl (by simp [h0, h1, h2, hs12, hs19x, hpz, encI_length] <;> rfl) (by rfl) (by simp [hw]) ?_
    exact evSeq_nil
  refine inSeq_norm ?_
  refine Tri.seq' ?_
  refine Tri.seq' ?_
  refine Tri.regN (t' := ?t2) (H' := ?H2) TT_ok hC ?e2 ?q2
  case e2 =>
    refine go_false ?_
    refine evSeq_go rfl (by simp [h0, h1, h2, hs12, hs19x, hpz, encI_length] <;> rfl) (by rfl) (by simp [hw]) ?_
    refine evSeq_go rfl (by simp [h0, h1, h2, hs12, hs19x, hpz, encI_length] <;> rfl) (by rfl) (by simp [hw]) ?_
    refine evSeq_go rfl (by simp [h0, h1, h2, hs12, hs19x, hpz, encI_length] <;> rfl) (by rfl) (by simp [hw]) ?_
    refine evSeq_go rfl (by simp [h0, h1, h2, hs12, hs19x, hpz, encI_length] <;> rfl) (by rfl) (by simp [hw]) ?_
    refine evSeq_go rfl (by simp [h0, h1, h2, hs12, hs19x, hpz, encI_length] <;> rfl) (by rfl) (by simp [hw]) ?_
    refine evSeq_go rfl (by simp [h0, h1, h2, hs12, hs19x, hpz, encI_length] <;> rfl) (by rfl) (by simp [hw]) ?_
    refine evSeq_go rfl (by simp [h0, h1, h2, hs12, hs19x, hpz, encI_length] <;> rfl) (by rfl) (by simp [hw]) ?_
    refine evSeq_go rfl (by simp [h0, h1, h2, hs12, hs19x, hpz, encI_length] <;> rfl) (by rfl) (by simp [hw]) ?_
    refine evSeq_go rfl (by simp [h0, h1, h2, hs12, hs19x, hpz, encI_length] <;> rfl) (by rfl) (by simp [hw]) ?_
    exact evSeq_nil
  refine inSeq_norm ?_
  refine Tri.seq' ?_
  refine Tri.regN (t' := ?t3) (H' := ?H3) TT_ok hC ?e3 ?q3
  case e3 =>
    refine go_false ?_
    refine evSeq_go rfl (by simp [h0, h1, h2, hs12, hs19x, hpz, encI_length] <;> rfl) (by rfl) (by simp [hw]) ?_
    refine evSeq_go rfl (by simp [h0, h1, h2, hs12, hs19x, hpz, encI_length] <;> rfl) (by rfl) (by simp [hw]) ?_
    exact evSeq_nil
  refine inSeq_norm ?_
  refine Tri.condG (o := ?o4) (b := ?b4) ?g4 ?r4 ?y4 ?n4
  case g4 => simp [h0, h1, h2, hs12, hs19x, hpz, encI_length] <;> rfl
  case r4 => rfl
  case y4 =>
    intro hy4
    exact absurd hy4 (by simp [h0, h1, h2, hs12, hs19x, hpz, encI_length])
  case n4 =>
    intro hn4
    refine Tri.skip ?_
    refine inSeq_norm ?_
    refine Tri.seq' ?_
    refine Tri.seq' ?_
    refine Tri.regN (t' := ?t5) (H' := ?H5) TT_ok hC ?e5 ?q5
    case e5 =>
      refine go_false ?_
      refine evSeq_go rfl (by simp [h0, h1, h2, hs12, hs19x, hpz, encI_length] <;> rfl) (by rfl) (by simp [hw]) ?_
      refine evSeq_go rfl (by simp [h0, h1, h2, hs12, hs19x, hpz, encI_length] <;> rfl) (by rfl) (by simp [hw]) ?_
      refine evSeq_go rfl (by simp [h0, h1, h2, hs12, hs19x, hpz, encI_length] <;> rfl) (by rfl) (by simp [hw]) ?_
      exact evSeq_nil
    refine inSeq_norm ?_
    refine Tri.condG (o := ?o6) (b := ?b6) ?g6 ?r6 ?y6 ?n6
    case g6 => simp [h0, h1, h2, hs12, hs19x, hpz, encI_length] <;> rfl
    case r6 => rfl
    case y6 =>
      intro hy6
      exact absurd hy6 (by simp [h0, h1, h2, hs12, hs19x, hpz, encI_length])
    case n6 =>
      intro hn6
      refine Tri.skip ?_
      refine inSeq_norm ?_
      refine Tri.seq' ?_
      refine Tri.regN (t' := ?t7) (H' := ?H7) TT_ok hC ?e7 ?q7
      case e7 =>
        refine go_false ?_
        refine evSeq_go rfl (by simp [h0, h1, h2, hs12, hs19x, hpz, encI_length, fp, fq, fr, -flat] <;> rfl) (by rfl) (by simp [hw]) ?_
        refine evSeq_go rfl (by simp [h0, h1, h2, hs12, hs19x, hpz, encI_length, fp, fq, fr, -flat] <;> rfl) (by rfl) (by simp [hw]) ?_
        refine evSeq_go rfl (by simp [h0, h1, h2, hs12, hs19x, hpz, encI_length, fp, fq, fr, -flat] <;> rfl) (by rfl) (by simp [hw]) ?_
        refine evSeq_go rfl (by simp [h0, h1, h2, hs12, hs19x, hpz, encI_length, fp, fq, fr, -flat] <;> rfl) (by rfl) (by simp [hw]) ?_
        exact evSeq_nil
      refine inSeq_norm ?_
      refine Tri.seq' ?_
      refine Tri.regN (t' := ?t8) (H' := ?H8) TT_ok hC ?e8 ?q8
      case e8 =>
        refine go_false ?_
        refine evSeq_go rfl (by simp [h0, h1, h2, hs12, hs19x, hpz, encI_length] <;> rfl) (by rfl) (by simp [hw]) ?_
        exact evSeq_nil
      refine inSeq_norm ?_
      refine Tri.seq' ?_
      refine Tri.seq' ?_
      refine Tri.regN (t' := ?t9) (H' := ?H9) TT_ok hC ?e9 ?q9
      case e9 =>
        refine go_false ?_
        refine evSeq_go rfl (by simp [h0, h1, h2, hs12, hs19x, hpz, encI_length] <;> rfl) (by rfl) (by simp [hw]) ?_
        refine evSeq_go rfl (by simp [h0, h1, h2, hs12, hs19x, hpz, encI_length] <;> rfl) (by rfl) (by simp [hw]) ?_
        refine evSeq_go rfl (by simp [h0, h1, h2, hs12, hs19x, hpz, encI_length] <;> rfl) (by rfl) (by simp [hw]) ?_
        exact evSeq_nil
      refine inSeq_norm ?_
      refine Tri.block' ?_
      refine Tri.loop ?_
      refine loop1010 hC (B := K1.length) (t0 := _) (fin := f) (D := fun y => putN x p y) ?exit p [] _ K1.length 0 x id (Spot.start hox (by simp)) hwk (fun y => rfl) (by simpa using hlen) (by simp [hw]) (fun j hj => rfl) (by simp [h1]) (by simp [encI_length]) (by simp) (by simp)
      case exit =>
        intro t2 b off C hw hk h11 hS hD
        obtain ⟨h3b, hbl, cs, kd, hb, hkd, hl⟩ := hS.blk
        obtain ⟨vy, K3, hcy, hoy⟩ := hsy (K1 ++ [some ⟨24, [xp, xq, xr], .all⟩])
        obtain ⟨yp, yq, yr, rfl, fyp, fyq, fyr⟩ := hoy.three
        have hb3 := (hoy.keep b hbl).trans hb
        have hR := hS.fill hb hoy
        rw [hD y] at hR
        have hl1 := hox.longer
        have hl3 := hoy.longer
        simp only [List.length_cons, List.length_nil, List.length_append] at hl1 hl3
        have g1 := hox.keep 1 (by simp)
        have g2 := hox.keep 2 (by simp)
        have e1 : (K1 ++ [some ⟨24, [xp, xq, xr], .all⟩])[1]? = some (some ⟨24, [.i .i64 y.kind, .s y.text, .isl 3 (Nd.encL y.kids)], .all⟩) := by
          rw [List.getElem?_append_left (by omega), g1]; rfl
        have e2 : K3[2]? = some (some ⟨24, [.i .i64 0, .s [], .nils], .all⟩) := by
          rw [hoy.keep 2 (by simp; omega), List.getElem?_append_left (by omega), g2]; rfl
        have k5 := hk 5 (by omega)
        have k6 := hk 6 (by omega)
        have k10 := hk 10 (by omega)
        simp at k5 k6 k10
        refine inBlk_exit ?_
        refine inSeq_norm ?_
        refine Tri.seq' ?_
        refine Tri.regN (t' := ?t10) (H' := ?H10) TT_ok hC ?e10 ?q10
        case e10 =>
          refine go_false ?_
          refine evSeq_go rfl (by simp [h0, h1, h2, hs12, hs19x, hpz, encI_length, h11, k5, k6, k10, e1, hcy, hb3, hkd, hl, fyp, fyq, fyr, -flat] <;> rfl) (by rfl) (by simp [hw]) ?_
          refine evSeq_go rfl (by simp [h0, h1, h2, hs12, hs19x, hpz, encI_length, h11, k5, k6, k10, e1, hcy, hb3, hkd, hl, fyp, fyq, fyr, -flat] <;> rfl) (by rfl) (by simp [hw]) ?_
          refine evSeq_go rfl (by simp [h0, h1, h2, hs12, hs19x, hpz, encI_length, h11, k5, k6, k10, e1, hcy, hb3, hkd, hl, fyp, fyq, fyr, -flat] <;> rfl) (by rfl) (by simp [hw]) ?_
          refine evSeq_go rfl (by simp [h0, h1, h2, hs12, hs19x, hpz, encI_length, h11, k5, k6, k10, e1, hcy, hb3, hkd, hl, fyp, fyq, fyr, -flat] <;> rfl) (by rfl) (by simp [hw]) ?_
          refine evSeq_go rfl (by simp [h0, h1, h2, hs12, hs19x, hpz, encI_length, h11, k5, k6, k10, e1, hcy, hb3, hkd, hl, fyp, fyq, fyr, -flat] <;> rfl) (by rfl) (by simp [hw]) ?_
          exact evSeq_nil
        refine inSeq_norm ?_
        refine Tri.seq' ?_
        obtain ⟨p1, q1, r1, bs1, hR1, hR2⟩ := hR.at
        have e4 : cs.take off ++ [yp, yq, yr] ++ cs.drop (off + 3) = cs.take off ++ yp :: yq :: yr :: cs.drop (off + 3) := by simp
        rw [e4] at hR1 hR2
        have f2 : (K3.set b (some ⟨24, cs.take off ++ yp :: yq :: yr :: cs.drop (off + 3), kd⟩))[2]? = some (some ⟨24, [.i .i64 0, .s [], .nils], .all⟩) := by
          rw [List.getElem?_set_ne (by omega)]; exact e2
        generalize hK4 : K3.set b (some ⟨24, cs.take off ++ yp :: yq :: yr :: cs.drop (off + 3), kd⟩) = K4 at *
        have h2l : 2 < K4.length := (List.getElem?_eq_some_iff.1 f2).1
        obtain ⟨f1p, f1q, f1r⟩ := hR2.flats
        refine Tri.regN (t' := ?t11) (H' := ?H11) TT_ok hC ?e11 ?q11
        case e11 =>
          refine go_false ?_
          refine evSeq_go rfl (by simp [h0, h1, h2, hs12, hs19x, hpz, encI_length, h11, k5, k6, k10, e1, hcy, hb3, hkd, hl, fyp, fyq, fyr, -flat, hR1, f2, f1p, f1q, f1r] <;> rfl) (by rfl) (by simp [hw]) ?_
          refine evSeq_go rfl (by simp [h0, h1, h2, hs12, hs19x, hpz, encI_length, h11, k5, k6, k10, e1, hcy, hb3, hkd, hl, fyp, fyq, fyr, -flat, hR1, f2, f1p, f1q, f1r] <;> rfl) (by rfl) (by simp [hw]) ?_
          refine evSeq_go rfl (by simp [h0, h1, h2, hs12, hs19x, hpz, encI_length, h11, k5, k6, k10, e1, hcy, hb3, hkd, hl, fyp, fyq, fyr, -flat, hR1, f2, f1p, f1q, f1r] <;> rfl) (by rfl) (by simp [hw]) ?_
          exact evSeq_nil
        refine inSeq_norm ?_
        refine Tri.ret ?_
        refine endsH (by simp [finish, evResults, evResult, Tryz.f10, h2l, k6] <;> rfl) (by rfl) ⟨_, bs1, rfl, TreeIn.keep _ _ _ hR2 fun d hd => ?_⟩
        obtain ⟨cs', hcs⟩ := TreeIn.mores _ _ _ hR2 d hd
        rw [List.getElem?_set_ne]
        rintro rfl
        rw [f2] at hcs
        cases hcs
end Go.Ev

namespace Go.Ev
open Go Go.Proofs
set_option maxRecDepth 100000
set_option linter.unusedSimpArgs false
set_option linter.unusedVariables false
theorem args3_inj {x y u w : Nd} {p q : List Int} (h : [x.enc, V.isl 1 (encI p), u.enc] = [y.enc, .isl 1 (encI q), w.enc]) : x = y ∧ p = q ∧ u = w := by
  simp only [List.cons.injEq, V.isl.injEq, true_and, and_true] at h
  exact ⟨Nd.enc_inj _ _ h.1, encI_inj _ _ h.2.1, Nd.enc_inj _ _ h.2.2⟩
theorem noNd_enc : noNd.enc = .agg [.i .i64 0, .s [], .isl 3 []] := rfl
theorem fz_tup (H : Heap) (l : List V) (m : Nat) : fz H (m + 1) (.tup l) = (fzL H m l).map .tup := by simp [fz]
theorem fz_put {K : Heap} {x : Nd} {xs : List V} {bs : List Nat} (h : TreeIn K x (.agg xs) bs) : ∃ k, fz K k (.tup [.agg xs, .i .i64 0]) = some (.tup [x.enc, .i .i64 0]) := by
  obtain ⟨kv, e, k1, hk⟩ := TreeIn.kv x _ bs h
  simp only [V.agg.injEq] at e
  subst e
  refine ⟨k1 + 7, ?_⟩
  simp only [fz_tup, fz_agg, fzL, fz_i, fz_s, hk (k1 + 1) (by omega), Option.map_some, Nd.enc_eq]
/-- Put. -/
theorem sp1010 : ∃ g, SpecOK Tryz.prog TT 10 g ∧ ∀ (x : Nd) (p : List Int) (y : Nd), x.num < NT → p.length < 1100000 → y.num < NT → ∀ H : Heap, g [x.enc, .isl 1 (encI p), y.enc] H = .val (putV x p y) H := by
  obtain ⟨g12, k12, s12⟩ := sp12
  obtain ⟨g19, k19, s19⟩ := sp19
  obtain ⟨gm, km, sm⟩ := sp19m
  obtain ⟨g, k, s⟩ := HFact.spec (F := 10) TT_ok (D := fun vs K => K = [] ∧ ∃ (x : Nd) (p : List Int) (y : Nd), x.num < NT ∧ p.length < 1100000 ∧ y.num < NT ∧ vs = [x.enc, .isl 1 (encI p), y.enc]) (R := fun vs _ v K => ∃ (x : Nd) (p : List Int) (y : Nd), vs = [x.enc, .isl 1 (encI p), y.enc] ∧
      ((∃ f, walkN x p = some f ∧ ∃ k, fz K k v = some (.tup [(putN x p y).enc, .i .i64 0])) ∨ (walkN x p = none ∧ v = .tup [.agg [.i .i64 0, .s [], .nils], .i .i64 5]))) (fun vs K hd => by
    obtain ⟨rfl, x, p, y, hx, hp, hy, rfl⟩ := hd
    cases hw : walkN x p with
    | none =>
      refine (HBody.fact TT_ok (body_1010n (ws n0 k12) x y p fun K => ?_)).mono fun v H' h => ⟨x, p, y, rfl, .inr ⟨hw, h⟩⟩
      rw [w_here, ← Nd.enc_eq, s12 x p hx hp K]
      simp [atV, hw, noNd_enc]
    | some f =>
      cases p with
      | nil =>
        have e : f = x := by simpa [walkN] using hw.symm
        subst e
        refine (HBody.fact TT_ok (body_1010z (ws (ws n0 k12) k19) f y (fun K => ?_) fun K => ?_)).mono fun v H' h => ⟨f, [], y, rfl, .inl ⟨f, hw, 9, ?_⟩⟩
        · rw [w_other _ _ _ _ rfl, w_here, ← Nd.enc_eq]
          exact (s12 f [] hx hp K).trans (by simp [atV, walkN])
        · rw [w_here, ← Nd.enc_eq]
          exact s19 y hy K
        · rw [h, fz_at H' y 0]
          simp [putN, Nd.enc_eq]
      | cons i p =>
        have hC := ws (ws n0 k12) km
        obtain ⟨vx, K1, h1, h2⟩ := sm x hx [some ⟨24, [.i .i64 x.kind, .s x.text, .isl 3 (Nd.encL x.kids)], .all⟩, some ⟨24, [.i .i64 y.kind, .s y.text, .isl 3 (Nd.encL y.kids)], .all⟩, some ⟨24, [.i .i64 0, .s [], .nils], .all⟩, some ⟨24, [.i .i64 f.kind, .s f.text, .isl 3 (Nd.encL f.kids)], .all⟩]
        obtain ⟨xp, xq, xr, rfl, fp, fq, fr⟩ := h2.three
        refine (HBody.fact TT_ok (body_1010y hC x y f (i :: p) hw (by simp) hp (fun K => ?_) fp fq fr ?_ h2 fun K => ?_)).mono fun v H' h => ?_
        · rw [w_other _ _ _ _ rfl, w_here, ← Nd.enc_eq, s12 x (i :: p) hx hp K]
          simp [atV, hw, Nd.enc_eq]
        · rw [w_here, ← Nd.enc_eq]
          exact h1
        · rw [w_here, ← Nd.enc_eq]
          exact sm y hy K
        · obtain ⟨xs, bs, rfl, ht⟩ := h
          exact ⟨x, i :: p, y, rfl, .inl ⟨f, hw, fz_put ht⟩⟩)
  obtain ⟨g', k', s'⟩ := spec_frzw TT_plain k (fun vs => ∃ (x : Nd) (p : List Int) (y : Nd), x.num < NT ∧ p.length < 1100000 ∧ y.num < NT ∧ vs = [x.enc, .isl 1 (encI p), y.enc]) (fun vs v => ∃ (x : Nd) (p : List Int) (y : Nd), vs = [x.enc, .isl 1 (encI p), y.enc] ∧ v = putV x p y) (by
    rintro vs ⟨x, p, y, hx, hp, hy, rfl⟩
    refine ⟨by simp [nlL, nl, Nd.enc_nl, encI_nl], ?_⟩
    obtain ⟨v, K', ⟨x', p', y', e, hv⟩, h⟩ := s [x.enc, .isl 1 (encI p), y.enc] [] ⟨rfl, x, p, y, hx, hp, hy, rfl⟩
    obtain ⟨rfl, rfl, rfl⟩ := args3_inj e
    rcases hv with ⟨f, hw, m, hm⟩ | ⟨hw, rfl⟩
    · exact ⟨_, K', m, _, _, h, hm, Weak.refl _, x, p, y, rfl, by simp [putV, hw]⟩
    · refine ⟨_, K', 9, .tup [.agg [.i .i64 0, .s [], .nils], .i .i64 5], .tup [noNd.enc, .i .i64 5], h, by simp [fz, fzL], ?_, x, p, y, rfl, by simp [putV, hw]⟩
      refine WeakL.tup (WeakL.cons (WeakL.agg ?_) (WeakL.cons (Weak.refl _) WeakL.nil))
      exact WeakL.cons (Weak.refl _) (WeakL.cons (Weak.refl _) (WeakL.cons (weak_nils 3) WeakL.nil)))
  refine ⟨g', k', fun x p y hx hp hy H => ?_⟩
  obtain ⟨v, ⟨x', p', y', e, hv⟩, h⟩ := s' [x.enc, .isl 1 (encI p), y.enc] ⟨x, p, y, hx, hp, hy, rfl⟩
  obtain ⟨rfl, rfl, rfl⟩ := args3_inj e
  rw [h H, hv]
end Go.Ev
