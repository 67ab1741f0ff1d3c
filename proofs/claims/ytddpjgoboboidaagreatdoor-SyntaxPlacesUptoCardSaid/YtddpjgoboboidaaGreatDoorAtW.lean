/- Walks over the steps along a path. -/
import Derived.Test.YtddpjgoboboidaaGreatDoorCpS
import Derived.Test.YtddpjgoboboidaaGreatDoorEvIter
namespace Go.Ev
open Go Go.Proofs
set_option maxRecDepth 100000
set_option linter.unusedSimpArgs false
set_option linter.unusedVariables false
def encI (p : List Int) : List V := p.map (V.i .i64)
theorem encI_length (p : List Int) : (encI p).length = p.length := by simp [encI]
theorem encI_at (d : List Int) (i : Int) (r : List Int) : (encI (d ++ i :: r))[d.length]? = some (.i .i64 i) := by simp [encI]
theorem encI_at2 (d : List Int) (i : Int) (r : List Int) : ∀ h, (encI (d ++ i :: r))[d.length]'h = .i .i64 i := fun h => by simp [encI]
theorem encI_nl (p : List Int) : nlL (encI p) = true := by
  induction p with
  | nil => rfl
  | cons x p ih => simpa [encI, nlL, nl] using ih
def ndC (x : Nd) : List V := [.i .i64 x.kind, .s x.text, .isl 3 (Nd.encL x.kids)]
theorem ndC_eq (x : Nd) : x.enc = .agg (ndC x) := Nd.enc_eq x

theorem body_18 {call : CallF} (hC : call.Sound Tryz.prog TT) (x : Nd) (p : List V) (H : Heap)  : HBody Tryz.prog TT 27 [x.enc, .isl 1 p] H (fun v K => v = .fn 35 [.ptr (H.length + 1) 0, .ptr H.length 0] ∧ K = H ++ [some ⟨24, [.i .i64 x.kind, .s x.text, .isl 3 (Nd.encL x.kids)], .all⟩, some ⟨25, [.isl 1 p], .all⟩]) := by
  refine ⟨Tryz.f27, _, rfl, rfl, by simp [Tryz.f27], ?_⟩
  have h0 : (Tm.init Tryz.f27.ntmps [x.enc, .isl 1 p]).get 0 = x.enc := by rw [get_init]; rfl
  have h1 : (Tm.init Tryz.f27.ntmps [x.enc, .isl 1 p]).get 1 = .isl 1 p := by rw [get_init]; rfl
  have hw : (Tm.init Tryz.f27.ntmps [x.enc, .isl 1 p]).wid = 6 := rfl
  generalize Tm.init Tryz.f27.ntmps [x.enc, .isl 1 p] = t at *
  try simp only [Nd.enc_eq] at *
  refine Tri.seq' ?_
  refine Tri.regN (t' := ?t1) (H' := ?H1) TT_ok hC ?e1 ?q1
  case e1 =>
    refine go_false ?_
    refine evSeq_go rfl (by simp [h0, h1] <;> rfl) (by rfl) (by simp [hw]) ?_
    refine evSeq_go rfl (by simp [h0, h1] <;> rfl) (by rfl) (by simp [hw]) ?_
    refine evSeq_go rfl (by simp [h0, h1] <;> rfl) (by rfl) (by simp [hw]) ?_
    exact evSeq_nil
  refine inSeq_norm ?_
  refine Tri.seq' ?_
  refine Tri.regN (t' := ?t2) (H' := ?H2) TT_ok hC ?e2 ?q2
  case e2 =>
    refine go_false ?_
    refine evSeq_go rfl (by simp [h0, h1] <;> rfl) (by rfl) (by simp [hw]) ?_
    refine evSeq_go rfl (by simp [h0, h1] <;> rfl) (by rfl) (by simp [hw]) ?_
    exact evSeq_nil
  refine inSeq_norm ?_
  refine Tri.ret ?_
  refine ⟨_, ⟨rfl, rfl⟩, ?_⟩
  simp [finish, evResults, evResult, Tryz.f27]
noncomputable def rfOf : Code → Code × Code
  | .rangeFunc _ _ a b => (a, b)
  | _ => (.skip, .skip)
noncomputable def asg : Code := (rfOf (sub [true, true, false, true, false] (bodyOf Tryz.f8))).1
noncomputable def bdy : Code := (rfOf (sub [true, true, false, true, false] (bodyOf Tryz.f8))).2
theorem round_a {call : CallF} (hC : call.Sound Tryz.prog TT) {r : Option Nat} {hs : List HE} {t : Tm} {K : Heap} {a b c : V} {y : Bool} (hw : t.wid = 21) (h13 : t.get 13 = .agg [a, b, c]) (h14 : t.get 14 = .b y) (fa : flat a = true) (fb : flat b = true) (fc : flat c = true) {Q : Out → List HE → Prop}
    (hQ : ∀ tA : Tm, tA.wid = 21 → tA.get 7 = .ptr K.length 0 → tA.get 8 = .b y → (∀ j, j ≤ 6 → tA.get j = t.get j) → Q (.norm tA (K ++ [some ⟨24, [a, b, c], .all⟩])) hs) : TriG Tryz.prog TT r hs asg t K Q := by
  refine TriG.seq ?_
  refine TriG.reg (t' := ?t1) (H' := ?H1) TT_ok hC (by kernel_rfl) ?e1 ?q1
  case e1 =>
    refine go_false ?_
    refine evSeq_go rfl (by simp [h13, h14, fa, fb, fc, -flat] <;> rfl) (by rfl) (by simp [hw]) ?_
    refine evSeq_go rfl (by simp [h13, h14, fa, fb, fc, -flat] <;> rfl) (by rfl) (by simp [hw]) ?_
    exact evSeq_nil
  refine inSeqG_norm ?_
  refine TriG.reg (t' := ?t2) (H' := ?H2) TT_ok hC (by kernel_rfl) ?e2 ?q2
  case e2 =>
    refine go_false ?_
    refine evSeq_go rfl (by simp [h13, h14, fa, fb, fc, -flat] <;> rfl) (by rfl) (by simp [hw]) ?_
    exact evSeq_nil
  refine hQ _ (by simp [hw]) (by simp) (by simp) ?_
  intro j hj
  have : ¬ j = 7 ∧ ¬ j = 8 := by omega
  simp [this]
theorem round_b {call : CallF} (hC : call.Sound Tryz.prog TT) {r : Option Nat} {hs : List HE} {t : Tm} {K : Heap} {a b c : V} {n : Nat} {B : List V} (hw : t.wid = 21) (h7 : t.get 7 = .ptr n 0) (h8 : t.get 8 = .b true) (h6 : t.get 6 = .ptr 3 0) (gn : K[n]? = some (some ⟨24, [a, b, c], .all⟩)) (g3 : K[3]? = some (some ⟨24, B, .all⟩)) (hB : B.length = 3) (fa : flat a = true) (fb : flat b = true) (fc : flat c = true) {Q : Out → List HE → Prop}
    (hQ : ∀ tB : Tm, Q (.norm tB (K.set 3 (some ⟨24, [a, b, c], .all⟩))) hs) : TriG Tryz.prog TT r hs bdy t K Q := by
  have hB3 : B.drop 3 = [] := List.drop_of_length_le (by omega)
  have hB4 : 3 ≤ B.length := by omega
  refine TriG.block ?_
  refine TriG.seq ?_
  refine TriG.seq ?_
  refine TriG.reg (t' := ?t1) (H' := ?H1) TT_ok hC (by kernel_rfl) ?e1 ?q1
  case e1 =>
    refine go_false ?_
    refine evSeq_go rfl (by simp [h7, h8, h6, gn, g3, hB3, hB4, fa, fb, fc, -flat] <;> rfl) (by rfl) (by simp [hw]) ?_
    refine evSeq_go rfl (by simp [h7, h8, h6, gn, g3, hB3, hB4, fa, fb, fc, -flat] <;> rfl) (by rfl) (by simp [hw]) ?_
    exact evSeq_nil
  refine inSeqG_norm ?_
  refine TriG.cond (o := ?o2) (b := ?b2) ?g2 ?r2 ?y2 ?n2
  case g2 => simp [h7, h8, h6, gn, g3, hB3, hB4, fa, fb, fc, -flat] <;> rfl
  case r2 => rfl
  case y2 =>
    intro hy2
    simp at hy2
  case n2 =>
    intro hn2
    refine TriG.skip ?_
    refine inSeqG_norm ?_
    refine TriG.reg (t' := ?t3) (H' := ?H3) TT_ok hC (by kernel_rfl) ?e3 ?q3
    case e3 =>
      refine go_false ?_
      refine evSeq_go rfl (by simp [h7, h8, h6, gn, g3, hB3, hB4, fa, fb, fc, -flat] <;> rfl) (by rfl) (by simp [hw]) ?_
      refine evSeq_go rfl (by simp [h7, h8, h6, gn, g3, hB3, hB4, fa, fb, fc, -flat] <;> rfl) (by rfl) (by simp [hw]) ?_
      exact evSeq_nil
    refine inBlkG_norm ?_
    exact hQ _
theorem round_c {call : CallF} (hC : call.Sound Tryz.prog TT) {r : Option Nat} {hs : List HE} {t : Tm} {K : Heap} {B : List V} (hw : t.wid = 21) (h8 : t.get 8 = .b false) (h4 : t.get 4 = .ptr 1 0) (h5 : t.get 5 = .ptr 2 0) (g1 : K[1]? = some (some ⟨24, B, .all⟩)) (hB : B.length = 3) (g2 : ∀ u, (K.set 1 u)[2]? = some (some ⟨28, [.i .i64 0], .all⟩)) {Q : Out → List HE → Prop}
    (hQ : ∀ tB : Tm, Q (.ret tB ((K.set 1 (some ⟨24, [.i .i64 0, .s [], .nils], .all⟩)).set 2 (some ⟨28, [.i .i64 5], .all⟩))) hs) : TriG Tryz.prog TT r hs bdy t K Q := by
  have hB3 : B.drop 3 = [] := List.drop_of_length_le (by omega)
  have hB4 : 3 ≤ B.length := by omega
  refine TriG.block ?_
  refine TriG.seq ?_
  refine TriG.seq ?_
  refine TriG.reg (t' := ?t1) (H' := ?H1) TT_ok hC (by kernel_rfl) ?e1 ?q1
  case e1 =>
    refine go_false ?_
    refine evSeq_go rfl (by simp [h8, h4, h5, g1, g2, hB3, hB4] <;> rfl) (by rfl) (by simp [hw]) ?_
    refine evSeq_go rfl (by simp [h8, h4, h5, g1, g2, hB3, hB4] <;> rfl) (by rfl) (by simp [hw]) ?_
    exact evSeq_nil
  refine inSeqG_norm ?_
  refine TriG.cond (o := ?o2) (b := ?b2) ?g2 ?r2 ?y2 ?n2
  case g2 => simp [h8, h4, h5, g1, g2, hB3, hB4] <;> rfl
  case r2 => rfl
  case y2 =>
    intro hy2
    refine TriG.seq ?_
    refine TriG.reg (t' := ?t3) (H' := ?H3) TT_ok hC (by kernel_rfl) ?e3 ?q3
    case e3 =>
      refine go_false ?_
      refine evSeq_go rfl (by simp [h8, h4, h5, g1, g2, hB3, hB4] <;> rfl) (by rfl) (by simp [hw]) ?_
      refine evSeq_go rfl (by simp [h8, h4, h5, g1, g2, hB3, hB4] <;> rfl) (by rfl) (by simp [hw]) ?_
      refine evSeq_go rfl (by simp [h8, h4, h5, g1, g2, hB3, hB4] <;> rfl) (by rfl) (by simp [hw]) ?_
      exact evSeq_nil
    refine inSeqG_norm ?_
    refine TriG.ret ?_
    refine inSeqG_ret ?_
    refine inBlkG_ret ?_
    exact hQ _
  case n2 =>
    intro hn2
    simp at hn2
/-- The state of the loop over the steps. -/
structure AtS (K : Heap) (cur : Nd) (n : Nat) : Prop where
  g1 : K[1]? = some (some ⟨24, [.i .i64 0, .s [], .nils], .all⟩)
  g2 : K[2]? = some (some ⟨28, [.i .i64 0], .all⟩)
  g3 : K[3]? = some (some ⟨24, [.i .i64 cur.kind, .s cur.text, .isl 3 (Nd.encL cur.kids)], .all⟩)
  g4 : K[4]? = some (some ⟨24, [.i .i64 cur.kind, .s cur.text, .isl 3 (Nd.encL cur.kids)], .all⟩)
  gl : K.length = n + 6
def AtBad (K : Heap) (n : Nat) : Prop := K.length = n ∧ K[1]? = some (some ⟨24, [.i .i64 0, .s [], .nils], .all⟩) ∧ K[2]? = some (some ⟨28, [.i .i64 5], .all⟩)
/-- How many steps of a path there are. -/
def failAt (x : Nd) : List Int → Nat
  | [] => 0
  | i :: p => if 0 ≤ i ∧ i < x.kids.length then match x.kids[i.toNat]? with
      | some k => failAt k p + 1
      | none => 0
    else 0
/-- The part at a path. -/
def walkN (x : Nd) : List Int → Option Nd
  | [] => some x
  | i :: p => if 0 ≤ i ∧ i < x.kids.length then match x.kids[i.toNat]? with
      | some k => walkN k p
      | none => none
    else none
theorem AtS.next {K : Heap} {cur kid : Nd} {n : Nat} (h : AtS K cur n) : AtS (((K.set 4 (some ⟨24, [.i .i64 kid.kind, .s kid.text, .isl 3 (Nd.encL kid.kids)], .all⟩)) ++ ([some ⟨24, [.i .i64 kid.kind, .s kid.text, .isl 3 (Nd.encL kid.kids)], .all⟩] : Heap)).set 3 (some ⟨24, [.i .i64 kid.kind, .s kid.text, .isl 3 (Nd.encL kid.kids)], .all⟩)) kid (n + 1) := by
  obtain ⟨g1, g2, g3, g4, gl⟩ := h
  have k : ∀ i, i < 5 → i ≠ 3 → i ≠ 4 → (((K.set 4 (some ⟨24, [.i .i64 kid.kind, .s kid.text, .isl 3 (Nd.encL kid.kids)], .all⟩)) ++ ([some ⟨24, [.i .i64 kid.kind, .s kid.text, .isl 3 (Nd.encL kid.kids)], .all⟩] : Heap)).set 3 (some ⟨24, [.i .i64 kid.kind, .s kid.text, .isl 3 (Nd.encL kid.kids)], .all⟩))[i]? = K[i]? := fun i hi h3 h4 => by
    rw [List.getElem?_set_ne (by omega), List.getElem?_append_left (by simp; omega), List.getElem?_set_ne (by omega)]
  refine ⟨(k 1 (by omega) (by omega) (by omega)).trans g1, (k 2 (by omega) (by omega) (by omega)).trans g2, ?_, ?_, by simp; omega⟩
  · rw [List.getElem?_set_self (by simp; omega)]
  · rw [List.getElem?_set_ne (by omega), List.getElem?_append_left (by simp; omega), List.getElem?_set_self (by omega)]
theorem encL_get {l : List Nd} {n : Nat} {k : Nd} (h : l[n]? = some k) : (Nd.encL l)[n]? = some (.agg [.i .i64 k.kind, .s k.text, .isl 3 (Nd.encL k.kids)]) := by
  have e : ∀ l : List Nd, Nd.encL l = l.map Nd.enc := fun l => by
    induction l with
    | nil => rfl
    | cons x l ih => simp [Nd.encL, ih]
  rw [e, List.getElem?_map, h, Option.map_some, Nd.enc_eq]
theorem loop45 {call : CallF} (hC : call.Sound Tryz.prog TT) {r : Option Nat} {l : Nat} {rec : Loop} {t0 : Tm} (hst : rec.state = .ready) (hpd : rec.pending = none) (hps : rec.params = #[13, 14]) (hasg : rec.assign = asg) (hbdy : rec.body = bdy) (hwt0 : t0.wid = 21) (e4 : t0.get 4 = .ptr 1 0) (e5 : t0.get 5 = .ptr 2 0) (e6 : t0.get 6 = .ptr 3 0) {Q : Out → List HE → Prop} : ∀ (L d : List Int) (cur fin : Nd) (t : Tm) (K : Heap), AtS K cur d.length → walkN cur L = some fin → t.wid = 34 → t.get 0 = .yld l → t.get 1 = .ptr 5 0 → t.get 2 = .ptr 4 0 → t.get 6 = .isl 1 (encI (d ++ L)) → t.get 7 = .i .i64 (d ++ L).length → t.get 8 = .i .i64 d.length → (d ++ L).length < 1100000 → (∀ t' K', AtS K' fin (d ++ L).length → Q (.exit 0 t' K') [⟨l, .loop rec, t0, rec.tmps⟩]) → LTriG Tryz.prog TT r [⟨l, .loop rec, t0, rec.tmps⟩] (sub [true, false, false] (bodyOf Tryz.f35)) t K Q := by
  have hrecE : (⟨l, .loop { rec with state := if (none : Option Code).isNone then .ready else .done, pending := none }, t0, rec.tmps⟩ : HE) = ⟨l, .loop rec, t0, rec.tmps⟩ := by
    cases rec
    simp only at hst hpd
    subst hst hpd
    rfl
  intro L
  induction L with
  | nil =>
    intro d cur fin t K hI hf hw h0 h1 h2 h6 h7 h8 hlen hE
    simp only [walkN, Option.some.injEq] at hf
    subst hf
    refine LTriG.round ?_
    refine TriG.seq ?_
    refine TriG.reg (t' := ?tz1) (H' := ?Hz1) TT_ok hC (by kernel_rfl) ?ez1 ?qz1
    case ez1 =>
      refine go_false ?_
      refine evSeq_go rfl (by simp [h0, h1, h2, h6, h7, h8, encI_length] <;> rfl) (by rfl) (by simp [hw]) ?_
      exact evSeq_nil
    refine inSeqG_norm ?_
    refine TriG.seq ?_
    refine TriG.cond (o := ?oz2) (b := ?bz2) ?gz2 ?rz2 ?yz2 ?nz2
    case gz2 => simp [h0, h1, h2, h6, h7, h8, encI_length] <;> rfl
    case rz2 => rfl
    case yz2 =>
      intro hy2
      simp at hy2
    case nz2 =>
      intro hn2
      refine TriG.exit ?_
      refine inSeqG_exit ?_
      refine inLoopG_exit ?_
      exact hE _ _ (by simpa using hI)
  | cons i L ih =>
    intro d cur fin t K hI hf hw h0 h1 h2 h6 h7 h8 hlen hE
    have hlt := fin_len d.length L.length
    have hat := encI_at d i L
    have hat2 := encI_at2 d i L
    simp only [walkN] at hf
    split at hf
    · rename_i hr
      obtain ⟨hlo, hhi⟩ := hr
      split at hf
      · rename_i kid hk
        have hik := encL_get hk
        have hnl := Nd.encL_length cur.kids
        have hik2 : ∀ h, (Nd.encL cur.kids)[i.toNat]'h = .agg [.i .i64 kid.kind, .s kid.text, .isl 3 (Nd.encL kid.kids)] := fun h => Option.some.inj ((List.getElem?_eq_getElem h).symm.trans hik)
        obtain ⟨g1, g2, g3, g4, gl⟩ := hI
        have hI : AtS K cur d.length := ⟨g1, g2, g3, g4, gl⟩
        have gl4 : 4 < K.length := by omega
        have hlo2 : ¬ i < 0 := by omega
        have hhi2 : ¬ ((cur.kids.length : Int) ≤ i) := by omega
        have nextI := fun (h : AtS K cur d.length) => AtS.next (kid := kid) h
        refine LTriG.round ?_
        refine TriG.seq ?_
        refine TriG.reg (t' := ?t1) (H' := ?H1) TT_ok hC (by kernel_rfl) ?e1 ?q1
        case e1 =>
          refine go_false ?_
          refine evSeq_go rfl (by simp [h0, h1, h2, h6, h7, h8, encI_length, hlt, hat, hat2, g1, g2, g3, g4, hlo, hhi, hlo2, hhi2, hik, hik2, hnl] <;> rfl) (by rfl) (by simp [hw]) ?_
          exact evSeq_nil
        refine inSeqG_norm ?_
        refine TriG.seq ?_
        refine TriG.cond (o := ?o2) (b := ?b2) ?g2 ?r2 ?y2 ?n2
        case g2 => simp [h0, h1, h2, h6, h7, h8, encI_length, hlt, hat, hat2, g1, g2, g3, g4, hlo, hhi, hlo2, hhi2, hik, hik2, hnl] <;> rfl
        case r2 => rfl
        case y2 =>
          intro hy2
          refine TriG.skip ?_
          refine inSeqG_norm ?_
          refine TriG.seq ?_
          refine TriG.block ?_
          refine TriG.seq ?_
          refine TriG.reg (t' := ?t3) (H' := ?H3) TT_ok hC (by kernel_rfl) ?e3 ?q3
          case e3 =>
            refine go_false ?_
            refine evSeq_go rfl (by simp [h0, h1, h2, h6, h7, h8, encI_length, hlt, hat, hat2, g1, g2, g3, g4, hlo, hhi, hlo2, hhi2, hik, hik2, hnl] <;> rfl) (by rfl) (by simp [hw]) ?_
            refine evSeq_go rfl (by simp [h0, h1, h2, h6, h7, h8, encI_length, hlt, hat, hat2, g1, g2, g3, g4, hlo, hhi, hlo2, hhi2, hik, hik2, hnl] <;> rfl) (by rfl) (by simp [hw]) ?_
            refine evSeq_go rfl (by simp [h0, h1, h2, h6, h7, h8, encI_length, hlt, hat, hat2, g1, g2, g3, g4, hlo, hhi, hlo2, hhi2, hik, hik2, hnl] <;> rfl) (by rfl) (by simp [hw]) ?_
            exact evSeq_nil
          refine inSeqG_norm ?_
          refine TriG.seq ?_
          refine TriG.seq ?_
          refine TriG.reg (t' := ?t4) (H' := ?H4) TT_ok hC (by kernel_rfl) ?e4 ?q4
          case e4 =>
            refine go_false ?_
            refine evSeq_go rfl (by simp [h0, h1, h2, h6, h7, h8, encI_length, hlt, hat, hat2, g1, g2, g3, g4, hlo, hhi, hlo2, hhi2, hik, hik2, hnl] <;> rfl) (by rfl) (by simp [hw]) ?_
            refine evSeq_go rfl (by simp [h0, h1, h2, h6, h7, h8, encI_length, hlt, hat, hat2, g1, g2, g3, g4, hlo, hhi, hlo2, hhi2, hik, hik2, hnl] <;> rfl) (by rfl) (by simp [hw]) ?_
            refine evSeq_go rfl (by simp [h0, h1, h2, h6, h7, h8, encI_length, hlt, hat, hat2, g1, g2, g3, g4, hlo, hhi, hlo2, hhi2, hik, hik2, hnl] <;> rfl) (by rfl) (by simp [hw]) ?_
            refine evSeq_go (by simp [wants, h0, h1, h2, h6, h7, h8, encI_length, hlt, hat, hat2, g1, g2, g3, g4, hlo, hhi, hlo2, hhi2, hik, hik2, hnl]) (by simp [h0, h1, h2, h6, h7, h8, encI_length, hlt, hat, hat2, g1, g2, g3, g4, hlo, hhi, hlo2, hhi2, hik, hik2, hnl] <;> rfl) (by rfl) (by simp [hw]) ?_
            refine evSeq_go (by simp [wants, h0, h1, h2, h6, h7, h8, encI_length, hlt, hat, hat2, g1, g2, g3, g4, hlo, hhi, hlo2, hhi2, hik, hik2, hnl]) (by simp [h0, h1, h2, h6, h7, h8, encI_length, hlt, hat, hat2, g1, g2, g3, g4, hlo, hhi, hlo2, hhi2, hik, hik2, hnl] <;> rfl) (by rfl) (by simp [hw]) ?_
            refine evSeq_go (by simp [wants, h0, h1, h2, h6, h7, h8, encI_length, hlt, hat, hat2, g1, g2, g3, g4, hlo, hhi, hlo2, hhi2, hik, hik2, hnl]) (by simp [h0, h1, h2, h6, h7, h8, encI_length, hlt, hat, hat2, g1, g2, g3, g4, hlo, hhi, hlo2, hhi2, hik, hik2, hnl] <;> rfl) (by rfl) (by simp [hw]) ?_
            refine evSeq_go (by simp [wants, h0, h1, h2, h6, h7, h8, encI_length, hlt, hat, hat2, g1, g2, g3, g4, hlo, hhi, hlo2, hhi2, hik, hik2, hnl]) (by simp [h0, h1, h2, h6, h7, h8, encI_length, hlt, hat, hat2, g1, g2, g3, g4, hlo, hhi, hlo2, hhi2, hik, hik2, hnl] <;> rfl) (by rfl) (by simp [hw]) ?_
            refine evSeq_go (by simp [wants, h0, h1, h2, h6, h7, h8, encI_length, hlt, hat, hat2, g1, g2, g3, g4, hlo, hhi, hlo2, hhi2, hik, hik2, hnl]) (by simp [h0, h1, h2, h6, h7, h8, encI_length, hlt, hat, hat2, g1, g2, g3, g4, hlo, hhi, hlo2, hhi2, hik, hik2, hnl] <;> rfl) (by rfl) (by simp [hw]) ?_
            refine evSeq_go rfl (by simp [h0, h1, h2, h6, h7, h8, encI_length, hlt, hat, hat2, g1, g2, g3, g4, hlo, hhi, hlo2, hhi2, hik, hik2, hnl] <;> rfl) (by rfl) (by simp [hw]) ?_
            exact evSeq_nil
          refine inSeqG_norm ?_
          refine TriG.cond (o := ?o5) (b := ?b5) ?g5 ?r5 ?y5 ?n5
          case g5 => simp [h0, h1, h2, h6, h7, h8, encI_length, hlt, hat, hat2, g1, g2, g3, g4, hlo, hhi, hlo2, hhi2, hik, hik2, hnl] <;> rfl
          case r5 => rfl
          case y5 =>
            intro hy5
            exact absurd hy5 (by simp [h0, h1, h2, h6, h7, h8, encI_length, hlt, hat, hat2, g1, g2, g3, g4, hlo, hhi, hlo2, hhi2, hik, hik2, hnl])
          case n5 =>
            intro hn5
            refine TriG.skip ?_
            refine inSeqG_norm ?_
            refine TriG.seq ?_
            refine TriG.reg (t' := ?t6) (H' := ?H6) TT_ok hC (by kernel_rfl) ?e6 ?q6
            case e6 =>
              refine go_false ?_
              refine evSeq_go rfl (by simp [h0, h1, h2, h6, h7, h8, encI_length, hlt, hat, hat2, g1, g2, g3, g4, hlo, hhi, hlo2, hhi2, hik, hik2, hnl] <;> rfl) (by rfl) (by simp [hw]) ?_
              refine evSeq_go rfl (by simp [h0, h1, h2, h6, h7, h8, encI_length, hlt, hat, hat2, g1, g2, g3, g4, hlo, hhi, hlo2, hhi2, hik, hik2, hnl] <;> rfl) (by rfl) (by simp [hw]) ?_
              refine evSeq_go rfl (by simp [h0, h1, h2, h6, h7, h8, encI_length, hlt, hat, hat2, g1, g2, g3, g4, hlo, hhi, hlo2, hhi2, hik, hik2, hnl] <;> rfl) (by rfl) (by simp [hw]) ?_
              refine evSeq_go rfl (by simp [h0, h1, h2, h6, h7, h8, encI_length, hlt, hat, hat2, g1, g2, g3, g4, hlo, hhi, hlo2, hhi2, hik, hik2, hnl] <;> rfl) (by rfl) (by simp [hw]) ?_
              refine evSeq_go rfl (by simp [h0, h1, h2, h6, h7, h8, encI_length, hlt, hat, hat2, g1, g2, g3, g4, hlo, hhi, hlo2, hhi2, hik, hik2, hnl] <;> rfl) (by rfl) (by simp [hw]) ?_
              refine evSeq_go rfl (by simp [h0, h1, h2, h6, h7, h8, encI_length, hlt, hat, hat2, g1, g2, g3, g4, hlo, hhi, hlo2, hhi2, hik, hik2, hnl] <;> rfl) (by rfl) (by simp [hw]) ?_
              exact evSeq_nil
            refine inSeqG_norm ?_
            refine TriG.seq ?_
            refine TriG.yield (vs := [.agg [.i .i64 kid.kind, .s kid.text, .isl 3 (Nd.encL kid.kids)], .b true]) (t1 := ?ty6) (H1 := ?Hy6) TT_ok hC (by kernel_rfl) 2 hps hasg hbdy rfl rfl ?ey6 rfl ?jy6 ?vy6 rfl hst ?fy6 (by simp [hwt0]) ?_
            case ey6 =>
              refine evSeq_go rfl (by simp [h0, h1, h2, h6, h7, h8, encI_length, hlt, hat, hat2, g1, g2, g3, g4, hlo, hhi, hlo2, hhi2, hik, hik2, hnl, gl4] <;> rfl) (by rfl) (by simp [hw]) ?_
              refine evSeq_go rfl (by simp [h0, h1, h2, h6, h7, h8, encI_length, hlt, hat, hat2, g1, g2, g3, g4, hlo, hhi, hlo2, hhi2, hik, hik2, hnl, gl4] <;> rfl) (by rfl) (by simp [hw]) ?_
              exact evSeq_nil
            case jy6 => simp [h0, h1, h2, h6, h7, h8, encI_length, hlt, hat, hat2, g1, g2, g3, g4, hlo, hhi, hlo2, hhi2, hik, hik2, hnl, gl4]
            case vy6 => simp [h0, h1, h2, h6, h7, h8, encI_length, hlt, hat, hat2, g1, g2, g3, g4, hlo, hhi, hlo2, hhi2, hik, hik2, hnl, gl4]
            case fy6 => simp [fits_some, hw, Nat.blt_eq]
            refine round_a hC (a := .i .i64 kid.kind) (b := .s kid.text) (c := .isl 3 (Nd.encL kid.kids)) (y := true) (by simp [putL, hwt0]) (by simp [putL]) (by simp [putL]) rfl rfl rfl ?_
            intro tA hwA h7A h8A hkA
            refine ⟨_, _, _, rfl, rfl, ?_⟩
            refine round_b hC (a := .i .i64 kid.kind) (b := .s kid.text) (c := .isl 3 (Nd.encL kid.kids)) hwA h7A h8A (by rw [hkA 6 (by omega)]; simp [putL, e6]) (by simp) (B := [.i .i64 cur.kind, .s cur.text, .isl 3 (Nd.encL cur.kids)]) (by rw [List.getElem?_append_left (by simp; omega), List.getElem?_set_ne (by omega)]; exact g3) rfl rfl rfl rfl ?_
            intro tB
            refine ⟨_, rfl, none, _, ⟨rfl, rfl⟩, ?t26, ?H26, ?er6, ?_⟩
            case er6 =>
              refine evSeq_go rfl (by simp [h0, h1, h2, h6, h7, h8, encI_length, hlt, hat, hat2, g1, g2, g3, g4, hlo, hhi, hlo2, hhi2, hik, hik2, hnl, gl4] <;> rfl) (by rfl) (by simp [hw]) ?_
              exact evSeq_nil
            rw [hrecE]
            refine inSeqG_norm ?_
            refine TriG.cond (o := ?o8) (b := ?b8) ?g8 ?r8 ?y8 ?n8
            case g8 => simp [h0, h1, h2, h6, h7, h8, encI_length, hlt, hat, hat2, g1, g2, g3, g4, hlo, hhi, hlo2, hhi2, hik, hik2, hnl] <;> rfl
            case r8 => rfl
            case y8 =>
              intro hy8
              simp at hy8
            case n8 =>
              intro hn8
              refine TriG.skip ?_
              refine inBlkG_norm ?_
              refine inSeqG_norm ?_
              refine TriG.reg (t' := ?t9) (H' := ?H9) TT_ok hC (by kernel_rfl) ?e9 ?q9
              case e9 =>
                refine go_false ?_
                refine evSeq_go rfl (by simp [h0, h1, h2, h6, h7, h8, encI_length, hlt, hat, hat2, g1, g2, g3, g4, hlo, hhi, hlo2, hhi2, hik, hik2, hnl] <;> rfl) (by rfl) (by simp [hw]) ?_
                refine evSeq_go rfl (by simp [h0, h1, h2, h6, h7, h8, encI_length, hlt, hat, hat2, g1, g2, g3, g4, hlo, hhi, hlo2, hhi2, hik, hik2, hnl] <;> rfl) (by rfl) (by simp [hw]) ?_
                exact evSeq_nil
              refine inLoopG_norm ?_
              refine ih (d ++ [i]) kid fin _ _ ?nI hf (by simp [hw]) (by simp [h0]) (by simp [h1]) (by simp [h2]) (by simp [h6]) (by simp [h7]) (by simp; exact wrap_i64 (by omega) (by simp at hlen; omega)) (by simpa using hlen) (by simpa using hE)
              case nI => simpa using nextI hI
        case n2 =>
          intro hn2
          exfalso
          simp at hn2 <;> omega
      · cases hf
    · cases hf

theorem bad_at {K : Heap} {n : Nat} (gl : K.length = n + 6) : AtBad (((K ++ ([some ⟨24, [.i .i64 0, .s [], .nils], .all⟩] : Heap)).set 1 (some ⟨24, [.i .i64 0, .s [], .nils], .all⟩)).set 2 (some ⟨28, [.i .i64 5], .all⟩)) (n + 7) := by
  refine ⟨by simp; omega, ?_, ?_⟩
  · rw [List.getElem?_set_ne (by omega), List.getElem?_set_self (by simp; omega)]
  · rw [List.getElem?_set_self (by simp; omega)]
theorem loop45b {call : CallF} (hC : call.Sound Tryz.prog TT) {r : Option Nat} {l : Nat} {rec : Loop} {t0 : Tm} (hst : rec.state = .ready) (hpd : rec.pending = none) (hps : rec.params = #[13, 14]) (hasg : rec.assign = asg) (hbdy : rec.body = bdy) (hwt0 : t0.wid = 21) (e4 : t0.get 4 = .ptr 1 0) (e5 : t0.get 5 = .ptr 2 0) (e6 : t0.get 6 = .ptr 3 0) {Q : Out → List HE → Prop} : ∀ (L d : List Int) (cur : Nd) (t : Tm) (K : Heap), AtS K cur d.length → walkN cur L = none → t.wid = 34 → t.get 0 = .yld l → t.get 1 = .ptr 5 0 → t.get 2 = .ptr 4 0 → t.get 6 = .isl 1 (encI (d ++ L)) → t.get 7 = .i .i64 (d ++ L).length → t.get 8 = .i .i64 d.length → (d ++ L).length < 1100000 → (∀ t' K', AtBad K' (d.length + failAt cur L + 7) → Q (.ret t' K') [⟨l, .loop { rec with state := .done, pending := some .ret }, t0, rec.tmps⟩]) → LTriG Tryz.prog TT r [⟨l, .loop rec, t0, rec.tmps⟩] (sub [true, false, false] (bodyOf Tryz.f35)) t K Q := by
  have hrecE : (⟨l, .loop { rec with state := if (none : Option Code).isNone then .ready else .done, pending := none }, t0, rec.tmps⟩ : HE) = ⟨l, .loop rec, t0, rec.tmps⟩ := by
    cases rec
    simp only at hst hpd
    subst hst hpd
    rfl
  intro L
  induction L with
  | nil =>
    intro d cur t K hI hf
    simp [walkN] at hf
  | cons i L ih =>
    intro d cur t K hI hf hw h0 h1 h2 h6 h7 h8 hlen hR
    have hlt := fin_len d.length L.length
    have hat := encI_at d i L
    have hat2 := encI_at2 d i L
    have hnl := Nd.encL_length cur.kids
    obtain ⟨g1, g2, g3, g4, gl⟩ := hI
    have hI : AtS K cur d.length := ⟨g1, g2, g3, g4, gl⟩
    have gl4 : 4 < K.length := by omega
    simp only [walkN] at hf
    split at hf
    · rename_i hr
      obtain ⟨hlo, hhi⟩ := hr
      have hlo2 : ¬ i < 0 := by omega
      have hhi2 : ¬ ((cur.kids.length : Int) ≤ i) := by omega
      split at hf
      · rename_i kid hk
        have hik := encL_get hk
        have hik2 : ∀ h, (Nd.encL cur.kids)[i.toNat]'h = .agg [.i .i64 kid.kind, .s kid.text, .isl 3 (Nd.encL kid.kids)] := fun h => Option.some.inj ((List.getElem?_eq_getElem h).symm.trans hik)
        have hfa : failAt cur (i :: L) = failAt kid L + 1 := by
          simp only [failAt]
          rw [if_pos ⟨hlo, hhi⟩, hk]
        have nextI := fun (h : AtS K cur d.length) => AtS.next (kid := kid) h
        refine LTriG.round ?_
        refine TriG.seq ?_
        refine TriG.reg (t' := ?t1) (H' := ?H1) TT_ok hC (by kernel_rfl) ?e1 ?q1
        case e1 =>
          refine go_false ?_
          refine evSeq_go rfl (by simp [h0, h1, h2, h6, h7, h8, encI_length, hlt, hat, hat2, g1, g2, g3, g4, hlo, hhi, hlo2, hhi2, hik, hik2, hnl] <;> rfl) (by rfl) (by simp [hw]) ?_
          exact evSeq_nil
        refine inSeqG_norm ?_
        refine TriG.seq ?_
        refine TriG.cond (o := ?o2) (b := ?b2) ?g2 ?r2 ?y2 ?n2
        case g2 => simp [h0, h1, h2, h6, h7, h8, encI_length, hlt, hat, hat2, g1, g2, g3, g4, hlo, hhi, hlo2, hhi2, hik, hik2, hnl] <;> rfl
        case r2 => rfl
        case y2 =>
          intro hy2
          refine TriG.skip ?_
          refine inSeqG_norm ?_
          refine TriG.seq ?_
          refine TriG.block ?_
          refine TriG.seq ?_
          refine TriG.reg (t' := ?t3) (H' := ?H3) TT_ok hC (by kernel_rfl) ?e3 ?q3
          case e3 =>
            refine go_false ?_
            refine evSeq_go rfl (by simp [h0, h1, h2, h6, h7, h8, encI_length, hlt, hat, hat2, g1, g2, g3, g4, hlo, hhi, hlo2, hhi2, hik, hik2, hnl] <;> rfl) (by rfl) (by simp [hw]) ?_
            refine evSeq_go rfl (by simp [h0, h1, h2, h6, h7, h8, encI_length, hlt, hat, hat2, g1, g2, g3, g4, hlo, hhi, hlo2, hhi2, hik, hik2, hnl] <;> rfl) (by rfl) (by simp [hw]) ?_
            refine evSeq_go rfl (by simp [h0, h1, h2, h6, h7, h8, encI_length, hlt, hat, hat2, g1, g2, g3, g4, hlo, hhi, hlo2, hhi2, hik, hik2, hnl] <;> rfl) (by rfl) (by simp [hw]) ?_
            exact evSeq_nil
          refine inSeqG_norm ?_
          refine TriG.seq ?_
          refine TriG.seq ?_
          refine TriG.reg (t' := ?t4) (H' := ?H4) TT_ok hC (by kernel_rfl) ?e4 ?q4
          case e4 =>
            refine go_false ?_
            refine evSeq_go rfl (by simp [h0, h1, h2, h6, h7, h8, encI_length, hlt, hat, hat2, g1, g2, g3, g4, hlo, hhi, hlo2, hhi2, hik, hik2, hnl] <;> rfl) (by rfl) (by simp [hw]) ?_
            refine evSeq_go rfl (by simp [h0, h1, h2, h6, h7, h8, encI_length, hlt, hat, hat2, g1, g2, g3, g4, hlo, hhi, hlo2, hhi2, hik, hik2, hnl] <;> rfl) (by rfl) (by simp [hw]) ?_
            refine evSeq_go rfl (by simp [h0, h1, h2, h6, h7, h8, encI_length, hlt, hat, hat2, g1, g2, g3, g4, hlo, hhi, hlo2, hhi2, hik, hik2, hnl] <;> rfl) (by rfl) (by simp [hw]) ?_
            refine evSeq_go (by simp [wants, h0, h1, h2, h6, h7, h8, encI_length, hlt, hat, hat2, g1, g2, g3, g4, hlo, hhi, hlo2, hhi2, hik, hik2, hnl]) (by simp [h0, h1, h2, h6, h7, h8, encI_length, hlt, hat, hat2, g1, g2, g3, g4, hlo, hhi, hlo2, hhi2, hik, hik2, hnl] <;> rfl) (by rfl) (by simp [hw]) ?_
            refine evSeq_go (by simp [wants, h0, h1, h2, h6, h7, h8, encI_length, hlt, hat, hat2, g1, g2, g3, g4, hlo, hhi, hlo2, hhi2, hik, hik2, hnl]) (by simp [h0, h1, h2, h6, h7, h8, encI_length, hlt, hat, hat2, g1, g2, g3, g4, hlo, hhi, hlo2, hhi2, hik, hik2, hnl] <;> rfl) (by rfl) (by simp [hw]) ?_
            refine evSeq_go (by simp [wants, h0, h1, h2, h6, h7, h8, encI_length, hlt, hat, hat2, g1, g2, g3, g4, hlo, hhi, hlo2, hhi2, hik, hik2, hnl]) (by simp [h0, h1, h2, h6, h7, h8, encI_length, hlt, hat, hat2, g1, g2, g3, g4, hlo, hhi, hlo2, hhi2, hik, hik2, hnl] <;> rfl) (by rfl) (by simp [hw]) ?_
            refine evSeq_go (by simp [wants, h0, h1, h2, h6, h7, h8, encI_length, hlt, hat, hat2, g1, g2, g3, g4, hlo, hhi, hlo2, hhi2, hik, hik2, hnl]) (by simp [h0, h1, h2, h6, h7, h8, encI_length, hlt, hat, hat2, g1, g2, g3, g4, hlo, hhi, hlo2, hhi2, hik, hik2, hnl] <;> rfl) (by rfl) (by simp [hw]) ?_
            refine evSeq_go (by simp [wants, h0, h1, h2, h6, h7, h8, encI_length, hlt, hat, hat2, g1, g2, g3, g4, hlo, hhi, hlo2, hhi2, hik, hik2, hnl]) (by simp [h0, h1, h2, h6, h7, h8, encI_length, hlt, hat, hat2, g1, g2, g3, g4, hlo, hhi, hlo2, hhi2, hik, hik2, hnl] <;> rfl) (by rfl) (by simp [hw]) ?_
            refine evSeq_go rfl (by simp [h0, h1, h2, h6, h7, h8, encI_length, hlt, hat, hat2, g1, g2, g3, g4, hlo, hhi, hlo2, hhi2, hik, hik2, hnl] <;> rfl) (by rfl) (by simp [hw]) ?_
            exact evSeq_nil
          refine inSeqG_norm ?_
          refine TriG.cond (o := ?o5) (b := ?b5) ?g5 ?r5 ?y5 ?n5
          case g5 => simp [h0, h1, h2, h6, h7, h8, encI_length, hlt, hat, hat2, g1, g2, g3, g4, hlo, hhi, hlo2, hhi2, hik, hik2, hnl] <;> rfl
          case r5 => rfl
          case y5 =>
            intro hy5
            exact absurd hy5 (by simp [h0, h1, h2, h6, h7, h8, encI_length, hlt, hat, hat2, g1, g2, g3, g4, hlo, hhi, hlo2, hhi2, hik, hik2, hnl])
          case n5 =>
            intro hn5
            refine TriG.skip ?_
            refine inSeqG_norm ?_
            refine TriG.seq ?_
            refine TriG.reg (t' := ?t6) (H' := ?H6) TT_ok hC (by kernel_rfl) ?e6 ?q6
            case e6 =>
              refine go_false ?_
              refine evSeq_go rfl (by simp [h0, h1, h2, h6, h7, h8, encI_length, hlt, hat, hat2, g1, g2, g3, g4, hlo, hhi, hlo2, hhi2, hik, hik2, hnl] <;> rfl) (by rfl) (by simp [hw]) ?_
              refine evSeq_go rfl (by simp [h0, h1, h2, h6, h7, h8, encI_length, hlt, hat, hat2, g1, g2, g3, g4, hlo, hhi, hlo2, hhi2, hik, hik2, hnl] <;> rfl) (by rfl) (by simp [hw]) ?_
              refine evSeq_go rfl (by simp [h0, h1, h2, h6, h7, h8, encI_length, hlt, hat, hat2, g1, g2, g3, g4, hlo, hhi, hlo2, hhi2, hik, hik2, hnl] <;> rfl) (by rfl) (by simp [hw]) ?_
              refine evSeq_go rfl (by simp [h0, h1, h2, h6, h7, h8, encI_length, hlt, hat, hat2, g1, g2, g3, g4, hlo, hhi, hlo2, hhi2, hik, hik2, hnl] <;> rfl) (by rfl) (by simp [hw]) ?_
              refine evSeq_go rfl (by simp [h0, h1, h2, h6, h7, h8, encI_length, hlt, hat, hat2, g1, g2, g3, g4, hlo, hhi, hlo2, hhi2, hik, hik2, hnl] <;> rfl) (by rfl) (by simp [hw]) ?_
              refine evSeq_go rfl (by simp [h0, h1, h2, h6, h7, h8, encI_length, hlt, hat, hat2, g1, g2, g3, g4, hlo, hhi, hlo2, hhi2, hik, hik2, hnl] <;> rfl) (by rfl) (by simp [hw]) ?_
              exact evSeq_nil
            refine inSeqG_norm ?_
            refine TriG.seq ?_
            refine TriG.yield (vs := [.agg [.i .i64 kid.kind, .s kid.text, .isl 3 (Nd.encL kid.kids)], .b true]) (t1 := ?ty6) (H1 := ?Hy6) TT_ok hC (by kernel_rfl) 2 hps hasg hbdy rfl rfl ?ey6 rfl ?jy6 ?vy6 rfl hst ?fy6 (by simp [hwt0]) ?_
            case ey6 =>
              refine evSeq_go rfl (by simp [h0, h1, h2, h6, h7, h8, encI_length, hlt, hat, hat2, g1, g2, g3, g4, hlo, hhi, hlo2, hhi2, hik, hik2, hnl, gl4] <;> rfl) (by rfl) (by simp [hw]) ?_
              refine evSeq_go rfl (by simp [h0, h1, h2, h6, h7, h8, encI_length, hlt, hat, hat2, g1, g2, g3, g4, hlo, hhi, hlo2, hhi2, hik, hik2, hnl, gl4] <;> rfl) (by rfl) (by simp [hw]) ?_
              exact evSeq_nil
            case jy6 => simp [h0, h1, h2, h6, h7, h8, encI_length, hlt, hat, hat2, g1, g2, g3, g4, hlo, hhi, hlo2, hhi2, hik, hik2, hnl, gl4]
            case vy6 => simp [h0, h1, h2, h6, h7, h8, encI_length, hlt, hat, hat2, g1, g2, g3, g4, hlo, hhi, hlo2, hhi2, hik, hik2, hnl, gl4]
            case fy6 => simp [fits_some, hw, Nat.blt_eq]
            refine round_a hC (a := .i .i64 kid.kind) (b := .s kid.text) (c := .isl 3 (Nd.encL kid.kids)) (y := true) (by simp [putL, hwt0]) (by simp [putL]) (by simp [putL]) rfl rfl rfl ?_
            intro tA hwA h7A h8A hkA
            refine ⟨_, _, _, rfl, rfl, ?_⟩
            refine round_b hC (a := .i .i64 kid.kind) (b := .s kid.text) (c := .isl 3 (Nd.encL kid.kids)) hwA h7A h8A (by rw [hkA 6 (by omega)]; simp [putL, e6]) (by simp) (B := [.i .i64 cur.kind, .s cur.text, .isl 3 (Nd.encL cur.kids)]) (by rw [List.getElem?_append_left (by simp; omega), List.getElem?_set_ne (by omega)]; exact g3) rfl rfl rfl rfl ?_
            intro tB
            refine ⟨_, rfl, none, _, ⟨rfl, rfl⟩, ?t26, ?H26, ?er6, ?_⟩
            case er6 =>
              refine evSeq_go rfl (by simp [h0, h1, h2, h6, h7, h8, encI_length, hlt, hat, hat2, g1, g2, g3, g4, hlo, hhi, hlo2, hhi2, hik, hik2, hnl, gl4] <;> rfl) (by rfl) (by simp [hw]) ?_
              exact evSeq_nil
            rw [hrecE]
            refine inSeqG_norm ?_
            refine TriG.cond (o := ?o8) (b := ?b8) ?g8 ?r8 ?y8 ?n8
            case g8 => simp [h0, h1, h2, h6, h7, h8, encI_length, hlt, hat, hat2, g1, g2, g3, g4, hlo, hhi, hlo2, hhi2, hik, hik2, hnl] <;> rfl
            case r8 => rfl
            case y8 =>
              intro hy8
              simp at hy8
            case n8 =>
              intro hn8
              refine TriG.skip ?_
              refine inBlkG_norm ?_
              refine inSeqG_norm ?_
              refine TriG.reg (t' := ?t9) (H' := ?H9) TT_ok hC (by kernel_rfl) ?e9 ?q9
              case e9 =>
                refine go_false ?_
                refine evSeq_go rfl (by simp [h0, h1, h2, h6, h7, h8, encI_length, hlt, hat, hat2, g1, g2, g3, g4, hlo, hhi, hlo2, hhi2, hik, hik2, hnl] <;> rfl) (by rfl) (by simp [hw]) ?_
                refine evSeq_go rfl (by simp [h0, h1, h2, h6, h7, h8, encI_length, hlt, hat, hat2, g1, g2, g3, g4, hlo, hhi, hlo2, hhi2, hik, hik2, hnl] <;> rfl) (by rfl) (by simp [hw]) ?_
                exact evSeq_nil
              refine inLoopG_norm ?_
              refine ih (d ++ [i]) kid _ _ ?nI hf (by simp [hw]) (by simp [h0]) (by simp [h1]) (by simp [h2]) (by simp [h6]) (by simp [h7]) (by simp; exact wrap_i64 (by omega) (by simp at hlen; omega)) (by simpa using hlen) (fun t2 K2 hb => hR t2 K2 (by rw [hfa]; simpa [Nat.add_assoc, Nat.add_comm, Nat.add_left_comm] using hb))
              case nI => simpa using nextI hI
        case n2 =>
          intro hn2
          exfalso
          simp at hn2 <;> omega
      · rename_i hk
        rw [List.getElem?_eq_none_iff] at hk
        omega
    · rename_i hr
      by_cases hneg : i < 0
      · skip
        refine LTriG.round ?_
        refine TriG.seq ?_
        refine TriG.reg (t' := ?tu1) (H' := ?Hu1) TT_ok hC (by kernel_rfl) ?eu1 ?qu1
        case eu1 =>
          refine go_false ?_
          refine evSeq_go rfl (by simp [h0, h1, h2, h6, h7, h8, encI_length, hlt, hat, hat2, g1, g2, g3, g4, hnl, hneg] <;> rfl) (by rfl) (by simp [hw]) ?_
          exact evSeq_nil
        refine inSeqG_norm ?_
        refine TriG.seq ?_
        refine TriG.cond (o := ?ou2) (b := ?bu2) ?gu2 ?ru2 ?yu2 ?nu2
        case gu2 => simp [h0, h1, h2, h6, h7, h8, encI_length, hlt, hat, hat2, g1, g2, g3, g4, hnl, hneg] <;> rfl
        case ru2 => rfl
        case yu2 =>
          intro hy2
          refine TriG.skip ?_
          refine inSeqG_norm ?_
          refine TriG.seq ?_
          refine TriG.block ?_
          refine TriG.seq ?_
          refine TriG.reg (t' := ?tu3) (H' := ?Hu3) TT_ok hC (by kernel_rfl) ?eu3 ?qu3
          case eu3 =>
            refine go_false ?_
            refine evSeq_go rfl (by simp [h0, h1, h2, h6, h7, h8, encI_length, hlt, hat, hat2, g1, g2, g3, g4, hnl, hneg] <;> rfl) (by rfl) (by simp [hw]) ?_
            refine evSeq_go rfl (by simp [h0, h1, h2, h6, h7, h8, encI_length, hlt, hat, hat2, g1, g2, g3, g4, hnl, hneg] <;> rfl) (by rfl) (by simp [hw]) ?_
            refine evSeq_go rfl (by simp [h0, h1, h2, h6, h7, h8, encI_length, hlt, hat, hat2, g1, g2, g3, g4, hnl, hneg] <;> rfl) (by rfl) (by simp [hw]) ?_
            exact evSeq_nil
          refine inSeqG_norm ?_
          refine TriG.seq ?_
          refine TriG.seq ?_
          refine TriG.reg (t' := ?tu4) (H' := ?Hu4) TT_ok hC (by kernel_rfl) ?eu4 ?qu4
          case eu4 =>
            refine go_false ?_
            refine evSeq_go rfl (by simp [h0, h1, h2, h6, h7, h8, encI_length, hlt, hat, hat2, g1, g2, g3, g4, hnl, hneg] <;> rfl) (by rfl) (by simp [hw]) ?_
            refine evSeq_go rfl (by simp [h0, h1, h2, h6, h7, h8, encI_length, hlt, hat, hat2, g1, g2, g3, g4, hnl, hneg] <;> rfl) (by rfl) (by simp [hw]) ?_
            refine evSeq_go rfl (by simp [h0, h1, h2, h6, h7, h8, encI_length, hlt, hat, hat2, g1, g2, g3, g4, hnl, hneg] <;> rfl) (by rfl) (by simp [hw]) ?_
            refine evSeq_off (by simp [wants, h0, h1, h2, h6, h7, h8, encI_length, hlt, hat, hat2, g1, g2, g3, g4, hnl, hneg]) (by simp [hw]) ?_
            refine evSeq_off (by simp [wants, h0, h1, h2, h6, h7, h8, encI_length, hlt, hat, hat2, g1, g2, g3, g4, hnl, hneg]) (by simp [hw]) ?_
            refine evSeq_off (by simp [wants, h0, h1, h2, h6, h7, h8, encI_length, hlt, hat, hat2, g1, g2, g3, g4, hnl, hneg]) (by simp [hw]) ?_
            refine evSeq_off (by simp [wants, h0, h1, h2, h6, h7, h8, encI_length, hlt, hat, hat2, g1, g2, g3, g4, hnl, hneg]) (by simp [hw]) ?_
            refine evSeq_off (by simp [wants, h0, h1, h2, h6, h7, h8, encI_length, hlt, hat, hat2, g1, g2, g3, g4, hnl, hneg]) (by simp [hw]) ?_
            refine evSeq_go rfl (by simp [h0, h1, h2, h6, h7, h8, encI_length, hlt, hat, hat2, g1, g2, g3, g4, hnl, hneg] <;> rfl) (by rfl) (by simp [hw]) ?_
            exact evSeq_nil
          refine inSeqG_norm ?_
          refine TriG.cond (o := ?ou5) (b := ?bu5) ?gu5 ?ru5 ?yu5 ?nu5
          case gu5 => simp [h0, h1, h2, h6, h7, h8, encI_length, hlt, hat, hat2, g1, g2, g3, g4, hnl, hneg] <;> rfl
          case ru5 => rfl
          case yu5 =>
            intro hy5
            refine TriG.seq ?_
            refine TriG.yield (vs := [.agg [.i .i64 0, .s [], .nils], .b false]) (t1 := ?ty4u) (H1 := ?Hy4u) TT_ok hC (by kernel_rfl) 2 hps hasg hbdy rfl rfl ?ey4u rfl ?jy4u ?vy4u rfl hst ?fy4u (by simp [hwt0]) ?_
            case ey4u =>
              refine evSeq_go rfl (by simp [h0, h1, h2, h6, h7, h8, encI_length, hlt, hat, hat2, g1, g2, g3, g4, hnl, hneg] <;> rfl) (by rfl) (by simp [hw]) ?_
              refine evSeq_go rfl (by simp [h0, h1, h2, h6, h7, h8, encI_length, hlt, hat, hat2, g1, g2, g3, g4, hnl, hneg] <;> rfl) (by rfl) (by simp [hw]) ?_
              exact evSeq_nil
            case jy4u => simp [h0, h1, h2, h6, h7, h8, encI_length, hlt, hat, hat2, g1, g2, g3, g4, hnl, hneg]
            case vy4u => simp [h0, h1, h2, h6, h7, h8, encI_length, hlt, hat, hat2, g1, g2, g3, g4, hnl, hneg]
            case fy4u => simp [fits_some, hw, Nat.blt_eq]
            refine round_a hC (a := .i .i64 0) (b := .s []) (c := .nils) (y := false) (by simp [putL, hwt0]) (by simp [putL]) (by simp [putL]) rfl rfl rfl ?_
            intro tA hwA h7A h8A hkA
            refine ⟨_, _, _, rfl, rfl, ?_⟩
            refine round_c hC (B := [.i .i64 0, .s [], .nils]) hwA h8A (by rw [hkA 4 (by omega)]; simp [putL, e4]) (by rw [hkA 5 (by omega)]; simp [putL, e5]) (by rw [List.getElem?_append_left (by omega)]; exact g1) rfl (fun u => by rw [List.getElem?_set_ne (by omega), List.getElem?_append_left (by omega)]; exact g2) ?_
            intro tB
            refine ⟨_, rfl, some .ret, _, ⟨rfl, rfl⟩, ?tu24, ?Hu24, ?er4u, ?_⟩
            case er4u =>
              exact evSeq_nil
            
            refine inSeqG_norm ?_
            refine TriG.ret ?_
            refine inSeqG_ret ?_
            refine inBlkG_ret ?_
            refine inSeqG_ret ?_
            refine inLoopG_ret ?_
            exact hR _ _ (by simpa [failAt, hr] using bad_at gl)
          case nu5 =>
            intro hn5
            simp at hn5
        case nu2 =>
          intro hn2
          exfalso
          simp at hn2 <;> omega
      · have hlo2 := hneg
        have hbig : (cur.kids.length : Int) ≤ i := by
          rcases Int.lt_or_le i cur.kids.length with h | h
          · exact absurd ⟨by omega, h⟩ hr
          · exact h
        refine LTriG.round ?_
        refine TriG.seq ?_
        refine TriG.reg (t' := ?tv1) (H' := ?Hv1) TT_ok hC (by kernel_rfl) ?ev1 ?qv1
        case ev1 =>
          refine go_false ?_
          refine evSeq_go rfl (by simp [h0, h1, h2, h6, h7, h8, encI_length, hlt, hat, hat2, g1, g2, g3, g4, hnl, hlo2, hbig] <;> rfl) (by rfl) (by simp [hw]) ?_
          exact evSeq_nil
        refine inSeqG_norm ?_
        refine TriG.seq ?_
        refine TriG.cond (o := ?ov2) (b := ?bv2) ?gv2 ?rv2 ?yv2 ?nv2
        case gv2 => simp [h0, h1, h2, h6, h7, h8, encI_length, hlt, hat, hat2, g1, g2, g3, g4, hnl, hlo2, hbig] <;> rfl
        case rv2 => rfl
        case yv2 =>
          intro hy2
          refine TriG.skip ?_
          refine inSeqG_norm ?_
          refine TriG.seq ?_
          refine TriG.block ?_
          refine TriG.seq ?_
          refine TriG.reg (t' := ?tv3) (H' := ?Hv3) TT_ok hC (by kernel_rfl) ?ev3 ?qv3
          case ev3 =>
            refine go_false ?_
            refine evSeq_go rfl (by simp [h0, h1, h2, h6, h7, h8, encI_length, hlt, hat, hat2, g1, g2, g3, g4, hnl, hlo2, hbig] <;> rfl) (by rfl) (by simp [hw]) ?_
            refine evSeq_go rfl (by simp [h0, h1, h2, h6, h7, h8, encI_length, hlt, hat, hat2, g1, g2, g3, g4, hnl, hlo2, hbig] <;> rfl) (by rfl) (by simp [hw]) ?_
            refine evSeq_go rfl (by simp [h0, h1, h2, h6, h7, h8, encI_length, hlt, hat, hat2, g1, g2, g3, g4, hnl, hlo2, hbig] <;> rfl) (by rfl) (by simp [hw]) ?_
            exact evSeq_nil
          refine inSeqG_norm ?_
          refine TriG.seq ?_
          refine TriG.seq ?_
          refine TriG.reg (t' := ?tv4) (H' := ?Hv4) TT_ok hC (by kernel_rfl) ?ev4 ?qv4
          case ev4 =>
            refine go_false ?_
            refine evSeq_go rfl (by simp [h0, h1, h2, h6, h7, h8, encI_length, hlt, hat, hat2, g1, g2, g3, g4, hnl, hlo2, hbig] <;> rfl) (by rfl) (by simp [hw]) ?_
            refine evSeq_go rfl (by simp [h0, h1, h2, h6, h7, h8, encI_length, hlt, hat, hat2, g1, g2, g3, g4, hnl, hlo2, hbig] <;> rfl) (by rfl) (by simp [hw]) ?_
            refine evSeq_go rfl (by simp [h0, h1, h2, h6, h7, h8, encI_length, hlt, hat, hat2, g1, g2, g3, g4, hnl, hlo2, hbig] <;> rfl) (by rfl) (by simp [hw]) ?_
            refine evSeq_go (by simp [wants, h0, h1, h2, h6, h7, h8, encI_length, hlt, hat, hat2, g1, g2, g3, g4, hnl, hlo2, hbig]) (by simp [h0, h1, h2, h6, h7, h8, encI_length, hlt, hat, hat2, g1, g2, g3, g4, hnl, hlo2, hbig] <;> rfl) (by rfl) (by simp [hw]) ?_
            refine evSeq_go (by simp [wants, h0, h1, h2, h6, h7, h8, encI_length, hlt, hat, hat2, g1, g2, g3, g4, hnl, hlo2, hbig]) (by simp [h0, h1, h2, h6, h7, h8, encI_length, hlt, hat, hat2, g1, g2, g3, g4, hnl, hlo2, hbig] <;> rfl) (by rfl) (by simp [hw]) ?_
            refine evSeq_go (by simp [wants, h0, h1, h2, h6, h7, h8, encI_length, hlt, hat, hat2, g1, g2, g3, g4, hnl, hlo2, hbig]) (by simp [h0, h1, h2, h6, h7, h8, encI_length, hlt, hat, hat2, g1, g2, g3, g4, hnl, hlo2, hbig] <;> rfl) (by rfl) (by simp [hw]) ?_
            refine evSeq_go (by simp [wants, h0, h1, h2, h6, h7, h8, encI_length, hlt, hat, hat2, g1, g2, g3, g4, hnl, hlo2, hbig]) (by simp [h0, h1, h2, h6, h7, h8, encI_length, hlt, hat, hat2, g1, g2, g3, g4, hnl, hlo2, hbig] <;> rfl) (by rfl) (by simp [hw]) ?_
            refine evSeq_go (by simp [wants, h0, h1, h2, h6, h7, h8, encI_length, hlt, hat, hat2, g1, g2, g3, g4, hnl, hlo2, hbig]) (by simp [h0, h1, h2, h6, h7, h8, encI_length, hlt, hat, hat2, g1, g2, g3, g4, hnl, hlo2, hbig] <;> rfl) (by rfl) (by simp [hw]) ?_
            refine evSeq_go rfl (by simp [h0, h1, h2, h6, h7, h8, encI_length, hlt, hat, hat2, g1, g2, g3, g4, hnl, hlo2, hbig] <;> rfl) (by rfl) (by simp [hw]) ?_
            exact evSeq_nil
          refine inSeqG_norm ?_
          refine TriG.cond (o := ?ov5) (b := ?bv5) ?gv5 ?rv5 ?yv5 ?nv5
          case gv5 => simp [h0, h1, h2, h6, h7, h8, encI_length, hlt, hat, hat2, g1, g2, g3, g4, hnl, hlo2, hbig] <;> rfl
          case rv5 => rfl
          case yv5 =>
            intro hy5
            refine TriG.seq ?_
            refine TriG.yield (vs := [.agg [.i .i64 0, .s [], .nils], .b false]) (t1 := ?ty4v) (H1 := ?Hy4v) TT_ok hC (by kernel_rfl) 2 hps hasg hbdy rfl rfl ?ey4v rfl ?jy4v ?vy4v rfl hst ?fy4v (by simp [hwt0]) ?_
            case ey4v =>
              refine evSeq_go rfl (by simp [h0, h1, h2, h6, h7, h8, encI_length, hlt, hat, hat2, g1, g2, g3, g4, hnl, hlo2, hbig] <;> rfl) (by rfl) (by simp [hw]) ?_
              refine evSeq_go rfl (by simp [h0, h1, h2, h6, h7, h8, encI_length, hlt, hat, hat2, g1, g2, g3, g4, hnl, hlo2, hbig] <;> rfl) (by rfl) (by simp [hw]) ?_
              exact evSeq_nil
            case jy4v => simp [h0, h1, h2, h6, h7, h8, encI_length, hlt, hat, hat2, g1, g2, g3, g4, hnl, hlo2, hbig]
            case vy4v => simp [h0, h1, h2, h6, h7, h8, encI_length, hlt, hat, hat2, g1, g2, g3, g4, hnl, hlo2, hbig]
            case fy4v => simp [fits_some, hw, Nat.blt_eq]
            refine round_a hC (a := .i .i64 0) (b := .s []) (c := .nils) (y := false) (by simp [putL, hwt0]) (by simp [putL]) (by simp [putL]) rfl rfl rfl ?_
            intro tA hwA h7A h8A hkA
            refine ⟨_, _, _, rfl, rfl, ?_⟩
            refine round_c hC (B := [.i .i64 0, .s [], .nils]) hwA h8A (by rw [hkA 4 (by omega)]; simp [putL, e4]) (by rw [hkA 5 (by omega)]; simp [putL, e5]) (by rw [List.getElem?_append_left (by omega)]; exact g1) rfl (fun u => by rw [List.getElem?_set_ne (by omega), List.getElem?_append_left (by omega)]; exact g2) ?_
            intro tB
            refine ⟨_, rfl, some .ret, _, ⟨rfl, rfl⟩, ?tv24, ?Hv24, ?er4v, ?_⟩
            case er4v =>
              exact evSeq_nil
            
            refine inSeqG_norm ?_
            refine TriG.ret ?_
            refine inSeqG_ret ?_
            refine inBlkG_ret ?_
            refine inSeqG_ret ?_
            refine inLoopG_ret ?_
            exact hR _ _ (by simpa [failAt, hr] using bad_at gl)
          case nv5 =>
            intro hn5
            simp at hn5
        case nv2 =>
          intro hn2
          exfalso
          simp at hn2 <;> omega

end Go.Ev
