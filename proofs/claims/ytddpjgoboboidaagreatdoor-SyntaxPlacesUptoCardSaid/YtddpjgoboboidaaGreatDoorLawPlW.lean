/- Walks over the law. -/
import Derived.Test.YtddpjgoboboidaaGreatDoorPtS
import Derived.Test.YtddpjgoboboidaaGreatDoorAw
import Derived.Test.YtddpjgoboboidaaGreatDoorEvIter
namespace Go.Ev
open Go Go.Proofs
set_option maxRecDepth 100000
set_option linter.unusedSimpArgs false
set_option linter.unusedVariables false
def enc8 (q : List Int) : List V := q.map (V.i .u8)
theorem enc8_length (p : List Int) : (enc8 p).length = p.length := by simp [enc8]
theorem enc8_at (d : List Int) (i : Int) (r : List Int) : (enc8 (d ++ i :: r))[d.length]? = some (.i .u8 i) := by simp [enc8]
theorem enc8_at2 (d : List Int) (i : Int) (r : List Int) : ∀ h, (enc8 (d ++ i :: r))[d.length]'h = .i .u8 i := fun h => by simp [enc8]
theorem enc8_nl (p : List Int) : nlL (enc8 p) = true := by
  induction p with
  | nil => rfl
  | cons x p ih => simpa [enc8, nlL, nl] using ih
/-- A path as it grows. -/
def PathIn (H : Heap) (v : V) (d : List Int) : Prop := (d = [] ∧ v = .nils) ∨ (d ≠ [] ∧ ∃ b, 3 ≤ b ∧ v = .sl b 1 0 d.length none ∧ H[b]? = some (some ⟨3, encI d, .more⟩))
theorem encI_flat (d : List Int) : (encI d).all flat = true := by
  induction d with
  | nil => rfl
  | cons x d ih => simp [encI, flat]
theorem build_one (H : Heap) (i : Int) : evBuildSlice TT 25 1 [(0, .i .i64 i)] H = .val (.sl H.length 1 0 1 (some 1)) (H ++ [some ⟨3, [.i .i64 i], .all⟩]) := by
  simp only [evBuildSlice, tU, Tryz.underlying25, tS3, tZ3]
  simp [reps, fillV, newB_eq, V.cells, placesOf]
theorem path_append {H : Heap} {v : V} {d : List Int} (i : Int) (h : PathIn H v d) (h3 : 3 ≤ H.length) (hd : d.length < 1000) : ∃ v' H', evAppend TT 25 v (.sl H.length 1 0 1 (some 1)) (H ++ [some ⟨3, [.i .i64 i], .all⟩]) = .val v' H' ∧ PathIn H' v' (d ++ [i]) ∧ (∀ k, k < 3 → H'[k]? = H[k]?) ∧ 3 ≤ H'.length := by
  have hc : cellsAt (H ++ [some ⟨3, [.i .i64 i], .all⟩]) H.length = some ⟨3, [.i .i64 i], .all⟩ := by simp [cellsAt]
  have hA : appended TT 3 1 (H ++ [some ⟨3, [.i .i64 i], .all⟩]) (.sl H.length 1 0 1 (some 1)) = some ([.i .i64 i], 1) := by
    simp [appended, hc, cut]
  rcases h with ⟨rfl, rfl⟩ | ⟨hne, b, hb3, rfl, hb⟩
  · refine ⟨.sl (H.length + 1) 1 0 1 none, H ++ [some ⟨3, [.i .i64 i], .all⟩, some ⟨3, [.i .i64 i], .more⟩], ?_, .inr ⟨by simp, H.length + 1, by omega, rfl, by simp [encI]⟩, fun k hk => by rw [List.getElem?_append_left (by omega)], by simp; omega⟩
    simp only [evAppend, tU, Tryz.underlying25, tS3, tB3, tZ3, hA]
    simp [newB_eq, flat, V.cells]
  · have hbl : b < H.length := (List.getElem?_eq_some_iff.1 hb).1
    have hcb : cellsAt (H ++ [some ⟨3, [.i .i64 i], .all⟩]) b = some ⟨3, encI d, .more⟩ := by
      simp only [cellsAt]
      rw [List.getElem?_append_left hbl, hb]
      simp
    have hcut : cut (encI d) (0 * 1) (d.length * 1) = some (encI d) := by
      simp only [cut]
      rw [if_pos (by rw [encI_length]; omega), Nat.zero_mul, List.drop_zero, List.take_of_length_le (by rw [encI_length]; omega)]
    refine ⟨.sl (H.length + 1) 1 0 (d.length + 1) none, ((H ++ [(some ⟨3, [.i .i64 i], .all⟩ : Option Blk)]).set b none) ++ [(some ⟨3, encI (d ++ [i]), .more⟩ : Option Blk)], ?_, .inr ⟨by simp, H.length + 1, by omega, by simp, by simp⟩, fun k hk => ?_, by simp; omega⟩
    · simp only [evAppend, tU, Tryz.underlying25, tS3, tB3, tZ3, hA]
      rw [if_pos ⟨by decide, rfl, by decide, by simp [flat]⟩]
      simp only [hcb, hcut]
      rw [if_pos ⟨trivial, by omega, by omega⟩]
      simp only [Nat.one_ne_zero, if_false, encI_length, Nat.mul_one, true_and, and_self, if_true, setK_eq, newB_eq]
      simp [encI]
    · rw [List.getElem?_append_left (by simp; omega), List.getElem?_set_ne (by omega), List.getElem?_append_left (by omega)]
theorem walkN_snoc : ∀ (d : List Int) (x cur k : Nd) (i : Int), walkN x d = some cur → 0 ≤ i → i < cur.kids.length → cur.kids[i.toNat]? = some k → walkN x (d ++ [i]) = some k
  | [], x, cur, k, i, h, h1, h2, h3 => by
    simp only [walkN, Option.some.injEq] at h
    subst h
    simp only [List.nil_append, walkN]
    rw [if_pos ⟨h1, h2⟩, h3]
  | j :: d, x, cur, k, i, h, h1, h2, h3 => by
    simp only [walkN] at h
    simp only [List.cons_append, walkN]
    split at h
    · rename_i hr
      rw [if_pos hr]
      split at h
      · rename_i z hz
        exact walkN_snoc d z cur k i h h1 h2 h3
      · cases h
    · cases h
/-- The law's boxes. -/
structure LawH (H : Heap) (x y cur : Nd) : Prop where
  g0 : H[0]? = some (some ⟨24, [.i .i64 x.kind, .s x.text, .isl 3 (Nd.encL x.kids)], .all⟩)
  g1 : H[1]? = some (some ⟨24, [.i .i64 y.kind, .s y.text, .isl 3 (Nd.encL y.kids)], .all⟩)
  g2 : H[2]? = some (some ⟨24, [.i .i64 cur.kind, .s cur.text, .isl 3 (Nd.encL cur.kids)], .all⟩)
theorem LawH.len {H : Heap} {x y cur : Nd} (h : LawH H x y cur) : 3 ≤ H.length := (List.getElem?_eq_some_iff.1 h.g2).1
theorem LawH.keep {H H' : Heap} {x y cur : Nd} (h : LawH H x y cur) (hk : ∀ k, k < 3 → H'[k]? = H[k]?) : LawH H' x y cur := ⟨(hk 0 (by omega)).trans h.g0, (hk 1 (by omega)).trans h.g1, (hk 2 (by omega)).trans h.g2⟩
theorem LawH.put {H : Heap} {x y cur k : Nd} (h : LawH H x y cur) : LawH (H.set 2 (some ⟨24, [.i .i64 k.kind, .s k.text, .isl 3 (Nd.encL k.kids)], .all⟩)) x y k := ⟨by rw [List.getElem?_set_ne (by omega)]; exact h.g0, by rw [List.getElem?_set_ne (by omega)]; exact h.g1, by rw [List.getElem?_set_self h.len]⟩
theorem PathIn.put {H : Heap} {v : V} {d : List Int} (h : PathIn H v d) (u : Option Blk) : PathIn (H.set 2 u) v d := by
  rcases h with h | ⟨h1, b, h2, h3, h4⟩
  · exact .inl h
  · exact .inr ⟨h1, b, h2, h3, by rw [List.getElem?_set_ne (by omega)]; exact h4⟩
theorem loop1004 {call : CallF} (hC : call.Sound Tryz.prog TT) (x y : Nd) {Q : Out → Prop} : ∀ (L pre d : List Int) (cur : Nd) (t : Tm) (H : Heap), LawH H x y cur → PathIn H (t.get 8) d → walkN x d = some cur → (∀ c ∈ L, 0 ≤ c ∧ c < 256) → (pre ++ L).length < 900 → d.length ≤ pre.length →
    t.wid = 138 → t.get 3 = .ptr 0 0 → t.get 4 = .ptr 1 0 → t.get 7 = .ptr 2 0 → (∀ v, t.get 8 = v → True) → t.get 32 = .isl 1 (enc8 (pre ++ L)) → t.get 33 = .i .i64 (pre ++ L).length → t.get 34 = .i .i64 pre.length →
    (∀ (t' : Tm) (H' : Heap) (d' : List Int) (cur' : Nd), t'.wid = 138 → t'.get 3 = .ptr 0 0 → t'.get 4 = .ptr 1 0 → t'.get 7 = .ptr 2 0 → PathIn H' (t'.get 8) d' → LawH H' x y cur' → walkN x d' = some cur' → d'.length ≤ (pre ++ L).length → Q (.exit 0 t' H')) →
    LTri Tryz.prog TT (sub [true, true, true, true, false, true, false, false] (bodyOf Tryz.f4)) t H Q := by
  intro L
  induction L with
  | nil =>
    intro pre d cur t H hL hP hwk h256 hlen hdl hw h3 h4 h7 h80 h32 h33 h34 hE
    have g2 := hL.g2
    obtain ⟨pv, h8⟩ : ∃ pv, t.get 8 = pv := ⟨_, rfl⟩
    rw [h8] at hP
    refine LTri.round' ?_
    refine Tri.seq' ?_
    refine Tri.regN (t' := ?tz1) (H' := ?Hz1) TT_ok hC ?ez1 ?qz1
    case ez1 =>
      refine go_false ?_
      refine evSeq_go rfl (by simp [h3, h4, h7, h8, h32, h33, h34, enc8_length, Nd.encL_length, g2] <;> rfl) (by rfl) (by simp [hw]) ?_
      exact evSeq_nil
    refine inSeq_norm ?_
    refine Tri.seq' ?_
    refine Tri.condG (o := ?oz2) (b := ?bz2) ?gz2 ?rz2 ?yz2 ?nz2
    case gz2 => simp [h3, h4, h7, h8, h32, h33, h34, enc8_length, Nd.encL_length, g2] <;> rfl
    case rz2 => rfl
    case yz2 =>
      intro hy2
      simp at hy2
    case nz2 =>
      intro hn2
      refine Tri.exit ?_
      refine inSeq_exit ?_
      refine inLoop_exit ?_
      exact hE _ _ d cur (by simp [hw]) (by simp [h3]) (by simp [h4]) (by simp [h7]) (by simpa [h8] using hP) hL hwk (by simp only [List.length_append, List.length_cons, List.length_nil]; omega)
  | cons c L ih =>
    intro pre d cur t H hL hP hwk h256 hlen hdl hw h3 h4 h7 h80 h32 h33 h34 hE
    have g2 := hL.g2
    obtain ⟨pv, h8⟩ : ∃ pv, t.get 8 = pv := ⟨_, rfl⟩
    rw [h8] at hP
    have hlt := fin_len pre.length L.length
    have hat := enc8_at pre c L
    have hat2 := enc8_at2 pre c L
    obtain ⟨c0, c1⟩ := h256 c (by simp)
    by_cases hzz : cur.kids.length = 0
    · have hz : ((cur.kids.length : Int) == 0) = true := by rw [hzz]; rfl
      refine LTri.round' ?_
      refine Tri.seq' ?_
      refine Tri.regN (t' := ?ts1) (H' := ?Hs1) TT_ok hC ?es1 ?qs1
      case es1 =>
        refine go_false ?_
        refine evSeq_go rfl (by simp [h3, h4, h7, h8, h32, h33, h34, enc8_length, Nd.encL_length, g2, hlt, hat, hat2, hz] <;> rfl) (by rfl) (by simp [hw]) ?_
        exact evSeq_nil
      refine inSeq_norm ?_
      refine Tri.seq' ?_
      refine Tri.condG (o := ?os2) (b := ?bs2) ?gs2 ?rs2 ?ys2 ?ns2
      case gs2 => simp [h3, h4, h7, h8, h32, h33, h34, enc8_length, Nd.encL_length, g2, hlt, hat, hat2, hz] <;> rfl
      case rs2 => rfl
      case ys2 =>
        intro hy2
        refine Tri.skip ?_
        refine inSeq_norm ?_
        refine Tri.seq' ?_
        refine Tri.block' ?_
        refine Tri.seq' ?_
        refine Tri.regN (t' := ?ts3) (H' := ?Hs3) TT_ok hC ?es3 ?qs3
        case es3 =>
          refine go_false ?_
          refine evSeq_go rfl (by simp [h3, h4, h7, h8, h32, h33, h34, enc8_length, Nd.encL_length, g2, hlt, hat, hat2, hz] <;> rfl) (by rfl) (by simp [hw]) ?_
          refine evSeq_go rfl (by simp [h3, h4, h7, h8, h32, h33, h34, enc8_length, Nd.encL_length, g2, hlt, hat, hat2, hz] <;> rfl) (by rfl) (by simp [hw]) ?_
          refine evSeq_go rfl (by simp [h3, h4, h7, h8, h32, h33, h34, enc8_length, Nd.encL_length, g2, hlt, hat, hat2, hz] <;> rfl) (by rfl) (by simp [hw]) ?_
          exact evSeq_nil
        refine inSeq_norm ?_
        refine Tri.seq' ?_
        refine Tri.seq' ?_
        refine Tri.regN (t' := ?ts4) (H' := ?Hs4) TT_ok hC ?es4 ?qs4
        case es4 =>
          refine go_false ?_
          refine evSeq_go rfl (by simp [h3, h4, h7, h8, h32, h33, h34, enc8_length, Nd.encL_length, g2, hlt, hat, hat2, hz] <;> rfl) (by rfl) (by simp [hw]) ?_
          refine evSeq_go rfl (by simp [h3, h4, h7, h8, h32, h33, h34, enc8_length, Nd.encL_length, g2, hlt, hat, hat2, hz] <;> rfl) (by rfl) (by simp [hw]) ?_
          refine evSeq_go rfl (by simp [h3, h4, h7, h8, h32, h33, h34, enc8_length, Nd.encL_length, g2, hlt, hat, hat2, hz] <;> rfl) (by rfl) (by simp [hw]) ?_
          refine evSeq_go rfl (by simp [h3, h4, h7, h8, h32, h33, h34, enc8_length, Nd.encL_length, g2, hlt, hat, hat2, hz] <;> rfl) (by rfl) (by simp [hw]) ?_
          exact evSeq_nil
        refine inSeq_norm ?_
        refine Tri.condG (o := ?os5) (b := ?bs5) ?gs5 ?rs5 ?ys5 ?ns5
        case gs5 => simp [h3, h4, h7, h8, h32, h33, h34, enc8_length, Nd.encL_length, g2, hlt, hat, hat2, hz] <;> rfl
        case rs5 => rfl
        case ys5 =>
          intro hy5
          refine Tri.exit ?_
          refine inSeq_exit ?_
          refine inBlk_pass rfl ?_
          refine inSeq_exit ?_
          refine inLoop_exit ?_
          exact hE _ _ d cur (by simp [hw]) (by simp [h3]) (by simp [h4]) (by simp [h7]) (by simpa [h8] using hP) hL hwk (by simp only [List.length_append, List.length_cons, List.length_nil]; omega)
        case ns5 =>
          intro hn5
          exact absurd hn5 (by simp [h3, h4, h7, h8, h32, h33, h34, enc8_length, Nd.encL_length, g2, hlt, hat, hat2, hz])
      case ns2 =>
        intro hn2
        exfalso
        simp at hn2
    · have hz : ((cur.kids.length : Int) == 0) = false := by
        rw [beq_eq_false_iff_ne]
        omega
      have hn0 : ¬ (cur.kids.length : Int) = 0 := by omega
      have hn1 : ¬ cur.kids = [] := fun e => hzz (by rw [e]; rfl)
      have hwc : IntKind.i64.wrap c = c := wrap_i64 (by omega) (by omega)
      have m0 : 0 ≤ Int.tmod c cur.kids.length := Int.tmod_nonneg _ c0
      have m1 : Int.tmod c cur.kids.length < cur.kids.length := Int.tmod_lt_of_pos _ (show (0 : Int) < cur.kids.length by omega)
      have m2 : ¬ Int.tmod c cur.kids.length < 0 := by omega
      have m3 : ¬ (cur.kids.length : Int) ≤ Int.tmod c cur.kids.length := by omega
      obtain ⟨kid, hk⟩ : ∃ kid, cur.kids[(Int.tmod c cur.kids.length).toNat]? = some kid := ⟨_, List.getElem?_eq_getElem (by omega)⟩
      have hik := encL_get hk
      have hik2 : ∀ h, (Nd.encL cur.kids)[(Int.tmod c cur.kids.length).toNat]'h = .agg [.i .i64 kid.kind, .s kid.text, .isl 3 (Nd.encL kid.kids)] := fun h => Option.some.inj ((List.getElem?_eq_getElem h).symm.trans hik)
      obtain ⟨pv', H1, hap, hP', hkeep, hl1⟩ := path_append (Int.tmod c cur.kids.length) hP hL.len (by simp at hlen; omega)
      have hL' := hL.keep hkeep
      have gg2 := hL'.g2
      refine LTri.round' ?_
      refine Tri.seq' ?_
      refine Tri.regN (t' := ?tg1) (H' := ?Hg1) TT_ok hC ?eg1 ?qg1
      case eg1 =>
        refine go_false ?_
        refine evSeq_go rfl (by simp [h3, h4, h7, h8, h32, h33, h34, enc8_length, Nd.encL_length, g2, hlt, hat, hat2, hz, hn0, hn1, hwc, build_one, hap, m0, m1, m2, m3, hik, hik2, gg2] <;> rfl) (by rfl) (by simp [hw]) ?_
        exact evSeq_nil
      refine inSeq_norm ?_
      refine Tri.seq' ?_
      refine Tri.condG (o := ?og2) (b := ?bg2) ?gg2 ?rg2 ?yg2 ?ng2
      case gg2 => simp [h3, h4, h7, h8, h32, h33, h34, enc8_length, Nd.encL_length, g2, hlt, hat, hat2, hz, hn0, hn1, hwc, build_one, hap, m0, m1, m2, m3, hik, hik2, gg2] <;> rfl
      case rg2 => rfl
      case yg2 =>
        intro hy2
        refine Tri.skip ?_
        refine inSeq_norm ?_
        refine Tri.seq' ?_
        refine Tri.block' ?_
        refine Tri.seq' ?_
        refine Tri.regN (t' := ?tg3) (H' := ?Hg3) TT_ok hC ?eg3 ?qg3
        case eg3 =>
          refine go_false ?_
          refine evSeq_go rfl (by simp [h3, h4, h7, h8, h32, h33, h34, enc8_length, Nd.encL_length, g2, hlt, hat, hat2, hz, hn0, hn1, hwc, build_one, hap, m0, m1, m2, m3, hik, hik2, gg2] <;> rfl) (by rfl) (by simp [hw]) ?_
          refine evSeq_go rfl (by simp [h3, h4, h7, h8, h32, h33, h34, enc8_length, Nd.encL_length, g2, hlt, hat, hat2, hz, hn0, hn1, hwc, build_one, hap, m0, m1, m2, m3, hik, hik2, gg2] <;> rfl) (by rfl) (by simp [hw]) ?_
          refine evSeq_go rfl (by simp [h3, h4, h7, h8, h32, h33, h34, enc8_length, Nd.encL_length, g2, hlt, hat, hat2, hz, hn0, hn1, hwc, build_one, hap, m0, m1, m2, m3, hik, hik2, gg2] <;> rfl) (by rfl) (by simp [hw]) ?_
          exact evSeq_nil
        refine inSeq_norm ?_
        refine Tri.seq' ?_
        refine Tri.seq' ?_
        refine Tri.regN (t' := ?tg4) (H' := ?Hg4) TT_ok hC ?eg4 ?qg4
        case eg4 =>
          refine go_false ?_
          refine evSeq_go rfl (by simp [h3, h4, h7, h8, h32, h33, h34, enc8_length, Nd.encL_length, g2, hlt, hat, hat2, hz, hn0, hn1, hwc, build_one, hap, m0, m1, m2, m3, hik, hik2, gg2] <;> rfl) (by rfl) (by simp [hw]) ?_
          refine evSeq_go rfl (by simp [h3, h4, h7, h8, h32, h33, h34, enc8_length, Nd.encL_length, g2, hlt, hat, hat2, hz, hn0, hn1, hwc, build_one, hap, m0, m1, m2, m3, hik, hik2, gg2] <;> rfl) (by rfl) (by simp [hw]) ?_
          refine evSeq_go rfl (by simp [h3, h4, h7, h8, h32, h33, h34, enc8_length, Nd.encL_length, g2, hlt, hat, hat2, hz, hn0, hn1, hwc, build_one, hap, m0, m1, m2, m3, hik, hik2, gg2] <;> rfl) (by rfl) (by simp [hw]) ?_
          refine evSeq_go rfl (by simp [h3, h4, h7, h8, h32, h33, h34, enc8_length, Nd.encL_length, g2, hlt, hat, hat2, hz, hn0, hn1, hwc, build_one, hap, m0, m1, m2, m3, hik, hik2, gg2] <;> rfl) (by rfl) (by simp [hw]) ?_
          exact evSeq_nil
        refine inSeq_norm ?_
        refine Tri.condG (o := ?og5) (b := ?bg5) ?gg5 ?rg5 ?yg5 ?ng5
        case gg5 => simp [h3, h4, h7, h8, h32, h33, h34, enc8_length, Nd.encL_length, g2, hlt, hat, hat2, hz, hn0, hn1, hwc, build_one, hap, m0, m1, m2, m3, hik, hik2, gg2] <;> rfl
        case rg5 => rfl
        case yg5 =>
          intro hy5
          exact absurd hy5 (by simp [h3, h4, h7, h8, h32, h33, h34, enc8_length, Nd.encL_length, g2, hlt, hat, hat2, hz, hn0, hn1, hwc, build_one, hap, m0, m1, m2, m3, hik, hik2, gg2])
        case ng5 =>
          intro hn5
          refine Tri.skip ?_
          refine inSeq_norm ?_
          refine Tri.seq' ?_
          refine Tri.regN (t' := ?tg6) (H' := ?Hg6) TT_ok hC ?eg6 ?qg6
          case eg6 =>
            refine go_false ?_
            refine evSeq_go rfl (by simp [h3, h4, h7, h8, h32, h33, h34, enc8_length, Nd.encL_length, g2, hlt, hat, hat2, hz, hn0, hn1, hwc, build_one, hap, m0, m1, m2, m3, hik, hik2, gg2] <;> rfl) (by rfl) (by simp [hw]) ?_
            refine evSeq_go rfl (by simp [h3, h4, h7, h8, h32, h33, h34, enc8_length, Nd.encL_length, g2, hlt, hat, hat2, hz, hn0, hn1, hwc, build_one, hap, m0, m1, m2, m3, hik, hik2, gg2] <;> rfl) (by rfl) (by simp [hw]) ?_
            refine evSeq_go rfl (by simp [h3, h4, h7, h8, h32, h33, h34, enc8_length, Nd.encL_length, g2, hlt, hat, hat2, hz, hn0, hn1, hwc, build_one, hap, m0, m1, m2, m3, hik, hik2, gg2] <;> rfl) (by rfl) (by simp [hw]) ?_
            refine evSeq_go rfl (by simp [h3, h4, h7, h8, h32, h33, h34, enc8_length, Nd.encL_length, g2, hlt, hat, hat2, hz, hn0, hn1, hwc, build_one, hap, m0, m1, m2, m3, hik, hik2, gg2] <;> rfl) (by rfl) (by simp [hw]) ?_
            refine evSeq_go rfl (by simp [h3, h4, h7, h8, h32, h33, h34, enc8_length, Nd.encL_length, g2, hlt, hat, hat2, hz, hn0, hn1, hwc, build_one, hap, m0, m1, m2, m3, hik, hik2, gg2] <;> rfl) (by rfl) (by simp [hw]) ?_
            refine evSeq_go rfl (by simp [h3, h4, h7, h8, h32, h33, h34, enc8_length, Nd.encL_length, g2, hlt, hat, hat2, hz, hn0, hn1, hwc, build_one, hap, m0, m1, m2, m3, hik, hik2, gg2] <;> rfl) (by rfl) (by simp [hw]) ?_
            refine evSeq_go rfl (by simp [h3, h4, h7, h8, h32, h33, h34, enc8_length, Nd.encL_length, g2, hlt, hat, hat2, hz, hn0, hn1, hwc, build_one, hap, m0, m1, m2, m3, hik, hik2, gg2] <;> rfl) (by rfl) (by simp [hw]) ?_
            refine evSeq_go rfl (by simp [h3, h4, h7, h8, h32, h33, h34, enc8_length, Nd.encL_length, g2, hlt, hat, hat2, hz, hn0, hn1, hwc, build_one, hap, m0, m1, m2, m3, hik, hik2, gg2] <;> rfl) (by rfl) (by simp [hw]) ?_
            refine evSeq_go rfl (by simp [h3, h4, h7, h8, h32, h33, h34, enc8_length, Nd.encL_length, g2, hlt, hat, hat2, hz, hn0, hn1, hwc, build_one, hap, m0, m1, m2, m3, hik, hik2, gg2] <;> rfl) (by rfl) (by simp [hw]) ?_
            refine evSeq_go rfl (by simp [h3, h4, h7, h8, h32, h33, h34, enc8_length, Nd.encL_length, g2, hlt, hat, hat2, hz, hn0, hn1, hwc, build_one, hap, m0, m1, m2, m3, hik, hik2, gg2] <;> rfl) (by rfl) (by simp [hw]) ?_
            exact evSeq_nil
          refine inSeq_norm ?_
          refine Tri.regN (t' := ?tg7) (H' := ?Hg7) TT_ok hC ?eg7 ?qg7
          case eg7 =>
            refine evReg_draw (t' := ?tg7) (H' := ?Hg7) (ks := [.q, .f, .q, .f, .q, .f, .q, .q, .q, .f, .e]) (fun _ => True) (by kernel_rfl) ?Ag907 ?_ ?rg907
            case Ag907 => simp [h3, h4, h7, h8, h32, h33, h34, enc8_length, Nd.encL_length, g2, hlt, hat, hat2, hz, hn0, hn1, hwc, build_one, hap, m0, m1, m2, m3, hik, hik2, gg2]
            refine DR.blind rfl rfl (by simp [h3, h4, h7, h8, h32, h33, h34, enc8_length, Nd.encL_length, g2, hlt, hat, hat2, hz, hn0, hn1, hwc, build_one, hap, m0, m1, m2, m3, hik, hik2, gg2] <;> rfl) (by rfl) (by simp [hw]) ?_
            refine DR.fix rfl (by simp [h3, h4, h7, h8, h32, h33, h34, enc8_length, Nd.encL_length, g2, hlt, hat, hat2, hz, hn0, hn1, hwc, build_one, hap, m0, m1, m2, m3, hik, hik2, gg2] <;> rfl) (by rfl) (by simp [hw]) ?_
            refine DR.blind rfl rfl (by simp [h3, h4, h7, h8, h32, h33, h34, enc8_length, Nd.encL_length, g2, hlt, hat, hat2, hz, hn0, hn1, hwc, build_one, hap, m0, m1, m2, m3, hik, hik2, gg2] <;> rfl) (by rfl) (by simp [hw]) ?_
            refine DR.fix rfl (by simp [h3, h4, h7, h8, h32, h33, h34, enc8_length, Nd.encL_length, g2, hlt, hat, hat2, hz, hn0, hn1, hwc, build_one, hap, m0, m1, m2, m3, hik, hik2, gg2] <;> rfl) (by rfl) (by simp [hw]) ?_
            refine DR.blind rfl rfl (by simp [h3, h4, h7, h8, h32, h33, h34, enc8_length, Nd.encL_length, g2, hlt, hat, hat2, hz, hn0, hn1, hwc, build_one, hap, m0, m1, m2, m3, hik, hik2, gg2] <;> rfl) (by rfl) (by simp [hw]) ?_
            refine DR.fix rfl (by simp [h3, h4, h7, h8, h32, h33, h34, enc8_length, Nd.encL_length, g2, hlt, hat, hat2, hz, hn0, hn1, hwc, build_one, hap, m0, m1, m2, m3, hik, hik2, gg2] <;> rfl) (by rfl) (by simp [hw]) ?_
            refine DR.blind rfl rfl (by simp [h3, h4, h7, h8, h32, h33, h34, enc8_length, Nd.encL_length, g2, hlt, hat, hat2, hz, hn0, hn1, hwc, build_one, hap, m0, m1, m2, m3, hik, hik2, gg2] <;> rfl) (by rfl) (by simp [hw]) ?_
            refine DR.blind rfl rfl (by simp [h3, h4, h7, h8, h32, h33, h34, enc8_length, Nd.encL_length, g2, hlt, hat, hat2, hz, hn0, hn1, hwc, build_one, hap, m0, m1, m2, m3, hik, hik2, gg2] <;> rfl) (by rfl) (by simp [hw]) ?_
            refine DR.blind rfl rfl (by simp [h3, h4, h7, h8, h32, h33, h34, enc8_length, Nd.encL_length, g2, hlt, hat, hat2, hz, hn0, hn1, hwc, build_one, hap, m0, m1, m2, m3, hik, hik2, gg2] <;> rfl) (by rfl) (by simp [hw]) ?_
            refine DR.fix rfl (by simp [h3, h4, h7, h8, h32, h33, h34, enc8_length, Nd.encL_length, g2, hlt, hat, hat2, hz, hn0, hn1, hwc, build_one, hap, m0, m1, m2, m3, hik, hik2, gg2] <;> rfl) (by rfl) (by simp [hw]) ?_
            refine DR.eff rfl rfl (by simp [h3, h4, h7, h8, h32, h33, h34, enc8_length, Nd.encL_length, g2, hlt, hat, hat2, hz, hn0, hn1, hwc, build_one, hap, m0, m1, m2, m3, hik, hik2, gg2] <;> rfl) (by rfl) (by simp [hw]) (by simp [h3, h4, h7, h8, h32, h33, h34, enc8_length, Nd.encL_length, g2, hlt, hat, hat2, hz, hn0, hn1, hwc, build_one, hap, m0, m1, m2, m3, hik, hik2, gg2]) ?_
            exact DR.nil
            case rg907 => exact rfl
          refine inBlk_norm ?_
          refine inSeq_norm ?_
          refine Tri.regN (t' := ?tg8) (H' := ?Hg8) TT_ok hC ?eg8 ?qg8
          case eg8 =>
            refine go_false ?_
            refine evSeq_go rfl (by simp [h3, h4, h7, h8, h32, h33, h34, enc8_length, Nd.encL_length, g2, hlt, hat, hat2, hz, hn0, hn1, hwc, build_one, hap, m0, m1, m2, m3, hik, hik2, gg2] <;> rfl) (by rfl) (by simp [hw]) ?_
            refine evSeq_go rfl (by simp [h3, h4, h7, h8, h32, h33, h34, enc8_length, Nd.encL_length, g2, hlt, hat, hat2, hz, hn0, hn1, hwc, build_one, hap, m0, m1, m2, m3, hik, hik2, gg2] <;> rfl) (by rfl) (by simp [hw]) ?_
            exact evSeq_nil
          refine inLoop_norm ?_
          refine ih (pre ++ [c]) (d ++ [Int.tmod c cur.kids.length]) kid _ _ (hL'.put) (by simpa using hP'.put _) (walkN_snoc d x cur kid _ hwk m0 m1 hk) (fun e he => h256 e (by simp [he])) (by simpa using hlen) (by simp; omega) (by simp [hw]) (by simp [h3]) (by simp [h4]) (by simp [h7]) (by simp) (by simp [h32]) (by simp [h33]) (by simp; exact wrap_i64 (by omega) (by simp at hlen; omega)) ?_
          intro t' H' d' cur' k1 k2 k3 k4 k5 k6 k7 k8
          exact hE t' H' d' cur' k1 k2 k3 k4 k5 k6 k7 (by simp at k8 ⊢; omega)
      case ng2 =>
        intro hn2
        exfalso
        simp at hn2

end Go.Ev

namespace Go.Ev
open Go Go.Proofs
set_option maxRecDepth 100000
set_option linter.unusedSimpArgs false
set_option linter.unusedVariables false
section
variable {P : Program} {T : Tab}
/-- A temporary is known less well. -/
theorem Tri.weak {c : Code} {t : Tm} {H : Heap} {Q : Out → Prop} (d : Nat) {v : V} (hv : Weak (t.get d) v) (h : Tri P T c (t.put (some d) v) H Q) : Tri P T c t H Q := by
  obtain ⟨o, ho, h⟩ := h
  refine ⟨o, ho, fun a w M ρ R hS hr k => h a w M ρ R hS ⟨?_, fun j => ?_⟩ k⟩
  · rw [← hr.1]; simp
  · rw [get_put]
    by_cases e : j = d
    · subst e
      rw [if_pos rfl]
      exact hv _ _ _ (hr.2 j)
    · rw [if_neg e]
      exact hr.2 j
end
theorem fzL_encI (H : Heap) : ∀ (d : List Int) (k : Nat), d.length ≤ k → fzL H (k + 1) (encI d) = some (encI d)
  | [], k, _ => by simp [encI, fzL]
  | i :: d, k, h => by
    obtain ⟨k, rfl⟩ : ∃ j, k = j + 1 := ⟨k - 1, by simp at h; omega⟩
    have := fzL_encI H d k (by simpa using h)
    simp only [encI, List.map_cons] at this ⊢
    simp only [fzL, fz_i, this]
theorem rowsOf_encI : ∀ d : List Int, rowsOf 1 d.length (encI d) = some (encI d)
  | [] => rfl
  | i :: d => by
    have := rowsOf_encI d
    simp only [encI, List.map_cons, List.length_cons] at this ⊢
    simp [rowsOf, this, V.isAgg]
theorem fz_box {H : Heap} {k : Nat} {x : Nd} (h : H[k]? = some (some ⟨24, [.i .i64 x.kind, .s x.text, .isl 3 (Nd.encL x.kids)], .all⟩)) : fz H 9 (.ptr k 0) = some (.ipt 3 [.agg [.i .i64 x.kind, .s x.text, .isl 3 (Nd.encL x.kids)]] 0 0) := by
  have hc : cellsAt H k = some ⟨24, [.i .i64 x.kind, .s x.text, .isl 3 (Nd.encL x.kids)], .all⟩ := by simp [cellsAt, h]
  simp only [fz, hc]
  simp [fz, fzL, nl, Nd.encL_nl]
theorem fz_path {H : Heap} {v : V} {d : List Int} (h : PathIn H v d) : ∃ n u, fz H n v = some u ∧ Weak u (.isl 1 (encI d)) := by
  rcases h with ⟨rfl, rfl⟩ | ⟨hne, b, _, rfl, hb⟩
  · exact ⟨9, .nils, by simp [fz], weak_nils 1⟩
  · have hc : cellsAt H b = some ⟨3, encI d, .more⟩ := by simp [cellsAt, hb]
    have hcut : cut (encI d) (0 * 1) (d.length * 1) = some (encI d) := by
      simp only [cut]
      rw [if_pos (by rw [encI_length]; omega), Nat.zero_mul, List.drop_zero, List.take_of_length_le (by rw [encI_length]; omega)]
    refine ⟨d.length + 1 + 1, .isl 1 (encI d), ?_, Weak.refl _⟩
    simp only [fz, hc, hcut, fzL_encI H d d.length (Nat.le_refl _), rowsOf_encI, Option.map_some]
theorem freeze_law {c : Code} {t : Tm} {H : Heap} {Q : Out → Prop} {x y cur : Nd} {d : List Int} (hw : t.wid = 138) (hL : LawH H x y cur) (hP : PathIn H (t.get 8) d) (h3 : t.get 3 = .ptr 0 0) (h4 : t.get 4 = .ptr 1 0) (h7 : t.get 7 = .ptr 2 0)
    (h : ∀ (t2 : Tm) (N : Heap), t2.wid = 138 → t2.get 3 = .ipt 3 [.agg [.i .i64 x.kind, .s x.text, .isl 3 (Nd.encL x.kids)]] 0 0 → t2.get 4 = .ipt 3 [.agg [.i .i64 y.kind, .s y.text, .isl 3 (Nd.encL y.kids)]] 0 0 → t2.get 7 = .ipt 3 [.agg [.i .i64 cur.kind, .s cur.text, .isl 3 (Nd.encL cur.kids)]] 0 0 → t2.get 8 = .isl 1 (encI d) → Tri Tryz.prog TT c t2 N Q) : Tri Tryz.prog TT c t H Q := by
  obtain ⟨n, u, hu, hwk⟩ := fz_path hP
  refine Tri.freeze (t2 := (((t.put (some 3) (.ipt 3 [.agg [.i .i64 x.kind, .s x.text, .isl 3 (Nd.encL x.kids)]] 0 0)).put (some 4) (.ipt 3 [.agg [.i .i64 y.kind, .s y.text, .isl 3 (Nd.encL y.kids)]] 0 0)).put (some 7) (.ipt 3 [.agg [.i .i64 cur.kind, .s cur.text, .isl 3 (Nd.encL cur.kids)]] 0 0)).put (some 8) u) (by simp) (fun k => ?_) ?_
  · by_cases e8 : k = 8
    · subst e8; right; exact ⟨n, by simpa using hu⟩
    by_cases e7 : k = 7
    · subst e7; right; exact ⟨9, by rw [h7]; simpa using fz_box hL.g2⟩
    by_cases e4 : k = 4
    · subst e4; right; exact ⟨9, by rw [h4]; simpa using fz_box hL.g1⟩
    by_cases e3 : k = 3
    · subst e3; right; exact ⟨9, by rw [h3]; simpa using fz_box hL.g0⟩
    left
    simp [e8, e7, e4, e3]
  · refine Tri.weak 8 (v := .isl 1 (encI d)) (by simpa using hwk) ?_
    exact h _ _ (by simp [hw]) (by simp) (by simp) (by simp) (by simp)
theorem body_1004n1 {call : CallF} (hC : call.Sound Tryz.prog TT) (x y : Nd) (q : List Int) (sx : ∀ H, call 6 [x.enc, .i .i64 200] H = .val (.b false) H) (sw : ∀ H, call 7 [] H = .val (.b true) H)   : Body Tryz.prog TT 4 [x.enc, y.enc, .isl 1 (enc8 q)] (.val (.b true)) := by
  refine ⟨Tryz.f4, _, rfl, rfl, by simp [Tryz.f4], ?_⟩
  have h0 : (Tm.init Tryz.f4.ntmps [x.enc, y.enc, .isl 1 (enc8 q)]).get 0 = x.enc := by rw [get_init]; rfl
  have h1 : (Tm.init Tryz.f4.ntmps [x.enc, y.enc, .isl 1 (enc8 q)]).get 1 = y.enc := by rw [get_init]; rfl
  have h2 : (Tm.init Tryz.f4.ntmps [x.enc, y.enc, .isl 1 (enc8 q)]).get 2 = .isl 1 (enc8 q) := by rw [get_init]; rfl
  have hw : (Tm.init Tryz.f4.ntmps [x.enc, y.enc, .isl 1 (enc8 q)]).wid = 138 := rfl
  generalize Tm.init Tryz.f4.ntmps [x.enc, y.enc, .isl 1 (enc8 q)] = t at *
  try simp only [Nd.enc_eq] at *
  refine Tri.seq' ?_
  refine Tri.regN (t' := ?t1) (H' := ?H1) TT_ok hC ?e1 ?q1
  case e1 =>
    refine go_false ?_
    refine evSeq_go rfl (by simp [h0, h1, h2, sx, sw] <;> rfl) (by rfl) (by simp [hw]) ?_
    refine evSeq_go rfl (by simp [h0, h1, h2, sx, sw] <;> rfl) (by rfl) (by simp [hw]) ?_
    refine evSeq_go rfl (by simp [h0, h1, h2, sx, sw] <;> rfl) (by rfl) (by simp [hw]) ?_
    exact evSeq_nil
  refine inSeq_norm ?_
  refine Tri.seq' ?_
  refine Tri.seq' ?_
  refine Tri.regN (t' := ?t2) (H' := ?H2) TT_ok hC ?e2 ?q2
  case e2 =>
    refine go_false ?_
    refine evSeq_go rfl (by simp [h0, h1, h2, sx, sw] <;> rfl) (by rfl) (by simp [hw]) ?_
    refine evSeq_go rfl (by simp [h0, h1, h2, sx, sw] <;> rfl) (by rfl) (by simp [hw]) ?_
    refine evSeq_go rfl (by simp [h0, h1, h2, sx, sw] <;> rfl) (by rfl) (by simp [hw]) ?_
    refine evSeq_go rfl (by simp [h0, h1, h2, sx, sw] <;> rfl) (by rfl) (by simp [hw]) ?_
    refine evSeq_off (by simp [wants, h0, h1, h2, sx, sw]) (by simp [hw]) ?_
    refine evSeq_off (by simp [wants, h0, h1, h2, sx, sw]) (by simp [hw]) ?_
    refine evSeq_off (by simp [wants, h0, h1, h2, sx, sw]) (by simp [hw]) ?_
    refine evSeq_go rfl (by simp [h0, h1, h2, sx, sw] <;> rfl) (by rfl) (by simp [hw]) ?_
    refine evSeq_go rfl (by simp [h0, h1, h2, sx, sw] <;> rfl) (by rfl) (by simp [hw]) ?_
    refine evSeq_off (by simp [wants, h0, h1, h2, sx, sw]) (by simp [hw]) ?_
    refine evSeq_off (by simp [wants, h0, h1, h2, sx, sw]) (by simp [hw]) ?_
    refine evSeq_off (by simp [wants, h0, h1, h2, sx, sw]) (by simp [hw]) ?_
    refine evSeq_go rfl (by simp [h0, h1, h2, sx, sw] <;> rfl) (by rfl) (by simp [hw]) ?_
    exact evSeq_nil
  refine inSeq_norm ?_
  refine Tri.condG (o := ?o3) (b := ?b3) ?g3 ?r3 ?y3 ?n3
  case g3 => simp [h0, h1, h2, sx, sw] <;> rfl
  case r3 => rfl
  case y3 =>
    intro hy3
    refine Tri.seq' ?_
    refine Tri.regN (t' := ?t4) (H' := ?H4) TT_ok hC ?e4 ?q4
    case e4 =>
      refine go_false ?_
      refine evSeq_go rfl (by simp [h0, h1, h2, sx, sw] <;> rfl) (by rfl) (by simp [hw]) ?_
      refine evSeq_go rfl (by simp [h0, h1, h2, sx, sw] <;> rfl) (by rfl) (by simp [hw]) ?_
      exact evSeq_nil
    refine inSeq_norm ?_
    refine Tri.ret ?_
    refine inSeq_ret ?_
    simp [Ends, finish, evResults, evResult, Tryz.f4, h0, h1, h2, sx, sw]
  case n3 =>
    intro hn3
    exact absurd hn3 (by simp [h0, h1, h2, sx, sw])
theorem body_1004n2 {call : CallF} (hC : call.Sound Tryz.prog TT) (x y : Nd) (q : List Int) (sx : ∀ H, call 6 [x.enc, .i .i64 200] H = .val (.b true) H) (sy : ∀ H, call 6 [y.enc, .i .i64 200] H = .val (.b false) H) (sw : ∀ H, call 7 [] H = .val (.b true) H)   : Body Tryz.prog TT 4 [x.enc, y.enc, .isl 1 (enc8 q)] (.val (.b true)) := by
  refine ⟨Tryz.f4, _, rfl, rfl, by simp [Tryz.f4], ?_⟩
  have h0 : (Tm.init Tryz.f4.ntmps [x.enc, y.enc, .isl 1 (enc8 q)]).get 0 = x.enc := by rw [get_init]; rfl
  have h1 : (Tm.init Tryz.f4.ntmps [x.enc, y.enc, .isl 1 (enc8 q)]).get 1 = y.enc := by rw [get_init]; rfl
  have h2 : (Tm.init Tryz.f4.ntmps [x.enc, y.enc, .isl 1 (enc8 q)]).get 2 = .isl 1 (enc8 q) := by rw [get_init]; rfl
  have hw : (Tm.init Tryz.f4.ntmps [x.enc, y.enc, .isl 1 (enc8 q)]).wid = 138 := rfl
  generalize Tm.init Tryz.f4.ntmps [x.enc, y.enc, .isl 1 (enc8 q)] = t at *
  try simp only [Nd.enc_eq] at *
  refine Tri.seq' ?_
  refine Tri.regN (t' := ?t1) (H' := ?H1) TT_ok hC ?e1 ?q1
  case e1 =>
    refine go_false ?_
    refine evSeq_go rfl (by simp [h0, h1, h2, sx, sy, sw] <;> rfl) (by rfl) (by simp [hw]) ?_
    refine evSeq_go rfl (by simp [h0, h1, h2, sx, sy, sw] <;> rfl) (by rfl) (by simp [hw]) ?_
    refine evSeq_go rfl (by simp [h0, h1, h2, sx, sy, sw] <;> rfl) (by rfl) (by simp [hw]) ?_
    exact evSeq_nil
  refine inSeq_norm ?_
  refine Tri.seq' ?_
  refine Tri.seq' ?_
  refine Tri.regN (t' := ?t2) (H' := ?H2) TT_ok hC ?e2 ?q2
  case e2 =>
    refine go_false ?_
    refine evSeq_go rfl (by simp [h0, h1, h2, sx, sy, sw] <;> rfl) (by rfl) (by simp [hw]) ?_
    refine evSeq_go rfl (by simp [h0, h1, h2, sx, sy, sw] <;> rfl) (by rfl) (by simp [hw]) ?_
    refine evSeq_go rfl (by simp [h0, h1, h2, sx, sy, sw] <;> rfl) (by rfl) (by simp [hw]) ?_
    refine evSeq_go rfl (by simp [h0, h1, h2, sx, sy, sw] <;> rfl) (by rfl) (by simp [hw]) ?_
    refine evSeq_go (by simp [wants, h0, h1, h2, sx, sy, sw]) (by simp [h0, h1, h2, sx, sy, sw] <;> rfl) (by rfl) (by simp [hw]) ?_
    refine evSeq_go (by simp [wants, h0, h1, h2, sx, sy, sw]) (by simp [h0, h1, h2, sx, sy, sw] <;> rfl) (by rfl) (by simp [hw]) ?_
    refine evSeq_go (by simp [wants, h0, h1, h2, sx, sy, sw]) (by simp [h0, h1, h2, sx, sy, sw] <;> rfl) (by rfl) (by simp [hw]) ?_
    refine evSeq_go rfl (by simp [h0, h1, h2, sx, sy, sw] <;> rfl) (by rfl) (by simp [hw]) ?_
    refine evSeq_go rfl (by simp [h0, h1, h2, sx, sy, sw] <;> rfl) (by rfl) (by simp [hw]) ?_
    refine evSeq_off (by simp [wants, h0, h1, h2, sx, sy, sw]) (by simp [hw]) ?_
    refine evSeq_off (by simp [wants, h0, h1, h2, sx, sy, sw]) (by simp [hw]) ?_
    refine evSeq_off (by simp [wants, h0, h1, h2, sx, sy, sw]) (by simp [hw]) ?_
    refine evSeq_go rfl (by simp [h0, h1, h2, sx, sy, sw] <;> rfl) (by rfl) (by simp [hw]) ?_
    exact evSeq_nil
  refine inSeq_norm ?_
  refine Tri.condG (o := ?o3) (b := ?b3) ?g3 ?r3 ?y3 ?n3
  case g3 => simp [h0, h1, h2, sx, sy, sw] <;> rfl
  case r3 => rfl
  case y3 =>
    intro hy3
    refine Tri.seq' ?_
    refine Tri.regN (t' := ?t4) (H' := ?H4) TT_ok hC ?e4 ?q4
    case e4 =>
      refine go_false ?_
      refine evSeq_go rfl (by simp [h0, h1, h2, sx, sy, sw] <;> rfl) (by rfl) (by simp [hw]) ?_
      refine evSeq_go rfl (by simp [h0, h1, h2, sx, sy, sw] <;> rfl) (by rfl) (by simp [hw]) ?_
      exact evSeq_nil
    refine inSeq_norm ?_
    refine Tri.ret ?_
    refine inSeq_ret ?_
    simp [Ends, finish, evResults, evResult, Tryz.f4, h0, h1, h2, sx, sy, sw]
  case n3 =>
    intro hn3
    exact absurd hn3 (by simp [h0, h1, h2, sx, sy, sw])
theorem body_1004n3 {call : CallF} (hC : call.Sound Tryz.prog TT) (x y : Nd) (q : List Int) (sx : ∀ H, call 6 [x.enc, .i .i64 200] H = .val (.b true) H) (sy : ∀ H, call 6 [y.enc, .i .i64 200] H = .val (.b true) H) (sw : ∀ H, call 7 [] H = .val (.b true) H) (hl : (30 : Int) < q.length)   : Body Tryz.prog TT 4 [x.enc, y.enc, .isl 1 (enc8 q)] (.val (.b true)) := by
  refine ⟨Tryz.f4, _, rfl, rfl, by simp [Tryz.f4], ?_⟩
  have h0 : (Tm.init Tryz.f4.ntmps [x.enc, y.enc, .isl 1 (enc8 q)]).get 0 = x.enc := by rw [get_init]; rfl
  have h1 : (Tm.init Tryz.f4.ntmps [x.enc, y.enc, .isl 1 (enc8 q)]).get 1 = y.enc := by rw [get_init]; rfl
  have h2 : (Tm.init Tryz.f4.ntmps [x.enc, y.enc, .isl 1 (enc8 q)]).get 2 = .isl 1 (enc8 q) := by rw [get_init]; rfl
  have hw : (Tm.init Tryz.f4.ntmps [x.enc, y.enc, .isl 1 (enc8 q)]).wid = 138 := rfl
  generalize Tm.init Tryz.f4.ntmps [x.enc, y.enc, .isl 1 (enc8 q)] = t at *
  try simp only [Nd.enc_eq] at *
  refine Tri.seq' ?_
  refine Tri.regN (t' := ?t1) (H' := ?H1) TT_ok hC ?e1 ?q1
  case e1 =>
    refine go_false ?_
    refine evSeq_go rfl (by simp [h0, h1, h2, sx, sy, sw, hl, enc8_length] <;> rfl) (by rfl) (by simp [hw]) ?_
    refine evSeq_go rfl (by simp [h0, h1, h2, sx, sy, sw, hl, enc8_length] <;> rfl) (by rfl) (by simp [hw]) ?_
    refine evSeq_go rfl (by simp [h0, h1, h2, sx, sy, sw, hl, enc8_length] <;> rfl) (by rfl) (by simp [hw]) ?_
    exact evSeq_nil
  refine inSeq_norm ?_
  refine Tri.seq' ?_
  refine Tri.seq' ?_
  refine Tri.regN (t' := ?t2) (H' := ?H2) TT_ok hC ?e2 ?q2
  case e2 =>
    refine go_false ?_
    refine evSeq_go rfl (by simp [h0, h1, h2, sx, sy, sw, hl, enc8_length] <;> rfl) (by rfl) (by simp [hw]) ?_
    refine evSeq_go rfl (by simp [h0, h1, h2, sx, sy, sw, hl, enc8_length] <;> rfl) (by rfl) (by simp [hw]) ?_
    refine evSeq_go rfl (by simp [h0, h1, h2, sx, sy, sw, hl, enc8_length] <;> rfl) (by rfl) (by simp [hw]) ?_
    refine evSeq_go rfl (by simp [h0, h1, h2, sx, sy, sw, hl, enc8_length] <;> rfl) (by rfl) (by simp [hw]) ?_
    refine evSeq_go (by simp [wants, h0, h1, h2, sx, sy, sw, hl, enc8_length]) (by simp [h0, h1, h2, sx, sy, sw, hl, enc8_length] <;> rfl) (by rfl) (by simp [hw]) ?_
    refine evSeq_go (by simp [wants, h0, h1, h2, sx, sy, sw, hl, enc8_length]) (by simp [h0, h1, h2, sx, sy, sw, hl, enc8_length] <;> rfl) (by rfl) (by simp [hw]) ?_
    refine evSeq_go (by simp [wants, h0, h1, h2, sx, sy, sw, hl, enc8_length]) (by simp [h0, h1, h2, sx, sy, sw, hl, enc8_length] <;> rfl) (by rfl) (by simp [hw]) ?_
    refine evSeq_go rfl (by simp [h0, h1, h2, sx, sy, sw, hl, enc8_length] <;> rfl) (by rfl) (by simp [hw]) ?_
    refine evSeq_go rfl (by simp [h0, h1, h2, sx, sy, sw, hl, enc8_length] <;> rfl) (by rfl) (by simp [hw]) ?_
    refine evSeq_go (by simp [wants, h0, h1, h2, sx, sy, sw, hl, enc8_length]) (by simp [h0, h1, h2, sx, sy, sw, hl, enc8_length] <;> rfl) (by rfl) (by simp [hw]) ?_
    refine evSeq_go (by simp [wants, h0, h1, h2, sx, sy, sw, hl, enc8_length]) (by simp [h0, h1, h2, sx, sy, sw, hl, enc8_length] <;> rfl) (by rfl) (by simp [hw]) ?_
    refine evSeq_go (by simp [wants, h0, h1, h2, sx, sy, sw, hl, enc8_length]) (by simp [h0, h1, h2, sx, sy, sw, hl, enc8_length] <;> rfl) (by rfl) (by simp [hw]) ?_
    refine evSeq_go rfl (by simp [h0, h1, h2, sx, sy, sw, hl, enc8_length] <;> rfl) (by rfl) (by simp [hw]) ?_
    exact evSeq_nil
  refine inSeq_norm ?_
  refine Tri.condG (o := ?o3) (b := ?b3) ?g3 ?r3 ?y3 ?n3
  case g3 => simp [h0, h1, h2, sx, sy, sw, hl, enc8_length] <;> rfl
  case r3 => rfl
  case y3 =>
    intro hy3
    refine Tri.seq' ?_
    refine Tri.regN (t' := ?t4) (H' := ?H4) TT_ok hC ?e4 ?q4
    case e4 =>
      refine go_false ?_
      refine evSeq_go rfl (by simp [h0, h1, h2, sx, sy, sw, hl, enc8_length] <;> rfl) (by rfl) (by simp [hw]) ?_
      refine evSeq_go rfl (by simp [h0, h1, h2, sx, sy, sw, hl, enc8_length] <;> rfl) (by rfl) (by simp [hw]) ?_
      exact evSeq_nil
    refine inSeq_norm ?_
    refine Tri.ret ?_
    refine inSeq_ret ?_
    simp [Ends, finish, evResults, evResult, Tryz.f4, h0, h1, h2, sx, sy, sw, hl, enc8_length]
  case n3 =>
    intro hn3
    exact absurd hn3 (by simp [h0, h1, h2, sx, sy, sw, hl, enc8_length])
structure Good (call : CallF) (x y cur z : Nd) (d : List Int) (c k : Int) (b : Bool) : Prop where
  c1 : ∀ H, call 8 [x.enc, .isl 1 (encI d)] H = .val (.tup [cur.enc, .i .i64 0]) H
  c2 : ∀ H, call 10 [x.enc, .isl 1 (encI d), y.enc] H = .val (.tup [z.enc, .i .i64 0]) H
  c3 : ∀ H, call 13 [cur.enc, cur.enc] H = .val (.b true) H
  c4 : ∀ H, call 14 [x.enc] H = .val (.i .i64 c) H
  c5 : ∀ H, call 14 [cur.enc] H = .val (.i .i64 k) H
  c6 : ∀ H, call 8 [z.enc, .isl 1 (encI d)] H = .val (.tup [y.enc, .i .i64 0]) H
  c7 : ∀ H, call 10 [z.enc, .isl 1 (encI d), cur.enc] H = .val (.tup [x.enc, .i .i64 0]) H
  c8 : ∀ H, call 13 [y.enc, y.enc] H = .val (.b true) H
  c9 : ∀ H, call 13 [x.enc, x.enc] H = .val (.b true) H
  c10 : ∀ H, call 13 [z.enc, x.enc] H = .val (.b b) H
  c11 : ∀ H, call 13 [cur.enc, y.enc] H = .val (.b b) H
theorem body_1004ya {call : CallF} (hC : call.Sound Tryz.prog TT) (x y : Nd) (q : List Int) (sx : ∀ H, call 6 [x.enc, .i .i64 200] H = .val (.b true) H) (sy : ∀ H, call 6 [y.enc, .i .i64 200] H = .val (.b true) H) (sw : ∀ H, call 7 [] H = .val (.b true) H) (hl : ¬ (30 : Int) < q.length) (h256 : ∀ c ∈ q, 0 ≤ c ∧ c < 256) (hg : ∀ (d : List Int) (cur : Nd), walkN x d = some cur → d.length < 900 → ∃ (z : Nd) (k : Int) (b : Bool), Good call x y cur z d 0 0 b)  : Body Tryz.prog TT 4 [x.enc, y.enc, .isl 1 (enc8 q)] (.val (.b true)) := by
  refine ⟨Tryz.f4, _, rfl, rfl, by simp [Tryz.f4], ?_⟩
  have h0 : (Tm.init Tryz.f4.ntmps [x.enc, y.enc, .isl 1 (enc8 q)]).get 0 = x.enc := by rw [get_init]; rfl
  have h1 : (Tm.init Tryz.f4.ntmps [x.enc, y.enc, .isl 1 (enc8 q)]).get 1 = y.enc := by rw [get_init]; rfl
  have h2 : (Tm.init Tryz.f4.ntmps [x.enc, y.enc, .isl 1 (enc8 q)]).get 2 = .isl 1 (enc8 q) := by rw [get_init]; rfl
  have hw : (Tm.init Tryz.f4.ntmps [x.enc, y.enc, .isl 1 (enc8 q)]).wid = 138 := rfl
  generalize Tm.init Tryz.f4.ntmps [x.enc, y.enc, .isl 1 (enc8 q)] = t at *
  try simp only [Nd.enc_eq] at *
  refine Tri.seq' ?_
  refine Tri.regN (t' := ?t1) (H' := ?H1) TT_ok hC ?e1 ?q1
  case e1 =>
    refine go_false ?_
    refine evSeq_go rfl (by simp [h0, h1, h2, sx, sy, sw, hl, enc8_length] <;> rfl) (by rfl) (by simp [hw]) ?_
    refine evSeq_go rfl (by simp [h0, h1, h2, sx, sy, sw, hl, enc8_length] <;> rfl) (by rfl) (by simp [hw]) ?_
    refine evSeq_go rfl (by simp [h0, h1, h2, sx, sy, sw, hl, enc8_length] <;> rfl) (by rfl) (by simp [hw]) ?_
    exact evSeq_nil
  refine inSeq_norm ?_
  refine Tri.seq' ?_
  refine Tri.seq' ?_
  refine Tri.regN (t' := ?t2) (H' := ?H2) TT_ok hC ?e2 ?q2
  case e2 =>
    refine go_false ?_
    refine evSeq_go rfl (by simp [h0, h1, h2, sx, sy, sw, hl, enc8_length] <;> rfl) (by rfl) (by simp [hw]) ?_
    refine evSeq_go rfl (by simp [h0, h1, h2, sx, sy, sw, hl, enc8_length] <;> rfl) (by rfl) (by simp [hw]) ?_
    refine evSeq_go rfl (by simp [h0, h1, h2, sx, sy, sw, hl, enc8_length] <;> rfl) (by rfl) (by simp [hw]) ?_
    refine evSeq_go rfl (by simp [h0, h1, h2, sx, sy, sw, hl, enc8_length] <;> rfl) (by rfl) (by simp [hw]) ?_
    refine evSeq_go (by simp [wants, h0, h1, h2, sx, sy, sw, hl, enc8_length]) (by simp [h0, h1, h2, sx, sy, sw, hl, enc8_length] <;> rfl) (by rfl) (by simp [hw]) ?_
    refine evSeq_go (by simp [wants, h0, h1, h2, sx, sy, sw, hl, enc8_length]) (by simp [h0, h1, h2, sx, sy, sw, hl, enc8_length] <;> rfl) (by rfl) (by simp [hw]) ?_
    refine evSeq_go (by simp [wants, h0, h1, h2, sx, sy, sw, hl, enc8_length]) (by simp [h0, h1, h2, sx, sy, sw, hl, enc8_length] <;> rfl) (by rfl) (by simp [hw]) ?_
    refine evSeq_go rfl (by simp [h0, h1, h2, sx, sy, sw, hl, enc8_length] <;> rfl) (by rfl) (by simp [hw]) ?_
    refine evSeq_go rfl (by simp [h0, h1, h2, sx, sy, sw, hl, enc8_length] <;> rfl) (by rfl) (by simp [hw]) ?_
    refine evSeq_go (by simp [wants, h0, h1, h2, sx, sy, sw, hl, enc8_length]) (by simp [h0, h1, h2, sx, sy, sw, hl, enc8_length] <;> rfl) (by rfl) (by simp [hw]) ?_
    refine evSeq_go (by simp [wants, h0, h1, h2, sx, sy, sw, hl, enc8_length]) (by simp [h0, h1, h2, sx, sy, sw, hl, enc8_length] <;> rfl) (by rfl) (by simp [hw]) ?_
    refine evSeq_go (by simp [wants, h0, h1, h2, sx, sy, sw, hl, enc8_length]) (by simp [h0, h1, h2, sx, sy, sw, hl, enc8_length] <;> rfl) (by rfl) (by simp [hw]) ?_
    refine evSeq_go rfl (by simp [h0, h1, h2, sx, sy, sw, hl, enc8_length] <;> rfl) (by rfl) (by simp [hw]) ?_
    exact evSeq_nil
  refine inSeq_norm ?_
  refine Tri.condG (o := ?o3) (b := ?b3) ?g3 ?r3 ?y3 ?n3
  case g3 => simp [h0, h1, h2, sx, sy, sw, hl, enc8_length] <;> rfl
  case r3 => rfl
  case y3 =>
    intro hy3
    exact absurd hy3 (by simp [h0, h1, h2, sx, sy, sw, hl, enc8_length])
  case n3 =>
    intro hn3
    refine Tri.skip ?_
    refine inSeq_norm ?_
    refine Tri.seq' ?_
    refine Tri.regN (t' := ?t4) (H' := ?H4) TT_ok hC ?e4 ?q4
    case e4 =>
      refine go_false ?_
      refine evSeq_go rfl (by simp [h0, h1, h2, sx, sy, sw, hl, enc8_length] <;> rfl) (by rfl) (by simp [hw]) ?_
      refine evSeq_go rfl (by simp [h0, h1, h2, sx, sy, sw, hl, enc8_length] <;> rfl) (by rfl) (by simp [hw]) ?_
      refine evSeq_go rfl (by simp [h0, h1, h2, sx, sy, sw, hl, enc8_length] <;> rfl) (by rfl) (by simp [hw]) ?_
      exact evSeq_nil
    refine inSeq_norm ?_
    refine Tri.seq' ?_
    refine Tri.regN (t' := ?t5) (H' := ?H5) TT_ok hC ?e5 ?q5
    case e5 =>
      refine go_false ?_
      refine evSeq_go rfl (by simp [h0, h1, h2, sx, sy, sw, hl, enc8_length] <;> rfl) (by rfl) (by simp [hw]) ?_
      exact evSeq_nil
    refine inSeq_norm ?_
    refine Tri.seq' ?_
    refine Tri.seq' ?_
    refine Tri.regN (t' := ?t6) (H' := ?H6) TT_ok hC ?e6 ?q6
    case e6 =>
      refine go_false ?_
      refine evSeq_go rfl (by simp [h0, h1, h2, sx, sy, sw, hl, enc8_length] <;> rfl) (by rfl) (by simp [hw]) ?_
      refine evSeq_go rfl (by simp [h0, h1, h2, sx, sy, sw, hl, enc8_length] <;> rfl) (by rfl) (by simp [hw]) ?_
      refine evSeq_go rfl (by simp [h0, h1, h2, sx, sy, sw, hl, enc8_length] <;> rfl) (by rfl) (by simp [hw]) ?_
      exact evSeq_nil
    refine inSeq_norm ?_
    refine Tri.block' ?_
    refine Tri.loop ?_
    refine loop1004 hC x y q [] [] x _ _ ⟨by simp, by simp, by simp⟩ (.inl ⟨rfl, by simp⟩) rfl h256 (by simp; omega) (by simp) (by simp [hw]) (by simp) (by simp) (by simp) (fun _ _ => trivial) (by simp [h2]) (by simp [enc8_length]) (by simp) ?exit
    case exit =>
      intro t2 H2 d cur hw h3 h4 h7 hP hL hwk hdl
      obtain ⟨z, k, b, c1, c2, c3, c4, c5, c6, c7, c8, c9, c10, c11⟩ := hg d cur hwk (by simp at hdl; omega)
      simp only [Nd.enc_eq] at c1 c2 c3 c4 c5 c6 c7 c8 c9 c10 c11
      refine inBlk_exit ?_
      refine inSeq_norm ?_
      refine Tri.seq' ?_
      refine freeze_law hw hL hP h3 h4 h7 ?_
      clear hw h3 h4 h7 hP hL
      intro t3 N hw f3 f4 f7 f8
      refine Tri.regN (t' := ?t7) (H' := ?H7) TT_ok hC ?e7 ?q7
      case e7 =>
        refine go_false ?_
        refine evSeq_go rfl (by simp [h0, h1, h2, sx, sy, sw, hl, enc8_length, f3, f4, f7, f8, Nat.add_assoc, c1, c2, c3, c4, c5, c6, c7, c8, c9, c10, c11] <;> rfl) (by rfl) (by simp [hw]) ?_
        refine evSeq_go rfl (by simp [h0, h1, h2, sx, sy, sw, hl, enc8_length, f3, f4, f7, f8, Nat.add_assoc, c1, c2, c3, c4, c5, c6, c7, c8, c9, c10, c11] <;> rfl) (by rfl) (by simp [hw]) ?_
        refine evSeq_go rfl (by simp [h0, h1, h2, sx, sy, sw, hl, enc8_length, f3, f4, f7, f8, Nat.add_assoc, c1, c2, c3, c4, c5, c6, c7, c8, c9, c10, c11] <;> rfl) (by rfl) (by simp [hw]) ?_
        refine evSeq_go rfl (by simp [h0, h1, h2, sx, sy, sw, hl, enc8_length, f3, f4, f7, f8, Nat.add_assoc, c1, c2, c3, c4, c5, c6, c7, c8, c9, c10, c11] <;> rfl) (by rfl) (by simp [hw]) ?_
        refine evSeq_go rfl (by simp [h0, h1, h2, sx, sy, sw, hl, enc8_length, f3, f4, f7, f8, Nat.add_assoc, c1, c2, c3, c4, c5, c6, c7, c8, c9, c10, c11] <;> rfl) (by rfl) (by simp [hw]) ?_
        refine evSeq_go rfl (by simp [h0, h1, h2, sx, sy, sw, hl, enc8_length, f3, f4, f7, f8, Nat.add_assoc, c1, c2, c3, c4, c5, c6, c7, c8, c9, c10, c11] <;> rfl) (by rfl) (by simp [hw]) ?_
        refine evSeq_go rfl (by simp [h0, h1, h2, sx, sy, sw, hl, enc8_length, f3, f4, f7, f8, Nat.add_assoc, c1, c2, c3, c4, c5, c6, c7, c8, c9, c10, c11] <;> rfl) (by rfl) (by simp [hw]) ?_
        refine evSeq_go rfl (by simp [h0, h1, h2, sx, sy, sw, hl, enc8_length, f3, f4, f7, f8, Nat.add_assoc, c1, c2, c3, c4, c5, c6, c7, c8, c9, c10, c11] <;> rfl) (by rfl) (by simp [hw]) ?_
        refine evSeq_go rfl (by simp [h0, h1, h2, sx, sy, sw, hl, enc8_length, f3, f4, f7, f8, Nat.add_assoc, c1, c2, c3, c4, c5, c6, c7, c8, c9, c10, c11] <;> rfl) (by rfl) (by simp [hw]) ?_
        exact evSeq_nil
      refine inSeq_norm ?_
      refine Tri.seq' ?_
      refine Tri.regN (t' := ?t8) (H' := ?H8) TT_ok hC ?e8 ?q8
      case e8 =>
        refine go_false ?_
        refine evSeq_go rfl (by simp [h0, h1, h2, sx, sy, sw, hl, enc8_length, f3, f4, f7, f8, Nat.add_assoc, c1, c2, c3, c4, c5, c6, c7, c8, c9, c10, c11] <;> rfl) (by rfl) (by simp [hw]) ?_
        refine evSeq_go rfl (by simp [h0, h1, h2, sx, sy, sw, hl, enc8_length, f3, f4, f7, f8, Nat.add_assoc, c1, c2, c3, c4, c5, c6, c7, c8, c9, c10, c11] <;> rfl) (by rfl) (by simp [hw]) ?_
        refine evSeq_go rfl (by simp [h0, h1, h2, sx, sy, sw, hl, enc8_length, f3, f4, f7, f8, Nat.add_assoc, c1, c2, c3, c4, c5, c6, c7, c8, c9, c10, c11] <;> rfl) (by rfl) (by simp [hw]) ?_
        refine evSeq_go rfl (by simp [h0, h1, h2, sx, sy, sw, hl, enc8_length, f3, f4, f7, f8, Nat.add_assoc, c1, c2, c3, c4, c5, c6, c7, c8, c9, c10, c11] <;> rfl) (by rfl) (by simp [hw]) ?_
        refine evSeq_go rfl (by simp [h0, h1, h2, sx, sy, sw, hl, enc8_length, f3, f4, f7, f8, Nat.add_assoc, c1, c2, c3, c4, c5, c6, c7, c8, c9, c10, c11] <;> rfl) (by rfl) (by simp [hw]) ?_
        refine evSeq_go rfl (by simp [h0, h1, h2, sx, sy, sw, hl, enc8_length, f3, f4, f7, f8, Nat.add_assoc, c1, c2, c3, c4, c5, c6, c7, c8, c9, c10, c11] <;> rfl) (by rfl) (by simp [hw]) ?_
        refine evSeq_go rfl (by simp [h0, h1, h2, sx, sy, sw, hl, enc8_length, f3, f4, f7, f8, Nat.add_assoc, c1, c2, c3, c4, c5, c6, c7, c8, c9, c10, c11] <;> rfl) (by rfl) (by simp [hw]) ?_
        refine evSeq_go rfl (by simp [h0, h1, h2, sx, sy, sw, hl, enc8_length, f3, f4, f7, f8, Nat.add_assoc, c1, c2, c3, c4, c5, c6, c7, c8, c9, c10, c11] <;> rfl) (by rfl) (by simp [hw]) ?_
        refine evSeq_go rfl (by simp [h0, h1, h2, sx, sy, sw, hl, enc8_length, f3, f4, f7, f8, Nat.add_assoc, c1, c2, c3, c4, c5, c6, c7, c8, c9, c10, c11] <;> rfl) (by rfl) (by simp [hw]) ?_
        refine evSeq_go rfl (by simp [h0, h1, h2, sx, sy, sw, hl, enc8_length, f3, f4, f7, f8, Nat.add_assoc, c1, c2, c3, c4, c5, c6, c7, c8, c9, c10, c11] <;> rfl) (by rfl) (by simp [hw]) ?_
        exact evSeq_nil
      refine inSeq_norm ?_
      refine Tri.seq' ?_
      refine Tri.seq' ?_
      refine Tri.regN (t' := ?t9) (H' := ?H9) TT_ok hC ?e9 ?q9
      case e9 =>
        refine go_false ?_
        refine evSeq_go rfl (by simp [h0, h1, h2, sx, sy, sw, hl, enc8_length, f3, f4, f7, f8, Nat.add_assoc, c1, c2, c3, c4, c5, c6, c7, c8, c9, c10, c11] <;> rfl) (by rfl) (by simp [hw]) ?_
        refine evSeq_go rfl (by simp [h0, h1, h2, sx, sy, sw, hl, enc8_length, f3, f4, f7, f8, Nat.add_assoc, c1, c2, c3, c4, c5, c6, c7, c8, c9, c10, c11] <;> rfl) (by rfl) (by simp [hw]) ?_
        refine evSeq_go rfl (by simp [h0, h1, h2, sx, sy, sw, hl, enc8_length, f3, f4, f7, f8, Nat.add_assoc, c1, c2, c3, c4, c5, c6, c7, c8, c9, c10, c11] <;> rfl) (by rfl) (by simp [hw]) ?_
        refine evSeq_go (by simp [wants, h0, h1, h2, sx, sy, sw, hl, enc8_length, f3, f4, f7, f8, Nat.add_assoc, c1, c2, c3, c4, c5, c6, c7, c8, c9, c10, c11]) (by simp [h0, h1, h2, sx, sy, sw, hl, enc8_length, f3, f4, f7, f8, Nat.add_assoc, c1, c2, c3, c4, c5, c6, c7, c8, c9, c10, c11] <;> rfl) (by rfl) (by simp [hw]) ?_
        refine evSeq_go (by simp [wants, h0, h1, h2, sx, sy, sw, hl, enc8_length, f3, f4, f7, f8, Nat.add_assoc, c1, c2, c3, c4, c5, c6, c7, c8, c9, c10, c11]) (by simp [h0, h1, h2, sx, sy, sw, hl, enc8_length, f3, f4, f7, f8, Nat.add_assoc, c1, c2, c3, c4, c5, c6, c7, c8, c9, c10, c11] <;> rfl) (by rfl) (by simp [hw]) ?_
        refine evSeq_go rfl (by simp [h0, h1, h2, sx, sy, sw, hl, enc8_length, f3, f4, f7, f8, Nat.add_assoc, c1, c2, c3, c4, c5, c6, c7, c8, c9, c10, c11] <;> rfl) (by rfl) (by simp [hw]) ?_
        refine evSeq_go rfl (by simp [h0, h1, h2, sx, sy, sw, hl, enc8_length, f3, f4, f7, f8, Nat.add_assoc, c1, c2, c3, c4, c5, c6, c7, c8, c9, c10, c11] <;> rfl) (by rfl) (by simp [hw]) ?_
        refine evSeq_go (by simp [wants, h0, h1, h2, sx, sy, sw, hl, enc8_length, f3, f4, f7, f8, Nat.add_assoc, c1, c2, c3, c4, c5, c6, c7, c8, c9, c10, c11]) (by simp [h0, h1, h2, sx, sy, sw, hl, enc8_length, f3, f4, f7, f8, Nat.add_assoc, c1, c2, c3, c4, c5, c6, c7, c8, c9, c10, c11] <;> rfl) (by rfl) (by simp [hw]) ?_
        refine evSeq_go (by simp [wants, h0, h1, h2, sx, sy, sw, hl, enc8_length, f3, f4, f7, f8, Nat.add_assoc, c1, c2, c3, c4, c5, c6, c7, c8, c9, c10, c11]) (by simp [h0, h1, h2, sx, sy, sw, hl, enc8_length, f3, f4, f7, f8, Nat.add_assoc, c1, c2, c3, c4, c5, c6, c7, c8, c9, c10, c11] <;> rfl) (by rfl) (by simp [hw]) ?_
        refine evSeq_go (by simp [wants, h0, h1, h2, sx, sy, sw, hl, enc8_length, f3, f4, f7, f8, Nat.add_assoc, c1, c2, c3, c4, c5, c6, c7, c8, c9, c10, c11]) (by simp [h0, h1, h2, sx, sy, sw, hl, enc8_length, f3, f4, f7, f8, Nat.add_assoc, c1, c2, c3, c4, c5, c6, c7, c8, c9, c10, c11] <;> rfl) (by rfl) (by simp [hw]) ?_
        refine evSeq_go (by simp [wants, h0, h1, h2, sx, sy, sw, hl, enc8_length, f3, f4, f7, f8, Nat.add_assoc, c1, c2, c3, c4, c5, c6, c7, c8, c9, c10, c11]) (by simp [h0, h1, h2, sx, sy, sw, hl, enc8_length, f3, f4, f7, f8, Nat.add_assoc, c1, c2, c3, c4, c5, c6, c7, c8, c9, c10, c11] <;> rfl) (by rfl) (by simp [hw]) ?_
        refine evSeq_go rfl (by simp [h0, h1, h2, sx, sy, sw, hl, enc8_length, f3, f4, f7, f8, Nat.add_assoc, c1, c2, c3, c4, c5, c6, c7, c8, c9, c10, c11] <;> rfl) (by rfl) (by simp [hw]) ?_
        refine evSeq_go rfl (by simp [h0, h1, h2, sx, sy, sw, hl, enc8_length, f3, f4, f7, f8, Nat.add_assoc, c1, c2, c3, c4, c5, c6, c7, c8, c9, c10, c11] <;> rfl) (by rfl) (by simp [hw]) ?_
        refine evSeq_go (by simp [wants, h0, h1, h2, sx, sy, sw, hl, enc8_length, f3, f4, f7, f8, Nat.add_assoc, c1, c2, c3, c4, c5, c6, c7, c8, c9, c10, c11]) (by simp [h0, h1, h2, sx, sy, sw, hl, enc8_length, f3, f4, f7, f8, Nat.add_assoc, c1, c2, c3, c4, c5, c6, c7, c8, c9, c10, c11] <;> rfl) (by rfl) (by simp [hw]) ?_
        refine evSeq_go (by simp [wants, h0, h1, h2, sx, sy, sw, hl, enc8_length, f3, f4, f7, f8, Nat.add_assoc, c1, c2, c3, c4, c5, c6, c7, c8, c9, c10, c11]) (by simp [h0, h1, h2, sx, sy, sw, hl, enc8_length, f3, f4, f7, f8, Nat.add_assoc, c1, c2, c3, c4, c5, c6, c7, c8, c9, c10, c11] <;> rfl) (by rfl) (by simp [hw]) ?_
        refine evSeq_go (by simp [wants, h0, h1, h2, sx, sy, sw, hl, enc8_length, f3, f4, f7, f8, Nat.add_assoc, c1, c2, c3, c4, c5, c6, c7, c8, c9, c10, c11]) (by simp [h0, h1, h2, sx, sy, sw, hl, enc8_length, f3, f4, f7, f8, Nat.add_assoc, c1, c2, c3, c4, c5, c6, c7, c8, c9, c10, c11] <;> rfl) (by rfl) (by simp [hw]) ?_
        refine evSeq_go (by simp [wants, h0, h1, h2, sx, sy, sw, hl, enc8_length, f3, f4, f7, f8, Nat.add_assoc, c1, c2, c3, c4, c5, c6, c7, c8, c9, c10, c11]) (by simp [h0, h1, h2, sx, sy, sw, hl, enc8_length, f3, f4, f7, f8, Nat.add_assoc, c1, c2, c3, c4, c5, c6, c7, c8, c9, c10, c11] <;> rfl) (by rfl) (by simp [hw]) ?_
        refine evSeq_go (by simp [wants, h0, h1, h2, sx, sy, sw, hl, enc8_length, f3, f4, f7, f8, Nat.add_assoc, c1, c2, c3, c4, c5, c6, c7, c8, c9, c10, c11]) (by simp [h0, h1, h2, sx, sy, sw, hl, enc8_length, f3, f4, f7, f8, Nat.add_assoc, c1, c2, c3, c4, c5, c6, c7, c8, c9, c10, c11] <;> rfl) (by rfl) (by simp [hw]) ?_
        refine evSeq_go (by simp [wants, h0, h1, h2, sx, sy, sw, hl, enc8_length, f3, f4, f7, f8, Nat.add_assoc, c1, c2, c3, c4, c5, c6, c7, c8, c9, c10, c11]) (by simp [h0, h1, h2, sx, sy, sw, hl, enc8_length, f3, f4, f7, f8, Nat.add_assoc, c1, c2, c3, c4, c5, c6, c7, c8, c9, c10, c11] <;> rfl) (by rfl) (by simp [hw]) ?_
        refine evSeq_go (by simp [wants, h0, h1, h2, sx, sy, sw, hl, enc8_length, f3, f4, f7, f8, Nat.add_assoc, c1, c2, c3, c4, c5, c6, c7, c8, c9, c10, c11]) (by simp [h0, h1, h2, sx, sy, sw, hl, enc8_length, f3, f4, f7, f8, Nat.add_assoc, c1, c2, c3, c4, c5, c6, c7, c8, c9, c10, c11] <;> rfl) (by rfl) (by simp [hw]) ?_
        refine evSeq_go (by simp [wants, h0, h1, h2, sx, sy, sw, hl, enc8_length, f3, f4, f7, f8, Nat.add_assoc, c1, c2, c3, c4, c5, c6, c7, c8, c9, c10, c11]) (by simp [h0, h1, h2, sx, sy, sw, hl, enc8_length, f3, f4, f7, f8, Nat.add_assoc, c1, c2, c3, c4, c5, c6, c7, c8, c9, c10, c11] <;> rfl) (by rfl) (by simp [hw]) ?_
        refine evSeq_go rfl (by simp [h0, h1, h2, sx, sy, sw, hl, enc8_length, f3, f4, f7, f8, Nat.add_assoc, c1, c2, c3, c4, c5, c6, c7, c8, c9, c10, c11] <;> rfl) (by rfl) (by simp [hw]) ?_
        exact evSeq_nil
      refine inSeq_norm ?_
      refine Tri.condG (o := ?o10) (b := ?b10) ?g10 ?r10 ?y10 ?n10
      case g10 => simp [h0, h1, h2, sx, sy, sw, hl, enc8_length] <;> rfl
      case r10 => rfl
      case y10 =>
        intro hy10
        exact absurd hy10 (by simp [h0, h1, h2, sx, sy, sw, hl, enc8_length])
      case n10 =>
        intro hn10
        refine Tri.skip ?_
        refine inSeq_norm ?_
        refine Tri.seq' ?_
        refine Tri.regN (t' := ?t11) (H' := ?H11) TT_ok hC ?e11 ?q11
        case e11 =>
          refine go_false ?_
          refine evSeq_go rfl (by simp [h0, h1, h2, sx, sy, sw, hl, enc8_length, f3, f4, f7, f8, Nat.add_assoc, c1, c2, c3, c4, c5, c6, c7, c8, c9, c10, c11] <;> rfl) (by rfl) (by simp [hw]) ?_
          refine evSeq_go rfl (by simp [h0, h1, h2, sx, sy, sw, hl, enc8_length, f3, f4, f7, f8, Nat.add_assoc, c1, c2, c3, c4, c5, c6, c7, c8, c9, c10, c11] <;> rfl) (by rfl) (by simp [hw]) ?_
          refine evSeq_go rfl (by simp [h0, h1, h2, sx, sy, sw, hl, enc8_length, f3, f4, f7, f8, Nat.add_assoc, c1, c2, c3, c4, c5, c6, c7, c8, c9, c10, c11] <;> rfl) (by rfl) (by simp [hw]) ?_
          refine evSeq_go rfl (by simp [h0, h1, h2, sx, sy, sw, hl, enc8_length, f3, f4, f7, f8, Nat.add_assoc, c1, c2, c3, c4, c5, c6, c7, c8, c9, c10, c11] <;> rfl) (by rfl) (by simp [hw]) ?_
          refine evSeq_go rfl (by simp [h0, h1, h2, sx, sy, sw, hl, enc8_length, f3, f4, f7, f8, Nat.add_assoc, c1, c2, c3, c4, c5, c6, c7, c8, c9, c10, c11] <;> rfl) (by rfl) (by simp [hw]) ?_
          refine evSeq_go rfl (by simp [h0, h1, h2, sx, sy, sw, hl, enc8_length, f3, f4, f7, f8, Nat.add_assoc, c1, c2, c3, c4, c5, c6, c7, c8, c9, c10, c11] <;> rfl) (by rfl) (by simp [hw]) ?_
          refine evSeq_go rfl (by simp [h0, h1, h2, sx, sy, sw, hl, enc8_length, f3, f4, f7, f8, Nat.add_assoc, c1, c2, c3, c4, c5, c6, c7, c8, c9, c10, c11] <;> rfl) (by rfl) (by simp [hw]) ?_
          refine evSeq_go rfl (by simp [h0, h1, h2, sx, sy, sw, hl, enc8_length, f3, f4, f7, f8, Nat.add_assoc, c1, c2, c3, c4, c5, c6, c7, c8, c9, c10, c11] <;> rfl) (by rfl) (by simp [hw]) ?_
          refine evSeq_go rfl (by simp [h0, h1, h2, sx, sy, sw, hl, enc8_length, f3, f4, f7, f8, Nat.add_assoc, c1, c2, c3, c4, c5, c6, c7, c8, c9, c10, c11] <;> rfl) (by rfl) (by simp [hw]) ?_
          exact evSeq_nil
        refine inSeq_norm ?_
        refine Tri.seq' ?_
        refine Tri.regN (t' := ?t12) (H' := ?H12) TT_ok hC ?e12 ?q12
        case e12 =>
          refine go_false ?_
          refine evSeq_go rfl (by simp [h0, h1, h2, sx, sy, sw, hl, enc8_length, f3, f4, f7, f8, Nat.add_assoc, c1, c2, c3, c4, c5, c6, c7, c8, c9, c10, c11] <;> rfl) (by rfl) (by simp [hw]) ?_
          refine evSeq_go rfl (by simp [h0, h1, h2, sx, sy, sw, hl, enc8_length, f3, f4, f7, f8, Nat.add_assoc, c1, c2, c3, c4, c5, c6, c7, c8, c9, c10, c11] <;> rfl) (by rfl) (by simp [hw]) ?_
          refine evSeq_go rfl (by simp [h0, h1, h2, sx, sy, sw, hl, enc8_length, f3, f4, f7, f8, Nat.add_assoc, c1, c2, c3, c4, c5, c6, c7, c8, c9, c10, c11] <;> rfl) (by rfl) (by simp [hw]) ?_
          refine evSeq_go rfl (by simp [h0, h1, h2, sx, sy, sw, hl, enc8_length, f3, f4, f7, f8, Nat.add_assoc, c1, c2, c3, c4, c5, c6, c7, c8, c9, c10, c11] <;> rfl) (by rfl) (by simp [hw]) ?_
          refine evSeq_go rfl (by simp [h0, h1, h2, sx, sy, sw, hl, enc8_length, f3, f4, f7, f8, Nat.add_assoc, c1, c2, c3, c4, c5, c6, c7, c8, c9, c10, c11] <;> rfl) (by rfl) (by simp [hw]) ?_
          refine evSeq_go rfl (by simp [h0, h1, h2, sx, sy, sw, hl, enc8_length, f3, f4, f7, f8, Nat.add_assoc, c1, c2, c3, c4, c5, c6, c7, c8, c9, c10, c11] <;> rfl) (by rfl) (by simp [hw]) ?_
          refine evSeq_go rfl (by simp [h0, h1, h2, sx, sy, sw, hl, enc8_length, f3, f4, f7, f8, Nat.add_assoc, c1, c2, c3, c4, c5, c6, c7, c8, c9, c10, c11] <;> rfl) (by rfl) (by simp [hw]) ?_
          refine evSeq_go rfl (by simp [h0, h1, h2, sx, sy, sw, hl, enc8_length, f3, f4, f7, f8, Nat.add_assoc, c1, c2, c3, c4, c5, c6, c7, c8, c9, c10, c11] <;> rfl) (by rfl) (by simp [hw]) ?_
          refine evSeq_go rfl (by simp [h0, h1, h2, sx, sy, sw, hl, enc8_length, f3, f4, f7, f8, Nat.add_assoc, c1, c2, c3, c4, c5, c6, c7, c8, c9, c10, c11] <;> rfl) (by rfl) (by simp [hw]) ?_
          refine evSeq_go rfl (by simp [h0, h1, h2, sx, sy, sw, hl, enc8_length, f3, f4, f7, f8, Nat.add_assoc, c1, c2, c3, c4, c5, c6, c7, c8, c9, c10, c11] <;> rfl) (by rfl) (by simp [hw]) ?_
          exact evSeq_nil
        refine inSeq_norm ?_
        refine Tri.seq' ?_
        refine Tri.regN (t' := ?t13) (H' := ?H13) TT_ok hC ?e13 ?q13
        case e13 =>
          refine evReg_quiet (t' := ?t13) (by kernel_rfl) ?_ ?r913
          refine QR.val rfl (by simp [h0, h1, h2, sx, sy, sw, hl, enc8_length, f3, f4, f7, f8, Nat.add_assoc, c1, c2, c3, c4, c5, c6, c7, c8, c9, c10, c11] <;> rfl) (by rfl) (by simp [hw]) ?_
          refine QR.val rfl (by simp [h0, h1, h2, sx, sy, sw, hl, enc8_length, f3, f4, f7, f8, Nat.add_assoc, c1, c2, c3, c4, c5, c6, c7, c8, c9, c10, c11] <;> rfl) (by rfl) (by simp [hw]) ?_
          refine QR.val rfl (by simp [h0, h1, h2, sx, sy, sw, hl, enc8_length, f3, f4, f7, f8, Nat.add_assoc, c1, c2, c3, c4, c5, c6, c7, c8, c9, c10, c11] <;> rfl) (by rfl) (by simp [hw]) ?_
          refine QR.val (by simp [wants, h0, h1, h2, sx, sy, sw, hl, enc8_length, f3, f4, f7, f8, Nat.add_assoc, c1, c2, c3, c4, c5, c6, c7, c8, c9, c10, c11]) (by simp [h0, h1, h2, sx, sy, sw, hl, enc8_length, f3, f4, f7, f8, Nat.add_assoc, c1, c2, c3, c4, c5, c6, c7, c8, c9, c10, c11] <;> rfl) (by rfl) (by simp [hw]) ?_
          refine QR.val (by simp [wants, h0, h1, h2, sx, sy, sw, hl, enc8_length, f3, f4, f7, f8, Nat.add_assoc, c1, c2, c3, c4, c5, c6, c7, c8, c9, c10, c11]) (by simp [h0, h1, h2, sx, sy, sw, hl, enc8_length, f3, f4, f7, f8, Nat.add_assoc, c1, c2, c3, c4, c5, c6, c7, c8, c9, c10, c11] <;> rfl) (by rfl) (by simp [hw]) ?_
          refine QR.val rfl (by simp [h0, h1, h2, sx, sy, sw, hl, enc8_length, f3, f4, f7, f8, Nat.add_assoc, c1, c2, c3, c4, c5, c6, c7, c8, c9, c10, c11] <;> rfl) (by rfl) (by simp [hw]) ?_
          refine QR.val rfl (by simp [h0, h1, h2, sx, sy, sw, hl, enc8_length, f3, f4, f7, f8, Nat.add_assoc, c1, c2, c3, c4, c5, c6, c7, c8, c9, c10, c11] <;> rfl) (by rfl) (by simp [hw]) ?_
          refine QR.val (by simp [wants, h0, h1, h2, sx, sy, sw, hl, enc8_length, f3, f4, f7, f8, Nat.add_assoc, c1, c2, c3, c4, c5, c6, c7, c8, c9, c10, c11]) (by simp [h0, h1, h2, sx, sy, sw, hl, enc8_length, f3, f4, f7, f8, Nat.add_assoc, c1, c2, c3, c4, c5, c6, c7, c8, c9, c10, c11] <;> rfl) (by rfl) (by simp [hw]) ?_
          refine QR.val (by simp [wants, h0, h1, h2, sx, sy, sw, hl, enc8_length, f3, f4, f7, f8, Nat.add_assoc, c1, c2, c3, c4, c5, c6, c7, c8, c9, c10, c11]) (by simp [h0, h1, h2, sx, sy, sw, hl, enc8_length, f3, f4, f7, f8, Nat.add_assoc, c1, c2, c3, c4, c5, c6, c7, c8, c9, c10, c11] <;> rfl) (by rfl) (by simp [hw]) ?_
          refine QR.val (by simp [wants, h0, h1, h2, sx, sy, sw, hl, enc8_length, f3, f4, f7, f8, Nat.add_assoc, c1, c2, c3, c4, c5, c6, c7, c8, c9, c10, c11]) (by simp [h0, h1, h2, sx, sy, sw, hl, enc8_length, f3, f4, f7, f8, Nat.add_assoc, c1, c2, c3, c4, c5, c6, c7, c8, c9, c10, c11] <;> rfl) (by rfl) (by simp [hw]) ?_
          refine QR.val rfl (by simp [h0, h1, h2, sx, sy, sw, hl, enc8_length, f3, f4, f7, f8, Nat.add_assoc, c1, c2, c3, c4, c5, c6, c7, c8, c9, c10, c11] <;> rfl) (by rfl) (by simp [hw]) ?_
          refine QR.val rfl (by simp [h0, h1, h2, sx, sy, sw, hl, enc8_length, f3, f4, f7, f8, Nat.add_assoc, c1, c2, c3, c4, c5, c6, c7, c8, c9, c10, c11] <;> rfl) (by rfl) (by simp [hw]) ?_
          refine QR.val (by simp [wants, h0, h1, h2, sx, sy, sw, hl, enc8_length, f3, f4, f7, f8, Nat.add_assoc, c1, c2, c3, c4, c5, c6, c7, c8, c9, c10, c11]) (by simp [h0, h1, h2, sx, sy, sw, hl, enc8_length, f3, f4, f7, f8, Nat.add_assoc, c1, c2, c3, c4, c5, c6, c7, c8, c9, c10, c11] <;> rfl) (by rfl) (by simp [hw]) ?_
          refine QR.val (by simp [wants, h0, h1, h2, sx, sy, sw, hl, enc8_length, f3, f4, f7, f8, Nat.add_assoc, c1, c2, c3, c4, c5, c6, c7, c8, c9, c10, c11]) (by simp [h0, h1, h2, sx, sy, sw, hl, enc8_length, f3, f4, f7, f8, Nat.add_assoc, c1, c2, c3, c4, c5, c6, c7, c8, c9, c10, c11] <;> rfl) (by rfl) (by simp [hw]) ?_
          refine QR.val (by simp [wants, h0, h1, h2, sx, sy, sw, hl, enc8_length, f3, f4, f7, f8, Nat.add_assoc, c1, c2, c3, c4, c5, c6, c7, c8, c9, c10, c11]) (by simp [h0, h1, h2, sx, sy, sw, hl, enc8_length, f3, f4, f7, f8, Nat.add_assoc, c1, c2, c3, c4, c5, c6, c7, c8, c9, c10, c11] <;> rfl) (by rfl) (by simp [hw]) ?_
          refine QR.val rfl (by simp [h0, h1, h2, sx, sy, sw, hl, enc8_length, f3, f4, f7, f8, Nat.add_assoc, c1, c2, c3, c4, c5, c6, c7, c8, c9, c10, c11] <;> rfl) (by rfl) (by simp [hw]) ?_
          refine QR.val rfl (by simp [h0, h1, h2, sx, sy, sw, hl, enc8_length, f3, f4, f7, f8, Nat.add_assoc, c1, c2, c3, c4, c5, c6, c7, c8, c9, c10, c11] <;> rfl) (by rfl) (by simp [hw]) ?_
          refine QR.val (by simp [wants, h0, h1, h2, sx, sy, sw, hl, enc8_length, f3, f4, f7, f8, Nat.add_assoc, c1, c2, c3, c4, c5, c6, c7, c8, c9, c10, c11]) (by simp [h0, h1, h2, sx, sy, sw, hl, enc8_length, f3, f4, f7, f8, Nat.add_assoc, c1, c2, c3, c4, c5, c6, c7, c8, c9, c10, c11] <;> rfl) (by rfl) (by simp [hw]) ?_
          refine QR.val (by simp [wants, h0, h1, h2, sx, sy, sw, hl, enc8_length, f3, f4, f7, f8, Nat.add_assoc, c1, c2, c3, c4, c5, c6, c7, c8, c9, c10, c11]) (by simp [h0, h1, h2, sx, sy, sw, hl, enc8_length, f3, f4, f7, f8, Nat.add_assoc, c1, c2, c3, c4, c5, c6, c7, c8, c9, c10, c11] <;> rfl) (by rfl) (by simp [hw]) ?_
          refine QR.val (by simp [wants, h0, h1, h2, sx, sy, sw, hl, enc8_length, f3, f4, f7, f8, Nat.add_assoc, c1, c2, c3, c4, c5, c6, c7, c8, c9, c10, c11]) (by simp [h0, h1, h2, sx, sy, sw, hl, enc8_length, f3, f4, f7, f8, Nat.add_assoc, c1, c2, c3, c4, c5, c6, c7, c8, c9, c10, c11] <;> rfl) (by rfl) (by simp [hw]) ?_
          refine QR.val (by simp [wants, h0, h1, h2, sx, sy, sw, hl, enc8_length, f3, f4, f7, f8, Nat.add_assoc, c1, c2, c3, c4, c5, c6, c7, c8, c9, c10, c11]) (by simp [h0, h1, h2, sx, sy, sw, hl, enc8_length, f3, f4, f7, f8, Nat.add_assoc, c1, c2, c3, c4, c5, c6, c7, c8, c9, c10, c11] <;> rfl) (by rfl) (by simp [hw]) ?_
          refine QR.val (by simp [wants, h0, h1, h2, sx, sy, sw, hl, enc8_length, f3, f4, f7, f8, Nat.add_assoc, c1, c2, c3, c4, c5, c6, c7, c8, c9, c10, c11]) (by simp [h0, h1, h2, sx, sy, sw, hl, enc8_length, f3, f4, f7, f8, Nat.add_assoc, c1, c2, c3, c4, c5, c6, c7, c8, c9, c10, c11] <;> rfl) (by rfl) (by simp [hw]) ?_
          refine QR.val (by simp [wants, h0, h1, h2, sx, sy, sw, hl, enc8_length, f3, f4, f7, f8, Nat.add_assoc, c1, c2, c3, c4, c5, c6, c7, c8, c9, c10, c11]) (by simp [h0, h1, h2, sx, sy, sw, hl, enc8_length, f3, f4, f7, f8, Nat.add_assoc, c1, c2, c3, c4, c5, c6, c7, c8, c9, c10, c11] <;> rfl) (by rfl) (by simp [hw]) ?_
          refine QR.val (by simp [wants, h0, h1, h2, sx, sy, sw, hl, enc8_length, f3, f4, f7, f8, Nat.add_assoc, c1, c2, c3, c4, c5, c6, c7, c8, c9, c10, c11]) (by simp [h0, h1, h2, sx, sy, sw, hl, enc8_length, f3, f4, f7, f8, Nat.add_assoc, c1, c2, c3, c4, c5, c6, c7, c8, c9, c10, c11] <;> rfl) (by rfl) (by simp [hw]) ?_
          refine QR.val rfl (by simp [h0, h1, h2, sx, sy, sw, hl, enc8_length, f3, f4, f7, f8, Nat.add_assoc, c1, c2, c3, c4, c5, c6, c7, c8, c9, c10, c11] <;> rfl) (by rfl) (by simp [hw]) ?_
          refine QR.val rfl (by simp [h0, h1, h2, sx, sy, sw, hl, enc8_length, f3, f4, f7, f8, Nat.add_assoc, c1, c2, c3, c4, c5, c6, c7, c8, c9, c10, c11] <;> rfl) (by rfl) (by simp [hw]) ?_
          refine QR.val (by simp [wants, h0, h1, h2, sx, sy, sw, hl, enc8_length, f3, f4, f7, f8, Nat.add_assoc, c1, c2, c3, c4, c5, c6, c7, c8, c9, c10, c11]) (by simp [h0, h1, h2, sx, sy, sw, hl, enc8_length, f3, f4, f7, f8, Nat.add_assoc, c1, c2, c3, c4, c5, c6, c7, c8, c9, c10, c11] <;> rfl) (by rfl) (by simp [hw]) ?_
          refine QR.val rfl (by simp [h0, h1, h2, sx, sy, sw, hl, enc8_length, f3, f4, f7, f8, Nat.add_assoc, c1, c2, c3, c4, c5, c6, c7, c8, c9, c10, c11] <;> rfl) (by rfl) (by simp [hw]) ?_
          refine QR.val rfl (by simp [h0, h1, h2, sx, sy, sw, hl, enc8_length, f3, f4, f7, f8, Nat.add_assoc, c1, c2, c3, c4, c5, c6, c7, c8, c9, c10, c11] <;> rfl) (by rfl) (by simp [hw]) ?_
          exact QR.nil
          case r913 => exact rfl
        refine inSeq_norm ?_
        refine Tri.ret ?_
        simp [Ends, finish, evResults, evResult, Tryz.f4, h0, h1, h2, sx, sy, sw, hl, enc8_length]
theorem body_1004yb {call : CallF} (hC : call.Sound Tryz.prog TT) (x y : Nd) (q : List Int) (sx : ∀ H, call 6 [x.enc, .i .i64 200] H = .val (.b true) H) (sy : ∀ H, call 6 [y.enc, .i .i64 200] H = .val (.b true) H) (sw : ∀ H, call 7 [] H = .val (.b true) H) (hl : ¬ (30 : Int) < q.length) (h256 : ∀ c ∈ q, 0 ≤ c ∧ c < 256) (c : Int) (hc0 : (c == 0) = false) (hg : ∀ (d : List Int) (cur : Nd), walkN x d = some cur → d.length < 900 → ∃ (z : Nd) (k : Int) (b : Bool), Good call x y cur z d c k b)  : Body Tryz.prog TT 4 [x.enc, y.enc, .isl 1 (enc8 q)] (.val (.b true)) := by
  refine ⟨Tryz.f4, _, rfl, rfl, by simp [Tryz.f4], ?_⟩
  have h0 : (Tm.init Tryz.f4.ntmps [x.enc, y.enc, .isl 1 (enc8 q)]).get 0 = x.enc := by rw [get_init]; rfl
  have h1 : (Tm.init Tryz.f4.ntmps [x.enc, y.enc, .isl 1 (enc8 q)]).get 1 = y.enc := by rw [get_init]; rfl
  have h2 : (Tm.init Tryz.f4.ntmps [x.enc, y.enc, .isl 1 (enc8 q)]).get 2 = .isl 1 (enc8 q) := by rw [get_init]; rfl
  have hw : (Tm.init Tryz.f4.ntmps [x.enc, y.enc, .isl 1 (enc8 q)]).wid = 138 := rfl
  generalize Tm.init Tryz.f4.ntmps [x.enc, y.enc, .isl 1 (enc8 q)] = t at *
  try simp only [Nd.enc_eq] at *
  refine Tri.seq' ?_
  refine Tri.regN (t' := ?t1) (H' := ?H1) TT_ok hC ?e1 ?q1
  case e1 =>
    refine go_false ?_
    refine evSeq_go rfl (by simp [h0, h1, h2, sx, sy, sw, hl, enc8_length] <;> rfl) (by rfl) (by simp [hw]) ?_
    refine evSeq_go rfl (by simp [h0, h1, h2, sx, sy, sw, hl, enc8_length] <;> rfl) (by rfl) (by simp [hw]) ?_
    refine evSeq_go rfl (by simp [h0, h1, h2, sx, sy, sw, hl, enc8_length] <;> rfl) (by rfl) (by simp [hw]) ?_
    exact evSeq_nil
  refine inSeq_norm ?_
  refine Tri.seq' ?_
  refine Tri.seq' ?_
  refine Tri.regN (t' := ?t2) (H' := ?H2) TT_ok hC ?e2 ?q2
  case e2 =>
    refine go_false ?_
    refine evSeq_go rfl (by simp [h0, h1, h2, sx, sy, sw, hl, enc8_length] <;> rfl) (by rfl) (by simp [hw]) ?_
    refine evSeq_go rfl (by simp [h0, h1, h2, sx, sy, sw, hl, enc8_length] <;> rfl) (by rfl) (by simp [hw]) ?_
    refine evSeq_go rfl (by simp [h0, h1, h2, sx, sy, sw, hl, enc8_length] <;> rfl) (by rfl) (by simp [hw]) ?_
    refine evSeq_go rfl (by simp [h0, h1, h2, sx, sy, sw, hl, enc8_length] <;> rfl) (by rfl) (by simp [hw]) ?_
    refine evSeq_go (by simp [wants, h0, h1, h2, sx, sy, sw, hl, enc8_length]) (by simp [h0, h1, h2, sx, sy, sw, hl, enc8_length] <;> rfl) (by rfl) (by simp [hw]) ?_
    refine evSeq_go (by simp [wants, h0, h1, h2, sx, sy, sw, hl, enc8_length]) (by simp [h0, h1, h2, sx, sy, sw, hl, enc8_length] <;> rfl) (by rfl) (by simp [hw]) ?_
    refine evSeq_go (by simp [wants, h0, h1, h2, sx, sy, sw, hl, enc8_length]) (by simp [h0, h1, h2, sx, sy, sw, hl, enc8_length] <;> rfl) (by rfl) (by simp [hw]) ?_
    refine evSeq_go rfl (by simp [h0, h1, h2, sx, sy, sw, hl, enc8_length] <;> rfl) (by rfl) (by simp [hw]) ?_
    refine evSeq_go rfl (by simp [h0, h1, h2, sx, sy, sw, hl, enc8_length] <;> rfl) (by rfl) (by simp [hw]) ?_
    refine evSeq_go (by simp [wants, h0, h1, h2, sx, sy, sw, hl, enc8_length]) (by simp [h0, h1, h2, sx, sy, sw, hl, enc8_length] <;> rfl) (by rfl) (by simp [hw]) ?_
    refine evSeq_go (by simp [wants, h0, h1, h2, sx, sy, sw, hl, enc8_length]) (by simp [h0, h1, h2, sx, sy, sw, hl, enc8_length] <;> rfl) (by rfl) (by simp [hw]) ?_
    refine evSeq_go (by simp [wants, h0, h1, h2, sx, sy, sw, hl, enc8_length]) (by simp [h0, h1, h2, sx, sy, sw, hl, enc8_length] <;> rfl) (by rfl) (by simp [hw]) ?_
    refine evSeq_go rfl (by simp [h0, h1, h2, sx, sy, sw, hl, enc8_length] <;> rfl) (by rfl) (by simp [hw]) ?_
    exact evSeq_nil
  refine inSeq_norm ?_
  refine Tri.condG (o := ?o3) (b := ?b3) ?g3 ?r3 ?y3 ?n3
  case g3 => simp [h0, h1, h2, sx, sy, sw, hl, enc8_length] <;> rfl
  case r3 => rfl
  case y3 =>
    intro hy3
    exact absurd hy3 (by simp [h0, h1, h2, sx, sy, sw, hl, enc8_length])
  case n3 =>
    intro hn3
    refine Tri.skip ?_
    refine inSeq_norm ?_
    refine Tri.seq' ?_
    refine Tri.regN (t' := ?t4) (H' := ?H4) TT_ok hC ?e4 ?q4
    case e4 =>
      refine go_false ?_
      refine evSeq_go rfl (by simp [h0, h1, h2, sx, sy, sw, hl, enc8_length] <;> rfl) (by rfl) (by simp [hw]) ?_
      refine evSeq_go rfl (by simp [h0, h1, h2, sx, sy, sw, hl, enc8_length] <;> rfl) (by rfl) (by simp [hw]) ?_
      refine evSeq_go rfl (by simp [h0, h1, h2, sx, sy, sw, hl, enc8_length] <;> rfl) (by rfl) (by simp [hw]) ?_
      exact evSeq_nil
    refine inSeq_norm ?_
    refine Tri.seq' ?_
    refine Tri.regN (t' := ?t5) (H' := ?H5) TT_ok hC ?e5 ?q5
    case e5 =>
      refine go_false ?_
      refine evSeq_go rfl (by simp [h0, h1, h2, sx, sy, sw, hl, enc8_length] <;> rfl) (by rfl) (by simp [hw]) ?_
      exact evSeq_nil
    refine inSeq_norm ?_
    refine Tri.seq' ?_
    refine Tri.seq' ?_
    refine Tri.regN (t' := ?t6) (H' := ?H6) TT_ok hC ?e6 ?q6
    case e6 =>
      refine go_false ?_
      refine evSeq_go rfl (by simp [h0, h1, h2, sx, sy, sw, hl, enc8_length] <;> rfl) (by rfl) (by simp [hw]) ?_
      refine evSeq_go rfl (by simp [h0, h1, h2, sx, sy, sw, hl, enc8_length] <;> rfl) (by rfl) (by simp [hw]) ?_
      refine evSeq_go rfl (by simp [h0, h1, h2, sx, sy, sw, hl, enc8_length] <;> rfl) (by rfl) (by simp [hw]) ?_
      exact evSeq_nil
    refine inSeq_norm ?_
    refine Tri.block' ?_
    refine Tri.loop ?_
    refine loop1004 hC x y q [] [] x _ _ ⟨by simp, by simp, by simp⟩ (.inl ⟨rfl, by simp⟩) rfl h256 (by simp; omega) (by simp) (by simp [hw]) (by simp) (by simp) (by simp) (fun _ _ => trivial) (by simp [h2]) (by simp [enc8_length]) (by simp) ?exit
    case exit =>
      intro t2 H2 d cur hw h3 h4 h7 hP hL hwk hdl
      obtain ⟨z, k, b, c1, c2, c3, c4, c5, c6, c7, c8, c9, c10, c11⟩ := hg d cur hwk (by simp at hdl; omega)
      simp only [Nd.enc_eq] at c1 c2 c3 c4 c5 c6 c7 c8 c9 c10 c11
      refine inBlk_exit ?_
      refine inSeq_norm ?_
      refine Tri.seq' ?_
      refine freeze_law hw hL hP h3 h4 h7 ?_
      clear hw h3 h4 h7 hP hL
      intro t3 N hw f3 f4 f7 f8
      refine Tri.regN (t' := ?t7) (H' := ?H7) TT_ok hC ?e7 ?q7
      case e7 =>
        refine go_false ?_
        refine evSeq_go rfl (by simp [h0, h1, h2, sx, sy, sw, hl, enc8_length, f3, f4, f7, f8, Nat.add_assoc, c1, c2, c3, c4, c5, c6, c7, c8, c9, c10, c11, hc0] <;> rfl) (by rfl) (by simp [hw]) ?_
        refine evSeq_go rfl (by simp [h0, h1, h2, sx, sy, sw, hl, enc8_length, f3, f4, f7, f8, Nat.add_assoc, c1, c2, c3, c4, c5, c6, c7, c8, c9, c10, c11, hc0] <;> rfl) (by rfl) (by simp [hw]) ?_
        refine evSeq_go rfl (by simp [h0, h1, h2, sx, sy, sw, hl, enc8_length, f3, f4, f7, f8, Nat.add_assoc, c1, c2, c3, c4, c5, c6, c7, c8, c9, c10, c11, hc0] <;> rfl) (by rfl) (by simp [hw]) ?_
        refine evSeq_go rfl (by simp [h0, h1, h2, sx, sy, sw, hl, enc8_length, f3, f4, f7, f8, Nat.add_assoc, c1, c2, c3, c4, c5, c6, c7, c8, c9, c10, c11, hc0] <;> rfl) (by rfl) (by simp [hw]) ?_
        refine evSeq_go rfl (by simp [h0, h1, h2, sx, sy, sw, hl, enc8_length, f3, f4, f7, f8, Nat.add_assoc, c1, c2, c3, c4, c5, c6, c7, c8, c9, c10, c11, hc0] <;> rfl) (by rfl) (by simp [hw]) ?_
        refine evSeq_go rfl (by simp [h0, h1, h2, sx, sy, sw, hl, enc8_length, f3, f4, f7, f8, Nat.add_assoc, c1, c2, c3, c4, c5, c6, c7, c8, c9, c10, c11, hc0] <;> rfl) (by rfl) (by simp [hw]) ?_
        refine evSeq_go rfl (by simp [h0, h1, h2, sx, sy, sw, hl, enc8_length, f3, f4, f7, f8, Nat.add_assoc, c1, c2, c3, c4, c5, c6, c7, c8, c9, c10, c11, hc0] <;> rfl) (by rfl) (by simp [hw]) ?_
        refine evSeq_go rfl (by simp [h0, h1, h2, sx, sy, sw, hl, enc8_length, f3, f4, f7, f8, Nat.add_assoc, c1, c2, c3, c4, c5, c6, c7, c8, c9, c10, c11, hc0] <;> rfl) (by rfl) (by simp [hw]) ?_
        refine evSeq_go rfl (by simp [h0, h1, h2, sx, sy, sw, hl, enc8_length, f3, f4, f7, f8, Nat.add_assoc, c1, c2, c3, c4, c5, c6, c7, c8, c9, c10, c11, hc0] <;> rfl) (by rfl) (by simp [hw]) ?_
        exact evSeq_nil
      refine inSeq_norm ?_
      refine Tri.seq' ?_
      refine Tri.regN (t' := ?t8) (H' := ?H8) TT_ok hC ?e8 ?q8
      case e8 =>
        refine go_false ?_
        refine evSeq_go rfl (by simp [h0, h1, h2, sx, sy, sw, hl, enc8_length, f3, f4, f7, f8, Nat.add_assoc, c1, c2, c3, c4, c5, c6, c7, c8, c9, c10, c11, hc0] <;> rfl) (by rfl) (by simp [hw]) ?_
        refine evSeq_go rfl (by simp [h0, h1, h2, sx, sy, sw, hl, enc8_length, f3, f4, f7, f8, Nat.add_assoc, c1, c2, c3, c4, c5, c6, c7, c8, c9, c10, c11, hc0] <;> rfl) (by rfl) (by simp [hw]) ?_
        refine evSeq_go rfl (by simp [h0, h1, h2, sx, sy, sw, hl, enc8_length, f3, f4, f7, f8, Nat.add_assoc, c1, c2, c3, c4, c5, c6, c7, c8, c9, c10, c11, hc0] <;> rfl) (by rfl) (by simp [hw]) ?_
        refine evSeq_go rfl (by simp [h0, h1, h2, sx, sy, sw, hl, enc8_length, f3, f4, f7, f8, Nat.add_assoc, c1, c2, c3, c4, c5, c6, c7, c8, c9, c10, c11, hc0] <;> rfl) (by rfl) (by simp [hw]) ?_
        refine evSeq_go rfl (by simp [h0, h1, h2, sx, sy, sw, hl, enc8_length, f3, f4, f7, f8, Nat.add_assoc, c1, c2, c3, c4, c5, c6, c7, c8, c9, c10, c11, hc0] <;> rfl) (by rfl) (by simp [hw]) ?_
        refine evSeq_go rfl (by simp [h0, h1, h2, sx, sy, sw, hl, enc8_length, f3, f4, f7, f8, Nat.add_assoc, c1, c2, c3, c4, c5, c6, c7, c8, c9, c10, c11, hc0] <;> rfl) (by rfl) (by simp [hw]) ?_
        refine evSeq_go rfl (by simp [h0, h1, h2, sx, sy, sw, hl, enc8_length, f3, f4, f7, f8, Nat.add_assoc, c1, c2, c3, c4, c5, c6, c7, c8, c9, c10, c11, hc0] <;> rfl) (by rfl) (by simp [hw]) ?_
        refine evSeq_go rfl (by simp [h0, h1, h2, sx, sy, sw, hl, enc8_length, f3, f4, f7, f8, Nat.add_assoc, c1, c2, c3, c4, c5, c6, c7, c8, c9, c10, c11, hc0] <;> rfl) (by rfl) (by simp [hw]) ?_
        refine evSeq_go rfl (by simp [h0, h1, h2, sx, sy, sw, hl, enc8_length, f3, f4, f7, f8, Nat.add_assoc, c1, c2, c3, c4, c5, c6, c7, c8, c9, c10, c11, hc0] <;> rfl) (by rfl) (by simp [hw]) ?_
        refine evSeq_go rfl (by simp [h0, h1, h2, sx, sy, sw, hl, enc8_length, f3, f4, f7, f8, Nat.add_assoc, c1, c2, c3, c4, c5, c6, c7, c8, c9, c10, c11, hc0] <;> rfl) (by rfl) (by simp [hw]) ?_
        exact evSeq_nil
      refine inSeq_norm ?_
      refine Tri.seq' ?_
      refine Tri.seq' ?_
      refine Tri.regN (t' := ?t9) (H' := ?H9) TT_ok hC ?e9 ?q9
      case e9 =>
        refine go_false ?_
        refine evSeq_go rfl (by simp [h0, h1, h2, sx, sy, sw, hl, enc8_length, f3, f4, f7, f8, Nat.add_assoc, c1, c2, c3, c4, c5, c6, c7, c8, c9, c10, c11, hc0] <;> rfl) (by rfl) (by simp [hw]) ?_
        refine evSeq_go rfl (by simp [h0, h1, h2, sx, sy, sw, hl, enc8_length, f3, f4, f7, f8, Nat.add_assoc, c1, c2, c3, c4, c5, c6, c7, c8, c9, c10, c11, hc0] <;> rfl) (by rfl) (by simp [hw]) ?_
        refine evSeq_go rfl (by simp [h0, h1, h2, sx, sy, sw, hl, enc8_length, f3, f4, f7, f8, Nat.add_assoc, c1, c2, c3, c4, c5, c6, c7, c8, c9, c10, c11, hc0] <;> rfl) (by rfl) (by simp [hw]) ?_
        refine evSeq_go (by simp [wants, h0, h1, h2, sx, sy, sw, hl, enc8_length, f3, f4, f7, f8, Nat.add_assoc, c1, c2, c3, c4, c5, c6, c7, c8, c9, c10, c11, hc0]) (by simp [h0, h1, h2, sx, sy, sw, hl, enc8_length, f3, f4, f7, f8, Nat.add_assoc, c1, c2, c3, c4, c5, c6, c7, c8, c9, c10, c11, hc0] <;> rfl) (by rfl) (by simp [hw]) ?_
        refine evSeq_go (by simp [wants, h0, h1, h2, sx, sy, sw, hl, enc8_length, f3, f4, f7, f8, Nat.add_assoc, c1, c2, c3, c4, c5, c6, c7, c8, c9, c10, c11, hc0]) (by simp [h0, h1, h2, sx, sy, sw, hl, enc8_length, f3, f4, f7, f8, Nat.add_assoc, c1, c2, c3, c4, c5, c6, c7, c8, c9, c10, c11, hc0] <;> rfl) (by rfl) (by simp [hw]) ?_
        refine evSeq_go rfl (by simp [h0, h1, h2, sx, sy, sw, hl, enc8_length, f3, f4, f7, f8, Nat.add_assoc, c1, c2, c3, c4, c5, c6, c7, c8, c9, c10, c11, hc0] <;> rfl) (by rfl) (by simp [hw]) ?_
        refine evSeq_go rfl (by simp [h0, h1, h2, sx, sy, sw, hl, enc8_length, f3, f4, f7, f8, Nat.add_assoc, c1, c2, c3, c4, c5, c6, c7, c8, c9, c10, c11, hc0] <;> rfl) (by rfl) (by simp [hw]) ?_
        refine evSeq_go (by simp [wants, h0, h1, h2, sx, sy, sw, hl, enc8_length, f3, f4, f7, f8, Nat.add_assoc, c1, c2, c3, c4, c5, c6, c7, c8, c9, c10, c11, hc0]) (by simp [h0, h1, h2, sx, sy, sw, hl, enc8_length, f3, f4, f7, f8, Nat.add_assoc, c1, c2, c3, c4, c5, c6, c7, c8, c9, c10, c11, hc0] <;> rfl) (by rfl) (by simp [hw]) ?_
        refine evSeq_go (by simp [wants, h0, h1, h2, sx, sy, sw, hl, enc8_length, f3, f4, f7, f8, Nat.add_assoc, c1, c2, c3, c4, c5, c6, c7, c8, c9, c10, c11, hc0]) (by simp [h0, h1, h2, sx, sy, sw, hl, enc8_length, f3, f4, f7, f8, Nat.add_assoc, c1, c2, c3, c4, c5, c6, c7, c8, c9, c10, c11, hc0] <;> rfl) (by rfl) (by simp [hw]) ?_
        refine evSeq_go (by simp [wants, h0, h1, h2, sx, sy, sw, hl, enc8_length, f3, f4, f7, f8, Nat.add_assoc, c1, c2, c3, c4, c5, c6, c7, c8, c9, c10, c11, hc0]) (by simp [h0, h1, h2, sx, sy, sw, hl, enc8_length, f3, f4, f7, f8, Nat.add_assoc, c1, c2, c3, c4, c5, c6, c7, c8, c9, c10, c11, hc0] <;> rfl) (by rfl) (by simp [hw]) ?_
        refine evSeq_go (by simp [wants, h0, h1, h2, sx, sy, sw, hl, enc8_length, f3, f4, f7, f8, Nat.add_assoc, c1, c2, c3, c4, c5, c6, c7, c8, c9, c10, c11, hc0]) (by simp [h0, h1, h2, sx, sy, sw, hl, enc8_length, f3, f4, f7, f8, Nat.add_assoc, c1, c2, c3, c4, c5, c6, c7, c8, c9, c10, c11, hc0] <;> rfl) (by rfl) (by simp [hw]) ?_
        refine evSeq_go rfl (by simp [h0, h1, h2, sx, sy, sw, hl, enc8_length, f3, f4, f7, f8, Nat.add_assoc, c1, c2, c3, c4, c5, c6, c7, c8, c9, c10, c11, hc0] <;> rfl) (by rfl) (by simp [hw]) ?_
        refine evSeq_go rfl (by simp [h0, h1, h2, sx, sy, sw, hl, enc8_length, f3, f4, f7, f8, Nat.add_assoc, c1, c2, c3, c4, c5, c6, c7, c8, c9, c10, c11, hc0] <;> rfl) (by rfl) (by simp [hw]) ?_
        refine evSeq_go (by simp [wants, h0, h1, h2, sx, sy, sw, hl, enc8_length, f3, f4, f7, f8, Nat.add_assoc, c1, c2, c3, c4, c5, c6, c7, c8, c9, c10, c11, hc0]) (by simp [h0, h1, h2, sx, sy, sw, hl, enc8_length, f3, f4, f7, f8, Nat.add_assoc, c1, c2, c3, c4, c5, c6, c7, c8, c9, c10, c11, hc0] <;> rfl) (by rfl) (by simp [hw]) ?_
        refine evSeq_go (by simp [wants, h0, h1, h2, sx, sy, sw, hl, enc8_length, f3, f4, f7, f8, Nat.add_assoc, c1, c2, c3, c4, c5, c6, c7, c8, c9, c10, c11, hc0]) (by simp [h0, h1, h2, sx, sy, sw, hl, enc8_length, f3, f4, f7, f8, Nat.add_assoc, c1, c2, c3, c4, c5, c6, c7, c8, c9, c10, c11, hc0] <;> rfl) (by rfl) (by simp [hw]) ?_
        refine evSeq_go (by simp [wants, h0, h1, h2, sx, sy, sw, hl, enc8_length, f3, f4, f7, f8, Nat.add_assoc, c1, c2, c3, c4, c5, c6, c7, c8, c9, c10, c11, hc0]) (by simp [h0, h1, h2, sx, sy, sw, hl, enc8_length, f3, f4, f7, f8, Nat.add_assoc, c1, c2, c3, c4, c5, c6, c7, c8, c9, c10, c11, hc0] <;> rfl) (by rfl) (by simp [hw]) ?_
        refine evSeq_go (by simp [wants, h0, h1, h2, sx, sy, sw, hl, enc8_length, f3, f4, f7, f8, Nat.add_assoc, c1, c2, c3, c4, c5, c6, c7, c8, c9, c10, c11, hc0]) (by simp [h0, h1, h2, sx, sy, sw, hl, enc8_length, f3, f4, f7, f8, Nat.add_assoc, c1, c2, c3, c4, c5, c6, c7, c8, c9, c10, c11, hc0] <;> rfl) (by rfl) (by simp [hw]) ?_
        refine evSeq_off (by simp [wants, h0, h1, h2, sx, sy, sw, hl, enc8_length, f3, f4, f7, f8, Nat.add_assoc, c1, c2, c3, c4, c5, c6, c7, c8, c9, c10, c11, hc0]) (by simp [hw]) ?_
        refine evSeq_off (by simp [wants, h0, h1, h2, sx, sy, sw, hl, enc8_length, f3, f4, f7, f8, Nat.add_assoc, c1, c2, c3, c4, c5, c6, c7, c8, c9, c10, c11, hc0]) (by simp [hw]) ?_
        refine evSeq_off (by simp [wants, h0, h1, h2, sx, sy, sw, hl, enc8_length, f3, f4, f7, f8, Nat.add_assoc, c1, c2, c3, c4, c5, c6, c7, c8, c9, c10, c11, hc0]) (by simp [hw]) ?_
        refine evSeq_go (by simp [wants, h0, h1, h2, sx, sy, sw, hl, enc8_length, f3, f4, f7, f8, Nat.add_assoc, c1, c2, c3, c4, c5, c6, c7, c8, c9, c10, c11, hc0]) (by simp [h0, h1, h2, sx, sy, sw, hl, enc8_length, f3, f4, f7, f8, Nat.add_assoc, c1, c2, c3, c4, c5, c6, c7, c8, c9, c10, c11, hc0] <;> rfl) (by rfl) (by simp [hw]) ?_
        refine evSeq_go rfl (by simp [h0, h1, h2, sx, sy, sw, hl, enc8_length, f3, f4, f7, f8, Nat.add_assoc, c1, c2, c3, c4, c5, c6, c7, c8, c9, c10, c11, hc0] <;> rfl) (by rfl) (by simp [hw]) ?_
        exact evSeq_nil
      refine inSeq_norm ?_
      refine Tri.condG (o := ?o10) (b := ?b10) ?g10 ?r10 ?y10 ?n10
      case g10 => simp [h0, h1, h2, sx, sy, sw, hl, enc8_length] <;> rfl
      case r10 => rfl
      case y10 =>
        intro hy10
        exact absurd hy10 (by simp [h0, h1, h2, sx, sy, sw, hl, enc8_length])
      case n10 =>
        intro hn10
        refine Tri.skip ?_
        refine inSeq_norm ?_
        refine Tri.seq' ?_
        refine Tri.regN (t' := ?t11) (H' := ?H11) TT_ok hC ?e11 ?q11
        case e11 =>
          refine go_false ?_
          refine evSeq_go rfl (by simp [h0, h1, h2, sx, sy, sw, hl, enc8_length, f3, f4, f7, f8, Nat.add_assoc, c1, c2, c3, c4, c5, c6, c7, c8, c9, c10, c11, hc0] <;> rfl) (by rfl) (by simp [hw]) ?_
          refine evSeq_go rfl (by simp [h0, h1, h2, sx, sy, sw, hl, enc8_length, f3, f4, f7, f8, Nat.add_assoc, c1, c2, c3, c4, c5, c6, c7, c8, c9, c10, c11, hc0] <;> rfl) (by rfl) (by simp [hw]) ?_
          refine evSeq_go rfl (by simp [h0, h1, h2, sx, sy, sw, hl, enc8_length, f3, f4, f7, f8, Nat.add_assoc, c1, c2, c3, c4, c5, c6, c7, c8, c9, c10, c11, hc0] <;> rfl) (by rfl) (by simp [hw]) ?_
          refine evSeq_go rfl (by simp [h0, h1, h2, sx, sy, sw, hl, enc8_length, f3, f4, f7, f8, Nat.add_assoc, c1, c2, c3, c4, c5, c6, c7, c8, c9, c10, c11, hc0] <;> rfl) (by rfl) (by simp [hw]) ?_
          refine evSeq_go rfl (by simp [h0, h1, h2, sx, sy, sw, hl, enc8_length, f3, f4, f7, f8, Nat.add_assoc, c1, c2, c3, c4, c5, c6, c7, c8, c9, c10, c11, hc0] <;> rfl) (by rfl) (by simp [hw]) ?_
          refine evSeq_go rfl (by simp [h0, h1, h2, sx, sy, sw, hl, enc8_length, f3, f4, f7, f8, Nat.add_assoc, c1, c2, c3, c4, c5, c6, c7, c8, c9, c10, c11, hc0] <;> rfl) (by rfl) (by simp [hw]) ?_
          refine evSeq_go rfl (by simp [h0, h1, h2, sx, sy, sw, hl, enc8_length, f3, f4, f7, f8, Nat.add_assoc, c1, c2, c3, c4, c5, c6, c7, c8, c9, c10, c11, hc0] <;> rfl) (by rfl) (by simp [hw]) ?_
          refine evSeq_go rfl (by simp [h0, h1, h2, sx, sy, sw, hl, enc8_length, f3, f4, f7, f8, Nat.add_assoc, c1, c2, c3, c4, c5, c6, c7, c8, c9, c10, c11, hc0] <;> rfl) (by rfl) (by simp [hw]) ?_
          refine evSeq_go rfl (by simp [h0, h1, h2, sx, sy, sw, hl, enc8_length, f3, f4, f7, f8, Nat.add_assoc, c1, c2, c3, c4, c5, c6, c7, c8, c9, c10, c11, hc0] <;> rfl) (by rfl) (by simp [hw]) ?_
          exact evSeq_nil
        refine inSeq_norm ?_
        refine Tri.seq' ?_
        refine Tri.regN (t' := ?t12) (H' := ?H12) TT_ok hC ?e12 ?q12
        case e12 =>
          refine go_false ?_
          refine evSeq_go rfl (by simp [h0, h1, h2, sx, sy, sw, hl, enc8_length, f3, f4, f7, f8, Nat.add_assoc, c1, c2, c3, c4, c5, c6, c7, c8, c9, c10, c11, hc0] <;> rfl) (by rfl) (by simp [hw]) ?_
          refine evSeq_go rfl (by simp [h0, h1, h2, sx, sy, sw, hl, enc8_length, f3, f4, f7, f8, Nat.add_assoc, c1, c2, c3, c4, c5, c6, c7, c8, c9, c10, c11, hc0] <;> rfl) (by rfl) (by simp [hw]) ?_
          refine evSeq_go rfl (by simp [h0, h1, h2, sx, sy, sw, hl, enc8_length, f3, f4, f7, f8, Nat.add_assoc, c1, c2, c3, c4, c5, c6, c7, c8, c9, c10, c11, hc0] <;> rfl) (by rfl) (by simp [hw]) ?_
          refine evSeq_go rfl (by simp [h0, h1, h2, sx, sy, sw, hl, enc8_length, f3, f4, f7, f8, Nat.add_assoc, c1, c2, c3, c4, c5, c6, c7, c8, c9, c10, c11, hc0] <;> rfl) (by rfl) (by simp [hw]) ?_
          refine evSeq_go rfl (by simp [h0, h1, h2, sx, sy, sw, hl, enc8_length, f3, f4, f7, f8, Nat.add_assoc, c1, c2, c3, c4, c5, c6, c7, c8, c9, c10, c11, hc0] <;> rfl) (by rfl) (by simp [hw]) ?_
          refine evSeq_go rfl (by simp [h0, h1, h2, sx, sy, sw, hl, enc8_length, f3, f4, f7, f8, Nat.add_assoc, c1, c2, c3, c4, c5, c6, c7, c8, c9, c10, c11, hc0] <;> rfl) (by rfl) (by simp [hw]) ?_
          refine evSeq_go rfl (by simp [h0, h1, h2, sx, sy, sw, hl, enc8_length, f3, f4, f7, f8, Nat.add_assoc, c1, c2, c3, c4, c5, c6, c7, c8, c9, c10, c11, hc0] <;> rfl) (by rfl) (by simp [hw]) ?_
          refine evSeq_go rfl (by simp [h0, h1, h2, sx, sy, sw, hl, enc8_length, f3, f4, f7, f8, Nat.add_assoc, c1, c2, c3, c4, c5, c6, c7, c8, c9, c10, c11, hc0] <;> rfl) (by rfl) (by simp [hw]) ?_
          refine evSeq_go rfl (by simp [h0, h1, h2, sx, sy, sw, hl, enc8_length, f3, f4, f7, f8, Nat.add_assoc, c1, c2, c3, c4, c5, c6, c7, c8, c9, c10, c11, hc0] <;> rfl) (by rfl) (by simp [hw]) ?_
          refine evSeq_go rfl (by simp [h0, h1, h2, sx, sy, sw, hl, enc8_length, f3, f4, f7, f8, Nat.add_assoc, c1, c2, c3, c4, c5, c6, c7, c8, c9, c10, c11, hc0] <;> rfl) (by rfl) (by simp [hw]) ?_
          exact evSeq_nil
        refine inSeq_norm ?_
        refine Tri.seq' ?_
        refine Tri.regN (t' := ?t13) (H' := ?H13) TT_ok hC ?e13 ?q13
        case e13 =>
          refine evReg_quiet (t' := ?t13) (by kernel_rfl) ?_ ?r913
          refine QR.val rfl (by simp [h0, h1, h2, sx, sy, sw, hl, enc8_length, f3, f4, f7, f8, Nat.add_assoc, c1, c2, c3, c4, c5, c6, c7, c8, c9, c10, c11, hc0] <;> rfl) (by rfl) (by simp [hw]) ?_
          refine QR.val rfl (by simp [h0, h1, h2, sx, sy, sw, hl, enc8_length, f3, f4, f7, f8, Nat.add_assoc, c1, c2, c3, c4, c5, c6, c7, c8, c9, c10, c11, hc0] <;> rfl) (by rfl) (by simp [hw]) ?_
          refine QR.val rfl (by simp [h0, h1, h2, sx, sy, sw, hl, enc8_length, f3, f4, f7, f8, Nat.add_assoc, c1, c2, c3, c4, c5, c6, c7, c8, c9, c10, c11, hc0] <;> rfl) (by rfl) (by simp [hw]) ?_
          refine QR.val (by simp [wants, h0, h1, h2, sx, sy, sw, hl, enc8_length, f3, f4, f7, f8, Nat.add_assoc, c1, c2, c3, c4, c5, c6, c7, c8, c9, c10, c11, hc0]) (by simp [h0, h1, h2, sx, sy, sw, hl, enc8_length, f3, f4, f7, f8, Nat.add_assoc, c1, c2, c3, c4, c5, c6, c7, c8, c9, c10, c11, hc0] <;> rfl) (by rfl) (by simp [hw]) ?_
          refine QR.val (by simp [wants, h0, h1, h2, sx, sy, sw, hl, enc8_length, f3, f4, f7, f8, Nat.add_assoc, c1, c2, c3, c4, c5, c6, c7, c8, c9, c10, c11, hc0]) (by simp [h0, h1, h2, sx, sy, sw, hl, enc8_length, f3, f4, f7, f8, Nat.add_assoc, c1, c2, c3, c4, c5, c6, c7, c8, c9, c10, c11, hc0] <;> rfl) (by rfl) (by simp [hw]) ?_
          refine QR.val rfl (by simp [h0, h1, h2, sx, sy, sw, hl, enc8_length, f3, f4, f7, f8, Nat.add_assoc, c1, c2, c3, c4, c5, c6, c7, c8, c9, c10, c11, hc0] <;> rfl) (by rfl) (by simp [hw]) ?_
          refine QR.val rfl (by simp [h0, h1, h2, sx, sy, sw, hl, enc8_length, f3, f4, f7, f8, Nat.add_assoc, c1, c2, c3, c4, c5, c6, c7, c8, c9, c10, c11, hc0] <;> rfl) (by rfl) (by simp [hw]) ?_
          refine QR.val (by simp [wants, h0, h1, h2, sx, sy, sw, hl, enc8_length, f3, f4, f7, f8, Nat.add_assoc, c1, c2, c3, c4, c5, c6, c7, c8, c9, c10, c11, hc0]) (by simp [h0, h1, h2, sx, sy, sw, hl, enc8_length, f3, f4, f7, f8, Nat.add_assoc, c1, c2, c3, c4, c5, c6, c7, c8, c9, c10, c11, hc0] <;> rfl) (by rfl) (by simp [hw]) ?_
          refine QR.val (by simp [wants, h0, h1, h2, sx, sy, sw, hl, enc8_length, f3, f4, f7, f8, Nat.add_assoc, c1, c2, c3, c4, c5, c6, c7, c8, c9, c10, c11, hc0]) (by simp [h0, h1, h2, sx, sy, sw, hl, enc8_length, f3, f4, f7, f8, Nat.add_assoc, c1, c2, c3, c4, c5, c6, c7, c8, c9, c10, c11, hc0] <;> rfl) (by rfl) (by simp [hw]) ?_
          refine QR.val (by simp [wants, h0, h1, h2, sx, sy, sw, hl, enc8_length, f3, f4, f7, f8, Nat.add_assoc, c1, c2, c3, c4, c5, c6, c7, c8, c9, c10, c11, hc0]) (by simp [h0, h1, h2, sx, sy, sw, hl, enc8_length, f3, f4, f7, f8, Nat.add_assoc, c1, c2, c3, c4, c5, c6, c7, c8, c9, c10, c11, hc0] <;> rfl) (by rfl) (by simp [hw]) ?_
          refine QR.val rfl (by simp [h0, h1, h2, sx, sy, sw, hl, enc8_length, f3, f4, f7, f8, Nat.add_assoc, c1, c2, c3, c4, c5, c6, c7, c8, c9, c10, c11, hc0] <;> rfl) (by rfl) (by simp [hw]) ?_
          refine QR.val rfl (by simp [h0, h1, h2, sx, sy, sw, hl, enc8_length, f3, f4, f7, f8, Nat.add_assoc, c1, c2, c3, c4, c5, c6, c7, c8, c9, c10, c11, hc0] <;> rfl) (by rfl) (by simp [hw]) ?_
          refine QR.val (by simp [wants, h0, h1, h2, sx, sy, sw, hl, enc8_length, f3, f4, f7, f8, Nat.add_assoc, c1, c2, c3, c4, c5, c6, c7, c8, c9, c10, c11, hc0]) (by simp [h0, h1, h2, sx, sy, sw, hl, enc8_length, f3, f4, f7, f8, Nat.add_assoc, c1, c2, c3, c4, c5, c6, c7, c8, c9, c10, c11, hc0] <;> rfl) (by rfl) (by simp [hw]) ?_
          refine QR.val (by simp [wants, h0, h1, h2, sx, sy, sw, hl, enc8_length, f3, f4, f7, f8, Nat.add_assoc, c1, c2, c3, c4, c5, c6, c7, c8, c9, c10, c11, hc0]) (by simp [h0, h1, h2, sx, sy, sw, hl, enc8_length, f3, f4, f7, f8, Nat.add_assoc, c1, c2, c3, c4, c5, c6, c7, c8, c9, c10, c11, hc0] <;> rfl) (by rfl) (by simp [hw]) ?_
          refine QR.val (by simp [wants, h0, h1, h2, sx, sy, sw, hl, enc8_length, f3, f4, f7, f8, Nat.add_assoc, c1, c2, c3, c4, c5, c6, c7, c8, c9, c10, c11, hc0]) (by simp [h0, h1, h2, sx, sy, sw, hl, enc8_length, f3, f4, f7, f8, Nat.add_assoc, c1, c2, c3, c4, c5, c6, c7, c8, c9, c10, c11, hc0] <;> rfl) (by rfl) (by simp [hw]) ?_
          refine QR.val rfl (by simp [h0, h1, h2, sx, sy, sw, hl, enc8_length, f3, f4, f7, f8, Nat.add_assoc, c1, c2, c3, c4, c5, c6, c7, c8, c9, c10, c11, hc0] <;> rfl) (by rfl) (by simp [hw]) ?_
          refine QR.val rfl (by simp [h0, h1, h2, sx, sy, sw, hl, enc8_length, f3, f4, f7, f8, Nat.add_assoc, c1, c2, c3, c4, c5, c6, c7, c8, c9, c10, c11, hc0] <;> rfl) (by rfl) (by simp [hw]) ?_
          refine QR.val (by simp [wants, h0, h1, h2, sx, sy, sw, hl, enc8_length, f3, f4, f7, f8, Nat.add_assoc, c1, c2, c3, c4, c5, c6, c7, c8, c9, c10, c11, hc0]) (by simp [h0, h1, h2, sx, sy, sw, hl, enc8_length, f3, f4, f7, f8, Nat.add_assoc, c1, c2, c3, c4, c5, c6, c7, c8, c9, c10, c11, hc0] <;> rfl) (by rfl) (by simp [hw]) ?_
          refine QR.val (by simp [wants, h0, h1, h2, sx, sy, sw, hl, enc8_length, f3, f4, f7, f8, Nat.add_assoc, c1, c2, c3, c4, c5, c6, c7, c8, c9, c10, c11, hc0]) (by simp [h0, h1, h2, sx, sy, sw, hl, enc8_length, f3, f4, f7, f8, Nat.add_assoc, c1, c2, c3, c4, c5, c6, c7, c8, c9, c10, c11, hc0] <;> rfl) (by rfl) (by simp [hw]) ?_
          refine QR.val (by simp [wants, h0, h1, h2, sx, sy, sw, hl, enc8_length, f3, f4, f7, f8, Nat.add_assoc, c1, c2, c3, c4, c5, c6, c7, c8, c9, c10, c11, hc0]) (by simp [h0, h1, h2, sx, sy, sw, hl, enc8_length, f3, f4, f7, f8, Nat.add_assoc, c1, c2, c3, c4, c5, c6, c7, c8, c9, c10, c11, hc0] <;> rfl) (by rfl) (by simp [hw]) ?_
          refine QR.val (by simp [wants, h0, h1, h2, sx, sy, sw, hl, enc8_length, f3, f4, f7, f8, Nat.add_assoc, c1, c2, c3, c4, c5, c6, c7, c8, c9, c10, c11, hc0]) (by simp [h0, h1, h2, sx, sy, sw, hl, enc8_length, f3, f4, f7, f8, Nat.add_assoc, c1, c2, c3, c4, c5, c6, c7, c8, c9, c10, c11, hc0] <;> rfl) (by rfl) (by simp [hw]) ?_
          refine QR.val (by simp [wants, h0, h1, h2, sx, sy, sw, hl, enc8_length, f3, f4, f7, f8, Nat.add_assoc, c1, c2, c3, c4, c5, c6, c7, c8, c9, c10, c11, hc0]) (by simp [h0, h1, h2, sx, sy, sw, hl, enc8_length, f3, f4, f7, f8, Nat.add_assoc, c1, c2, c3, c4, c5, c6, c7, c8, c9, c10, c11, hc0] <;> rfl) (by rfl) (by simp [hw]) ?_
          refine QR.val (by simp [wants, h0, h1, h2, sx, sy, sw, hl, enc8_length, f3, f4, f7, f8, Nat.add_assoc, c1, c2, c3, c4, c5, c6, c7, c8, c9, c10, c11, hc0]) (by simp [h0, h1, h2, sx, sy, sw, hl, enc8_length, f3, f4, f7, f8, Nat.add_assoc, c1, c2, c3, c4, c5, c6, c7, c8, c9, c10, c11, hc0] <;> rfl) (by rfl) (by simp [hw]) ?_
          refine QR.val (by simp [wants, h0, h1, h2, sx, sy, sw, hl, enc8_length, f3, f4, f7, f8, Nat.add_assoc, c1, c2, c3, c4, c5, c6, c7, c8, c9, c10, c11, hc0]) (by simp [h0, h1, h2, sx, sy, sw, hl, enc8_length, f3, f4, f7, f8, Nat.add_assoc, c1, c2, c3, c4, c5, c6, c7, c8, c9, c10, c11, hc0] <;> rfl) (by rfl) (by simp [hw]) ?_
          refine QR.val rfl (by simp [h0, h1, h2, sx, sy, sw, hl, enc8_length, f3, f4, f7, f8, Nat.add_assoc, c1, c2, c3, c4, c5, c6, c7, c8, c9, c10, c11, hc0] <;> rfl) (by rfl) (by simp [hw]) ?_
          refine QR.val rfl (by simp [h0, h1, h2, sx, sy, sw, hl, enc8_length, f3, f4, f7, f8, Nat.add_assoc, c1, c2, c3, c4, c5, c6, c7, c8, c9, c10, c11, hc0] <;> rfl) (by rfl) (by simp [hw]) ?_
          refine QR.val (by simp [wants, h0, h1, h2, sx, sy, sw, hl, enc8_length, f3, f4, f7, f8, Nat.add_assoc, c1, c2, c3, c4, c5, c6, c7, c8, c9, c10, c11, hc0]) (by simp [h0, h1, h2, sx, sy, sw, hl, enc8_length, f3, f4, f7, f8, Nat.add_assoc, c1, c2, c3, c4, c5, c6, c7, c8, c9, c10, c11, hc0] <;> rfl) (by rfl) (by simp [hw]) ?_
          refine QR.val rfl (by simp [h0, h1, h2, sx, sy, sw, hl, enc8_length, f3, f4, f7, f8, Nat.add_assoc, c1, c2, c3, c4, c5, c6, c7, c8, c9, c10, c11, hc0] <;> rfl) (by rfl) (by simp [hw]) ?_
          refine QR.val rfl (by simp [h0, h1, h2, sx, sy, sw, hl, enc8_length, f3, f4, f7, f8, Nat.add_assoc, c1, c2, c3, c4, c5, c6, c7, c8, c9, c10, c11, hc0] <;> rfl) (by rfl) (by simp [hw]) ?_
          exact QR.nil
          case r913 => exact rfl
        refine inSeq_norm ?_
        refine Tri.ret ?_
        simp [Ends, finish, evResults, evResult, Tryz.f4, h0, h1, h2, sx, sy, sw, hl, enc8_length]
end Go.Ev
