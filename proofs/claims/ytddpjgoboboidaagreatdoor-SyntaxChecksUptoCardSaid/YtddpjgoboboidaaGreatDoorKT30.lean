/- Walks over blanks and comments. Walks over blanks and comments, the whole. Blanks and comments at a place. A string of the second kind. Walks over a literal with marks. A literal with marks. Walks over an escape. The end of an escape. An escape: the walk. The words and the shapes of the reference, as tables. -/
import Derived.Test.YtddpjgoboboidaaGreatDoorKT24
import Derived.Test.YtddpjgoboboidaaGreatDoorKT3
import Derived.Test.YtddpjgoboboidaaGreatDoorKEvIter2
namespace Go.Ev
open Go Go.Proofs
set_option linter.unusedSimpArgs false
set_option linter.unusedVariables false
set_option maxRecDepth 1000000
def cutR (s : List UInt8) (i j : Nat) : List UInt8 := (s.take j).drop i
def blkF (s : List UInt8) : Nat → Nat → Bool → Nat × Bool × Int
  | 0, i, l => (i, l, -1)
  | n + 1, i, l => if s.length ≤ i then (i, l, -1)
    else if ((atR s i == 10) : Bool) = true then blkF s n (i + 1) true
    else if (((atR s i == 32) || (atR s i == 9)) || (atR s i == 13)) = true then blkF s n (i + 1) l
    else if begR s i [47, 47] = true then (if Lib.validD (cutR s i (i + lnL (s.drop i))) = true then blkF s n (i + lnL (s.drop i)) l else (i, l, i))
    else if begR s i [47, 42] = true then (if (cmF s (s.length + 1) (i + 2) 1 l).1 = true then
        (if Lib.validD (cutR s i (cmF s (s.length + 1) (i + 2) 1 l).2.1) = true then blkF s n (cmF s (s.length + 1) (i + 2) 1 l).2.1 (cmF s (s.length + 1) (i + 2) 1 l).2.2 else (i, (cmF s (s.length + 1) (i + 2) 1 l).2.2, i))
      else (i, (cmF s (s.length + 1) (i + 2) 1 l).2.2, i))
    else (i, l, -1)
theorem lnL_pos {s : List UInt8} {i : Nat} (h : begR s i [47, 47] = true) : 0 < lnL (s.drop i) := by
  have h1 := begR_len h
  simp only [begR, Bool.and_eq_true, beq_iff_eq, List.length_cons, List.length_nil] at h h1
  have h2 := h.2
  have h3 : i < s.length := by omega
  have h4 : ((s.take (i + 2)).drop i)[0]? = some 47 := by rw [h2]; rfl
  rw [List.getElem?_drop, List.getElem?_take_of_lt (by omega)] at h4
  rw [List.drop_eq_getElem_cons h3]
  have h5 : s[i] = 47 := by
    have := List.getElem?_eq_getElem h3
    simp only [Nat.add_zero] at h4
    rw [this] at h4
    exact Option.some.inj h4
  simp [lnL, h5]
theorem r1126_7 {call : CallF} (hC : call.Sound Tryz.prog TT) {t : Tm} {H : Heap} {Q : Out → Prop} (hw : t.wid = 119) {s : List UInt8} {i : Nat} {b : UInt8} (h0 : t.get 0 = .s s) (h1 : t.get 1 = .i .i64 i) (hi : (i : Int) < s.length) (hi2 : i < s.length) (hat : s[i]? = some b) (hat2 : ∀ h, s[i]'h = b) (hQ : ∀ t' : Tm, t'.wid = 119 → t'.get 24 = .b ((((b.toNat : Int) == 32) || ((b.toNat : Int) == 9)) || ((b.toNat : Int) == 13)) → (∀ j, j < 24 → t'.get j = t.get j) → Q (.norm t' H)) : Tri Tryz.prog TT (sub [true, true, false, false, false, true, false, false, true, true, false] (bodyOf Tryz.f126)) t H Q := by
 have hF := ai @h0 (ai @h1 (ai @hi (ai @hi2 (ai @hat @hat2))))
 cases hB1 : ((b.toNat : Int) == 32 : Bool)
 case false =>
  cases hB2 : ((b.toNat : Int) == 9 : Bool)
  case false =>
   apply rN hC
   · iterate 5 refine evSeq_go rfl (by simp [hF, hB1, hB2] <;> rfl) (by rfl) (by simp [hw]) ?_
     iterate 4 refine evSeq_go (by simp [wants, hF, hB1, hB2]) (by simp [hF, hB1, hB2] <;> rfl) (by rfl) (by simp [hw]) ?_
     iterate 2 refine evSeq_go rfl (by simp [hF, hB1, hB2] <;> rfl) (by rfl) (by simp [hw]) ?_
     iterate 4 refine evSeq_go (by simp [wants, hF, hB1, hB2]) (by simp [hF, hB1, hB2] <;> rfl) (by rfl) (by simp [hw]) ?_
     iterate 2 refine evSeq_go rfl (by simp [hF, hB1, hB2] <;> rfl) (by rfl) (by simp [hw]) ?_
     rfl
   refine hQ _ (by simp [hw]) (by simp [*]) (fun j hj => ?_)
   have : ¬ j = 24 ∧ ¬ j = 25 ∧ ¬ j = 26 ∧ ¬ j = 27 ∧ ¬ j = 28 ∧ ¬ j = 29 ∧ ¬ j = 30 ∧ ¬ j = 31 ∧ ¬ j = 32 ∧ ¬ j = 33 ∧ ¬ j = 34 ∧ ¬ j = 35 ∧ ¬ j = 36 ∧ ¬ j = 37 ∧ ¬ j = 38 ∧ ¬ j = 39 ∧ ¬ j = 40 := by omega
   simp [this]
  case true =>
   apply rN hC
   · iterate 5 refine evSeq_go rfl (by simp [hF, hB1, hB2] <;> rfl) (by rfl) (by simp [hw]) ?_
     iterate 4 refine evSeq_go (by simp [wants, hF, hB1, hB2]) (by simp [hF, hB1, hB2] <;> rfl) (by rfl) (by simp [hw]) ?_
     iterate 2 refine evSeq_go rfl (by simp [hF, hB1, hB2] <;> rfl) (by rfl) (by simp [hw]) ?_
     iterate 4 refine evSeq_off (by simp [wants, hF, hB1, hB2]) (by simp [hw]) ?_
     iterate 2 refine evSeq_go rfl (by simp [hF, hB1, hB2] <;> rfl) (by rfl) (by simp [hw]) ?_
     rfl
   refine hQ _ (by simp [hw]) (by simp [*]) (fun j hj => ?_)
   have : ¬ j = 24 ∧ ¬ j = 25 ∧ ¬ j = 26 ∧ ¬ j = 27 ∧ ¬ j = 28 ∧ ¬ j = 29 ∧ ¬ j = 30 ∧ ¬ j = 31 ∧ ¬ j = 32 ∧ ¬ j = 33 ∧ ¬ j = 34 ∧ ¬ j = 35 ∧ ¬ j = 36 ∧ ¬ j = 37 ∧ ¬ j = 38 ∧ ¬ j = 39 ∧ ¬ j = 40 := by omega
   simp [this]
 case true =>
  apply rN hC
  · iterate 5 refine evSeq_go rfl (by simp [hF, hB1] <;> rfl) (by rfl) (by simp [hw]) ?_
    iterate 4 refine evSeq_off (by simp [wants, hF, hB1]) (by simp [hw]) ?_
    iterate 2 refine evSeq_go rfl (by simp [hF, hB1] <;> rfl) (by rfl) (by simp [hw]) ?_
    iterate 4 refine evSeq_off (by simp [wants, hF, hB1]) (by simp [hw]) ?_
    iterate 2 refine evSeq_go rfl (by simp [hF, hB1] <;> rfl) (by rfl) (by simp [hw]) ?_
    rfl
  refine hQ _ (by simp [hw]) (by simp [*]) (fun j hj => ?_)
  have : ¬ j = 24 ∧ ¬ j = 25 ∧ ¬ j = 26 ∧ ¬ j = 27 ∧ ¬ j = 28 ∧ ¬ j = 29 ∧ ¬ j = 30 ∧ ¬ j = 31 ∧ ¬ j = 32 ∧ ¬ j = 33 ∧ ¬ j = 34 ∧ ¬ j = 35 ∧ ¬ j = 36 ∧ ¬ j = 37 ∧ ¬ j = 38 ∧ ¬ j = 39 ∧ ¬ j = 40 := by omega
  simp [this]
theorem loop1126_0 {call : CallF} (hC : call.Sound Tryz.prog TT) (s : List UInt8) (hsl : s.length < 100000000) (hbg : ∀ (i : Nat) (a b : UInt8), i < 100000000 → ∀ H, call 144 [.s s, .i .i64 i, .s [a, b]] H = .val (.b (begR s i [a, b])) H) (hvd : ∀ x : List UInt8, x.length < 100000000 → ∀ H, call 47 [.s x] H = .val (.b (Lib.validD x)) H) {Q : Out → Prop} : ∀ (n i : Nat) (l : Bool) (t : Tm) (H : Heap), s.length - i < n → i ≤ s.length →
    t.wid = 119 → t.get 0 = .s s → t.get 1 = .i .i64 i → t.get 7 = .b l →
    (∀ (t' : Tm) (H' : Heap), t'.wid = 119 → ∀ (e : Nat) (l' : Bool), blkF s n i l = (e, l', -1) → t'.get 1 = .i .i64 e → t'.get 7 = .b l' → Q (.exit 0 t' H')) →
    (∀ (t' : Tm) (H' : Heap) (e : Nat) (l' : Bool) (o : Int), blkF s n i l = (e, l', o) → t'.get 4 = .i .i64 e → t'.get 5 = .b l' → t'.get 6 = .i .i64 o → Q (.ret t' H')) →
    LTri Tryz.prog TT (sub [true, true, false, false, false] (bodyOf Tryz.f126)) t H Q := by
 intro n
 induction n with
 | zero => intro i l t H h; omega
 | succ n ih =>
   intro i l t H hn hi hw h0 h1 h7 hE hR
   by_cases hge : s.length ≤ i
   · have hge2 : ¬ i < s.length := by omega
     have hF := ai @h0 (ai @h1 (ai @h7 (ai @hge @hge2)))
     refine LTri.round' ?_
     apply sQ
     apply rS hC
     · iterate 4 refine evSeq_go rfl (by simp [hF] <;> rfl) (by rfl) (by simp [hw]) ?_
       rfl
     refine cF (by simp [hF] <;> rfl) ?_
     refine Tri.exit ?_
     refine inSeq_exit ?_
     refine inLoop_exit ?_
     exact hE _ _ (by simp [hw]) i l (by simp only [blkF]; rw [if_pos hge]) (by simp [h1]) (by simp [h7])
   · have hil : (i : Int) < s.length := by omega
     have hil2 : i < s.length := by omega
     obtain ⟨b, hat⟩ : ∃ b, s[i]? = some b := ⟨_, List.getElem?_eq_getElem hil2⟩
     have hat2 : ∀ h, s[i]'h = b := fun h => Option.some.inj ((List.getElem?_eq_getElem h).symm.trans hat)
     have hatR := atR_get hat
     have hwi1 : IntKind.i64.wrap ((i : Int) + 1) = (i : Int) + 1 := wrap_i64 (by omega) (by omega)
     have hwi2 : IntKind.i64.wrap ((i : Int) + 2) = (i : Int) + 2 := wrap_i64 (by omega) (by omega)
     have hb1 := hbg i 47 47 (by omega)
     have hb2 := hbg i 47 42 (by omega)
     cases hc10 : ((b.toNat : Int) == 10) with
     | true =>
       have hres : blkF s (n + 1) i l = blkF s n (i + 1) true := by simp only [blkF]; rw [if_neg hge, hatR, if_pos hc10]
       have hF := ai @h0 (ai @h1 (ai @h7 (ai @hil (ai @hil2 (ai @hat (ai @hat2 (ai @hc10 @hwi1)))))))
       refine LTri.round' ?_
       apply sQ
       apply rS hC
       · iterate 4 refine evSeq_go rfl (by simp [hF] <;> rfl) (by rfl) (by simp [hw]) ?_
         rfl
       refine cT (by simp [hF] <;> rfl) ?_
       apply Tri.skip
       apply sN
       iterate 2 apply bK
       apply rS hC
       · iterate 5 refine evSeq_go rfl (by simp [hF] <;> rfl) (by rfl) (by simp [hw]) ?_
         rfl
       refine cT (by simp [hF] <;> rfl) ?_
       apply rS hC
       · refine evSeq_go rfl (by simp [hF] <;> rfl) (by rfl) (by simp [hw]) ?_
         rfl
       apply rN hC
       · iterate 3 refine evSeq_go rfl (by simp [hF] <;> rfl) (by rfl) (by simp [hw]) ?_
         rfl
       iterate 2 apply bN
       refine inLoop_norm ?_
       refine ih (i + 1) (true) _ _ (by omega) (by omega) (by simp [hw]) (by simp [h0]) (by simp) (by simp) (fun t' H' k1 e2 l2 k2 => hE t' H' k1 e2 l2 (by rw [hres]; exact k2)) (fun t' H' e2 l2 o2 k2 => hR t' H' e2 l2 o2 (by rw [hres]; exact k2))
     | false =>
       cases hbl : ((((b.toNat : Int) == 32) || ((b.toNat : Int) == 9)) || ((b.toNat : Int) == 13)) with
       | true =>
         have hres : blkF s (n + 1) i l = blkF s n (i + 1) l := by simp only [blkF]; rw [if_neg hge, hatR, if_neg (by rw [hc10]; simp), if_pos hbl]
         have hF := ai @h0 (ai @h1 (ai @h7 (ai @hil (ai @hil2 (ai @hat (ai @hat2 (ai @hc10 @hwi1)))))))
         refine LTri.round' ?_
         apply sQ
         apply rS hC
         · iterate 4 refine evSeq_go rfl (by simp [hF] <;> rfl) (by rfl) (by simp [hw]) ?_
           rfl
         refine cT (by simp [hF] <;> rfl) ?_
         apply Tri.skip
         apply sN
         iterate 2 apply bK
         apply rS hC
         · iterate 5 refine evSeq_go rfl (by simp [hF] <;> rfl) (by rfl) (by simp [hw]) ?_
           rfl
         refine cF (by simp [hF] <;> rfl) ?_
         apply sQ
         refine r1126_7 hC (by simp [hw]) (s := s) (i := i) (b := b) (by simp [hF]) (by simp [hF]) (by omega) hil2 hat hat2 ?_
         clear hw
         intro t2 hw m24 hk
         rw [hbl] at m24
         have m0 : t2.get 0 = .s s := (hk 0 (by omega)).trans (by simp [hF])
         have m1 : t2.get 1 = .i .i64 i := (hk 1 (by omega)).trans (by simp [hF])
         have m7 : t2.get 7 = .b l := (hk 7 (by omega)).trans (by simp [hF])
         apply sN
         refine cT (by simp [hF, m0, m1, m7, m24] <;> rfl) ?_
         apply rN hC
         · iterate 3 refine evSeq_go rfl (by simp [hF, m0, m1, m7, m24] <;> rfl) (by rfl) (by simp [hw]) ?_
           rfl
         iterate 2 apply bN
         refine inLoop_norm ?_
         refine ih (i + 1) (l) _ _ (by omega) (by omega) (by simp [hw]) (by simp [m0]) (by simp) (by simp [m7]) (fun t' H' k1 e2 l2 k2 => hE t' H' k1 e2 l2 (by rw [hres]; exact k2)) (fun t' H' e2 l2 o2 k2 => hR t' H' e2 l2 o2 (by rw [hres]; exact k2))
       | false =>
         cases hx1 : begR s i [47, 47] with
         | true =>
           rw [hx1] at hb1
           have hlp := lnL_pos hx1
           have hll := lnL_le (s.drop i)
           rw [List.length_drop] at hll
           have hjl : i + lnL (s.drop i) ≤ s.length := by omega
           have hij : i ≤ i + lnL (s.drop i) := by omega
           obtain ⟨J, hJ⟩ : ∃ J, J = i + lnL (s.drop i) := ⟨_, rfl⟩
           rw [← hJ] at hjl hij
           have hva := hvd (cutR s i J) (by simp [cutR]; omega)
           cases hv : Lib.validD (cutR s i J) with
           | true =>
             rw [hv] at hva
             unfold cutR at hva
             have hres : blkF s (n + 1) i l = blkF s n J l := by simp only [blkF, ← hJ]; rw [if_neg hge, hatR, if_neg (by rw [hc10]; simp), if_neg (by rw [hbl]; simp), if_pos hx1, if_pos hv]
             have hF := ai @h0 (ai @h1 (ai @h7 (ai @hil (ai @hil2 (ai @hat (ai @hat2 (ai @hc10 @hb1)))))))
             refine LTri.round' ?_
             apply sQ
             apply rS hC
             · iterate 4 refine evSeq_go rfl (by simp [hF] <;> rfl) (by rfl) (by simp [hw]) ?_
               rfl
             refine cT (by simp [hF] <;> rfl) ?_
             apply Tri.skip
             apply sN
             iterate 2 apply bK
             apply rS hC
             · iterate 5 refine evSeq_go rfl (by simp [hF] <;> rfl) (by rfl) (by simp [hw]) ?_
               rfl
             refine cF (by simp [hF] <;> rfl) ?_
             apply sQ
             refine r1126_7 hC (by simp [hw]) (s := s) (i := i) (b := b) (by simp [hF]) (by simp [hF]) (by omega) hil2 hat hat2 ?_
             clear hw
             intro t2 hw m24 hk
             rw [hbl] at m24
             have m0 : t2.get 0 = .s s := (hk 0 (by omega)).trans (by simp [hF])
             have m1 : t2.get 1 = .i .i64 i := (hk 1 (by omega)).trans (by simp [hF])
             have m7 : t2.get 7 = .b l := (hk 7 (by omega)).trans (by simp [hF])
             apply sN
             refine cF (by simp [hF, m0, m1, m7, m24] <;> rfl) ?_
             apply rS hC
             · iterate 4 refine evSeq_go rfl (by simp [hF, m0, m1, m7, m24] <;> rfl) (by rfl) (by simp [hw]) ?_
               rfl
             refine cT (by simp [hF, m0, m1, m7, m24] <;> rfl) ?_
             apply rS hC
             · iterate 2 refine evSeq_go rfl (by simp [hF, m0, m1, m7, m24] <;> rfl) (by rfl) (by simp [hw]) ?_
               rfl
             apply sQ
             apply bK
             refine Tri.loop ?_
             refine loop1126_1 hC (s.drop i) (s.take i) _ _ (by rw [List.take_append_drop]; omega) (by simp [hw]) (by rw [List.take_append_drop]; simp [m0]) (by simp [m1, Nat.min_eq_left (Nat.le_of_lt hil2)]) ?exit
             case exit =>
              clear hw
              intro t3 H3 hw q0 q1 hk3
              rw [List.take_append_drop] at q0
              rw [show (s.take i).length = i from by simp; omega, ← hJ] at q1
              have q7 : t3.get 7 = .b l := (hk3 7 (by omega) (by omega)).trans (by simp [m7])
              have q8 : t3.get 8 = .i .i64 i := (hk3 8 (by omega) (by omega)).trans (by simp [m1])
              refine inBlk_exit ?_
              apply sN
              apply rS hC
              · iterate 6 refine evSeq_go rfl (by simp [hF, hil, hil2, hat, hat2, hc10, hF, m24, hb1, q0, q1, q7, q8, hjl, hij, hva] <;> rfl) (by rfl) (by simp [hw]) ?_
                rfl
              refine cF (by simp [hF, m0, m1, m7, m24] <;> rfl) ?_
              apply Tri.skip
              iterate 2 apply bN
              refine inLoop_norm ?_
              refine ih (J) (l) _ _ (by omega) (by omega) (by simp [hw]) (by simp [q0]) (by simp [q1]) (by simp [q7]) (fun t' H' k1 e2 l2 k2 => hE t' H' k1 e2 l2 (by rw [hres]; exact k2)) (fun t' H' e2 l2 o2 k2 => hR t' H' e2 l2 o2 (by rw [hres]; exact k2))
           | false =>
             rw [hv] at hva
             unfold cutR at hva
             have hres : blkF s (n + 1) i l = (i, l, (i : Int)) := by simp only [blkF, ← hJ]; rw [if_neg hge, hatR, if_neg (by rw [hc10]; simp), if_neg (by rw [hbl]; simp), if_pos hx1, if_neg (by rw [hv]; simp)]
             have hF := ai @h0 (ai @h1 (ai @h7 (ai @hil (ai @hil2 (ai @hat (ai @hat2 (ai @hc10 @hb1)))))))
             refine LTri.round' ?_
             apply sQ
             apply rS hC
             · iterate 4 refine evSeq_go rfl (by simp [hF] <;> rfl) (by rfl) (by simp [hw]) ?_
               rfl
             refine cT (by simp [hF] <;> rfl) ?_
             apply Tri.skip
             apply sN
             iterate 2 apply bK
             apply rS hC
             · iterate 5 refine evSeq_go rfl (by simp [hF] <;> rfl) (by rfl) (by simp [hw]) ?_
               rfl
             refine cF (by simp [hF] <;> rfl) ?_
             apply sQ
             refine r1126_7 hC (by simp [hw]) (s := s) (i := i) (b := b) (by simp [hF]) (by simp [hF]) (by omega) hil2 hat hat2 ?_
             clear hw
             intro t2 hw m24 hk
             rw [hbl] at m24
             have m0 : t2.get 0 = .s s := (hk 0 (by omega)).trans (by simp [hF])
             have m1 : t2.get 1 = .i .i64 i := (hk 1 (by omega)).trans (by simp [hF])
             have m7 : t2.get 7 = .b l := (hk 7 (by omega)).trans (by simp [hF])
             apply sN
             refine cF (by simp [hF, m0, m1, m7, m24] <;> rfl) ?_
             apply rS hC
             · iterate 4 refine evSeq_go rfl (by simp [hF, m0, m1, m7, m24] <;> rfl) (by rfl) (by simp [hw]) ?_
               rfl
             refine cT (by simp [hF, m0, m1, m7, m24] <;> rfl) ?_
             apply rS hC
             · iterate 2 refine evSeq_go rfl (by simp [hF, m0, m1, m7, m24] <;> rfl) (by rfl) (by simp [hw]) ?_
               rfl
             apply sQ
             apply bK
             refine Tri.loop ?_
             refine loop1126_1 hC (s.drop i) (s.take i) _ _ (by rw [List.take_append_drop]; omega) (by simp [hw]) (by rw [List.take_append_drop]; simp [m0]) (by simp [m1, Nat.min_eq_left (Nat.le_of_lt hil2)]) ?exit
             case exit =>
              clear hw
              intro t3 H3 hw q0 q1 hk3
              rw [List.take_append_drop] at q0
              rw [show (s.take i).length = i from by simp; omega, ← hJ] at q1
              have q7 : t3.get 7 = .b l := (hk3 7 (by omega) (by omega)).trans (by simp [m7])
              have q8 : t3.get 8 = .i .i64 i := (hk3 8 (by omega) (by omega)).trans (by simp [m1])
              refine inBlk_exit ?_
              apply sN
              apply rS hC
              · iterate 6 refine evSeq_go rfl (by simp [hF, hil, hil2, hat, hat2, hc10, hF, m24, hb1, q0, q1, q7, q8, hjl, hij, hva] <;> rfl) (by rfl) (by simp [hw]) ?_
                rfl
              refine cT (by simp [hF, m0, m1, m7, m24] <;> rfl) ?_
              apply rS hC
              · iterate 6 refine evSeq_go rfl (by simp [hF, hil, hil2, hat, hat2, hc10, hF, m24, hb1, q0, q1, q7, q8, hjl, hij, hva] <;> rfl) (by rfl) (by simp [hw]) ?_
                rfl
              apply Tri.ret
              iterate 2 apply bR
              refine inLoop_ret ?_
              exact hR _ _ i l i hres (by simp) (by simp) (by simp)
         | false =>
           rw [hx1] at hb1
           cases hx2 : begR s i [47, 42] with
           | false =>
             rw [hx2] at hb2
             have hres : blkF s (n + 1) i l = (i, l, -1) := by simp only [blkF]; rw [if_neg hge, hatR, if_neg (by rw [hc10]; simp), if_neg (by rw [hbl]; simp), if_neg (by rw [hx1]; simp), if_neg (by rw [hx2]; simp)]
             have hF := ai @h0 (ai @h1 (ai @h7 (ai @hil (ai @hil2 (ai @hat (ai @hat2 (ai @hc10 (ai @hb1 @hb2))))))))
             refine LTri.round' ?_
             apply sQ
             apply rS hC
             · iterate 4 refine evSeq_go rfl (by simp [hF] <;> rfl) (by rfl) (by simp [hw]) ?_
               rfl
             refine cT (by simp [hF] <;> rfl) ?_
             apply Tri.skip
             apply sN
             iterate 2 apply bK
             apply rS hC
             · iterate 5 refine evSeq_go rfl (by simp [hF] <;> rfl) (by rfl) (by simp [hw]) ?_
               rfl
             refine cF (by simp [hF] <;> rfl) ?_
             apply sQ
             refine r1126_7 hC (by simp [hw]) (s := s) (i := i) (b := b) (by simp [hF]) (by simp [hF]) (by omega) hil2 hat hat2 ?_
             clear hw
             intro t2 hw m24 hk
             rw [hbl] at m24
             have m0 : t2.get 0 = .s s := (hk 0 (by omega)).trans (by simp [hF])
             have m1 : t2.get 1 = .i .i64 i := (hk 1 (by omega)).trans (by simp [hF])
             have m7 : t2.get 7 = .b l := (hk 7 (by omega)).trans (by simp [hF])
             apply sN
             refine cF (by simp [hF, m0, m1, m7, m24] <;> rfl) ?_
             apply rS hC
             · iterate 4 refine evSeq_go rfl (by simp [hF, m0, m1, m7, m24] <;> rfl) (by rfl) (by simp [hw]) ?_
               rfl
             refine cF (by simp [hF, m0, m1, m7, m24] <;> rfl) ?_
             apply rS hC
             · iterate 4 refine evSeq_go rfl (by simp [hF, m0, m1, m7, m24] <;> rfl) (by rfl) (by simp [hw]) ?_
               rfl
             refine cF (by simp [hF, m0, m1, m7, m24] <;> rfl) ?_
             apply rS hC
             · iterate 5 refine evSeq_go rfl (by simp [hF, m0, m1, m7, m24] <;> rfl) (by rfl) (by simp [hw]) ?_
               rfl
             apply Tri.ret
             iterate 2 apply bR
             refine inLoop_ret ?_
             exact hR _ _ i l (-1) hres (by simp) (by simp) (by simp)
           | true =>
             rw [hx2] at hb2
             have hlen := begR_len hx2
             simp only [List.length_cons, List.length_nil] at hlen
             have hcl := cmF_le s (s.length + 1) (i + 2) 1 l (by omega)
             cases hcf : (cmF s (s.length + 1) (i + 2) 1 l).1 with
             | false =>
               have hres : blkF s (n + 1) i l = (i, (cmF s (s.length + 1) (i + 2) 1 l).2.2, (i : Int)) := by simp only [blkF]; rw [if_neg hge, hatR, if_neg (by rw [hc10]; simp), if_neg (by rw [hbl]; simp), if_neg (by rw [hx1]; simp), if_pos hx2, if_neg (by rw [hcf]; simp)]
               have hF := ai @h0 (ai @h1 (ai @h7 (ai @hil (ai @hil2 (ai @hat (ai @hat2 (ai @hc10 (ai @hb1 (ai @hb2 @hwi2)))))))))
               refine LTri.round' ?_
               apply sQ
               apply rS hC
               · iterate 4 refine evSeq_go rfl (by simp [hF] <;> rfl) (by rfl) (by simp [hw]) ?_
                 rfl
               refine cT (by simp [hF] <;> rfl) ?_
               apply Tri.skip
               apply sN
               iterate 2 apply bK
               apply rS hC
               · iterate 5 refine evSeq_go rfl (by simp [hF] <;> rfl) (by rfl) (by simp [hw]) ?_
                 rfl
               refine cF (by simp [hF] <;> rfl) ?_
               apply sQ
               refine r1126_7 hC (by simp [hw]) (s := s) (i := i) (b := b) (by simp [hF]) (by simp [hF]) (by omega) hil2 hat hat2 ?_
               clear hw
               intro t2 hw m24 hk
               rw [hbl] at m24
               have m0 : t2.get 0 = .s s := (hk 0 (by omega)).trans (by simp [hF])
               have m1 : t2.get 1 = .i .i64 i := (hk 1 (by omega)).trans (by simp [hF])
               have m7 : t2.get 7 = .b l := (hk 7 (by omega)).trans (by simp [hF])
               apply sN
               refine cF (by simp [hF, m0, m1, m7, m24] <;> rfl) ?_
               apply rS hC
               · iterate 4 refine evSeq_go rfl (by simp [hF, m0, m1, m7, m24] <;> rfl) (by rfl) (by simp [hw]) ?_
                 rfl
               refine cF (by simp [hF, m0, m1, m7, m24] <;> rfl) ?_
               apply rS hC
               · iterate 4 refine evSeq_go rfl (by simp [hF, m0, m1, m7, m24] <;> rfl) (by rfl) (by simp [hw]) ?_
                 rfl
               refine cT (by simp [hF, m0, m1, m7, m24] <;> rfl) ?_
               apply rS hC
               · iterate 3 refine evSeq_go rfl (by simp [hF, m0, m1, m7, m24] <;> rfl) (by rfl) (by simp [hw]) ?_
                 rfl
               apply rS hC
               · iterate 3 refine evSeq_go rfl (by simp [hF, m0, m1, m7, m24] <;> rfl) (by rfl) (by simp [hw]) ?_
                 rfl
               apply sQ
               apply bK
               refine Tri.loop ?_
               refine loop1126_2 hC s i (by omega) hbg (s.length + 1) (i + 2) 1 l _ _ (by omega) (by omega) (by omega) (by simp [hw]) (by simp [m0]) (by simp) (by simp [m7]) (by simp [m1]) (by simp) ?exit ?ret
               case exit =>
                clear hw
                intro t3 H3 hw e2 l2 hcm q0 q1 q7 hk3
                exact absurd (congrArg Prod.fst hcm) (by rw [hcf]; simp)
               case ret =>
                intro t3 H3 e2 l2 hcm q4 q5 q6
                have el : (cmF s (s.length + 1) (i + 2) 1 l).2.2 = l2 := by rw [hcm]
                rw [el] at hres
                apply bR
                apply sR
                iterate 2 apply bR
                refine inLoop_ret ?_
                exact hR _ _ i l2 i hres (by simp [q4]) (by simp [q5]) (by simp [q6])
             | true =>
               have hjl : (cmF s (s.length + 1) (i + 2) 1 l).2.1 ≤ s.length := hcl.2
               have hij : i ≤ (cmF s (s.length + 1) (i + 2) 1 l).2.1 := by omega
               have hva := hvd (cutR s i (cmF s (s.length + 1) (i + 2) 1 l).2.1) (by simp [cutR]; omega)
               cases hv : Lib.validD (cutR s i (cmF s (s.length + 1) (i + 2) 1 l).2.1) with
               | false =>
                 rw [hv] at hva
                 unfold cutR at hva
                 have hres : blkF s (n + 1) i l = (i, (cmF s (s.length + 1) (i + 2) 1 l).2.2, (i : Int)) := by simp only [blkF]; rw [if_neg hge, hatR, if_neg (by rw [hc10]; simp), if_neg (by rw [hbl]; simp), if_neg (by rw [hx1]; simp), if_pos hx2, if_pos hcf, if_neg (by rw [hv]; simp)]
                 have hF := ai @h0 (ai @h1 (ai @h7 (ai @hil (ai @hil2 (ai @hat (ai @hat2 (ai @hc10 (ai @hb1 (ai @hb2 @hwi2)))))))))
                 refine LTri.round' ?_
                 apply sQ
                 apply rS hC
                 · iterate 4 refine evSeq_go rfl (by simp [hF] <;> rfl) (by rfl) (by simp [hw]) ?_
                   rfl
                 refine cT (by simp [hF] <;> rfl) ?_
                 apply Tri.skip
                 apply sN
                 iterate 2 apply bK
                 apply rS hC
                 · iterate 5 refine evSeq_go rfl (by simp [hF] <;> rfl) (by rfl) (by simp [hw]) ?_
                   rfl
                 refine cF (by simp [hF] <;> rfl) ?_
                 apply sQ
                 refine r1126_7 hC (by simp [hw]) (s := s) (i := i) (b := b) (by simp [hF]) (by simp [hF]) (by omega) hil2 hat hat2 ?_
                 clear hw
                 intro t2 hw m24 hk
                 rw [hbl] at m24
                 have m0 : t2.get 0 = .s s := (hk 0 (by omega)).trans (by simp [hF])
                 have m1 : t2.get 1 = .i .i64 i := (hk 1 (by omega)).trans (by simp [hF])
                 have m7 : t2.get 7 = .b l := (hk 7 (by omega)).trans (by simp [hF])
                 apply sN
                 refine cF (by simp [hF, m0, m1, m7, m24] <;> rfl) ?_
                 apply rS hC
                 · iterate 4 refine evSeq_go rfl (by simp [hF, m0, m1, m7, m24] <;> rfl) (by rfl) (by simp [hw]) ?_
                   rfl
                 refine cF (by simp [hF, m0, m1, m7, m24] <;> rfl) ?_
                 apply rS hC
                 · iterate 4 refine evSeq_go rfl (by simp [hF, m0, m1, m7, m24] <;> rfl) (by rfl) (by simp [hw]) ?_
                   rfl
                 refine cT (by simp [hF, m0, m1, m7, m24] <;> rfl) ?_
                 apply rS hC
                 · iterate 3 refine evSeq_go rfl (by simp [hF, m0, m1, m7, m24] <;> rfl) (by rfl) (by simp [hw]) ?_
                   rfl
                 apply rS hC
                 · iterate 3 refine evSeq_go rfl (by simp [hF, m0, m1, m7, m24] <;> rfl) (by rfl) (by simp [hw]) ?_
                   rfl
                 apply sQ
                 apply bK
                 refine Tri.loop ?_
                 refine loop1126_2 hC s i (by omega) hbg (s.length + 1) (i + 2) 1 l _ _ (by omega) (by omega) (by omega) (by simp [hw]) (by simp [m0]) (by simp) (by simp [m7]) (by simp [m1]) (by simp) ?exit ?ret
                 case exit =>
                  clear hw
                  intro t3 H3 hw e2 l2 hcm q0 q1 q7 hk3
                  have q9 : t3.get 9 = .i .i64 i := (hk3 9 (by omega) (by omega) (by omega) (by omega)).trans (by simp [m1])
                  have ee : (cmF s (s.length + 1) (i + 2) 1 l).2.1 = e2 := by rw [hcm]
                  have el : (cmF s (s.length + 1) (i + 2) 1 l).2.2 = l2 := by rw [hcm]
                  rw [ee] at hva hjl hij
                  try rw [ee] at hres
                  rw [el] at hres
                  refine inBlk_exit ?_
                  apply sN
                  apply rS hC
                  · iterate 6 refine evSeq_go rfl (by simp [hF, hil, hil2, hat, hat2, hc10, hF, m24, hb1, hb2, q0, q1, q7, q9, hjl, hij, hva] <;> rfl) (by rfl) (by simp [hw]) ?_
                    rfl
                  refine cT (by simp [hF, m0, m1, m7, m24] <;> rfl) ?_
                  apply rS hC
                  · iterate 6 refine evSeq_go rfl (by simp [hF, hil, hil2, hat, hat2, hc10, hF, m24, hb1, hb2, q0, q1, q7, q9, hjl, hij, hva] <;> rfl) (by rfl) (by simp [hw]) ?_
                    rfl
                  apply Tri.ret
                  iterate 2 apply bR
                  refine inLoop_ret ?_
                  exact hR _ _ i l2 i hres (by simp) (by simp) (by simp)
                 case ret =>
                  intro t3 H3 e2 l2 hcm q4 q5 q6
                  exact absurd (congrArg Prod.fst hcm) (by rw [hcf]; simp)
               | true =>
                 rw [hv] at hva
                 unfold cutR at hva
                 have hres : blkF s (n + 1) i l = blkF s n (cmF s (s.length + 1) (i + 2) 1 l).2.1 (cmF s (s.length + 1) (i + 2) 1 l).2.2 := by simp only [blkF]; rw [if_neg hge, hatR, if_neg (by rw [hc10]; simp), if_neg (by rw [hbl]; simp), if_neg (by rw [hx1]; simp), if_pos hx2, if_pos hcf, if_pos hv]
                 have hF := ai @h0 (ai @h1 (ai @h7 (ai @hil (ai @hil2 (ai @hat (ai @hat2 (ai @hc10 (ai @hb1 (ai @hb2 @hwi2)))))))))
                 refine LTri.round' ?_
                 apply sQ
                 apply rS hC
                 · iterate 4 refine evSeq_go rfl (by simp [hF] <;> rfl) (by rfl) (by simp [hw]) ?_
                   rfl
                 refine Tri.condG (o := ?og2) (b := ?bg2) ?gg2 ?rg2 ?yg2 ?ng2
                 case gg2 => simp [hF] <;> rfl
                 case rg2 => rfl
                 case yg2 =>
                  intro hy2
                  apply Tri.skip
                  apply sN
                  iterate 2 apply bK
                  apply rS hC
                  · iterate 5 refine evSeq_go rfl (by simp [hF] <;> rfl) (by rfl) (by simp [hw]) ?_
                    rfl
                  refine cF (by simp [hF] <;> rfl) ?_
                  apply sQ
                  refine r1126_7 hC (by simp [hw]) (s := s) (i := i) (b := b) (by simp [hF]) (by simp [hF]) (by omega) hil2 hat hat2 ?_
                  clear hw
                  intro t2 hw m24 hk
                  rw [hbl] at m24
                  have m0 : t2.get 0 = .s s := (hk 0 (by omega)).trans (by simp [hF])
                  have m1 : t2.get 1 = .i .i64 i := (hk 1 (by omega)).trans (by simp [hF])
                  have m7 : t2.get 7 = .b l := (hk 7 (by omega)).trans (by simp [hF])
                  apply sN
                  refine cF (by simp [hF, m0, m1, m7, m24] <;> rfl) ?_
                  apply rS hC
                  · iterate 4 refine evSeq_go rfl (by simp [hF, m0, m1, m7, m24] <;> rfl) (by rfl) (by simp [hw]) ?_
                    rfl
                  refine cF (by simp [hF, m0, m1, m7, m24] <;> rfl) ?_
                  apply rS hC
                  · iterate 4 refine evSeq_go rfl (by simp [hF, m0, m1, m7, m24] <;> rfl) (by rfl) (by simp [hw]) ?_
                    rfl
                  refine cT (by simp [hF, m0, m1, m7, m24] <;> rfl) ?_
                  apply rS hC
                  · iterate 3 refine evSeq_go rfl (by simp [hF, m0, m1, m7, m24] <;> rfl) (by rfl) (by simp [hw]) ?_
                    rfl
                  apply rS hC
                  · iterate 3 refine evSeq_go rfl (by simp [hF, m0, m1, m7, m24] <;> rfl) (by rfl) (by simp [hw]) ?_
                    rfl
                  apply sQ
                  apply bK
                  refine Tri.loop ?_
                  refine loop1126_2 hC s i (by omega) hbg (s.length + 1) (i + 2) 1 l _ _ (by omega) (by omega) (by omega) (by simp [hw]) (by simp [m0]) (by simp) (by simp [m7]) (by simp [m1]) (by simp) ?exit ?ret
                  case exit =>
                   clear hw
                   intro t3 H3 hw e2 l2 hcm q0 q1 q7 hk3
                   have q9 : t3.get 9 = .i .i64 i := (hk3 9 (by omega) (by omega) (by omega) (by omega)).trans (by simp [m1])
                   have ee : (cmF s (s.length + 1) (i + 2) 1 l).2.1 = e2 := by rw [hcm]
                   have el : (cmF s (s.length + 1) (i + 2) 1 l).2.2 = l2 := by rw [hcm]
                   rw [ee] at hva hjl hij
                   try rw [ee] at hres
                   rw [el] at hres
                   refine inBlk_exit ?_
                   apply sN
                   apply rS hC
                   · iterate 6 refine evSeq_go rfl (by simp [hF, hil, hil2, hat, hat2, hc10, hF, m24, hb1, hb2, q0, q1, q7, q9, hjl, hij, hva] <;> rfl) (by rfl) (by simp [hw]) ?_
                     rfl
                   refine cF (by simp [hF, m0, m1, m7, m24] <;> rfl) ?_
                   apply Tri.skip
                   iterate 2 apply bN
                   refine inLoop_norm ?_
                   refine ih (e2) (l2) _ _ (by omega) (by omega) (by simp [hw]) (by simp [q0]) (by simp [q1]) (by simp [q7]) (fun t' H' k1 e2 l2 k2 => hE t' H' k1 e2 l2 (by rw [hres]; exact k2)) (fun t' H' e2 l2 o2 k2 => hR t' H' e2 l2 o2 (by rw [hres]; exact k2))
                  case ret =>
                   intro t3 H3 e2 l2 hcm q4 q5 q6
                   exact absurd (congrArg Prod.fst hcm) (by rw [hcf]; simp)
                 case ng2 =>
                  intro hn2
                  exact absurd hn2 (by simp [hF])

theorem body_1126 {call : CallF} (hC : call.Sound Tryz.prog TT) (s : List UInt8) (i : Nat) (hsl : s.length < 100000000) (hi : i ≤ s.length) (hbg : ∀ (i : Nat) (a b : UInt8), i < 100000000 → ∀ H, call 144 [.s s, .i .i64 i, .s [a, b]] H = .val (.b (begR s i [a, b])) H) (hvd : ∀ x : List UInt8, x.length < 100000000 → ∀ H, call 47 [.s x] H = .val (.b (Lib.validD x)) H)  : EBody Tryz.prog TT 126 [.s s, .i .i64 i] (fun r => r = .val (.tup [.i .i64 (blkF s (s.length + 1) i false).1, .b (blkF s (s.length + 1) i false).2.1, .i .i64 (blkF s (s.length + 1) i false).2.2])) := by
 refine en Tryz.f126 rfl rfl (by simp [Tryz.f126]) 119 rfl fun t hw hg => ?_
 have h0 := hg 0 _ rfl
 have h1 := hg 1 _ rfl
 clear hg
 try simp only [Nd.enc_eq] at *
 apply rS hC
 · iterate 3 refine oA ?_
   rfl
 apply rS hC
 · refine oA ?_
   rfl
 apply sQ
 apply bK
 refine Tri.loop ?_
 refine loop1126_0 hC s hsl hbg hvd (s.length + 1) i false _ _ (by omega) hi (by simp [hw]) (by simp [h0]) (by simp [h1]) (by simp) ?exit ?ret
 case exit =>
  intro t2 H2 hw e l' hb q1 q7
  have q4 : True := trivial
  have q5 : True := trivial
  have q6 : True := trivial
  refine inBlk_exit ?_
  apply sN
  apply rS hC
  · iterate 5 refine oA ?_
    rfl
  apply Tri.ret
  rw [hb]
  refine endsE (by simp [Tryz.f126, q4, q5, q6] <;> rfl) (by rfl) ?_
  rfl
 case ret =>
  intro t2 H2 e l' o hb q4 q5 q6
  apply bR
  apply sR
  rw [hb]
  refine endsE (by simp [Tryz.f126, q4, q5, q6] <;> rfl) (by rfl) ?_
  rfl
theorem sp33v : ∃ g, SpecOK Tryz.prog TT 47 g ∧ ∀ s : List UInt8, s.length < 100000000 → ∀ H, g [.s s] H = .val (.b (Lib.validD s)) H := ⟨spValid, ok33, fun s hs H => by
  have : s.length < 4294967281 := by omega
  simp only [spValid]
  rw [if_pos this]⟩
theorem blkF_le (s : List UInt8) : ∀ (n i : Nat) (l : Bool), i ≤ s.length → i ≤ (blkF s n i l).1 ∧ (blkF s n i l).1 ≤ s.length
  | 0, i, l, h => ⟨Nat.le_refl _, h⟩
  | n + 1, i, l, h => by
    simp only [blkF]
    split
    · exact ⟨Nat.le_refl _, h⟩
    split
    · have := blkF_le s n (i + 1) true (by omega); omega
    split
    · have := blkF_le s n (i + 1) l (by omega); omega
    split
    · have h1 := lnL_le (s.drop i)
      rw [List.length_drop] at h1
      split
      · have := blkF_le s n (i + lnL (s.drop i)) l (by omega); omega
      · exact ⟨Nat.le_refl _, h⟩
    split
    · rename_i hb
      have hb := begR_len hb
      simp only [List.length_cons, List.length_nil] at hb
      have h1 := cmF_le s (s.length + 1) (i + 2) 1 l (by omega)
      split
      · split
        · have := blkF_le s n (cmF s (s.length + 1) (i + 2) 1 l).2.1 (cmF s (s.length + 1) (i + 2) 1 l).2.2 (by omega); omega
        · exact ⟨Nat.le_refl _, h⟩
      · exact ⟨Nat.le_refl _, h⟩
    · exact ⟨Nat.le_refl _, h⟩
theorem sp1126 : ∃ g, SpecOK Tryz.prog TT 126 g ∧ ∀ (s : List UInt8) (i : Nat), s.length < 100000000 → i ≤ s.length → ∀ H, g [.s s, .i .i64 i] H = .val (.tup [.i .i64 (blkF s (s.length + 1) i false).1, .b (blkF s (s.length + 1) i false).2.1, .i .i64 (blkF s (s.length + 1) i false).2.2]) H := by
  obtain ⟨g1, k1, s1⟩ := sp1144
  obtain ⟨g2, k2, s2⟩ := sp33v
  obtain ⟨g, k, s⟩ := spec_val TT_ok TT_plain 126 (fun p : List UInt8 × Nat => [.s p.1, .i .i64 p.2]) (fun p => p.1.length < 100000000 ∧ p.2 ≤ p.1.length) (fun p => .tup [.i .i64 (blkF p.1 (p.1.length + 1) p.2 false).1, .b (blkF p.1 (p.1.length + 1) p.2 false).2.1, .i .i64 (blkF p.1 (p.1.length + 1) p.2 false).2.2]) (fun p _ => by simp [nlL, nl]) (fun _ => by simp [nl, nlL]) (fun a b h => by
    simp only [List.cons.injEq, V.s.injEq, V.i.injEq, true_and, and_true] at h
    rw [h.1, show a.2 = b.2 from by omega]) (fun p hp => EBody.of1 (body_1126 (ws (ws n0 k1) k2) p.1 p.2 hp.1 hp.2 (fun i a b hi H => by
      rw [w_other _ _ _ _ rfl, w_here]
      exact s1 p.1 i [a, b] (by omega) (by simp) H) (fun x hx H => by
      rw [w_here]
      exact s2 x hx H)))
  exact ⟨g, k, fun a i h1 h2 H => s (a, i) ⟨h1, h2⟩ H⟩
def rawF (s : List UInt8) : Nat → Nat → Option Nat
  | 0, _ => none
  | n + 1, k => if k + 3 ≤ s.length then (if ((s.take (k + 3)).drop k == [34, 34, 34]) = true then some k else rawF s n (k + 1)) else none
theorem rawF_le (s : List UInt8) : ∀ (n k j : Nat), rawF s n k = some j → k ≤ j ∧ j + 3 ≤ s.length
  | 0, k, j, h => by cases h
  | n + 1, k, j, h => by
    simp only [rawF] at h
    split at h
    · split at h
      · cases h; omega
      · have := rawF_le s n (k + 1) j h; omega
    · cases h
def rawV (s : List UInt8) (i : Nat) : V := match rawF s (s.length + 1) (i + 3) with
  | none => .tup [.s [], .i .i64 0, .b false]
  | some k => .tup [.s (cutR s (i + 3) k), .i .i64 ((k + 3 : Nat) : Int), .b (Lib.validD (cutR s (i + 3) k))]
theorem loop1147 {call : CallF} (hC : call.Sound Tryz.prog TT) (s : List UInt8) (i : Nat) (hsl : s.length < 100000000) (hil : i ≤ s.length) (hvd : ∀ x : List UInt8, x.length < 100000000 → ∀ H, call 47 [.s x] H = .val (.b (Lib.validD x)) H) {Q : Out → Prop} : ∀ (n k : Nat) (t : Tm) (H : Heap), s.length + 4 - k < n + 4 → i + 3 ≤ k ∧ k ≤ s.length + 3 →
    t.wid = 36 → t.get 0 = .s s → t.get 1 = .i .i64 i → t.get 7 = .i .i64 k →
    (∀ (t' : Tm) (H' : Heap), t'.wid = 36 → rawF s n k = none → Q (.exit 0 t' H')) →
    (∀ (t' : Tm) (H' : Heap) (j : Nat), rawF s n k = some j → t'.get 4 = .s (cutR s (i + 3) j) → t'.get 5 = .i .i64 ((j + 3 : Nat) : Int) → t'.get 6 = .b (Lib.validD (cutR s (i + 3) j)) → Q (.ret t' H')) →
    LTri Tryz.prog TT (sub [true, false, true, false, false] (bodyOf Tryz.f147)) t H Q := by
 intro n
 induction n with
 | zero =>
   intro k t H hn hk hw h0 h1 h7 hE hR
   have hwk : IntKind.i64.wrap ((k : Int) + 3) = (k : Int) + 3 := wrap_i64 (by omega) (by omega)
   have hge : ¬ (k : Int) + 3 ≤ s.length := by omega
   have hres : rawF s 0 k = none := rfl
   have hF := ai @h0 (ai @h1 (ai @h7 (ai @hwk @hge)))
   refine LTri.round' ?_
   apply sQ
   apply rS hC
   · iterate 5 refine oA ?_
     rfl
   refine cF (by simp [hF] <;> rfl) ?_
   refine Tri.exit ?_
   refine inSeq_exit ?_
   refine inLoop_exit ?_
   exact hE _ _ (by simp [hw]) hres
 | succ n ih =>
   intro k t H hn hk hw h0 h1 h7 hE hR
   have hwk : IntKind.i64.wrap ((k : Int) + 3) = (k : Int) + 3 := wrap_i64 (by omega) (by omega)
   by_cases hlt2 : k + 3 ≤ s.length
   · have hlt : (k : Int) + 3 ≤ s.length := by omega
     have hwi : IntKind.i64.wrap ((i : Int) + 3) = (i : Int) + 3 := wrap_i64 (by omega) (by omega)
     have hwk1 : IntKind.i64.wrap ((k : Int) + 1) = (k : Int) + 1 := wrap_i64 (by omega) (by omega)
     have b1 : (0 : Int) ≤ (k : Int) + 3 := by omega
     have b2 : ((k : Int) + 3).toNat = k + 3 := by omega
     have b3 : (k : Int) ≤ (k : Int) + 3 := by omega
     have b4 : k ≤ k + 3 := by omega
     have c1 : (0 : Int) ≤ (i : Int) + 3 := by omega
     have c2 : ((i : Int) + 3).toNat = i + 3 := by omega
     have c3 : (i : Int) + 3 ≤ k := by omega
     have c4 : k ≤ s.length := by omega
     have hva := hvd (cutR s (i + 3) k) (by simp [cutR]; omega)
     unfold cutR at hva
     cases heq : ((s.take (k + 3)).drop k == [34, 34, 34]) with
     | true =>
       have hres : rawF s (n + 1) k = some k := by simp only [rawF]; rw [if_pos hlt2, if_pos heq]
       have hF := And.intro c3 <| And.intro c4 <| ai @h0 (ai @h1 (ai @h7 (ai @hwk (ai @hlt (ai @heq (ai @hwi (ai @hva (ai @c1 (ai @c2 (ai @b1 (ai @b2 (ai @b3 @b4))))))))))))
       refine LTri.round' ?_
       apply sQ
       apply rS hC
       · iterate 5 refine oA ?_
         rfl
       refine cT (by simp [hF] <;> rfl) ?_
       apply Tri.skip
       apply sN
       apply sQ
       apply bK
       apply rS hC
       · iterate 6 refine oA ?_
         rfl
       refine cT (by simp [hF] <;> rfl) ?_
       apply sQ
       refine Tri.regN (t' := ?th5) (H' := ?Hh5) TT_ok hC ?eh5 ?qh5
       case eh5 =>
        refine evReg_quiet (t' := ?th5) (by kernel_rfl) ?_ ?rh905
        iterate 16 refine QR.val rfl (by simp [hF] <;> rfl) (by rfl) (by simp [hw]) ?_
        exact QR.nil
        case rh905 => exact rfl
       apply sN
       apply Tri.ret
       apply bR
       apply sR
       refine inLoop_ret ?_
       exact hR _ _ k hres (by simp [cutR]) (by simp) (by simp [cutR])
     | false =>
       have hres : rawF s (n + 1) k = rawF s n (k + 1) := by simp only [rawF]; rw [if_pos hlt2, if_neg (by rw [heq]; simp)]
       have hF := ai @h0 (ai @h1 (ai @h7 (ai @hwk (ai @hlt (ai @heq (ai @hwk1 (ai @b1 (ai @b2 (ai @b3 @b4)))))))))
       refine LTri.round' ?_
       apply sQ
       apply rS hC
       · iterate 5 refine oA ?_
         rfl
       refine cT (by simp [hF] <;> rfl) ?_
       apply Tri.skip
       apply sN
       apply sQ
       apply bK
       apply rS hC
       · iterate 6 refine oA ?_
         rfl
       refine cF (by simp [hF] <;> rfl) ?_
       apply Tri.skip
       apply bN
       apply sN
       apply rN hC
       · iterate 3 refine oA ?_
         rfl
       refine inLoop_norm ?_
       refine ih (k + 1) _ _ (by omega) (by omega) (by simp [hw]) (by simp [h0]) (by simp [h1]) (by simp) (fun t' H' k1 k2 => hE t' H' k1 (by rw [hres]; exact k2)) (fun t' H' j k2 => hR t' H' j (by rw [hres]; exact k2))
   · have hge : ¬ (k : Int) + 3 ≤ s.length := by omega
     have hres : rawF s (n + 1) k = none := by simp only [rawF]; rw [if_neg hlt2]
     have hF := ai @h0 (ai @h1 (ai @h7 (ai @hwk @hge)))
     refine LTri.round' ?_
     apply sQ
     apply rS hC
     · iterate 5 refine oA ?_
       rfl
     refine cF (by simp [hF] <;> rfl) ?_
     refine Tri.exit ?_
     refine inSeq_exit ?_
     refine inLoop_exit ?_
     exact hE _ _ (by simp [hw]) hres

theorem body_1147 {call : CallF} (hC : call.Sound Tryz.prog TT) (s : List UInt8) (i : Nat) (hsl : s.length < 100000000) (hil : i ≤ s.length) (hwi : IntKind.i64.wrap ((i : Int) + 3) = (i : Int) + 3) (hvd : ∀ x : List UInt8, x.length < 100000000 → ∀ H, call 47 [.s x] H = .val (.b (Lib.validD x)) H)  : EBody Tryz.prog TT 147 [.s s, .i .i64 i] (fun r => r = .val (rawV s i)) := by
 refine en Tryz.f147 rfl rfl (by simp [Tryz.f147]) 36 rfl fun t hw hg => ?_
 have h0 := hg 0 _ rfl
 have h1 := hg 1 _ rfl
 clear hg
 try simp only [Nd.enc_eq] at *
 have hF := ai @h0 (ai @h1 @hwi)
 apply rS hC
 · iterate 3 refine oA ?_
   rfl
 apply sQ
 apply rS hC
 · iterate 3 refine oA ?_
   rfl
 apply bK
 refine Tri.loop ?_
 refine loop1147 hC s i hsl hil hvd (s.length + 1) (i + 3) _ _ (by omega) (by omega) (by simp [hw]) (by simp [h0]) (by simp [h1]) (by simp [hwi]) ?exit ?ret
 case exit =>
  intro t2 H2 hw hr
  have q4 : True := trivial
  have q5 : True := trivial
  have q6 : True := trivial
  refine inBlk_exit ?_
  apply sN
  apply rS hC
  · iterate 3 refine oA ?_
    rfl
  apply Tri.ret
  simp only [rawV, hr]
  refine endsE (by simp [Tryz.f147, q4, q5, q6] <;> rfl) (by rfl) ?_
  first
   | rfl
   | simp
 case ret =>
  intro t2 H2 j hr q4 q5 q6
  apply bR
  apply sR
  simp only [rawV, hr]
  refine endsE (by simp [Tryz.f147, q4, q5, q6] <;> rfl) (by rfl) ?_
  first
   | rfl
   | simp
def quoF (s : List UInt8) (esc : Nat → Option (List UInt8 × Nat)) (mk : Int) : Nat → Nat → List UInt8 → Option (List UInt8 × Nat)
  | 0, _, _ => none
  | n + 1, i, out => if s.length ≤ i then none else if ((atR s i == 10) : Bool) = true then none
    else if ((atR s i == mk) : Bool) = true then some (out, i + 1)
    else if ((atR s i == 92) : Bool) = true then (match esc i with | some p => quoF s esc mk n p.2 (out ++ p.1) | none => none)
    else quoF s esc mk n (i + 1) (out ++ (s.take (i + 1)).drop i)
def escV : Option (List UInt8 × Nat) → V
  | some p => .tup [.s p.1, .i .i64 p.2, .b true]
  | none => .tup [.s [], .i .i64 0, .b false]
def quoV : Option (List UInt8 × Nat) → V
  | some p => .tup [.s p.1, .i .i64 p.2, .b (Lib.validD p.1)]
  | none => .tup [.s [], .i .i64 0, .b false]
def quoP : Option (List UInt8 × Nat) → List UInt8 × Nat × Bool
  | some p => (p.1, p.2, Lib.validD p.1)
  | none => ([], 0, false)
theorem loop1148 {call : CallF} (hC : call.Sound Tryz.prog TT) (s : List UInt8) (esc : Nat → Option (List UInt8 × Nat)) (mk : Int) (hsl : s.length < 100000000) (hvd : ∀ x : List UInt8, x.length ≤ 4 * s.length → ∀ H, call 47 [.s x] H = .val (.b (Lib.validD x)) H)
    (hesc : ∀ i : Nat, i < s.length → ∀ H, call 158 [.s s, .i .i64 i] H = .val (escV (esc i)) H) (hej : ∀ (i : Nat) (tx : List UInt8) (j : Nat), i < s.length → esc i = some (tx, j) → i < j ∧ j ≤ s.length ∧ tx.length ≤ 4) {Q : Out → Prop} : ∀ (n i : Nat) (out : List UInt8) (t : Tm) (H : Heap), s.length - i < n → i ≤ s.length → out.length ≤ 4 * i →
    t.wid = 61 → t.get 0 = .s s → t.get 1 = .i .i64 i → t.get 2 = .i .u8 mk → t.get 9 = .s out →
    (∀ (t' : Tm) (H' : Heap), t'.wid = 61 → quoF s esc mk n i out = none → Q (.exit 0 t' H')) →
    (∀ (t' : Tm) (H' : Heap) (r : Option (List UInt8 × Nat)), quoF s esc mk n i out = r → t'.get 6 = .s (quoP r).1 → t'.get 7 = .i .i64 (quoP r).2.1 → t'.get 8 = .b (quoP r).2.2 → Q (.ret t' H')) →
    LTri Tryz.prog TT (sub [true, true, true, false, false, false] (bodyOf Tryz.f148)) t H Q := by
 intro n
 induction n with
 | zero => intro i out t H h; omega
 | succ n ih =>
   intro i out t H hn hi hol hw h0 h1 h2 h9 hE hR
   by_cases hge2 : s.length ≤ i
   · have hge : ¬ i < s.length := by omega
     have hres : quoF s esc mk (n + 1) i out = none := by simp only [quoF]; rw [if_pos hge2]
     have hF := ai @h0 (ai @h1 (ai @h2 (ai @h9 @hge)))
     refine LTri.round' ?_
     apply sQ
     apply rS hC
     · iterate 5 refine oA ?_
       iterate 4 refine oC ?_
       refine oA ?_
       rfl
     refine cF (by simp [hF] <;> rfl) ?_
     refine Tri.exit ?_
     refine inSeq_exit ?_
     refine inLoop_exit ?_
     exact hE _ _ (by simp [hw]) hres
   · have hil : (i : Int) < s.length := by omega
     have hil2 : i < s.length := by omega
     obtain ⟨b, hat⟩ : ∃ b, s[i]? = some b := ⟨_, List.getElem?_eq_getElem hil2⟩
     have hat2 : ∀ h, s[i]'h = b := fun h => Option.some.inj ((List.getElem?_eq_getElem h).symm.trans hat)
     have hatR := atR_get hat
     have hwi1 : IntKind.i64.wrap ((i : Int) + 1) = (i : Int) + 1 := wrap_i64 (by omega) (by omega)
     cases hb10 : ((b.toNat : Int) == 10) with
     | true =>
       have hc10 : ((b.toNat : Int) != 10) = false := by rw [bne, hb10]; rfl
       have hres : quoF s esc mk (n + 1) i out = none := by simp only [quoF]; rw [if_neg hge2, hatR, if_pos hb10]
       have hF := ai @h0 (ai @h1 (ai @h2 (ai @h9 (ai @hil (ai @hil2 (ai @hat (ai @hat2 @hc10)))))))
       refine LTri.round' ?_
       apply sQ
       apply rS hC
       · iterate 5 refine oA ?_
         iterate 4 refine oB ?_
         refine oA ?_
         rfl
       refine cF (by simp [hF] <;> rfl) ?_
       refine Tri.exit ?_
       refine inSeq_exit ?_
       refine inLoop_exit ?_
       exact hE _ _ (by simp [hw]) hres
     | false =>
       have hc10 : ((b.toNat : Int) != 10) = true := by rw [bne, hb10]; rfl
       cases hmk : ((b.toNat : Int) == mk) with
       | true =>
         have hres : quoF s esc mk (n + 1) i out = some (out, i + 1) := by simp only [quoF]; rw [if_neg hge2, hatR, if_neg (by rw [hb10]; simp), if_pos hmk]
         have hva := hvd out (by omega)
         have hF := ai @h0 (ai @h1 (ai @h2 (ai @h9 (ai @hil (ai @hil2 (ai @hat (ai @hat2 (ai @hc10 (ai @hmk (ai @hwi1 @hva))))))))))
         refine LTri.round' ?_
         apply sQ
         apply rS hC
         · iterate 5 refine oA ?_
           iterate 4 refine oB ?_
           refine oA ?_
           rfl
         refine cT (by simp [hF] <;> rfl) ?_
         apply Tri.skip
         apply sN
         apply bK
         apply sQ
         apply rS hC
         · iterate 5 refine oA ?_
           rfl
         refine cT (by simp [hF] <;> rfl) ?_
         apply rS hC
         · iterate 8 refine oA ?_
           rfl
         apply Tri.ret
         apply sR
         apply bR
         refine inLoop_ret ?_
         exact hR _ _ (some (out, i + 1)) hres (by simp [quoP]) (by simp [quoP]) (by simp [quoP])
       | false =>
         cases h92 : ((b.toNat : Int) == 92) with
         | true =>
           have hes := hesc i hil2
           cases he : esc i with
           | none =>
             rw [he] at hes
             simp only [escV] at hes
             have hres : quoF s esc mk (n + 1) i out = none := by simp only [quoF]; rw [if_neg hge2, hatR, if_neg (by rw [hb10]; simp), if_neg (by rw [hmk]; simp), if_pos h92, he]
             have hF := ai @h0 (ai @h1 (ai @h2 (ai @h9 (ai @hil (ai @hil2 (ai @hat (ai @hat2 (ai @hc10 (ai @hmk (ai @h92 @hes))))))))))
             refine LTri.round' ?_
             apply sQ
             apply rS hC
             · iterate 5 refine oA ?_
               iterate 4 refine oB ?_
               refine oA ?_
               rfl
             refine cT (by simp [hF] <;> rfl) ?_
             apply Tri.skip
             apply sN
             apply bK
             apply sQ
             apply rS hC
             · iterate 5 refine oA ?_
               rfl
             refine cF (by simp [hF] <;> rfl) ?_
             apply Tri.skip
             apply sN
             apply rS hC
             · iterate 4 refine oA ?_
               rfl
             refine cT (by simp [hF] <;> rfl) ?_
             apply rS hC
             · iterate 10 refine oA ?_
               rfl
             apply sQ
             apply rS hC
             · iterate 2 refine oA ?_
               rfl
             refine cT (by simp [hF] <;> rfl) ?_
             apply rS hC
             · iterate 3 refine oA ?_
               rfl
             apply Tri.ret
             apply sR
             apply bR
             refine inLoop_ret ?_
             exact hR _ _ none hres (by simp [quoP]) (by simp [quoP]) (by simp [quoP])
           | some p =>
             obtain ⟨tx, j⟩ := p
             rw [he] at hes
             simp only [escV] at hes
             obtain ⟨e1, e2, e3⟩ := hej i tx j hil2 he
             have hres : quoF s esc mk (n + 1) i out = quoF s esc mk n j (out ++ tx) := by simp only [quoF]; rw [if_neg hge2, hatR, if_neg (by rw [hb10]; simp), if_neg (by rw [hmk]; simp), if_pos h92, he]
             have hadd := str_add out tx (by omega)
             have hF := ai @h0 (ai @h1 (ai @h2 (ai @h9 (ai @hil (ai @hil2 (ai @hat (ai @hat2 (ai @hc10 (ai @hmk (ai @h92 @hes))))))))))
             refine LTri.round' ?_
             apply sQ
             apply rS hC
             · iterate 5 refine oA ?_
               iterate 4 refine oB ?_
               refine oA ?_
               rfl
             refine cT (by simp [hF] <;> rfl) ?_
             apply Tri.skip
             apply sN
             apply bK
             apply sQ
             apply rS hC
             · iterate 5 refine oA ?_
               rfl
             refine cF (by simp [hF] <;> rfl) ?_
             apply Tri.skip
             apply sN
             apply rS hC
             · iterate 4 refine oA ?_
               rfl
             refine cT (by simp [hF] <;> rfl) ?_
             apply rS hC
             · iterate 10 refine oA ?_
               rfl
             apply sQ
             apply rS hC
             · iterate 2 refine oA ?_
               rfl
             refine cF (by simp [hF] <;> rfl) ?_
             apply Tri.skip
             apply sN
             apply rS hC
             · iterate 4 refine gO (by simp [hF, hadd, -evStr] <;> rfl) ?_
               rfl
             apply rN hC
             · iterate 2 refine oA ?_
               rfl
             apply bN
             refine inLoop_norm ?_
             refine ih (j) (out ++ tx) _ _ (by omega) (by omega) (by simp; omega) (by simp [hw]) (by simp [h0]) (by simp) (by simp [h2]) (by simp) (fun t' H' k1 k2 => hE t' H' k1 (by rw [hres]; exact k2)) (fun t' H' r k2 => hR t' H' r (by rw [hres]; exact k2))
         | false =>
           have htk : List.drop i (List.take (i + 1) s) = [b] := by
            rw [List.drop_take, show i + 1 - i = 1 from by omega, List.drop_eq_getElem_cons hil2, hat2]; rfl
           have hres : quoF s esc mk (n + 1) i out = quoF s esc mk n (i + 1) (out ++ [b]) := by simp only [quoF]; rw [if_neg hge2, hatR, if_neg (by rw [hb10]; simp), if_neg (by rw [hmk]; simp), if_neg (by rw [h92]; simp), htk]
           have hadd := str_add out [b] (by simp only [List.length_cons, List.length_nil]; omega)
           have b1 : (0 : Int) ≤ (i : Int) + 1 := by omega
           have b2 : (i : Int) + 1 ≤ s.length := by omega
           have b3 : (i : Int) ≤ (i : Int) + 1 := by omega
           have b4 : ((i : Int) + 1).toNat = i + 1 := by omega
           have b5 : i ≤ i + 1 := by omega
           have hF := ai @h0 (ai @h1 (ai @h2 (ai @h9 (ai @hil (ai @hil2 (ai @hat (ai @hat2 (ai @hc10 (ai @hmk (ai @h92 @hwi1))))))))))
           refine LTri.round' ?_
           apply sQ
           apply rS hC
           · iterate 5 refine oA ?_
             iterate 4 refine oB ?_
             refine oA ?_
             rfl
           refine Tri.condG (o := ?op2) (b := ?bp2) ?gp2 ?rp2 ?yp2 ?np2
           case gp2 => simp [hF] <;> rfl
           case rp2 => rfl
           case yp2 =>
            intro hy2
            apply Tri.skip
            apply sN
            apply bK
            apply sQ
            apply rS hC
            · iterate 5 refine oA ?_
              rfl
            refine cF (by simp [hF] <;> rfl) ?_
            apply Tri.skip
            apply sN
            apply rS hC
            · iterate 4 refine oA ?_
              rfl
            refine cF (by simp [hF] <;> rfl) ?_
            apply rS hC
            · iterate 8 refine gO (by simp [hF, hadd, -evStr, b1, b2, b3, b4, b5, htk] <;> rfl) ?_
              rfl
            apply rN hC
            · iterate 3 refine oA ?_
              rfl
            apply bN
            refine inLoop_norm ?_
            refine ih (i + 1) (out ++ [b]) _ _ (by omega) (by omega) (by simp; omega) (by simp [hw]) (by simp [h0]) (by simp) (by simp [h2]) (by simp) (fun t' H' k1 k2 => hE t' H' k1 (by rw [hres]; exact k2)) (fun t' H' r k2 => hR t' H' r (by rw [hres]; exact k2))
           case np2 =>
            intro hn2
            exact absurd hn2 (by simp [hF])

theorem quoV_eq (r : Option (List UInt8 × Nat)) : quoV r = .tup [.s (quoP r).1, .i .i64 (quoP r).2.1, .b (quoP r).2.2] := by cases r <;> rfl
theorem body_1148 {call : CallF} (hC : call.Sound Tryz.prog TT) (s : List UInt8) (esc : Nat → Option (List UInt8 × Nat)) (mk : Int) (i : Nat) (hil : i < s.length) (hwi : IntKind.i64.wrap ((i : Int) + 1) = (i : Int) + 1) (hsl : s.length < 100000000) (hvd : ∀ x : List UInt8, x.length ≤ 4 * s.length → ∀ H, call 47 [.s x] H = .val (.b (Lib.validD x)) H)
    (hesc : ∀ i : Nat, i < s.length → ∀ H, call 158 [.s s, .i .i64 i] H = .val (escV (esc i)) H) (hej : ∀ (i : Nat) (tx : List UInt8) (j : Nat), i < s.length → esc i = some (tx, j) → i < j ∧ j ≤ s.length ∧ tx.length ≤ 4)  : EBody Tryz.prog TT 148 [.s s, .i .i64 i, .i .u8 mk] (fun r => r = .val (quoV (quoF s esc mk (s.length + 1) (i + 1) []))) := by
 refine en Tryz.f148 rfl rfl (by simp [Tryz.f148]) 61 rfl fun t hw hg => ?_
 have h0 := hg 0 _ rfl
 have h1 := hg 1 _ rfl
 have h2 := hg 2 _ rfl
 clear hg
 try simp only [Nd.enc_eq] at *
 have hF := ai @h0 (ai @h1 (ai @h2 @hwi))
 apply rS hC
 · iterate 3 refine oA ?_
   rfl
 apply rS hC
 · refine oA ?_
   rfl
 apply rS hC
 · iterate 3 refine oA ?_
   rfl
 apply sQ
 apply bK
 refine Tri.loop ?_
 refine loop1148 hC s esc mk hsl hvd hesc hej (s.length + 1) (i + 1) [] _ _ (by omega) (by omega) (by simp) (by simp [hw]) (by simp [h0]) (by simp [hwi]) (by simp [h2]) (by simp) ?exit ?ret
 case exit =>
  intro t2 H2 hw hr
  have hr' : ∃ r, r = quoF s esc mk (s.length + 1) (i + 1) [] := ⟨_, rfl⟩
  have q6 : True := trivial
  have q7 : True := trivial
  have q8 : True := trivial
  refine inBlk_exit ?_
  apply sN
  apply rS hC
  · iterate 3 refine oA ?_
    rfl
  apply Tri.ret
  rw [hr, quoV_eq]
  refine endsE (by simp [Tryz.f148, q6, q7, q8] <;> rfl) (by rfl) ?_
  first
   | rfl
   | simp [quoP]
 case ret =>
  intro t2 H2 r hr q6 q7 q8
  apply bR
  apply sR
  rw [hr, quoV_eq]
  refine endsE (by simp [Tryz.f148, q6, q7, q8] <;> rfl) (by rfl) ?_
  first
   | rfl
   | simp [quoP]
def escL (c : Int) (ok : Bool) : List UInt8 → List UInt8 → Option (List UInt8)
  | x :: xs, y :: ys => if ((c == (x.toNat : Int)) && ok) = true then some [y] else escL c ok xs ys
  | _, _ => none
def hexF (s : List UInt8) (i : Nat) : Nat → Nat → Int → Option Int
  | 0, _, n => some n
  | m + 1, k, n => if digR (atR s (i + 2 + k)) 16 < 0 then none else hexF s i m (k + 1) (n * 16 + digR (atR s (i + 2 + k)) 16)
theorem loop1158a {call : CallF} (hC : call.Sound Tryz.prog TT) (s nm bs : List UInt8) (i : Nat) (c : Int) (hi : i < 1000000000) (hnb : nm.length = bs.length) (hn7 : nm.length < 1000) (c2 : ∀ H, call 142 [.s s, .i .i64 ((i : Int) + 1)] H = .val (.i .u8 c) H) {Q : Out → Prop} : ∀ (n k : Nat) (t : Tm) (H : Heap), nm.length - k < n → k ≤ nm.length →
    t.wid = 100 → t.get 0 = .s s → t.get 1 = .i .i64 i → t.get 7 = .s nm → t.get 8 = .s bs → t.get 9 = .i .i64 k →
    (∀ (t' : Tm) (H' : Heap), t'.wid = 100 → escL c (decide ((i : Int) + 1 < s.length)) (nm.drop k) (bs.drop k) = none → t'.get 0 = .s s → t'.get 1 = .i .i64 i → Q (.exit 0 t' H')) →
    (∀ (t' : Tm) (H' : Heap) (r : List UInt8), escL c (decide ((i : Int) + 1 < s.length)) (nm.drop k) (bs.drop k) = some r → t'.get 4 = .s r → t'.get 5 = .i .i64 ((i : Int) + 2) → t'.get 6 = .b true → Q (.ret t' H')) →
    LTri Tryz.prog TT (sub [true, true, true, false, true, false, false] (bodyOf Tryz.f158)) t H Q := by
 have hwi1 : IntKind.i64.wrap ((i : Int) + 1) = (i : Int) + 1 := wrap_i64 (by omega) (by omega)
 have hwi2 : IntKind.i64.wrap ((i : Int) + 2) = (i : Int) + 2 := wrap_i64 (by omega) (by omega)
 intro n
 induction n with
 | zero => intro k t H h; omega
 | succ n ih =>
   intro k t H hn hkn hw h0 h1 h7 h8 h9 hE hR
   by_cases hge2 : nm.length ≤ k
   · have hge : ¬ k < nm.length := by omega
     have hres : escL c (decide ((i : Int) + 1 < s.length)) (nm.drop k) (bs.drop k) = none := by rw [List.drop_eq_nil_of_le hge2]; rfl
     have hF := ai @h0 (ai @h1 (ai @h7 (ai @h8 (ai @h9 @hge))))
     refine LTri.round' ?_
     apply sQ
     apply rS hC
     · iterate 4 refine evSeq_go rfl (by simp [hF] <;> rfl) (by rfl) (by simp [hw]) ?_
       rfl
     refine cF (by simp [hF] <;> rfl) ?_
     refine Tri.exit ?_
     refine inSeq_exit ?_
     refine inLoop_exit ?_
     exact hE _ _ (by simp [hw]) hres (by simp [h0]) (by simp [h1])
   · have hkl : (k : Int) < nm.length := by omega
     have hkl2 : k < nm.length := by omega
     have hkb : k < bs.length := by omega
     obtain ⟨x, hat⟩ : ∃ b, nm[k]? = some b := ⟨_, List.getElem?_eq_getElem hkl2⟩
     have hat2 : ∀ h, nm[k]'h = x := fun h => Option.some.inj ((List.getElem?_eq_getElem h).symm.trans hat)
     obtain ⟨y, hay⟩ : ∃ b, bs[k]? = some b := ⟨_, List.getElem?_eq_getElem hkb⟩
     have hay2 : bs[k]'hkb = y := Option.some.inj ((List.getElem?_eq_getElem hkb).symm.trans hay)
     have hwk : IntKind.i64.wrap ((k : Int) + 1) = (k : Int) + 1 := wrap_i64 (by omega) (by omega)
     have e1 : nm.drop k = x :: nm.drop (k + 1) := by rw [List.drop_eq_getElem_cons hkl2, hat2]
     have e2 : bs.drop k = y :: bs.drop (k + 1) := by rw [List.drop_eq_getElem_cons hkb, hay2]
     have hres0 : escL c (decide ((i : Int) + 1 < s.length)) (nm.drop k) (bs.drop k) = if ((c == (x.toNat : Int)) && (decide ((i : Int) + 1 < s.length))) = true then some [y] else escL c (decide ((i : Int) + 1 < s.length)) (nm.drop (k + 1)) (bs.drop (k + 1)) := by rw [e1, e2]; rfl
     cases hcx : (c == (x.toNat : Int)) with
     | true =>
       by_cases hil : (i : Int) + 1 < s.length
       · have hres : escL c (decide ((i : Int) + 1 < s.length)) (nm.drop k) (bs.drop k) = some [y] := by rw [hres0, hcx, decide_eq_true hil]; rfl
         have b1 : (0 : Int) ≤ (k : Int) + 1 := by omega
         have b2 : (k : Int) + 1 ≤ bs.length := by omega
         have b3 : (k : Int) ≤ (k : Int) + 1 := by omega
         have b4 : ((k : Int) + 1).toNat = k + 1 := by omega
         have b5 : k ≤ k + 1 := by omega
         have htk : List.drop k (List.take (k + 1) bs) = [y] := by
          rw [List.drop_take, show k + 1 - k = 1 from by omega, e2]; rfl
         have hF := ai @h0 (ai @h1 (ai @h7 (ai @h8 (ai @h9 (ai @hkl (ai @hkl2 (ai @hat (ai @hat2 (ai @hwi1 (ai @hwi2 (ai @c2 (ai @hcx (ai @hil (ai @hwk (ai @b1 (ai @b2 (ai @b3 (ai @b4 (ai @b5 @htk)))))))))))))))))))
         refine LTri.round' ?_
         apply sQ
         apply rS hC
         · iterate 4 refine evSeq_go rfl (by simp [hF] <;> rfl) (by rfl) (by simp [hw]) ?_
           rfl
         refine cT (by simp [hF] <;> rfl) ?_
         apply Tri.skip
         apply sN
         apply sQ
         apply bK
         apply sQ
         refine Tri.regN (t' := ?ty3) (H' := ?Hy3) TT_ok hC ?ey3 ?qy3
         case ey3 =>
          refine evReg_quiet (t' := ?ty3) (by kernel_rfl) ?_ ?ry903
          iterate 9 refine QR.val rfl (by simp [hF] <;> rfl) (by rfl) (by simp [hw]) ?_
          iterate 5 refine QR.val (by simp [wants, hF]) (by simp [hF] <;> rfl) (by rfl) (by simp [hw]) ?_
          refine QR.val rfl (by simp [hF] <;> rfl) (by rfl) (by simp [hw]) ?_
          exact QR.nil
          case ry903 => exact rfl
         apply sN
         refine cT (by simp [hF] <;> rfl) ?_
         apply rS hC
         · iterate 10 refine evSeq_go rfl (by simp [hF] <;> rfl) (by rfl) (by simp [hw]) ?_
           rfl
         apply Tri.ret
         apply bR
         apply sR
         refine inLoop_ret ?_
         exact hR _ _ [y] hres (by simp) (by simp) (by simp)
       · have hres : escL c (decide ((i : Int) + 1 < s.length)) (nm.drop k) (bs.drop k) = escL c (decide ((i : Int) + 1 < s.length)) (nm.drop (k + 1)) (bs.drop (k + 1)) := by rw [hres0, hcx, decide_eq_false hil]; rfl
         have hF := ai @h0 (ai @h1 (ai @h7 (ai @h8 (ai @h9 (ai @hkl (ai @hkl2 (ai @hat (ai @hat2 (ai @hwi1 (ai @hwi2 (ai @c2 (ai @hcx (ai @hil @hwk)))))))))))))
         refine LTri.round' ?_
         apply sQ
         apply rS hC
         · iterate 4 refine evSeq_go rfl (by simp [hF] <;> rfl) (by rfl) (by simp [hw]) ?_
           rfl
         refine cT (by simp [hF] <;> rfl) ?_
         apply Tri.skip
         apply sN
         apply sQ
         apply bK
         apply sQ
         refine Tri.regN (t' := ?tn3) (H' := ?Hn3) TT_ok hC ?en3 ?qn3
         case en3 =>
          refine evReg_quiet (t' := ?tn3) (by kernel_rfl) ?_ ?rn903
          iterate 9 refine QR.val rfl (by simp [hF] <;> rfl) (by rfl) (by simp [hw]) ?_
          iterate 5 refine QR.val (by simp [wants, hF]) (by simp [hF] <;> rfl) (by rfl) (by simp [hw]) ?_
          refine QR.val rfl (by simp [hF] <;> rfl) (by rfl) (by simp [hw]) ?_
          exact QR.nil
          case rn903 => exact rfl
         apply sN
         refine cF (by simp [hF] <;> rfl) ?_
         apply Tri.skip
         apply bN
         apply sN
         apply rN hC
         · iterate 3 refine evSeq_go rfl (by simp [hF] <;> rfl) (by rfl) (by simp [hw]) ?_
           rfl
         refine inLoop_norm ?_
         refine ih (k + 1) _ _ (by omega) (by omega) (by simp [hw]) (by simp [h0]) (by simp [h1]) (by simp [h7]) (by simp [h8]) (by simp [hwk]) (fun t' H' k1 k2 => hE t' H' k1 (by rw [hres]; exact k2)) (fun t' H' r k2 => hR t' H' r (by rw [hres]; exact k2))
     | false =>
       have hres : escL c (decide ((i : Int) + 1 < s.length)) (nm.drop k) (bs.drop k) = escL c (decide ((i : Int) + 1 < s.length)) (nm.drop (k + 1)) (bs.drop (k + 1)) := by rw [hres0, hcx]; rfl
       have hF := ai @h0 (ai @h1 (ai @h7 (ai @h8 (ai @h9 (ai @hkl (ai @hkl2 (ai @hat (ai @hat2 (ai @hwi1 (ai @hwi2 (ai @c2 (ai @hcx @hwk))))))))))))
       refine LTri.round' ?_
       apply sQ
       apply rS hC
       · iterate 4 refine evSeq_go rfl (by simp [hF] <;> rfl) (by rfl) (by simp [hw]) ?_
         rfl
       refine Tri.condG (o := ?om2) (b := ?bm2) ?gm2 ?rm2 ?ym2 ?nm2
       case gm2 => simp [hF] <;> rfl
       case rm2 => rfl
       case ym2 =>
        intro hy2
        apply Tri.skip
        apply sN
        apply sQ
        apply bK
        apply sQ
        refine Tri.regN (t' := ?tm3) (H' := ?Hm3) TT_ok hC ?em3 ?qm3
        case em3 =>
         refine evReg_quiet (t' := ?tm3) (by kernel_rfl) ?_ ?rm903
         iterate 9 refine QR.val rfl (by simp [hF] <;> rfl) (by rfl) (by simp [hw]) ?_
         iterate 5 refine QR.off (by simp [wants, hF]) (by simp [hw]) ?_
         refine QR.val rfl (by simp [hF] <;> rfl) (by rfl) (by simp [hw]) ?_
         exact QR.nil
         case rm903 => exact rfl
        apply sN
        refine cF (by simp [hF] <;> rfl) ?_
        apply Tri.skip
        apply bN
        apply sN
        apply rN hC
        · iterate 3 refine evSeq_go rfl (by simp [hF] <;> rfl) (by rfl) (by simp [hw]) ?_
          rfl
        refine inLoop_norm ?_
        refine ih (k + 1) _ _ (by omega) (by omega) (by simp [hw]) (by simp [h0]) (by simp [h1]) (by simp [h7]) (by simp [h8]) (by simp [hwk]) (fun t' H' k1 k2 => hE t' H' k1 (by rw [hres]; exact k2)) (fun t' H' r k2 => hR t' H' r (by rw [hres]; exact k2))
       case nm2 =>
        intro hn2
        exact absurd hn2 (by simp [hF])

theorem digR16_lt : ∀ c : Int, 0 ≤ c → c < 256 → digR c 16 < 16 ∧ -1 ≤ digR c 16 := fun c h0 h1 => by
  obtain ⟨k, rfl, hk⟩ := range_at (p := fun c => decide (digR (c : Int) 16 < 16 ∧ -1 ≤ digR (c : Int) 16)) (n := 256) (by decide +kernel) h0 h1
  simpa using hk
theorem loop1158b {call : CallF} (hC : call.Sound Tryz.prog TT) (s : List UInt8) (i m : Nat) (hi : i < 1000000000) (hm : m ≤ 6) (c2 : ∀ (j : Nat) H, call 142 [.s s, .i .i64 j] H = .val (.i .u8 (atR s j)) H) (c3 : ∀ c : Int, 0 ≤ c → c < 256 → ∀ H, call 145 [.i .u8 c, .i .i64 16] H = .val (.i .i64 (digR c 16)) H) {Q : Out → Prop} : ∀ (n k : Nat) (v : Int) (t : Tm) (H : Heap), m - k = n → k ≤ m → 0 ≤ v → v < 16 ^ k →
    t.wid = 100 → t.get 0 = .s s → t.get 1 = .i .i64 i → t.get 10 = .i .i64 m → t.get 11 = .i .i64 v → t.get 12 = .i .i64 k →
    (∀ (t' : Tm) (H' : Heap) (v' : Int), t'.wid = 100 → hexF s i n k v = some v' → t'.get 0 = .s s → t'.get 1 = .i .i64 i → t'.get 10 = .i .i64 m → t'.get 11 = .i .i64 v' → Q (.exit 3 t' H')) →
    (∀ (t' : Tm) (H' : Heap), hexF s i n k v = none → t'.get 4 = .s [] → t'.get 5 = .i .i64 0 → t'.get 6 = .b false → Q (.ret t' H')) →
    LTri Tryz.prog TT (sub [true, true, true, true, true, true, true, false, true, false, false] (bodyOf Tryz.f158)) t H Q := by
 have hwi2 : IntKind.i64.wrap ((i : Int) + 2) = (i : Int) + 2 := wrap_i64 (by omega) (by omega)
 intro n
 induction n with
 | zero =>
   intro k v t H hn hkn hv0 hv1 hw h0 h1 h10 h11 h12 hE hR
   have hge : ¬ k < m := by omega
   have hres : hexF s i 0 k v = some v := rfl
   have hF := ai @h0 (ai @h1 (ai @h10 (ai @h11 (ai @h12 @hge))))
   refine LTri.round' ?_
   apply sQ
   apply rS hC
   · iterate 3 refine evSeq_go rfl (by simp [hF] <;> rfl) (by rfl) (by simp [hw]) ?_
     rfl
   refine cF (by simp [hF] <;> rfl) ?_
   refine Tri.exit ?_
   refine inSeq_exit ?_
   refine inLoop_exit ?_
   exact hE _ _ v (by simp [hw]) hres (by simp [h0]) (by simp [h1]) (by simp [h10]) (by simp [h11])
 | succ n ih =>
   intro k v t H hn hkn hv0 hv1 hw h0 h1 h10 h11 h12 hE hR
   have hkl : (k : Int) < m := by omega
   have hkl2 : k < m := by omega
   have hp : (16 : Int) ^ k ≤ 16 ^ 5 := by
    have : (16 : Nat) ^ k ≤ 16 ^ 5 := Nat.pow_le_pow_right (by omega) (by omega)
    exact_mod_cast this
   have hp5 : (16 : Int) ^ 5 = 1048576 := by decide
   have hwik : IntKind.i64.wrap ((i : Int) + 2 + k) = (i : Int) + 2 + k := wrap_i64 (by omega) (by omega)
   have c2k : ∀ H, call 142 [.s s, .i .i64 ((i : Int) + 2 + k)] H = .val (.i .u8 (atR s (i + 2 + k))) H := fun H => c2 (i + 2 + k) H
   have hr := atR_range s (i + 2 + k)
   have c3k := c3 _ hr.1 hr.2
   have hdr := digR16_lt _ hr.1 hr.2
   have hres0 : hexF s i (n + 1) k v = if digR (atR s (i + 2 + k)) 16 < 0 then none else hexF s i n (k + 1) (v * 16 + digR (atR s (i + 2 + k)) 16) := rfl
   generalize digR (atR s (i + 2 + k)) 16 = d at c3k hdr hres0
   have hwk : IntKind.i64.wrap ((k : Int) + 1) = (k : Int) + 1 := wrap_i64 (by omega) (by omega)
   by_cases hd : d < 0
   · have hres : hexF s i (n + 1) k v = none := by rw [hres0, if_pos hd]
     have hF := ai @h0 (ai @h1 (ai @h10 (ai @h11 (ai @h12 (ai @hkl (ai @hkl2 (ai @hwi2 (ai @hwik (ai @c2k (ai @c3k @hd))))))))))
     refine LTri.round' ?_
     apply sQ
     apply rS hC
     · iterate 3 refine evSeq_go rfl (by simp [hF] <;> rfl) (by rfl) (by simp [hw]) ?_
       rfl
     refine cT (by simp [hF] <;> rfl) ?_
     apply Tri.skip
     apply sN
     apply sQ
     apply bK
     apply rS hC
     · iterate 8 refine evSeq_go rfl (by simp [hF] <;> rfl) (by rfl) (by simp [hw]) ?_
       rfl
     apply sQ
     apply rS hC
     · iterate 2 refine evSeq_go rfl (by simp [hF] <;> rfl) (by rfl) (by simp [hw]) ?_
       rfl
     refine cT (by simp [hF] <;> rfl) ?_
     apply rS hC
     · iterate 3 refine evSeq_go rfl (by simp [hF] <;> rfl) (by rfl) (by simp [hw]) ?_
       rfl
     apply Tri.ret
     apply sR
     apply bR
     apply sR
     refine inLoop_ret ?_
     exact hR _ _ hres (by simp) (by simp) (by simp)
   · have hres : hexF s i (n + 1) k v = hexF s i n (k + 1) (v * 16 + d) := by rw [hres0, if_neg hd]
     have hwv1 : IntKind.i64.wrap (v * 16) = v * 16 := wrap_i64 (by omega) (by omega)
     have hwv2 : IntKind.i64.wrap (v * 16 + d) = v * 16 + d := wrap_i64 (by omega) (by omega)
     have hvb : v * 16 + d < 16 ^ (k + 1) := by
      have : (16 : Int) ^ (k + 1) = 16 ^ k * 16 := Int.pow_succ ..
      omega
     have hF := ai @h0 (ai @h1 (ai @h10 (ai @h11 (ai @h12 (ai @hkl (ai @hkl2 (ai @hwi2 (ai @hwik (ai @c2k (ai @c3k (ai @hd (ai @hwv1 (ai @hwv2 @hwk)))))))))))))
     refine LTri.round' ?_
     apply sQ
     apply rS hC
     · iterate 3 refine evSeq_go rfl (by simp [hF] <;> rfl) (by rfl) (by simp [hw]) ?_
       rfl
     refine Tri.condG (o := ?on2) (b := ?bn2) ?gn2 ?rn2 ?yn2 ?nn2
     case gn2 => simp [hF] <;> rfl
     case rn2 => rfl
     case yn2 =>
      intro hy2
      apply Tri.skip
      apply sN
      apply sQ
      apply bK
      apply rS hC
      · iterate 8 refine evSeq_go rfl (by simp [hF] <;> rfl) (by rfl) (by simp [hw]) ?_
        rfl
      apply sQ
      apply rS hC
      · iterate 2 refine evSeq_go rfl (by simp [hF] <;> rfl) (by rfl) (by simp [hw]) ?_
        rfl
      refine cF (by simp [hF] <;> rfl) ?_
      apply Tri.skip
      apply sN
      apply rN hC
      · iterate 5 refine evSeq_go rfl (by simp [hF] <;> rfl) (by rfl) (by simp [hw]) ?_
        rfl
      apply bN
      apply sN
      apply rN hC
      · iterate 3 refine evSeq_go rfl (by simp [hF] <;> rfl) (by rfl) (by simp [hw]) ?_
        rfl
      refine inLoop_norm ?_
      refine ih (k + 1) (v * 16 + d) _ _ (by omega) (by omega) (by omega) hvb (by simp [hw]) (by simp [h0]) (by simp [h1]) (by simp [h10]) (by simp) (by simp) (fun t' H' v' k1 k2 => hE t' H' v' k1 (by rw [hres]; exact k2)) (fun t' H' k2 => hR t' H' (by rw [hres]; exact k2))
     case nn2 =>
      intro hn2
      exact absurd hn2 (by simp [hF])

def escT (i m : Nat) (v : Int) : Option (List UInt8 × Nat) :=
  if ((((((m : Int) == 0) || (((m : Int) == 2) && decide (127 < v))) || decide (1114111 < v))) || (decide (55296 ≤ v) && decide (v < 57344))) = true then none else some (runesS [v], i + 2 + m)
theorem wrap_i32 {n : Int} (h1 : -2147483648 ≤ n) (h2 : n < 2147483648) : IntKind.i32.wrap n = n := by
  have e : (2 : Int) ^ IntKind.i32.bits = 4294967296 := rfl
  have e2 : (2 : Int) ^ (IntKind.i32.bits - 1) = 2147483648 := rfl
  simp only [IntKind.wrap, e, e2, IntKind.signed, Bool.true_and, decide_eq_true_eq]
  split <;> omega
theorem bs169 (v : Int) (H : Heap) : evBuildSlice TT 169 1 [(0, .i .i32 v)] H = .val (.sl H.length 1 0 1 (some 1)) (H ++ [some { ty := 21, cells := [.i .i32 v], kind := .all }]) := by
  have e1 : TT.und 169 = some (.slice 21) := rfl
  have e2 : TT.size 21 = some 1 := rfl
  have e3 : TT.zero 21 = some (.i .i32 0) := rfl
  simp only [evBuildSlice, e1, e2, e3]
  simp [reps, fillV, splice, newB_eq, V.cells]
theorem cv169 (v : Int) (H : Heap) : evConvO TT 169 9 (.sl H.length 1 0 1 (some 1)) (H ++ [some { ty := 21, cells := [.i .i32 v], kind := .all }]) = .val (.s (runesS [v])) (H ++ [some { ty := 21, cells := [.i .i32 v], kind := .all }]) := by
  have e1 : TT.und 169 = some (.slice 21) := rfl
  have e2 : TT.und 9 = some .string := rfl
  have e3 : TT.und 21 = some (.int .i32) := rfl
  simp only [evConvO, e1, e2, e3]
  simp [cellsAt, cut, runeNs]
def escP : Option (List UInt8 × Nat) → List UInt8 × Int × Bool
  | some p => (p.1, p.2, true)
  | none => ([], 0, false)
theorem tail1158 {call : CallF} (hC : call.Sound Tryz.prog TT) {s : List UInt8} {i m : Nat} {v : Int} {t : Tm} {H : Heap} {Q : Out → Prop} (hi : i < 1000000000) (hm : m ≤ 6) (hv0 : 0 ≤ v) (hv1 : v < 16777216) (hw : t.wid = 100) (h0 : t.get 0 = .s s) (h1 : t.get 1 = .i .i64 i) (h10 : t.get 10 = .i .i64 m) (h11 : t.get 11 = .i .i64 v)
    (hQ : ∀ (t' : Tm) (H' : Heap) (r : Option (List UInt8 × Nat)), escT i m v = r → t'.get 4 = .s (escP r).1 → t'.get 5 = .i .i64 (escP r).2.1 → t'.get 6 = .b (escP r).2.2 → Q (.ret t' H')) : Tri Tryz.prog TT (sub [true, true, true, true, true, true, true, true] (bodyOf Tryz.f158)) t H Q := by
 have hw1 : IntKind.i64.wrap ((i : Int) + 2) = (i : Int) + 2 := wrap_i64 (by omega) (by omega)
 have hw2 : IntKind.i64.wrap ((i : Int) + 2 + m) = (i : Int) + 2 + m := wrap_i64 (by omega) (by omega)
 have hw3 : IntKind.i32.wrap v = v := wrap_i32 (by omega) (by omega)
 have hwm : True := trivial
 have hF := ai @h0 (ai @h1 (ai @h10 (ai @h11 (ai @hw1 (ai @hw2 (ai @hw3 @hwm))))))
 iterate 2 apply sQ
 cases hB1 : ((m : Int) == 0 : Bool)
 case false =>
  cases hB2 : ((m : Int) == 2 : Bool)
  case false =>
   cases hB3 : (decide (1114111 < v) : Bool)
   case false =>
    cases hB4 : (decide (55296 ≤ v) : Bool)
    case false =>
     apply rN hC
     · iterate 3 refine oA ?_
       iterate 3 refine oB ?_
       iterate 2 refine oC ?_
       refine oB ?_
       iterate 2 refine oA ?_
       iterate 2 refine oB ?_
       iterate 2 refine oA ?_
       iterate 3 refine oB ?_
       iterate 2 refine oC ?_
       refine oB ?_
       refine oA ?_
       rfl
     apply sN
     refine cF (by simp [hF, hB1, hB2, hB3, hB4] <;> rfl) ?_
     apply Tri.skip
     apply sN
     apply rS hC
     · iterate 11 refine gO (by simp [hF, hB1, hB2, hB3, hB4, bs169, cv169, -evConvO] <;> rfl) ?_
       rfl
     apply Tri.ret
     first
      | exact hQ _ _ (some (runesS [v], i + 2 + m)) (by clear hw h0 h1 h10 h11 hQ hF; simp only [escT, *]; rfl) (by simp [escP]) (by simp [escP]) (by simp [escP])
      | exact hQ _ _ none (by clear hw h0 h1 h10 h11 hQ hF; simp only [escT, *]; rfl) (by simp [escP]) (by simp [escP]) (by simp [escP])
    case true =>
     apply rN hC
     · iterate 3 refine oA ?_
       iterate 3 refine oB ?_
       iterate 2 refine oC ?_
       refine oB ?_
       iterate 2 refine oA ?_
       iterate 2 refine oB ?_
       iterate 2 refine oA ?_
       iterate 6 refine oB ?_
       refine oA ?_
       rfl
     apply sN
     refine Tri.condG (o := ?oq1fq2fq3fq4t2) (b := ?bq1fq2fq3fq4t2) ?gq1fq2fq3fq4t2 ?rq1fq2fq3fq4t2 ?yq1fq2fq3fq4t2 ?nq1fq2fq3fq4t2
     case gq1fq2fq3fq4t2 => simp [hF, hB1, hB2, hB3, hB4] <;> rfl
     case rq1fq2fq3fq4t2 => rfl
     case yq1fq2fq3fq4t2 =>
      intro hy2
      apply rS hC
      · iterate 3 refine oA ?_
        rfl
      apply Tri.ret
      apply sR
      first
       | exact hQ _ _ (some (runesS [v], i + 2 + m)) (by clear hw h0 h1 h10 h11 hQ hF; simp only [escT, *]; rfl) (by simp [escP]) (by simp [escP]) (by simp [escP])
       | exact hQ _ _ none (by clear hw h0 h1 h10 h11 hQ hF; simp only [escT, *]; rfl) (by simp [escP]) (by simp [escP]) (by simp [escP])
     case nq1fq2fq3fq4t2 =>
      intro hn2
      apply Tri.skip
      apply sN
      apply rS hC
      · iterate 11 refine gO (by simp [hF, hB1, hB2, hB3, hB4, hn2, bs169, cv169, -evConvO] <;> rfl) ?_
        rfl
      apply Tri.ret
      first
       | exact hQ _ _ (some (runesS [v], i + 2 + m)) (by clear hw h0 h1 h10 h11 hQ hF; simp only [escT, *]; rfl) (by simp [escP]) (by simp [escP]) (by simp [escP])
       | exact hQ _ _ none (by clear hw h0 h1 h10 h11 hQ hF; simp only [escT, *]; rfl) (by simp [escP]) (by simp [escP]) (by simp [escP])
   case true =>
    apply rN hC
    · iterate 3 refine oA ?_
      iterate 3 refine oB ?_
      iterate 2 refine oC ?_
      refine oB ?_
      iterate 2 refine oA ?_
      iterate 2 refine oB ?_
      iterate 2 refine oA ?_
      iterate 6 refine oC ?_
      refine oA ?_
      rfl
    apply sN
    refine cT (by simp [hF, hB1, hB2, hB3] <;> rfl) ?_
    apply rS hC
    · iterate 3 refine oA ?_
      rfl
    apply Tri.ret
    apply sR
    first
     | exact hQ _ _ (some (runesS [v], i + 2 + m)) (by clear hw h0 h1 h10 h11 hQ hF; simp only [escT, *]; rfl) (by simp [escP]) (by simp [escP]) (by simp [escP])
     | exact hQ _ _ none (by clear hw h0 h1 h10 h11 hQ hF; simp only [escT, *]; rfl) (by simp [escP]) (by simp [escP]) (by simp [escP])
  case true =>
   cases hB5 : (decide (127 < v) : Bool)
   case false =>
    cases hB6 : (decide (1114111 < v) : Bool)
    case false =>
     cases hB7 : (decide (55296 ≤ v) : Bool)
     case false =>
      apply rN hC
      · iterate 3 refine oA ?_
        iterate 6 refine oB ?_
        iterate 2 refine oA ?_
        iterate 2 refine oB ?_
        iterate 2 refine oA ?_
        iterate 3 refine oB ?_
        iterate 2 refine oC ?_
        refine oB ?_
        refine oA ?_
        rfl
      apply sN
      refine cF (by simp [hF, hB1, hB2, hB5, hB6, hB7] <;> rfl) ?_
      apply Tri.skip
      apply sN
      apply rS hC
      · iterate 11 refine gO (by simp [hF, hB1, hB2, hB5, hB6, hB7, bs169, cv169, -evConvO] <;> rfl) ?_
        rfl
      apply Tri.ret
      first
       | exact hQ _ _ (some (runesS [v], i + 2 + m)) (by clear hw h0 h1 h10 h11 hQ hF; simp only [escT, *]; rfl) (by simp [escP]) (by simp [escP]) (by simp [escP])
       | exact hQ _ _ none (by clear hw h0 h1 h10 h11 hQ hF; simp only [escT, *]; rfl) (by simp [escP]) (by simp [escP]) (by simp [escP])
     case true =>
      apply rN hC
      · iterate 3 refine oA ?_
        iterate 6 refine oB ?_
        iterate 2 refine oA ?_
        iterate 2 refine oB ?_
        iterate 2 refine oA ?_
        iterate 6 refine oB ?_
        refine oA ?_
        rfl
      apply sN
      refine Tri.condG (o := ?oq1fq2tq5fq6fq7t2) (b := ?bq1fq2tq5fq6fq7t2) ?gq1fq2tq5fq6fq7t2 ?rq1fq2tq5fq6fq7t2 ?yq1fq2tq5fq6fq7t2 ?nq1fq2tq5fq6fq7t2
      case gq1fq2tq5fq6fq7t2 => simp [hF, hB1, hB2, hB5, hB6, hB7] <;> rfl
      case rq1fq2tq5fq6fq7t2 => rfl
      case yq1fq2tq5fq6fq7t2 =>
       intro hy2
       apply rS hC
       · iterate 3 refine oA ?_
         rfl
       apply Tri.ret
       apply sR
       first
        | exact hQ _ _ (some (runesS [v], i + 2 + m)) (by clear hw h0 h1 h10 h11 hQ hF; simp only [escT, *]; rfl) (by simp [escP]) (by simp [escP]) (by simp [escP])
        | exact hQ _ _ none (by clear hw h0 h1 h10 h11 hQ hF; simp only [escT, *]; rfl) (by simp [escP]) (by simp [escP]) (by simp [escP])
      case nq1fq2tq5fq6fq7t2 =>
       intro hn2
       apply Tri.skip
       apply sN
       apply rS hC
       · iterate 11 refine gO (by simp [hF, hB1, hB2, hB5, hB6, hB7, hn2, bs169, cv169, -evConvO] <;> rfl) ?_
         rfl
       apply Tri.ret
       first
        | exact hQ _ _ (some (runesS [v], i + 2 + m)) (by clear hw h0 h1 h10 h11 hQ hF; simp only [escT, *]; rfl) (by simp [escP]) (by simp [escP]) (by simp [escP])
        | exact hQ _ _ none (by clear hw h0 h1 h10 h11 hQ hF; simp only [escT, *]; rfl) (by simp [escP]) (by simp [escP]) (by simp [escP])
    case true =>
     apply rN hC
     · iterate 3 refine oA ?_
       iterate 6 refine oB ?_
       iterate 2 refine oA ?_
       iterate 2 refine oB ?_
       iterate 2 refine oA ?_
       iterate 6 refine oC ?_
       refine oA ?_
       rfl
     apply sN
     refine cT (by simp [hF, hB1, hB2, hB5, hB6] <;> rfl) ?_
     apply rS hC
     · iterate 3 refine oA ?_
       rfl
     apply Tri.ret
     apply sR
     first
      | exact hQ _ _ (some (runesS [v], i + 2 + m)) (by clear hw h0 h1 h10 h11 hQ hF; simp only [escT, *]; rfl) (by simp [escP]) (by simp [escP]) (by simp [escP])
      | exact hQ _ _ none (by clear hw h0 h1 h10 h11 hQ hF; simp only [escT, *]; rfl) (by simp [escP]) (by simp [escP]) (by simp [escP])
   case true =>
    apply rN hC
    · iterate 3 refine oA ?_
      iterate 6 refine oB ?_
      iterate 2 refine oA ?_
      iterate 2 refine oC ?_
      iterate 2 refine oA ?_
      iterate 6 refine oC ?_
      refine oA ?_
      rfl
    apply sN
    refine cT (by simp [hF, hB1, hB2, hB5] <;> rfl) ?_
    apply rS hC
    · iterate 3 refine oA ?_
      rfl
    apply Tri.ret
    apply sR
    first
     | exact hQ _ _ (some (runesS [v], i + 2 + m)) (by clear hw h0 h1 h10 h11 hQ hF; simp only [escT, *]; rfl) (by simp [escP]) (by simp [escP]) (by simp [escP])
     | exact hQ _ _ none (by clear hw h0 h1 h10 h11 hQ hF; simp only [escT, *]; rfl) (by simp [escP]) (by simp [escP]) (by simp [escP])
 case true =>
  apply rN hC
  · iterate 3 refine oA ?_
    iterate 6 refine oC ?_
    iterate 2 refine oA ?_
    iterate 2 refine oC ?_
    iterate 2 refine oA ?_
    iterate 6 refine oC ?_
    refine oA ?_
    rfl
  apply sN
  refine cT (by simp [hF, hB1] <;> rfl) ?_
  apply rS hC
  · iterate 3 refine oA ?_
    rfl
  apply Tri.ret
  apply sR
  first
   | exact hQ _ _ (some (runesS [v], i + 2 + m)) (by clear hw h0 h1 h10 h11 hQ hF; simp only [escT, *]; rfl) (by simp [escP]) (by simp [escP]) (by simp [escP])
   | exact hQ _ _ none (by clear hw h0 h1 h10 h11 hQ hF; simp only [escT, *]; rfl) (by simp [escP]) (by simp [escP]) (by simp [escP])
def manyR (c : Int) : Nat := if (c == 120) = true then 2 else if (c == 117) = true then 4 else if (c == 85) = true then 6 else 0
def escN : List UInt8 := [110, 116, 114, 48, 92, 34, 39]
def escB : List UInt8 := [10, 9, 13, 0, 92, 34, 39]
def escR (s : List UInt8) (i : Nat) : Option (List UInt8 × Nat) :=
  match escL (atR s (i + 1)) (decide ((i : Int) + 1 < s.length)) escN escB with
  | some t => some (t, i + 2)
  | none => match hexF s i (manyR (atR s (i + 1))) 0 0 with
    | none => none
    | some v => escT i (manyR (atR s (i + 1))) v
theorem sw1158 {call : CallF} (hC : call.Sound Tryz.prog TT) {s : List UInt8} {i : Nat} {c : Int} {t : Tm} {H : Heap} {Q : Out → Prop} (hw : t.wid = 100) (h0 : t.get 0 = .s s) (h1 : t.get 1 = .i .i64 i) (h10 : t.get 10 = .i .i64 0) (h45 : t.get 45 = .i .u8 c)
    (hQ : ∀ (t' : Tm), t'.wid = 100 → t'.get 10 = .i .i64 (manyR c : Nat) → t'.get 0 = .s s → t'.get 1 = .i .i64 i → Q (.norm t' H)) : Tri Tryz.prog TT (sub [true, true, true, true, true, false, true] (bodyOf Tryz.f158)) t H Q := by
 cases e1 : (c == 120) with
 | true =>
   have hm : manyR c = 2 := by simp only [manyR, e1]; rfl
   have hF := ai @h0 (ai @h1 (ai @h10 (ai @h45 @e1)))
   apply bK
   apply rS hC
   · iterate 2 refine oA ?_
     rfl
   refine cT (by simp [hF] <;> rfl) ?_
   apply rN hC
   · refine oA ?_
     rfl
   apply bN
   refine hQ _ (by simp [hw]) (by simp [hm, h10]) (by simp [h0]) (by simp [h1])
 | false =>
   cases e2 : (c == 117) with
   | true =>
     have hm : manyR c = 4 := by simp only [manyR, e1, e2]; rfl
     have hF := ai @h0 (ai @h1 (ai @h10 (ai @h45 (ai @e1 @e2))))
     apply bK
     apply rS hC
     · iterate 2 refine oA ?_
       rfl
     refine cF (by simp [hF] <;> rfl) ?_
     apply rS hC
     · iterate 2 refine oA ?_
       rfl
     refine cT (by simp [hF] <;> rfl) ?_
     apply rN hC
     · refine oA ?_
       rfl
     apply bN
     refine hQ _ (by simp [hw]) (by simp [hm, h10]) (by simp [h0]) (by simp [h1])
   | false =>
     cases e3 : (c == 85) with
     | true =>
       have hm : manyR c = 6 := by simp only [manyR, e1, e2, e3]; rfl
       have hF := ai @h0 (ai @h1 (ai @h10 (ai @h45 (ai @e1 (ai @e2 @e3)))))
       apply bK
       apply rS hC
       · iterate 2 refine oA ?_
         rfl
       refine cF (by simp [hF] <;> rfl) ?_
       apply rS hC
       · iterate 2 refine oA ?_
         rfl
       refine cF (by simp [hF] <;> rfl) ?_
       apply rS hC
       · iterate 2 refine oA ?_
         rfl
       refine cT (by simp [hF] <;> rfl) ?_
       apply rN hC
       · refine oA ?_
         rfl
       apply bN
       refine hQ _ (by simp [hw]) (by simp [hm, h10]) (by simp [h0]) (by simp [h1])
     | false =>
       have hm : manyR c = 0 := by simp only [manyR, e1, e2, e3]; rfl
       have hF := ai @h0 (ai @h1 (ai @h10 (ai @h45 (ai @e1 (ai @e2 @e3)))))
       apply bK
       apply rS hC
       · iterate 2 refine oA ?_
         rfl
       refine cF (by simp [hF] <;> rfl) ?_
       apply rS hC
       · iterate 2 refine oA ?_
         rfl
       refine cF (by simp [hF] <;> rfl) ?_
       apply rS hC
       · iterate 2 refine oA ?_
         rfl
       refine cF (by simp [hF] <;> rfl) ?_
       apply Tri.skip
       apply bN
       refine hQ _ (by simp [hw]) (by simp [hm, h10]) (by simp [h0]) (by simp [h1])
theorem escV_eq (r : Option (List UInt8 × Nat)) : escV r = .tup [.s (escP r).1, .i .i64 (escP r).2.1, .b (escP r).2.2] := by cases r <;> rfl
theorem manyR_le (c : Int) : manyR c ≤ 6 := by unfold manyR; repeat' split
                                               all_goals omega
theorem hexF_lt {s : List UInt8} {i : Nat} : ∀ (m k : Nat) (v v' : Int), k + m ≤ 6 → 0 ≤ v → v < 16 ^ k → hexF s i m k v = some v' → 0 ≤ v' ∧ v' < 16777216
  | 0, k, v, v', hk, h0, h1, h => by
    simp only [hexF, Option.some.injEq] at h
    subst h
    have : (16 : Nat) ^ k ≤ 16 ^ 6 := Nat.pow_le_pow_right (by omega) (by omega)
    have h2 : (16 : Int) ^ k ≤ 16 ^ 6 := by exact_mod_cast this
    have h3 : (16 : Int) ^ 6 = 16777216 := by decide
    omega
  | m + 1, k, v, v', hk, h0, h1, h => by
    simp only [hexF] at h
    have hr := atR_range s (i + 2 + k)
    have hdr := digR16_lt _ hr.1 hr.2
    split at h
    · cases h
    · have : (16 : Int) ^ (k + 1) = 16 ^ k * 16 := Int.pow_succ ..
      exact hexF_lt m (k + 1) _ v' (by omega) (by omega) (by omega) h
theorem body_1158 {call : CallF} (hC : call.Sound Tryz.prog TT) (s : List UInt8) (i : Nat) (hi : i < 1000000000) (hwi1 : IntKind.i64.wrap ((i : Int) + 1) = (i : Int) + 1) (c2a : ∀ H, call 142 [.s s, .i .i64 ((i : Int) + 1)] H = .val (.i .u8 (atR s (i + 1))) H) (c2 : ∀ (j : Nat) H, call 142 [.s s, .i .i64 j] H = .val (.i .u8 (atR s j)) H) (c3 : ∀ c : Int, 0 ≤ c → c < 256 → ∀ H, call 145 [.i .u8 c, .i .i64 16] H = .val (.i .i64 (digR c 16)) H)  : EBody Tryz.prog TT 158 [.s s, .i .i64 i] (fun r => r = .val (escV (escR s i))) := by
 refine en Tryz.f158 rfl rfl (by simp [Tryz.f158]) 100 rfl fun t hw hg => ?_
 have h0 := hg 0 _ rfl
 have h1 := hg 1 _ rfl
 clear hg
 try simp only [Nd.enc_eq] at *
 have hF := ai @h0 (ai @h1 (ai @hwi1 @c2a))
 apply rS hC
 · iterate 3 refine oA ?_
   rfl
 apply rS hC
 · refine oA ?_
   rfl
 apply rS hC
 · refine oA ?_
   rfl
 apply sQ
 apply rS hC
 · refine oA ?_
   rfl
 apply bK
 refine Tri.loop ?_
 refine loop1158a hC s escN escB i (atR s (i + 1)) hi rfl (by decide) c2a 8 0 _ _ (by decide) (by decide) (by simp [hw]) (by simp [h0]) (by simp [h1]) (by simp [escN]) (by simp [escB]) (by simp) ?exit ?ret
 case exit =>
  clear hw
  intro t2 H2 hw he q0 q1
  clear hF
  have hF := ai @q0 (ai @q1 (ai @hwi1 @c2a))
  refine inBlk_exit ?_
  apply sN
  apply rS hC
  · refine oA ?_
    rfl
  apply sQ
  apply rS hC
  · iterate 4 refine oA ?_
    rfl
  refine sw1158 hC (by simp [hw]) (s := s) (i := i) (c := atR s (i + 1)) (by simp [hF]) (by simp [hF]) (by simp) (by simp) ?cn10_7
  case cn10_7 =>
   clear hw hF
   intro t3 hw q10 q0 q1
   have hF := ai @q0 (ai @q1 @q10)
   apply sN
   apply rS hC
   · refine oA ?_
     rfl
   apply sQ
   apply rS hC
   · refine oA ?_
     rfl
   apply bK
   refine Tri.loop ?_
   refine loop1158b hC s i (manyR (atR s (i + 1))) hi (manyR_le _) c2 c3 (manyR (atR s (i + 1))) 0 0 _ _ (by omega) (by omega) (by omega) (by decide) (by simp [hw]) (by simp [hF]) (by simp [hF]) (by simp [hF]) (by simp) (by simp) ?exit2 ?ret2
   case exit2 =>
    clear hw hF
    intro t4 H4 v hw hx q0 q1 q10 q11
    refine inBlk_exit ?_
    apply sN
    have hv := hexF_lt _ _ _ _ (by have := manyR_le (atR s (i + 1)); omega) (by omega) (by decide) hx
    refine tail1158 hC hi (manyR_le _) hv.1 hv.2 hw q0 q1 q10 q11 ?cr24_10
    case cr24_10 =>
     intro t5 H5 r hr q4 q5 q6
     simp only [List.drop_zero] at he
     refine endsE (by simp [Tryz.f158, q4, q5, q6] <;> rfl) (by rfl) ?_
     simp only [escR, he]
     first
      | rfl
      | (simp only [hx]; first | rfl | (rw [hr, escV_eq]))
   case ret2 =>
    intro t4 H4 hx q4 q5 q6
    apply bR
    apply sR
    simp only [List.drop_zero] at he
    refine endsE (by simp [Tryz.f158, q4, q5, q6] <;> rfl) (by rfl) ?_
    simp only [escR, he]
    first
     | rfl
     | (simp only [hx]; first | rfl | (rw [hr, escV_eq]))
 case ret =>
  intro t2 H2 r he q4 q5 q6
  apply bR
  apply sR
  simp only [List.drop_zero] at he
  refine endsE (by simp [Tryz.f158, q4, q5, q6] <;> rfl) (by rfl) ?_
  simp only [escR, he]
  first
   | rfl
   | (simp only [hx]; first | rfl | (rw [hr, escV_eq]))
def wordsR (c : Nat) : List (List UInt8) :=
  if c = 107 then [[99, 108, 97, 115, 115], [97, 99, 116, 111, 114], [112, 114, 105, 109, 105, 116, 105, 118, 101], [116, 114, 97, 105, 116], [105, 110, 116, 101, 114, 102, 97, 99, 101], [116, 121, 112, 101]]
  else if c = 99 then [[], [105, 115, 111], [116, 114, 110], [114, 101, 102], [118, 97, 108], [98, 111, 120], [116, 97, 103]]
  else if c = 103 then [[], [35, 114, 101, 97, 100], [35, 115, 101, 110, 100], [35, 115, 104, 97, 114, 101], [35, 97, 108, 105, 97, 115], [35, 97, 110, 121], [105, 115, 111], [116, 114, 110], [114, 101, 102], [118, 97, 108], [98, 111, 120], [116, 97, 103]]
  else if c = 118 then [[118, 97, 114], [108, 101, 116]]
  else if c = 110 then [[110, 101, 119], [102, 117, 110], [98, 101]]
  else if c = 113 then [[], [63]]
  else [[], [94], [33]]
theorem tab1102 : ((List.range 256).all fun c => match evFun TT (gamOf Con.none) 3000 102 [.i .u8 c] [] with | .val v J => (match fz J 60 v with | some u => V.beq u (.isl 1 (encS (wordsR c))) | none => false) | _ => false) = true := by kernel_rfl
def shapeL : List (List UInt8 × Nat) := [([], 0), ([], 117), ([69], 0), ([107, 99, 66, 84], 109), ([], 0), ([], 0), ([], 98), ([84], 0), ([118, 116, 69], 0), ([110, 99, 66, 80, 84, 113, 69], 0), ([], 112), ([116, 69], 0), ([103, 119], 116), ([116, 116], 116), ([116, 116], 116), ([116, 116], 116), ([116, 116], 0), ([], 0), ([99, 119, 113, 84], 116), ([], 0), ([], 0), ([], 0), ([], 0), ([], 0), ([], 0), ([101, 101], 101), ([118, 116], 0), ([101, 101], 0), ([101], 0), ([101], 0), ([101], 0), ([101, 113], 97), ([101], 0), ([101, 116], 116), ([101, 101], 101), ([116], 101), ([101], 0), ([101, 101], 0), ([101, 116], 0), ([101], 0), ([99, 101], 0), ([101, 101, 69], 0), ([101, 101, 69], 0), ([101, 101, 69], 0), ([101, 101], 0), ([116, 101, 101, 69], 0), ([116, 101, 101], 0), ([101, 69], 120), ([101, 69, 101], 0), ([101, 69, 69], 0), ([], 0), ([69], 0), ([], 0), ([], 0), ([99, 84], 109), ([99, 80, 84, 113, 101], 121), ([116, 101], 0)]
def shapeR (k : Nat) : List UInt8 × Nat := (shapeL[k]?).getD ([], 0)
theorem tab1081 : ((List.range 57).all fun k => match evFun TT (gamOf Con.none) 3000 81 [.i .i64 k] [] with | .val (.tup [.s a, .i .u8 n]) _ => a == (shapeR k).1 && n == ((shapeR k).2 : Int) | _ => false) = true := by kernel_rfl
theorem sp1081 : ∃ g, SpecOK Tryz.prog TT 81 g ∧ ∀ k : Nat, k < 57 → ∀ H, g [.i .i64 k] H = .val (.tup [.s (shapeR k).1, .i .u8 (shapeR k).2]) H := by
  obtain ⟨g, hg, s⟩ := spec_con TT_ok TT_plain 81 (fun vs => ∃ k : Nat, k < 57 ∧ vs = [.i .i64 k]) (fun vs => match vs with | [.i .i64 k] => .val (.tup [.s (shapeR k.toNat).1, .i .u8 (shapeR k.toNat).2]) | _ => .val .un) (by
    rintro vs ⟨c, h1, rfl⟩
    refine ⟨rfl, rfl, 3000, ?_⟩
    have hk := List.all_eq_true.1 tab1081 c (List.mem_range.2 h1)
    split at hk
    · rename_i a n J he
      rw [Bool.and_eq_true] at hk
      exact ⟨J, by rw [he, eq_of_beq hk.1, eq_of_beq hk.2]; rfl⟩
    · cases hk)
  exact ⟨g, hg, fun k h1 H => s _ ⟨k, h1, rfl⟩ H⟩
theorem sp1102 : ∃ g, SpecOK Tryz.prog TT 102 g ∧ ∀ c : Nat, c < 256 → ∀ H, g [.i .u8 c] H = .val (.isl 1 (encS (wordsR c))) H := by
  refine ⟨fun vs H => match vs with | [.i .u8 n] => if 0 ≤ n ∧ n < 256 then .val (.isl 1 (encS (wordsR n.toNat))) H else .no | _ => .no, fun vs H x hx hne => ?_, fun c hc H => ?_⟩
  · simp only at hx
    split at hx
    · rename_i n
      split at hx
      · rename_i hn
        subst hx
        have h1 := List.all_eq_true.1 tab1102 n.toNat (List.mem_range.2 (by omega))
        rw [show ((n.toNat : Nat) : Int) = n from by omega] at h1
        split at h1
        · rename_i v J he
          split at h1
          · rename_i u hf
            have h2 := V.beq_eq _ _ h1
            subst h2
            obtain ⟨e1, e2⟩ := con_of_ev_fz TT_ok TT_plain Con.none_sound he hf rfl
            exact ⟨e1, e2 H⟩
          · cases h1
        · cases h1
      · exact absurd hx.symm hne
    · exact absurd hx.symm hne
  · have : (0 : Int) ≤ c ∧ (c : Int) < 256 := by omega
    simp only [this, and_self, if_true]
    simp
end Go.Ev
