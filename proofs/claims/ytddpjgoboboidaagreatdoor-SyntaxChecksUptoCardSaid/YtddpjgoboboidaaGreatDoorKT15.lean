/- Walks over the end of a name. Walks over a name in the program. Walks over the end of a name, the whole. A byte at a place, a text at a place, the end of a name. The keywords and symbols of the reference. What a name is, as the reference sees it. Walks over digits. Walks over a number times a base. Walks over a number times a base, the whole. Numbers in decimal digits, and which is above another. Walks over the value of digits. The value of digits, in decimal digits. -/
import Derived.Test.YtddpjgoboboidaaGreatDoorKT3
import Derived.Test.YtddpjgoboboidaaGreatDoorKEvIter2
import Derived.Test.YtddpjgoboboidaaGreatDoorKAt2
namespace Go.Ev
open Go Go.Proofs
set_option linter.unusedSimpArgs false
set_option linter.unusedVariables false
set_option maxRecDepth 1000000
theorem loop1124 {call : CallF} (hC : call.Sound Tryz.prog TT) (s : List UInt8) {Q : Out → Prop} : ∀ (L pre : List (List UInt8)) (t : Tm) (H : Heap), (pre ++ L).length < 1100000 → t.wid = 18 → t.get 0 = .isl 1 (encS (pre ++ L)) → t.get 1 = .s s → t.get 5 = .i .i64 pre.length →
    (∀ t' H', t'.wid = 18 → (L.any fun x => x == s) = false → Q (.exit 0 t' H')) → (∀ t' H', t'.wid = 18 → (L.any fun x => x == s) = true → t'.get 4 = .b true → Q (.ret t' H')) →
    LTri Tryz.prog TT (sub [true, false, true, false, false] (bodyOf Tryz.f124)) t H Q := by
 intro L
 induction L with
 | nil =>
   intro pre t H hlen hw h0 h1 h5 hE hR
   have hF := ai @h0 (ai @h1 (ai @h5 @encS_length))
   refine LTri.round' ?_
   apply sQ
   apply rS hC
   · iterate 4 refine oA ?_
     rfl
   refine cF (by simp [hF] <;> rfl) ?_
   refine Tri.exit ?_
   refine inSeq_exit ?_
   refine inLoop_exit ?_
   exact hE _ _ (by simp [hw]) (by simp)
 | cons x L ih =>
   intro pre t H hlen hw h0 h1 h5 hE hR
   have hlt := fin_len pre.length L.length
   have hat := encS_at pre x L
   have hat2 := encS_at2 pre x L
   cases hq : (x == s) with
   | true =>
     have hF := ai @h0 (ai @h1 (ai @h5 (ai @encS_length (ai @hlt (ai @hat (ai @hat2 @hq))))))
     refine LTri.round' ?_
     apply sQ
     apply rS hC
     · iterate 4 refine oA ?_
       rfl
     refine cT (by simp [hF] <;> rfl) ?_
     apply Tri.skip
     apply sN
     apply sQ
     apply bK
     apply rS hC
     · iterate 6 refine oA ?_
       rfl
     refine cT (by simp [hF] <;> rfl) ?_
     apply rS hC
     · refine oA ?_
       rfl
     apply Tri.ret
     apply bR
     apply sR
     refine inLoop_ret ?_
     exact hR _ _ (by simp [hw]) (by simp [hq]) (by simp)
   | false =>
     have hF := ai @h0 (ai @h1 (ai @h5 (ai @encS_length (ai @hlt (ai @hat (ai @hat2 @hq))))))
     refine LTri.round' ?_
     apply sQ
     apply rS hC
     · iterate 4 refine oA ?_
       rfl
     refine Tri.condG (o := ?on2) (b := ?bn2) ?gn2 ?rn2 ?yn2 ?nn2
     case gn2 => simp [hF] <;> rfl
     case rn2 => rfl
     case yn2 =>
      intro hy2
      apply Tri.skip
      apply sN
      apply sQ
      apply bK
      apply rS hC
      · iterate 6 refine oA ?_
        rfl
      refine cF (by simp [hF] <;> rfl) ?_
      apply Tri.skip
      apply bN
      apply sN
      apply rN hC
      · iterate 3 refine oA ?_
        rfl
      refine inLoop_norm ?_
      refine ih (pre ++ [x]) _ _ (by simpa using hlen) (by simp [hw]) (by simp [h0]) (by simp [h1]) (by simp; exact wrap_i64 (by omega) (by simp at hlen; omega)) (fun t' H' k1 k2 => hE t' H' k1 (by simp [hq, k2])) (fun t' H' k1 k2 => hR t' H' k1 (by simp [k2]))
     case nn2 =>
      intro hn2
      exfalso
      simp at hn2

theorem body_1124 {call : CallF} (hC : call.Sound Tryz.prog TT) (l : List (List UInt8)) (s : List UInt8) (hlen : l.length < 1100000)  : EBody Tryz.prog TT 124 [.isl 1 (encS l), .s s] (fun r => r = .val (.b (l.any fun x => x == s))) := by
 refine en Tryz.f124 rfl rfl (by simp [Tryz.f124]) 18 rfl fun t hw hg => ?_
 have h0 := hg 0 _ rfl
 have h1 := hg 1 _ rfl
 clear hg
 try simp only [Nd.enc_eq] at *
 have hF := ai @h0 (ai @h1 @encS_length)
 apply rS hC
 · refine oA ?_
   rfl
 apply sQ
 apply rS hC
 · refine oA ?_
   rfl
 apply bK
 refine Tri.loop ?_
 refine loop1124 hC s l [] _ _ (by simpa using hlen) (by simp [hw]) (by simp [h0]) (by simp [h1]) (by simp) ?exit ?ret
 case exit =>
  intro t2 H2 hw hr
  have h4 : True := trivial
  refine inBlk_exit ?_
  apply sN
  apply rS hC
  · refine oA ?_
    rfl
  apply Tri.ret
  rw [hr]
  refine endsE (by simp [Tryz.f124, h4] <;> rfl) (by rfl) ?_
  rfl
 case ret =>
  intro t2 H2 hw hr h4
  apply bR
  apply sR
  rw [hr]
  refine endsE (by simp [Tryz.f124, h4] <;> rfl) (by rfl) ?_
  rfl
def runW : List UInt8 → Nat
  | [] => 0
  | b :: l => if worR b.toNat = true then runW l + 1 else 0
def runQ : List UInt8 → Nat
  | [] => 0
  | b :: l => if (b == 39) = true then runQ l + 1 else 0
theorem runW_le : ∀ l, runW l ≤ l.length
  | [] => Nat.le_refl _
  | b :: l => by
    have := runW_le l
    simp only [runW, List.length_cons]
    split <;> omega
theorem runQ_le : ∀ l, runQ l ≤ l.length
  | [] => Nat.le_refl _
  | b :: l => by
    have := runQ_le l
    simp only [runQ, List.length_cons]
    split <;> omega
def idR (s : List UInt8) (i : Nat) : Nat := if (!(letR (atR s i)) && (atR s i != 95)) = true then i else i + runW (s.drop i) + runQ (s.drop (i + runW (s.drop i)))
theorem str_at (d : List UInt8) (b : UInt8) (r : List UInt8) : (d ++ b :: r)[d.length]? = some b := by simp
theorem str_at2 (d : List UInt8) (b : UInt8) (r : List UInt8) : ∀ h, (d ++ b :: r)[d.length]'h = b := fun h => by simp
theorem u8_eq (a b : UInt8) : (a == b) = ((a.toNat : Int) == (b.toNat : Int)) := by
  by_cases h : a = b
  · subst h; simp
  · have : ¬ (a.toNat : Int) = b.toNat := fun e => h (UInt8.toNat.inj (by omega))
    rw [beq_eq_false_iff_ne.2 h, beq_eq_false_iff_ne.2 this]
theorem loop1123_0 {call : CallF} (hC : call.Sound Tryz.prog TT) {Q : Out → Prop} : ∀ (L pre : List UInt8) (t : Tm) (H : Heap), (pre ++ L).length < 1000000000 → t.wid = 42 → t.get 0 = .s (pre ++ L) → t.get 1 = .i .i64 pre.length → (∀ b : UInt8, ∀ H, call 143 [.i .u8 b.toNat] H = .val (.b (worR b.toNat)) H) →
    (∀ (t' : Tm) (H' : Heap), t'.wid = 42 → t'.get 0 = .s (pre ++ L) → t'.get 1 = .i .i64 ((pre.length + runW L : Nat) : Int) → Q (.exit 0 t' H')) →
    LTri Tryz.prog TT (sub [true, true, false, false, false] (bodyOf Tryz.f123)) t H Q := by
 intro L
 induction L with
 | nil =>
   intro pre t H hlen hw h0 h1 hcall hE
   refine LTri.round' ?_
   apply sQ
   apply rS hC
   · iterate 5 refine oA ?_
     iterate 4 refine oC ?_
     refine oA ?_
     rfl
   refine cF (by simp [h0, h1] <;> rfl) ?_
   refine Tri.exit ?_
   refine inSeq_exit ?_
   refine inLoop_exit ?_
   exact hE _ _ (by simp [hw]) (by simp [h0]) (by simp [h1, runW])
 | cons b L ih =>
   intro pre t H hlen hw h0 h1 hcall hE
   have hlt := fin_len pre.length L.length
   have hat := str_at pre b L
   have hat2 := str_at2 pre b L
   have hq1 : ∀ v, worR b.toNat = v → ∀ H, call 143 [.i .u8 b.toNat] H = .val (.b v) H := fun v e H => by rw [← e]; exact hcall b H
   cases hq2 : worR b.toNat with
   | true =>
     have hq := hq1 _ hq2
     have hF := ai @h0 (ai @h1 (ai @hlt (ai @hat (ai @hat2 @hq))))
     refine LTri.round' ?_
     apply sQ
     apply rS hC
     · iterate 5 refine oA ?_
       iterate 4 refine oB ?_
       refine oA ?_
       rfl
     refine cT (by simp [hF] <;> rfl) ?_
     apply Tri.skip
     apply sN
     apply bK
     apply rN hC
     · iterate 3 refine oA ?_
       rfl
     apply bN
     refine inLoop_norm ?_
     refine ih (pre ++ [b]) _ _ (by simpa using hlen) (by simp [hw]) (by simp [h0]) (by simp; exact wrap_i64 (by omega) (by simp at hlen; omega)) hcall (fun t' H' k1 k2 k3 => hE t' H' k1 (by simpa using k2) (by rw [k3]; simp [runW, hq2, Int.add_assoc, Int.add_comm, Int.add_left_comm]))
   | false =>
     have hq := hq1 _ hq2
     have hF := ai @h0 (ai @h1 (ai @hlt (ai @hat (ai @hat2 @hq))))
     refine LTri.round' ?_
     apply sQ
     apply rS hC
     · iterate 5 refine oA ?_
       iterate 4 refine oB ?_
       refine oA ?_
       rfl
     refine cF (by simp [hF] <;> rfl) ?_
     refine Tri.exit ?_
     refine inSeq_exit ?_
     refine inLoop_exit ?_
     exact hE _ _ (by simp [hw]) (by simp [h0]) (by simp [h1, runW, hq2])

theorem loop1123_1 {call : CallF} (hC : call.Sound Tryz.prog TT) {Q : Out → Prop} : ∀ (L pre : List UInt8) (t : Tm) (H : Heap), (pre ++ L).length < 1000000000 → t.wid = 42 → t.get 0 = .s (pre ++ L) → t.get 1 = .i .i64 pre.length →
    (∀ (t' : Tm) (H' : Heap), t'.wid = 42 → t'.get 0 = .s (pre ++ L) → t'.get 1 = .i .i64 ((pre.length + runQ L : Nat) : Int) → Q (.exit 2 t' H')) →
    LTri Tryz.prog TT (sub [true, true, true, false, false, false] (bodyOf Tryz.f123)) t H Q := by
 intro L
 induction L with
 | nil =>
   intro pre t H hlen hw h0 h1 hE
   refine LTri.round' ?_
   apply sQ
   apply rS hC
   · iterate 5 refine oA ?_
     iterate 4 refine oC ?_
     refine oA ?_
     rfl
   refine cF (by simp [h0, h1] <;> rfl) ?_
   refine Tri.exit ?_
   refine inSeq_exit ?_
   refine inLoop_exit ?_
   exact hE _ _ (by simp [hw]) (by simp [h0]) (by simp [h1, runQ])
 | cons b L ih =>
   intro pre t H hlen hw h0 h1 hE
   have hlt := fin_len pre.length L.length
   have hat := str_at pre b L
   have hat2 := str_at2 pre b L
   have hq1 : ∀ v, (b == 39) = v → (((b.toNat : Int) == 39) = v) := fun v e => by rw [← e, u8_eq b 39]; rfl
   cases hq2 : (b == 39) with
   | true =>
     have hq := hq1 _ hq2
     have hF := ai @h0 (ai @h1 (ai @hlt (ai @hat (ai @hat2 @hq))))
     refine LTri.round' ?_
     apply sQ
     apply rS hC
     · iterate 5 refine oA ?_
       iterate 4 refine oB ?_
       refine oA ?_
       rfl
     refine cT (by simp [hF] <;> rfl) ?_
     apply Tri.skip
     apply sN
     apply bK
     apply rN hC
     · iterate 3 refine oA ?_
       rfl
     apply bN
     refine inLoop_norm ?_
     refine ih (pre ++ [b]) _ _ (by simpa using hlen) (by simp [hw]) (by simp [h0]) (by simp; exact wrap_i64 (by omega) (by simp at hlen; omega)) (fun t' H' k1 k2 k3 => hE t' H' k1 (by simpa using k2) (by rw [k3]; simp [runQ, hq2, Int.add_assoc, Int.add_comm, Int.add_left_comm]))
   | false =>
     have hq := hq1 _ hq2
     have hF := ai @h0 (ai @h1 (ai @hlt (ai @hat (ai @hat2 @hq))))
     refine LTri.round' ?_
     apply sQ
     apply rS hC
     · iterate 5 refine oA ?_
       iterate 4 refine oB ?_
       refine oA ?_
       rfl
     refine cF (by simp [hF] <;> rfl) ?_
     refine Tri.exit ?_
     refine inSeq_exit ?_
     refine inLoop_exit ?_
     exact hE _ _ (by simp [hw]) (by simp [h0]) (by simp [h1, runQ, hq2])

theorem loop71pa {call : CallF} (hC : call.Sound Tryz.prog TT) {Q : Out → Prop} : ∀ (L pre : List UInt8) (t : Tm) (H : Heap), (pre ++ L).length < 1100000 → t.wid = 37 → t.get 0 = .s (pre ++ L) → t.get 3 = .i .i64 pre.length → (∀ b : UInt8, ∀ H, call 109 [.i .u8 b.toNat] H = .val (.b (worR b.toNat)) H) →
    (∀ (t' : Tm) (H' : Heap), t'.wid = 37 → t'.get 0 = .s (pre ++ L) → t'.get 3 = .i .i64 ((pre.length + runW L : Nat) : Int) → Q (.exit 0 t' H')) →
    LTri Tryz.prog TT (sub [true, true, true, false, false, false] (bodyOf Tryz.f89)) t H Q := by
 intro L
 induction L with
 | nil =>
   intro pre t H hlen hw h0 h3 hcall hE
   refine LTri.round' ?_
   apply sQ
   apply rS hC
   · iterate 5 refine oA ?_
     iterate 4 refine oC ?_
     refine oA ?_
     rfl
   refine cF (by simp [h0, h3] <;> rfl) ?_
   refine Tri.exit ?_
   refine inSeq_exit ?_
   refine inLoop_exit ?_
   exact hE _ _ (by simp [hw]) (by simp [h0]) (by simp [h3, runW])
 | cons b L ih =>
   intro pre t H hlen hw h0 h3 hcall hE
   have hlt := fin_len pre.length L.length
   have hat := str_at pre b L
   have hat2 := str_at2 pre b L
   have hq1 : ∀ v, worR b.toNat = v → ∀ H, call 109 [.i .u8 b.toNat] H = .val (.b v) H := fun v e H => by rw [← e]; exact hcall b H
   cases hq2 : worR b.toNat with
   | true =>
     have hq := hq1 _ hq2
     have hF := ai @h0 (ai @h3 (ai @hlt (ai @hat (ai @hat2 @hq))))
     refine LTri.round' ?_
     apply sQ
     apply rS hC
     · iterate 5 refine oA ?_
       iterate 4 refine oB ?_
       refine oA ?_
       rfl
     refine cT (by simp [hF] <;> rfl) ?_
     apply Tri.skip
     apply sN
     apply bK
     apply rN hC
     · iterate 3 refine oA ?_
       rfl
     apply bN
     refine inLoop_norm ?_
     refine ih (pre ++ [b]) _ _ (by simpa using hlen) (by simp [hw]) (by simp [h0]) (by simp; exact wrap_i64 (by omega) (by simp at hlen; omega)) hcall (fun t' H' k1 k2 k3 => hE t' H' k1 (by simpa using k2) (by rw [k3]; simp [runW, hq2, Int.add_assoc, Int.add_comm, Int.add_left_comm]))
   | false =>
     have hq := hq1 _ hq2
     have hF := ai @h0 (ai @h3 (ai @hlt (ai @hat (ai @hat2 @hq))))
     refine LTri.round' ?_
     apply sQ
     apply rS hC
     · iterate 5 refine oA ?_
       iterate 4 refine oB ?_
       refine oA ?_
       rfl
     refine cF (by simp [hF] <;> rfl) ?_
     refine Tri.exit ?_
     refine inSeq_exit ?_
     refine inLoop_exit ?_
     exact hE _ _ (by simp [hw]) (by simp [h0]) (by simp [h3, runW, hq2])

theorem loop71pb {call : CallF} (hC : call.Sound Tryz.prog TT) {Q : Out → Prop} : ∀ (L pre : List UInt8) (t : Tm) (H : Heap), (pre ++ L).length < 1100000 → t.wid = 37 → t.get 0 = .s (pre ++ L) → t.get 3 = .i .i64 pre.length →
    (∀ (t' : Tm) (H' : Heap), t'.wid = 37 → t'.get 0 = .s (pre ++ L) → t'.get 3 = .i .i64 ((pre.length + runQ L : Nat) : Int) → Q (.exit 2 t' H')) →
    LTri Tryz.prog TT (sub [true, true, true, true, false, false, false] (bodyOf Tryz.f89)) t H Q := by
 intro L
 induction L with
 | nil =>
   intro pre t H hlen hw h0 h3 hE
   refine LTri.round' ?_
   apply sQ
   apply rS hC
   · iterate 5 refine oA ?_
     iterate 4 refine oC ?_
     refine oA ?_
     rfl
   refine cF (by simp [h0, h3] <;> rfl) ?_
   refine Tri.exit ?_
   refine inSeq_exit ?_
   refine inLoop_exit ?_
   exact hE _ _ (by simp [hw]) (by simp [h0]) (by simp [h3, runQ])
 | cons b L ih =>
   intro pre t H hlen hw h0 h3 hE
   have hlt := fin_len pre.length L.length
   have hat := str_at pre b L
   have hat2 := str_at2 pre b L
   have hq1 : ∀ v, (b == 39) = v → (((b.toNat : Int) == 39) = v) := fun v e => by rw [← e, u8_eq b 39]; rfl
   cases hq2 : (b == 39) with
   | true =>
     have hq := hq1 _ hq2
     have hF := ai @h0 (ai @h3 (ai @hlt (ai @hat (ai @hat2 @hq))))
     refine LTri.round' ?_
     apply sQ
     apply rS hC
     · iterate 5 refine oA ?_
       iterate 4 refine oB ?_
       refine oA ?_
       rfl
     refine cT (by simp [hF] <;> rfl) ?_
     apply Tri.skip
     apply sN
     apply bK
     apply rN hC
     · iterate 3 refine oA ?_
       rfl
     apply bN
     refine inLoop_norm ?_
     refine ih (pre ++ [b]) _ _ (by simpa using hlen) (by simp [hw]) (by simp [h0]) (by simp; exact wrap_i64 (by omega) (by simp at hlen; omega)) (fun t' H' k1 k2 k3 => hE t' H' k1 (by simpa using k2) (by rw [k3]; simp [runQ, hq2, Int.add_assoc, Int.add_comm, Int.add_left_comm]))
   | false =>
     have hq := hq1 _ hq2
     have hF := ai @h0 (ai @h3 (ai @hlt (ai @hat (ai @hat2 @hq))))
     refine LTri.round' ?_
     apply sQ
     apply rS hC
     · iterate 5 refine oA ?_
       iterate 4 refine oB ?_
       refine oA ?_
       rfl
     refine cF (by simp [hF] <;> rfl) ?_
     refine Tri.exit ?_
     refine inSeq_exit ?_
     refine inLoop_exit ?_
     exact hE _ _ (by simp [hw]) (by simp [h0]) (by simp [h3, runQ, hq2])

theorem body_71pn {call : CallF} (hC : call.Sound Tryz.prog TT)   : EBody Tryz.prog TT 89 [.s []] (fun r => r = .val (.i .i64 0)) := by
 refine en Tryz.f89 rfl rfl (by simp [Tryz.f89]) 37 rfl fun t hw hg => ?_
 have h0 := hg 0 _ rfl
 clear hg
 try simp only [Nd.enc_eq] at *
 apply rS hC
 · refine oA ?_
   rfl
 apply sQ
 apply rS hC
 · iterate 3 refine oA ?_
   iterate 4 refine oC ?_
   refine oA ?_
   rfl
 refine cT (by simp [h0] <;> rfl) ?_
 apply rS hC
 · refine oA ?_
   rfl
 apply Tri.ret
 apply sR
 refine endsE (by simp [Tryz.f89] <;> rfl) (by rfl) ?_
 rfl
theorem body_71pf {call : CallF} (hC : call.Sound Tryz.prog TT) (c : UInt8) (r : List UInt8) (hs : ∀ H, call 108 [.i .u8 c.toNat] H = .val (.b false) H)  : EBody Tryz.prog TT 89 [.s (c :: r)] (fun r => r = .val (.i .i64 0)) := by
 refine en Tryz.f89 rfl rfl (by simp [Tryz.f89]) 37 rfl fun t hw hg => ?_
 have h0 := hg 0 _ rfl
 clear hg
 try simp only [Nd.enc_eq] at *
 apply rS hC
 · refine oA ?_
   rfl
 apply sQ
 apply rS hC
 · iterate 3 refine oA ?_
   iterate 4 refine oB ?_
   refine oA ?_
   rfl
 refine cT (by simp [h0, hs] <;> rfl) ?_
 apply rS hC
 · refine oA ?_
   rfl
 apply Tri.ret
 apply sR
 refine endsE (by simp [Tryz.f89] <;> rfl) (by rfl) ?_
 rfl
theorem body_71pt {call : CallF} (hC : call.Sound Tryz.prog TT) (c : UInt8) (L : List UInt8) (hlen : ([c] ++ L).length < 1100000) (hcall : ∀ b : UInt8, ∀ H, call 109 [.i .u8 b.toNat] H = .val (.b (worR b.toNat)) H) (hs : ∀ H, call 108 [.i .u8 c.toNat] H = .val (.b true) H)  : EBody Tryz.prog TT 89 [.s ([c] ++ L)] (fun r => r = .val (.i .i64 ((1 + runW L + runQ (L.drop (runW L)) : Nat) : Int))) := by
 refine en Tryz.f89 rfl rfl (by simp [Tryz.f89]) 37 rfl fun t hw hg => ?_
 have h0 := hg 0 _ rfl
 clear hg
 try simp only [Nd.enc_eq] at *
 apply rS hC
 · refine oA ?_
   rfl
 apply sQ
 apply rS hC
 · iterate 3 refine oA ?_
   iterate 4 refine oB ?_
   refine oA ?_
   rfl
 refine cF (by simp [h0, hs] <;> rfl) ?_
 apply Tri.skip
 apply sN
 apply rS hC
 · refine oA ?_
   rfl
 apply sQ
 apply bK
 refine Tri.loop ?_
 refine loop71pa hC L [c] _ _ hlen (by simp [hw]) (by simp [h0]) (by simp) hcall ?exit
 case exit =>
  intro t2 H2 hw h0 h3
  refine inBlk_exit ?_
  apply sN
  apply sQ
  apply bK
  refine Tri.loop ?_
  have eL : [c] ++ L = ([c] ++ L.take (runW L)) ++ L.drop (runW L) := by rw [List.append_assoc, List.take_append_drop]
  have el : ([c] ++ L.take (runW L)).length = 1 + runW L := by
   have := runW_le L
   simp; omega
  refine loop71pb hC (L.drop (runW L)) ([c] ++ L.take (runW L)) _ _ (by rw [← eL]; exact hlen) (by simp [hw]) (by rw [← eL]; simp [h0]) (by rw [el]; simp [h3]) ?exit2
  case exit2 =>
   intro t3 H3 hw h0 h3
   rw [el] at h3
   refine inBlk_exit ?_
   apply sN
   apply rS hC
   · iterate 2 refine oA ?_
     rfl
   apply Tri.ret
   refine endsE (by simp [Tryz.f89, h3] <;> rfl) (by rfl) ?_
   simp
theorem body_1123c {call : CallF} (hC : call.Sound Tryz.prog TT) (pre L : List UInt8) (hlen : (pre ++ L).length < 1000000000) (c : Int) (hat : ∀ H, call 142 [.s (pre ++ L), .i .i64 pre.length] H = .val (.i .u8 c) H) (hl : ∀ H, call 141 [.i .u8 c] H = .val (.b false) H) (hc : (c != 95) = true)  : EBody Tryz.prog TT 123 [.s (pre ++ L), .i .i64 pre.length] (fun r => r = .val (.i .i64 pre.length)) := by
 refine en Tryz.f123 rfl rfl (by simp [Tryz.f123]) 42 rfl fun t hw hg => ?_
 have h0 := hg 0 _ rfl
 have h1 := hg 1 _ rfl
 clear hg
 try simp only [Nd.enc_eq] at *
 have hF := ai @h0 (ai @h1 (ai @hat (ai @hl @hc)))
 apply rS hC
 · refine oA ?_
   rfl
 apply sQ
 apply rS hC
 · iterate 6 refine oA ?_
   iterate 4 refine oB ?_
   refine oA ?_
   rfl
 refine cT (by simp [hF] <;> rfl) ?_
 apply rS hC
 · iterate 2 refine oA ?_
   rfl
 apply Tri.ret
 apply sR
 refine endsE (by simp [Tryz.f123] <;> rfl) (by rfl) ?_
 rfl
theorem body_1123a {call : CallF} (hC : call.Sound Tryz.prog TT) (pre L : List UInt8) (hlen : (pre ++ L).length < 1000000000) (c : Int) (hat : ∀ H, call 142 [.s (pre ++ L), .i .i64 pre.length] H = .val (.i .u8 c) H) (hl : ∀ H, call 141 [.i .u8 c] H = .val (.b true) H) (hcall : ∀ b : UInt8, ∀ H, call 143 [.i .u8 b.toNat] H = .val (.b (worR b.toNat)) H)   : EBody Tryz.prog TT 123 [.s (pre ++ L), .i .i64 pre.length] (fun r => r = .val (.i .i64 ((pre.length + runW L + runQ (L.drop (runW L)) : Nat) : Int))) := by
 refine en Tryz.f123 rfl rfl (by simp [Tryz.f123]) 42 rfl fun t hw hg => ?_
 have h0 := hg 0 _ rfl
 have h1 := hg 1 _ rfl
 clear hg
 try simp only [Nd.enc_eq] at *
 have hF := ai @h0 (ai @h1 (ai @hat @hl))
 apply rS hC
 · refine oA ?_
   rfl
 apply sQ
 apply rS hC
 · iterate 6 refine oA ?_
   iterate 4 refine oC ?_
   refine oA ?_
   rfl
 refine cF (by simp [hF] <;> rfl) ?_
 apply Tri.skip
 apply sN
 apply sQ
 apply bK
 refine Tri.loop ?_
 refine loop1123_0 hC L pre _ _ hlen (by simp [hw]) (by simp [h0]) (by simp [h1]) hcall ?exit
 case exit =>
  intro t2 H2 hw h0 h1
  refine inBlk_exit ?_
  apply sN
  apply sQ
  apply bK
  refine Tri.loop ?_
  have eL : pre ++ L = (pre ++ L.take (runW L)) ++ L.drop (runW L) := by rw [List.append_assoc, List.take_append_drop]
  have el : (pre ++ L.take (runW L)).length = pre.length + runW L := by
   have := runW_le L
   simp; omega
  refine loop1123_1 hC (L.drop (runW L)) (pre ++ L.take (runW L)) _ _ (by rw [← eL]; exact hlen) (by simp [hw]) (by rw [← eL]; simp [h0]) (by rw [el]; simp [h1]) ?exit2
  case exit2 =>
   intro t3 H3 hw h0 h1
   rw [el] at h1
   refine inBlk_exit ?_
   apply sN
   apply rS hC
   · iterate 2 refine oA ?_
     rfl
   apply Tri.ret
   refine endsE (by simp [Tryz.f123] <;> rfl) (by rfl) ?_
   simp
theorem body_1123b {call : CallF} (hC : call.Sound Tryz.prog TT) (pre L : List UInt8) (hlen : (pre ++ L).length < 1000000000) (c : Int) (hat : ∀ H, call 142 [.s (pre ++ L), .i .i64 pre.length] H = .val (.i .u8 c) H) (hl : ∀ H, call 141 [.i .u8 c] H = .val (.b false) H) (hc : (c != 95) = false) (hcall : ∀ b : UInt8, ∀ H, call 143 [.i .u8 b.toNat] H = .val (.b (worR b.toNat)) H)   : EBody Tryz.prog TT 123 [.s (pre ++ L), .i .i64 pre.length] (fun r => r = .val (.i .i64 ((pre.length + runW L + runQ (L.drop (runW L)) : Nat) : Int))) := by
 refine en Tryz.f123 rfl rfl (by simp [Tryz.f123]) 42 rfl fun t hw hg => ?_
 have h0 := hg 0 _ rfl
 have h1 := hg 1 _ rfl
 clear hg
 try simp only [Nd.enc_eq] at *
 have hF := ai @h0 (ai @h1 (ai @hat (ai @hl @hc)))
 apply rS hC
 · refine oA ?_
   rfl
 apply sQ
 apply rS hC
 · iterate 6 refine oA ?_
   iterate 4 refine oB ?_
   refine oA ?_
   rfl
 refine cF (by simp [hF] <;> rfl) ?_
 apply Tri.skip
 apply sN
 apply sQ
 apply bK
 refine Tri.loop ?_
 refine loop1123_0 hC L pre _ _ hlen (by simp [hw]) (by simp [h0]) (by simp [h1]) hcall ?exit
 case exit =>
  intro t2 H2 hw h0 h1
  refine inBlk_exit ?_
  apply sN
  apply sQ
  apply bK
  refine Tri.loop ?_
  have eL : pre ++ L = (pre ++ L.take (runW L)) ++ L.drop (runW L) := by rw [List.append_assoc, List.take_append_drop]
  have el : (pre ++ L.take (runW L)).length = pre.length + runW L := by
   have := runW_le L
   simp; omega
  refine loop1123_1 hC (L.drop (runW L)) (pre ++ L.take (runW L)) _ _ (by rw [← eL]; exact hlen) (by simp [hw]) (by rw [← eL]; simp [h0]) (by rw [el]; simp [h1]) ?exit2
  case exit2 =>
   intro t3 H3 hw h0 h1
   rw [el] at h1
   refine inBlk_exit ?_
   apply sN
   apply rS hC
   · iterate 2 refine oA ?_
     rfl
   apply Tri.ret
   refine endsE (by simp [Tryz.f123] <;> rfl) (by rfl) ?_
   simp
theorem EBody.of1 {F : FuncId} {vs : List V} {r : Res} (h : EBody Tryz.prog TT F vs (fun x => x = r)) : Body Tryz.prog TT F vs r := by
  obtain ⟨fn, c, h1, h2, h3, o, ⟨r', rfl, k2⟩, hx⟩ := h
  exact ⟨fn, c, h1, h2, h3, o, k2, hx⟩
theorem spec_run {P : Program} {T : Tab} (hT : TOk P T) (hp : T.Plain) (F : FuncId) (n k : Nat) (u : V) (h : (match evFun T (gamOf Con.none) n F [] [] with | .val v J => fz J k v | _ => none) = some u) : ∃ g, SpecOK P T F g ∧ ∀ H, g [] H = .val u H := by
  refine ⟨fun vs H => match vs with | [] => .val u H | _ => .no, fun vs H x hx hne => ?_, fun H => rfl⟩
  simp only at hx
  split at hx
  · subst hx
    split at h
    · rename_i v J he
      obtain ⟨h1, h2⟩ := con_of_ev_fz hT hp Con.none_sound he h rfl
      exact ⟨h1, h2 H⟩
    · cases h
  · exact absurd hx.symm hne
theorem sp1142 : ∃ g, SpecOK Tryz.prog TT 142 g ∧ ∀ (s : List UInt8) (i : Nat), ∀ H, g [.s s, .i .i64 i] H = .val (.i .u8 (atR s i)) H := by
  obtain ⟨g, k, s⟩ := spec_val TT_ok TT_plain 142 (fun p : List UInt8 × Nat => [.s p.1, .i .i64 p.2]) (fun _ => True) (fun p => .i .u8 (atR p.1 p.2)) (fun p _ => by simp [nlL, nl]) (fun _ => rfl) (fun a b h => by
    simp only [List.cons.injEq, V.s.injEq, V.i.injEq, true_and, and_true] at h
    rw [h.1, show a.2 = b.2 from by omega]) (fun p _ => by
    obtain ⟨s, i⟩ := p
    simp only [atR]
    by_cases hi : i < s.length
    · have e : s[i]? = some s[i] := List.getElem?_eq_getElem hi
      simp only [e]
      exact body_1142a n0 s i s[i] (by omega) hi e (fun _ => rfl)
    · rw [List.getElem?_eq_none (by omega)]
      exact body_1142b n0 s i (by omega))
  exact ⟨g, k, fun a i H => s (a, i) trivial H⟩
theorem sp1144 : ∃ g, SpecOK Tryz.prog TT 144 g ∧ ∀ (s : List UInt8) (i : Nat) (t : List UInt8), i < 1000000000 → t.length < 1000000000 → ∀ H, g [.s s, .i .i64 i, .s t] H = .val (.b (begR s i t)) H := by
  obtain ⟨g, k, s⟩ := spec_val TT_ok TT_plain 144 (fun p : List UInt8 × Nat × List UInt8 => [.s p.1, .i .i64 p.2.1, .s p.2.2]) (fun p => p.2.1 < 1000000000 ∧ p.2.2.length < 1000000000) (fun p => .b (begR p.1 p.2.1 p.2.2)) (fun p _ => by simp [nlL, nl]) (fun _ => rfl) (fun a b h => by
    simp only [List.cons.injEq, V.s.injEq, V.i.injEq, true_and, and_true] at h
    rw [h.1, show a.2.1 = b.2.1 from by omega, h.2.2]) (fun p hp => by
    obtain ⟨s, i, t⟩ := p
    simp only [begR] at hp ⊢
    have hw : IntKind.i64.wrap ((i : Int) + t.length) = (i : Int) + t.length := wrap_i64 (by omega) (by omega)
    by_cases hi : i + t.length ≤ s.length
    · rw [decide_eq_true hi]
      exact body_1144a n0 s t i hw (by omega) (by omega) (by omega) (by omega) (by omega)
    · rw [decide_eq_false hi]
      exact body_1144b n0 s t i hw (by omega))
  exact ⟨g, k, fun a i t h1 h2 H => s (a, i, t) ⟨h1, h2⟩ H⟩
theorem encS_inj2 : ∀ a b : List (List UInt8), encS a = encS b → a = b
  | [], [], _ => rfl
  | [], _ :: _, h => by simp [encS] at h
  | _ :: _, [], h => by simp [encS] at h
  | x :: a, y :: b, h => by
    simp only [encS, List.map_cons, List.cons.injEq, V.s.injEq] at h
    rw [h.1, encS_inj2 a b h.2]
theorem sp1124 : ∃ g, SpecOK Tryz.prog TT 124 g ∧ ∀ (l : List (List UInt8)) (s : List UInt8), l.length < 1100000 → ∀ H, g [.isl 1 (encS l), .s s] H = .val (.b (l.any fun x => x == s)) H := by
  obtain ⟨g, k, s⟩ := spec_val TT_ok TT_plain 124 (fun p : List (List UInt8) × List UInt8 => [.isl 1 (encS p.1), .s p.2]) (fun p => p.1.length < 1100000) (fun p => .b (p.1.any fun x => x == p.2)) (fun p _ => by simp [nlL, nl, encS_nl]) (fun _ => rfl) (fun a b h => by
    simp only [List.cons.injEq, V.s.injEq, V.isl.injEq, true_and, and_true] at h
    rw [encS_inj2 _ _ h.1, h.2]) (fun p hp => EBody.of1 (body_1124 n0 p.1 p.2 hp))
  exact ⟨g, k, fun l s' h H => s (l, s') h H⟩
theorem idR_split (pre L : List UInt8) : idR (pre ++ L) pre.length = if (!(letR (atR (pre ++ L) pre.length)) && (atR (pre ++ L) pre.length != 95)) = true then pre.length else pre.length + runW L + runQ (L.drop (runW L)) := by
  have e1 : (pre ++ L).drop pre.length = L := by simp
  have e2 : (pre ++ L).drop (pre.length + runW L) = L.drop (runW L) := by rw [← List.drop_drop, e1]
  simp only [idR, e1, e2]
theorem sp1123 : ∃ g, SpecOK Tryz.prog TT 123 g ∧ ∀ (s : List UInt8) (i : Nat), s.length < 1000000000 → i ≤ s.length → ∀ H, g [.s s, .i .i64 i] H = .val (.i .i64 (idR s i)) H := by
  obtain ⟨g1, k1, s1⟩ := sp1141
  obtain ⟨g2, k2, s2⟩ := sp1142
  obtain ⟨g3, k3, s3⟩ := sp1143
  obtain ⟨g, k, s⟩ := spec_val TT_ok TT_plain 123 (fun p : List UInt8 × Nat => [.s p.1, .i .i64 p.2]) (fun p => p.1.length < 1000000000 ∧ p.2 ≤ p.1.length) (fun p => .i .i64 (idR p.1 p.2)) (fun p _ => by simp [nlL, nl]) (fun _ => rfl) (fun a b h => by
    simp only [List.cons.injEq, V.s.injEq, V.i.injEq, true_and, and_true] at h
    rw [h.1, show a.2 = b.2 from by omega]) (fun p hp => by
    obtain ⟨s, i⟩ := p
    obtain ⟨hs, hi⟩ := hp
    simp only at hs hi ⊢
    obtain ⟨pre, L, rfl, rfl⟩ : ∃ pre L, s = pre ++ L ∧ i = pre.length := ⟨s.take i, s.drop i, by simp, by simp [Nat.min_eq_left hi]⟩
    have hC := ws (ws (ws n0 k1) k2) k3
    generalize hc : ((CallF.none.with 141 g1).with 142 g2).with 143 g3 = call at hC
    have c2 : ∀ H, call 142 [.s (pre ++ L), .i .i64 pre.length] H = .val (.i .u8 (atR (pre ++ L) pre.length)) H := fun H => by rw [← hc, w_other _ _ _ _ rfl, w_here]; exact s2 _ _ H
    have hr := atR_range (pre ++ L) pre.length
    have c1 : ∀ H, call 141 [.i .u8 (atR (pre ++ L) pre.length)] H = .val (.b (letR (atR (pre ++ L) pre.length))) H := fun H => by rw [← hc, w_other _ _ _ _ rfl, w_other _ _ _ _ rfl, w_here]; exact s1 _ hr.1 hr.2 H
    have c3 : ∀ b : UInt8, ∀ H, call 143 [.i .u8 b.toNat] H = .val (.b (worR b.toNat)) H := fun b H => by rw [← hc, w_here]; exact s3 _ (by omega) (u8_lt b) H
    rw [idR_split]
    cases hl : letR (atR (pre ++ L) pre.length) with
    | true =>
      rw [hl] at c1
      simpa using EBody.of1 (body_1123a hC pre L hs _ c2 c1 c3)
    | false =>
      rw [hl] at c1
      cases h95 : (atR (pre ++ L) pre.length != 95) with
      | true => simpa using EBody.of1 (body_1123c hC pre L hs _ c2 c1 h95)
      | false => simpa using EBody.of1 (body_1123b hC pre L hs _ c2 c1 h95 c3))
  exact ⟨g, k, fun a i h1 h2 H => s (a, i) ⟨h1, h2⟩ H⟩
def kwL : List (List UInt8) := [[97, 99, 116, 111, 114], [97, 110, 100], [97, 115], [98, 101], [98, 111, 120], [98, 114, 101, 97, 107], [99, 108, 97, 115, 115], [99, 111, 110, 115, 117, 109, 101], [99, 111, 110, 116, 105, 110, 117, 101], [100, 111], [101, 108, 115, 101], [101, 108, 115, 101, 105, 102], [101, 110, 100], [101, 114, 114, 111, 114], [102, 97, 108, 115, 101], [102, 111, 114], [102, 117, 110], [105, 102], [105, 102, 100, 101, 102], [105, 110], [105, 110, 116, 101, 114, 102, 97, 99, 101], [105, 115], [105, 115, 110, 116], [105, 115, 111], [108, 101, 116], [109, 97, 116, 99, 104], [110, 101, 119], [110, 111, 116], [111, 98, 106, 101, 99, 116], [111, 114], [112, 114, 105, 109, 105, 116, 105, 118, 101], [114, 101, 99, 111, 118, 101, 114], [114, 101, 102], [114, 101, 112, 101, 97, 116], [114, 101, 116, 117, 114, 110], [116, 97, 103], [116, 104, 101, 110], [116, 104, 105, 115], [116, 114, 97, 105, 116], [116, 114, 110], [116, 114, 117, 101], [116, 114, 121], [116, 121, 112, 101], [117, 110, 116, 105, 108], [117, 115, 101], [118, 97, 108], [118, 97, 114], [119, 104, 101, 114, 101], [119, 104, 105, 108, 101], [119, 105, 116, 104], [120, 111, 114]]
def syL : List (List UInt8) := [[60, 60], [62, 62], [61, 61], [33, 61], [60, 61], [62, 61], [61, 62], [45, 62], [46, 62], [43, 63], [45, 63], [42, 63], [47, 63], [37, 63], [35, 114, 101, 97, 100], [35, 115, 101, 110, 100], [35, 115, 104, 97, 114, 101], [35, 97, 108, 105, 97, 115], [35, 97, 110, 121], [40], [41], [91], [93], [123], [125], [44], [46], [58], [59], [63], [61], [60], [62], [43], [45], [42], [47], [37], [124], [38], [94], [33], [126]]
theorem sp1125 : ∃ g, SpecOK Tryz.prog TT 125 g ∧ ∀ H, g [] H = .val (.isl 1 (encS kwL)) H := spec_run TT_ok TT_plain 125 3000 3000 (.isl 1 (encS kwL)) (by kernel_rfl)
theorem sp1150 : ∃ g, SpecOK Tryz.prog TT 150 g ∧ ∀ H, g [] H = .val (.isl 1 (encS syL)) H := spec_run TT_ok TT_plain 150 3000 3000 (.isl 1 (encS syL)) (by kernel_rfl)
def isIdR (s : List UInt8) : Bool := !(s == []) && (decide (s.length ≤ 60) && (((idR s 0 : Nat) : Int) == s.length && !(kwL.any fun x => x == s)))
theorem kwL_len : kwL.length < 1100000 := by decide
theorem body_1098a {call : CallF} (hC : call.Sound Tryz.prog TT)   : EBody Tryz.prog TT 98 [.s []] (fun r => r = .val (.b false)) := by
 refine en Tryz.f98 rfl rfl (by simp [Tryz.f98]) 23 rfl fun t hw hg => ?_
 have h0 := hg 0 _ rfl
 clear hg
 try simp only [Nd.enc_eq] at *
 apply rS hC
 · refine oA ?_
   rfl
 apply rS hC
 · iterate 3 refine oA ?_
   iterate 3 refine oC ?_
   iterate 2 refine oA ?_
   iterate 5 refine oC ?_
   iterate 2 refine oA ?_
   iterate 4 refine oC ?_
   iterate 2 refine oA ?_
   rfl
 apply Tri.ret
 refine endsE (by simp [Tryz.f98] <;> rfl) (by rfl) ?_
 rfl
theorem body_1098b {call : CallF} (hC : call.Sound Tryz.prog TT) (s : List UInt8) (h1 : (s == []) = false) (hs1 : ¬ s = []) (h2 : ¬ (s.length : Int) ≤ 60)  : EBody Tryz.prog TT 98 [.s s] (fun r => r = .val (.b false)) := by
 refine en Tryz.f98 rfl rfl (by simp [Tryz.f98]) 23 rfl fun t hw hg => ?_
 have h0 := hg 0 _ rfl
 clear hg
 try simp only [Nd.enc_eq] at *
 have hF := ai @h0 (ai @h1 (ai @hs1 @h2))
 apply rS hC
 · refine oA ?_
   rfl
 apply rS hC
 · iterate 3 refine oA ?_
   iterate 3 refine oB ?_
   iterate 2 refine oA ?_
   iterate 5 refine oC ?_
   iterate 2 refine oA ?_
   iterate 4 refine oC ?_
   iterate 2 refine oA ?_
   rfl
 apply Tri.ret
 refine endsE (by simp [Tryz.f98] <;> rfl) (by rfl) ?_
 first
  | rfl
  | simp
theorem body_1098c {call : CallF} (hC : call.Sound Tryz.prog TT) (s : List UInt8) (h1 : (s == []) = false) (hs1 : ¬ s = []) (h2 : (s.length : Int) ≤ 60) (k : Nat) (q : Bool) (l : List V) (hi : ∀ H, call 123 [.s s, .i .i64 0] H = .val (.i .i64 k) H) (hk : ∀ H, call 125 [] H = .val (.isl 1 l) H) (hh : ∀ H, call 124 [.isl 1 l, .s s] H = .val (.b q) H) (h3 : ((k : Int) == s.length) = false)  : EBody Tryz.prog TT 98 [.s s] (fun r => r = .val (.b false)) := by
 refine en Tryz.f98 rfl rfl (by simp [Tryz.f98]) 23 rfl fun t hw hg => ?_
 have h0 := hg 0 _ rfl
 clear hg
 try simp only [Nd.enc_eq] at *
 have hF := ai @h0 (ai @h1 (ai @hs1 (ai @h2 (ai @hi (ai @hk (ai @hh @h3))))))
 apply rS hC
 · refine oA ?_
   rfl
 apply rS hC
 · iterate 3 refine oA ?_
   iterate 3 refine oB ?_
   iterate 2 refine oA ?_
   iterate 5 refine oB ?_
   iterate 2 refine oA ?_
   iterate 4 refine oC ?_
   iterate 2 refine oA ?_
   rfl
 apply Tri.ret
 refine endsE (by simp [Tryz.f98] <;> rfl) (by rfl) ?_
 first
  | rfl
  | simp
theorem body_1098d {call : CallF} (hC : call.Sound Tryz.prog TT) (s : List UInt8) (h1 : (s == []) = false) (hs1 : ¬ s = []) (h2 : (s.length : Int) ≤ 60) (k : Nat) (q : Bool) (l : List V) (hi : ∀ H, call 123 [.s s, .i .i64 0] H = .val (.i .i64 k) H) (hk : ∀ H, call 125 [] H = .val (.isl 1 l) H) (hh : ∀ H, call 124 [.isl 1 l, .s s] H = .val (.b q) H) (h3 : ((k : Int) == s.length) = true)  : EBody Tryz.prog TT 98 [.s s] (fun r => r = .val (.b (!q))) := by
 refine en Tryz.f98 rfl rfl (by simp [Tryz.f98]) 23 rfl fun t hw hg => ?_
 have h0 := hg 0 _ rfl
 clear hg
 try simp only [Nd.enc_eq] at *
 have hF := ai @h0 (ai @h1 (ai @hs1 (ai @h2 (ai @hi (ai @hk (ai @hh @h3))))))
 apply rS hC
 · refine oA ?_
   rfl
 apply rS hC
 · iterate 3 refine oA ?_
   iterate 3 refine oB ?_
   iterate 2 refine oA ?_
   iterate 5 refine oB ?_
   iterate 2 refine oA ?_
   iterate 4 refine oB ?_
   iterate 2 refine oA ?_
   rfl
 apply Tri.ret
 refine endsE (by simp [Tryz.f98] <;> rfl) (by rfl) ?_
 first
  | rfl
  | simp
def hdR (L : List UInt8) : Int := match L with
  | [] => 0
  | b :: _ => b.toNat
def digL (base : Int) : List UInt8 → List UInt8 → Bool → Nat × List UInt8
  | [], out, _ => (0, out)
  | b :: L, out, pd => if 0 ≤ digR b.toNat base then ((digL base L (out ++ [b]) true).1 + 1, (digL base L (out ++ [b]) true).2)
    else if b = 95 ∧ out ≠ [] ∧ 0 ≤ digR (hdR L) base ∧ pd = true then ((digL base L out false).1 + 1, (digL base L out false).2)
    else (0, out)
theorem digL_le (base : Int) : ∀ (L out : List UInt8) (pd : Bool), (digL base L out pd).1 ≤ L.length
  | [], out, pd => Nat.le_refl _
  | b :: L, out, pd => by
    have h1 := digL_le base L (out ++ [b]) true
    have h2 := digL_le base L out false
    simp only [digL, List.length_cons]
    split
    · omega
    · split <;> simp only <;> omega
theorem str_add (a b : List UInt8) (h : a.length + b.length < 3000000000) : evStr .add a b = some (.s (a ++ b)) := by
  simp only [evStr]
  rw [if_pos (Nat.ble_eq_true_of_le (by omega))]
theorem atR_hd (pre : List UInt8) (b : UInt8) (L : List UInt8) : atR (pre ++ b :: L) (pre.length + 1) = hdR L := by
  unfold atR
  rw [List.getElem?_append_right (by omega)]
  simp only [Nat.add_sub_cancel_left]
  cases L <;> simp [hdR]
theorem loop1156 {call : CallF} (hC : call.Sound Tryz.prog TT) (base : Int) {Q : Out → Prop} : ∀ (L pre out : List UInt8) (pd : Bool) (t : Tm) (H : Heap), (pre ++ L).length < 1000000000 → out.length + L.length < 2000000000 → (out ≠ [] → ∃ p e, pre = p ++ [e] ∧ pd = decide (0 ≤ digR e.toNat base)) →
    (∀ b : UInt8, ∀ H, call 145 [.i .u8 b.toNat, .i .i64 base] H = .val (.i .i64 (digR b.toNat base)) H) → (∀ (s : List UInt8) (i : Nat) H, call 142 [.s s, .i .i64 i] H = .val (.i .u8 (atR s i)) H) →
    t.wid = 58 → t.get 0 = .s (pre ++ L) → t.get 1 = .i .i64 pre.length → t.get 2 = .i .i64 base → t.get 8 = .s out →
    (∀ (t' : Tm) (H' : Heap), t'.wid = 58 → t'.get 1 = .i .i64 ((pre.length + (digL base L out pd).1 : Nat) : Int) → t'.get 8 = .s (digL base L out pd).2 → Q (.exit 0 t' H')) →
    LTri Tryz.prog TT (sub [true, true, false, false, false] (bodyOf Tryz.f156)) t H Q := by
  intro L
  induction L with
  | nil =>
    intro pre out pd t H hlen hol2 hpp hcd hca hw h0 h1 h2 h8 hE
    have hF := ai @h0 (ai @h1 (ai @h2 @h8))
    refine LTri.round' ?_
    apply sQ
    apply rS hC
    · iterate 4 refine evSeq_go rfl (by simp [hF] <;> rfl) (by rfl) (by simp [hw]) ?_
      rfl
    refine cF (by simp [hF] <;> rfl) ?_
    refine Tri.exit ?_
    refine inSeq_exit ?_
    refine inLoop_exit ?_
    exact hE _ _ (by simp [hw]) (by simp [h1, digL]) (by simp [h8, digL])
  | cons b L ih =>
    intro pre out pd t H hlen hol2 hpp hcd hca hw h0 h1 h2 h8 hE
    have hlt := fin_len pre.length L.length
    have hat := str_at pre b L
    have hat2 := str_at2 pre b L
    have hd := hcd b
    have hwi : IntKind.i64.wrap ((pre.length : Int) + 1) = (pre.length : Int) + 1 := wrap_i64 (by omega) (by simp at hlen; omega)
    by_cases hdp : 0 ≤ digR b.toNat base
    · have hz : digL base (b :: L) out pd = ((digL base L (out ++ [b]) true).1 + 1, (digL base L (out ++ [b]) true).2) := by simp only [digL]; rw [if_pos hdp]
      have htk : List.drop pre.length (List.take (pre.length + 1) (pre ++ b :: L)) = [b] := by simp [List.take_append, List.drop_append]
      have hol3 : out.length + 1 < 3000000000 := by
        simp only [List.length_cons] at hol2
        omega
      have hadd := str_add out [b] hol3
      have hi1 : (0 : Int) ≤ (pre.length : Int) + 1 := by omega
      have hi2 : (pre.length : Int) ≤ (pre.length : Int) + 1 := by omega
      have hi3 : (pre.length : Int) + 1 ≤ pre.length + (L.length + 1) := by omega
      have hi4 : ((pre.length : Int) + 1).toNat = pre.length + 1 := by omega
      have hF := ai @h0 (ai @h1 (ai @h2 (ai @h8 (ai @hlt (ai @hat (ai @hat2 (ai @hd (ai @hdp (ai @hwi (ai @htk (ai @hi1 (ai @hi2 (ai @hi3 @hi4)))))))))))))
      refine LTri.round' ?_
      apply sQ
      apply rS hC
      · iterate 4 refine evSeq_go rfl (by simp [hF] <;> rfl) (by rfl) (by simp [hw]) ?_
        rfl
      refine cT (by simp [hF] <;> rfl) ?_
      apply Tri.skip
      apply sN
      apply bK
      apply rS hC
      · iterate 6 refine evSeq_go rfl (by simp [hF] <;> rfl) (by rfl) (by simp [hw]) ?_
        rfl
      refine cT (by simp [hF] <;> rfl) ?_
      apply rS hC
      · iterate 8 refine evSeq_go rfl (by simp [hF, hadd, -evStr] <;> rfl) (by rfl) (by simp [hw]) ?_
        rfl
      apply rN hC
      · iterate 3 refine evSeq_go rfl (by simp [hF] <;> rfl) (by rfl) (by simp [hw]) ?_
        rfl
      apply bN
      refine inLoop_norm ?_
      refine ih (pre ++ [b]) (out ++ [b]) true _ _ (by simpa using hlen) (by simp at hol2 ⊢; omega) (fun _ => ⟨pre, b, rfl, by simp [hdp]⟩) hcd hca (by simp [hw]) (by simp [h0]) (by simp) (by simp [h2]) (by simp) (fun t' H' k1 k2 k3 => hE t' H' k1 (by rw [k2, hz]; simp; omega) (by rw [k3, hz]))
    · have hdn := hdp
      by_cases hb : b = 95
      · have h95 : ((b.toNat : Int) == 95) = true := by subst hb; decide
        by_cases ho : out = []
        · have hout : (out == []) = true := by subst ho; rfl
          have hz : digL base (b :: L) out pd = (0, out) := by simp only [digL]; rw [if_neg hdn, if_neg (fun h => h.2.1 ho)]
          subst ho
          have hF := ai @h0 (ai @h1 (ai @h2 (ai @h8 (ai @hlt (ai @hat (ai @hat2 (ai @hd (ai @hdn (ai @h95 @hout)))))))))
          refine LTri.round' ?_
          apply sQ
          apply rS hC
          · iterate 4 refine evSeq_go rfl (by simp [hF] <;> rfl) (by rfl) (by simp [hw]) ?_
            rfl
          refine cT (by simp [hF] <;> rfl) ?_
          apply Tri.skip
          apply sN
          apply bK
          apply rS hC
          · iterate 6 refine evSeq_go rfl (by simp [hF] <;> rfl) (by rfl) (by simp [hw]) ?_
            rfl
          refine cF (by simp [hF] <;> rfl) ?_
          apply rS hC
          · iterate 5 refine evSeq_go rfl (by simp [hF] <;> rfl) (by rfl) (by simp [hw]) ?_
            iterate 2 refine evSeq_go (by simp [wants, hF]) (by simp [hF] <;> rfl) (by rfl) (by simp [hw]) ?_
            iterate 2 refine evSeq_go rfl (by simp [hF] <;> rfl) (by rfl) (by simp [hw]) ?_
            iterate 7 refine evSeq_off (by simp [wants, hF]) (by simp [hw]) ?_
            iterate 2 refine evSeq_go rfl (by simp [hF] <;> rfl) (by rfl) (by simp [hw]) ?_
            iterate 7 refine evSeq_off (by simp [wants, hF]) (by simp [hw]) ?_
            refine evSeq_go rfl (by simp [hF] <;> rfl) (by rfl) (by simp [hw]) ?_
            rfl
          refine cF (by simp [hF] <;> rfl) ?_
          refine Tri.exit ?_
          refine inBlk_pass rfl ?_
          refine inLoop_exit ?_
          exact hE _ _ (by simp [hw]) (by simp [h1, hz]) (by simp [h8, hz])
        · have hout : ¬ out = [] := ho
          have hout2 : out.isEmpty = false := by cases out with | nil => exact absurd rfl ho | cons _ _ => rfl
          obtain ⟨p, e, hpe, hpd⟩ := hpp ho
          have hca1 := fun H => hca (pre ++ b :: L) (pre.length + 1) H
          rw [atR_hd] at hca1
          have hcd1 : ∀ H, call 145 [.i .u8 (hdR L), .i .i64 base] H = .val (.i .i64 (digR (hdR L) base)) H := fun H => by
            cases L with
            | nil =>
              have h00 := hcd 0 H
              have e0 : ((0 : UInt8).toNat : Int) = hdR [] := by decide
              rw [e0] at h00
              exact h00
            | cons e' L =>
              have h00 := hcd e' H
              have e0 : (e'.toNat : Int) = hdR (e' :: L) := rfl
              rw [e0] at h00
              exact h00
          simp only [Int.natCast_add, Int.cast_ofNat_Int] at hca1
          by_cases hd2 : 0 ≤ digR (hdR L) base
          · have hwk : IntKind.i64.wrap ((pre.length : Int) - 1) = p.length := by
              rw [hpe]
              rw [show (((p ++ [e]).length : Int) - 1) = p.length from by simp]
              exact wrap_i64 (by omega) (by rw [hpe] at hlen; simp at hlen; omega)
            have hk1 : (pre ++ b :: L)[p.length]? = some e := by rw [hpe]; simp
            have hk2 : ∀ h, (pre ++ b :: L)[p.length]'h = e := fun h => Option.some.inj ((List.getElem?_eq_getElem h).symm.trans hk1)
            have hk3 : (p.length : Int) < pre.length + (L.length + 1) := by rw [hpe]; simp; omega
            have hk4 : p.length < pre.length + (L.length + 1) := by omega
            have hcd2 := hcd e
            by_cases hd3 : 0 ≤ digR e.toNat base
            · have hz : digL base (b :: L) out pd = ((digL base L out false).1 + 1, (digL base L out false).2) := by simp only [digL]; rw [if_neg hdn, if_pos ⟨hb, ho, hd2, by rw [hpd]; simpa using hd3⟩]
              have hF := ai @h0 (ai @h1 (ai @h2 (ai @h8 (ai @hlt (ai @hat (ai @hat2 (ai @hd (ai @hdn (ai @h95 (ai @hout (ai @hout2 (ai @hwi (ai @hca1 (ai @hcd1 (ai @hd2 (ai @hwk (ai @hk1 (ai @hk2 (ai @hk3 (ai @hk4 (ai @hcd2 @hd3)))))))))))))))))))))
              refine LTri.round' ?_
              apply sQ
              apply rS hC
              · iterate 4 refine evSeq_go rfl (by simp [hF] <;> rfl) (by rfl) (by simp [hw]) ?_
                rfl
              refine cT (by simp [hF] <;> rfl) ?_
              apply Tri.skip
              apply sN
              apply bK
              apply rS hC
              · iterate 6 refine evSeq_go rfl (by simp [hF] <;> rfl) (by rfl) (by simp [hw]) ?_
                rfl
              refine cF (by simp [hF] <;> rfl) ?_
              apply rS hC
              · iterate 5 refine evSeq_go rfl (by simp [hF] <;> rfl) (by rfl) (by simp [hw]) ?_
                iterate 2 refine evSeq_go (by simp [wants, hF]) (by simp [hF] <;> rfl) (by rfl) (by simp [hw]) ?_
                iterate 2 refine evSeq_go rfl (by simp [hF] <;> rfl) (by rfl) (by simp [hw]) ?_
                iterate 7 refine evSeq_go (by simp [wants, hF]) (by simp [hF] <;> rfl) (by rfl) (by simp [hw]) ?_
                iterate 2 refine evSeq_go rfl (by simp [hF] <;> rfl) (by rfl) (by simp [hw]) ?_
                iterate 7 refine evSeq_go (by simp [wants, hF]) (by simp [hF] <;> rfl) (by rfl) (by simp [hw]) ?_
                refine evSeq_go rfl (by simp [hF] <;> rfl) (by rfl) (by simp [hw]) ?_
                rfl
              refine cT (by simp [hF] <;> rfl) ?_
              apply rN hC
              · iterate 3 refine evSeq_go rfl (by simp [hF] <;> rfl) (by rfl) (by simp [hw]) ?_
                rfl
              apply bN
              refine inLoop_norm ?_
              refine ih (pre ++ [b]) out false _ _ (by simpa using hlen) (by simp at hol2 ⊢; omega) (fun _ => ⟨pre, b, rfl, by simp [hdn]⟩) hcd hca (by simp [hw]) (by simp [h0]) (by simp) (by simp [h2]) (by simp [h8]) (fun t' H' k1 k2 k3 => hE t' H' k1 (by rw [k2, hz]; simp; omega) (by rw [k3, hz]))
            · have hz : digL base (b :: L) out pd = (0, out) := by simp only [digL]; rw [if_neg hdn, if_neg (fun h => by have := h.2.2.2; rw [hpd] at this; exact hd3 (by simpa using this))]
              have hF := ai @h0 (ai @h1 (ai @h2 (ai @h8 (ai @hlt (ai @hat (ai @hat2 (ai @hd (ai @hdn (ai @h95 (ai @hout (ai @hout2 (ai @hwi (ai @hca1 (ai @hcd1 (ai @hd2 (ai @hwk (ai @hk1 (ai @hk2 (ai @hk3 (ai @hk4 (ai @hcd2 @hd3)))))))))))))))))))))
              refine LTri.round' ?_
              apply sQ
              apply rS hC
              · iterate 4 refine evSeq_go rfl (by simp [hF] <;> rfl) (by rfl) (by simp [hw]) ?_
                rfl
              refine cT (by simp [hF] <;> rfl) ?_
              apply Tri.skip
              apply sN
              apply bK
              apply rS hC
              · iterate 6 refine evSeq_go rfl (by simp [hF] <;> rfl) (by rfl) (by simp [hw]) ?_
                rfl
              refine cF (by simp [hF] <;> rfl) ?_
              apply rS hC
              · iterate 5 refine evSeq_go rfl (by simp [hF] <;> rfl) (by rfl) (by simp [hw]) ?_
                iterate 2 refine evSeq_go (by simp [wants, hF]) (by simp [hF] <;> rfl) (by rfl) (by simp [hw]) ?_
                iterate 2 refine evSeq_go rfl (by simp [hF] <;> rfl) (by rfl) (by simp [hw]) ?_
                iterate 7 refine evSeq_go (by simp [wants, hF]) (by simp [hF] <;> rfl) (by rfl) (by simp [hw]) ?_
                iterate 2 refine evSeq_go rfl (by simp [hF] <;> rfl) (by rfl) (by simp [hw]) ?_
                iterate 7 refine evSeq_go (by simp [wants, hF]) (by simp [hF] <;> rfl) (by rfl) (by simp [hw]) ?_
                refine evSeq_go rfl (by simp [hF] <;> rfl) (by rfl) (by simp [hw]) ?_
                rfl
              refine cF (by simp [hF] <;> rfl) ?_
              refine Tri.exit ?_
              refine inBlk_pass rfl ?_
              refine inLoop_exit ?_
              exact hE _ _ (by simp [hw]) (by simp [h1, hz]) (by simp [h8, hz])
          · have hz : digL base (b :: L) out pd = (0, out) := by simp only [digL]; rw [if_neg hdn, if_neg (fun h => hd2 h.2.2.1)]
            have hF := ai @h0 (ai @h1 (ai @h2 (ai @h8 (ai @hlt (ai @hat (ai @hat2 (ai @hd (ai @hdn (ai @h95 (ai @hout (ai @hout2 (ai @hwi (ai @hca1 (ai @hcd1 @hd2))))))))))))))
            refine LTri.round' ?_
            apply sQ
            apply rS hC
            · iterate 4 refine evSeq_go rfl (by simp [hF] <;> rfl) (by rfl) (by simp [hw]) ?_
              rfl
            refine cT (by simp [hF] <;> rfl) ?_
            apply Tri.skip
            apply sN
            apply bK
            apply rS hC
            · iterate 6 refine evSeq_go rfl (by simp [hF] <;> rfl) (by rfl) (by simp [hw]) ?_
              rfl
            refine cF (by simp [hF] <;> rfl) ?_
            apply rS hC
            · iterate 5 refine evSeq_go rfl (by simp [hF] <;> rfl) (by rfl) (by simp [hw]) ?_
              iterate 2 refine evSeq_go (by simp [wants, hF]) (by simp [hF] <;> rfl) (by rfl) (by simp [hw]) ?_
              iterate 2 refine evSeq_go rfl (by simp [hF] <;> rfl) (by rfl) (by simp [hw]) ?_
              iterate 7 refine evSeq_go (by simp [wants, hF]) (by simp [hF] <;> rfl) (by rfl) (by simp [hw]) ?_
              iterate 2 refine evSeq_go rfl (by simp [hF] <;> rfl) (by rfl) (by simp [hw]) ?_
              iterate 7 refine evSeq_off (by simp [wants, hF]) (by simp [hw]) ?_
              refine evSeq_go rfl (by simp [hF] <;> rfl) (by rfl) (by simp [hw]) ?_
              rfl
            refine cF (by simp [hF] <;> rfl) ?_
            refine Tri.exit ?_
            refine inBlk_pass rfl ?_
            refine inLoop_exit ?_
            exact hE _ _ (by simp [hw]) (by simp [h1, hz]) (by simp [h8, hz])
      · have h95 : ((b.toNat : Int) == 95) = false := by
          rw [show (95 : Int) = ((95 : UInt8).toNat : Int) from rfl, ← u8_eq]
          exact beq_eq_false_iff_ne.2 hb
        have hz : digL base (b :: L) out pd = (0, out) := by simp only [digL]; rw [if_neg hdn, if_neg (fun h => hb h.1)]
        have hF := ai @h0 (ai @h1 (ai @h2 (ai @h8 (ai @hlt (ai @hat (ai @hat2 (ai @hd (ai @hdn @h95))))))))
        refine LTri.round' ?_
        apply sQ
        apply rS hC
        · iterate 4 refine evSeq_go rfl (by simp [hF] <;> rfl) (by rfl) (by simp [hw]) ?_
          rfl
        refine Tri.condG (o := ?oe2) (b := ?be2) ?ge2 ?re2 ?ye2 ?ne2
        case ge2 => simp [hF] <;> rfl
        case re2 => rfl
        case ye2 =>
          intro hy2
          apply Tri.skip
          apply sN
          apply bK
          apply rS hC
          · iterate 6 refine evSeq_go rfl (by simp [hF] <;> rfl) (by rfl) (by simp [hw]) ?_
            rfl
          refine cF (by simp [hF] <;> rfl) ?_
          apply rS hC
          · iterate 5 refine evSeq_go rfl (by simp [hF] <;> rfl) (by rfl) (by simp [hw]) ?_
            iterate 2 refine evSeq_off (by simp [wants, hF]) (by simp [hw]) ?_
            iterate 2 refine evSeq_go rfl (by simp [hF] <;> rfl) (by rfl) (by simp [hw]) ?_
            iterate 7 refine evSeq_off (by simp [wants, hF]) (by simp [hw]) ?_
            iterate 2 refine evSeq_go rfl (by simp [hF] <;> rfl) (by rfl) (by simp [hw]) ?_
            iterate 7 refine evSeq_off (by simp [wants, hF]) (by simp [hw]) ?_
            refine evSeq_go rfl (by simp [hF] <;> rfl) (by rfl) (by simp [hw]) ?_
            rfl
          refine cF (by simp [hF] <;> rfl) ?_
          refine Tri.exit ?_
          refine inBlk_pass rfl ?_
          refine inLoop_exit ?_
          exact hE _ _ (by simp [hw]) (by simp [h1, hz]) (by simp [h8, hz])
        case ne2 =>
          intro hn2
          exfalso
          simp at hn2

theorem body_1156 {call : CallF} (hC : call.Sound Tryz.prog TT) (pre L : List UInt8) (base : Int) (hlen : (pre ++ L).length < 1000000000) (hcd : ∀ b : UInt8, ∀ H, call 145 [.i .u8 b.toNat, .i .i64 base] H = .val (.i .i64 (digR b.toNat base)) H) (hca : ∀ (s : List UInt8) (i : Nat) H, call 142 [.s s, .i .i64 i] H = .val (.i .u8 (atR s i)) H)  : EBody Tryz.prog TT 156 [.s (pre ++ L), .i .i64 pre.length, .i .i64 base] (fun r => r = .val (.tup [.i .i64 ((pre.length + (digL base L [] false).1 : Nat) : Int), .s (digL base L [] false).2])) := by
 refine en Tryz.f156 rfl rfl (by simp [Tryz.f156]) 58 rfl fun t hw hg => ?_
 have h0 := hg 0 _ rfl
 have h1 := hg 1 _ rfl
 have h2 := hg 2 _ rfl
 clear hg
 try simp only [Nd.enc_eq] at *
 have hF := ai @h0 (ai @h1 @h2)
 apply rS hC
 · iterate 2 refine evSeq_go rfl (by simp [hF] <;> rfl) (by rfl) (by simp [hw]) ?_
   rfl
 apply rS hC
 · refine evSeq_go rfl (by simp [hF] <;> rfl) (by rfl) (by simp [hw]) ?_
   rfl
 apply sQ
 apply bK
 refine Tri.loop ?_
 refine loop1156 hC base L pre [] false _ _ hlen (by simp at hlen ⊢; omega) (fun h => absurd rfl h) hcd hca (by simp [hw]) (by simp [h0]) (by simp [h1]) (by simp [h2]) (by simp) ?exit
 case exit =>
  intro t2 H2 hw h1 h8
  refine inBlk_exit ?_
  apply sN
  apply rS hC
  · iterate 4 refine evSeq_go rfl (by simp [hF, h1, h8] <;> rfl) (by rfl) (by simp [hw]) ?_
    rfl
  apply Tri.ret
  refine endsE (by simp [Tryz.f156] <;> rfl) (by rfl) ?_
  simp
theorem wrap_u8 {n : Int} (h1 : 0 ≤ n) (h2 : n < 256) : IntKind.u8.wrap n = n := by
  have e : (2 : Int) ^ IntKind.u8.bits = 256 := rfl
  simp only [IntKind.wrap, e, IntKind.signed, Bool.false_and, Bool.false_eq_true, if_false]
  omega
theorem tab1149 : ((List.range 10).all fun n => match evFun TT (gamOf Con.none) 3000 149 [.i .i64 n] [] with | .val v J => (match fz J 60 v with | some (.s l) => l == [48 + n.toUInt8] | _ => false) | _ => false) = true := by kernel_rfl
def digB (b : UInt8) : Prop := 48 ≤ b.toNat ∧ b.toNat ≤ 57
def valD : List UInt8 → Nat
  | [] => 0
  | b :: l => (b.toNat - 48) * 10 ^ l.length + valD l
def chD (n : Nat) : UInt8 := 48 + n.toUInt8
theorem chD_dig : ∀ n, n < 10 → digB (chD n) ∧ (chD n).toNat - 48 = n := by
  intro n hn
  have : n = 0 ∨ n = 1 ∨ n = 2 ∨ n = 3 ∨ n = 4 ∨ n = 5 ∨ n = 6 ∨ n = 7 ∨ n = 8 ∨ n = 9 := by omega
  rcases this with rfl | rfl | rfl | rfl | rfl | rfl | rfl | rfl | rfl | rfl <;> exact ⟨⟨by decide, by decide⟩, by decide⟩
theorem tmod_nat (m k : Nat) : Int.tmod (m : Int) k = ((m % k : Nat) : Int) := by
  rw [Int.tmod_eq_emod_of_nonneg (by omega)]; rfl
theorem tdiv_nat (m k : Nat) : Int.tdiv (m : Int) k = ((m / k : Nat) : Int) := by
  rw [Int.tdiv_eq_ediv_of_nonneg (by omega)]; rfl
theorem val_step {c : UInt8} {lo out : List UInt8} {base m0 m M : Nat} (hl : out.length = lo.length) (h : valD lo * base + m0 = m * 10 ^ lo.length + valD out) (hM : M = m + (c.toNat - 48) * base) : valD (c :: lo) * base + m0 = M / 10 * 10 ^ (c :: lo).length + valD (chD (M % 10) :: out) := by
  have h1 := (chD_dig (M % 10) (by omega)).2
  simp only [valD, h1, List.length_cons, hl, Nat.pow_succ]
  have h2 := Nat.div_add_mod M 10
  have e1 : ((c.toNat - 48) * 10 ^ lo.length + valD lo) * base + m0 = (c.toNat - 48) * base * 10 ^ lo.length + (valD lo * base + m0) := by
    rw [Nat.add_mul, Nat.mul_right_comm, Nat.add_assoc]
  have e2 : M / 10 * (10 ^ lo.length * 10) + (M % 10 * 10 ^ lo.length + valD out) = M * 10 ^ lo.length + valD out := by
    have : M / 10 * (10 ^ lo.length * 10) + M % 10 * 10 ^ lo.length = M * 10 ^ lo.length := by
      rw [show M / 10 * (10 ^ lo.length * 10) = 10 * (M / 10) * 10 ^ lo.length from by rw [Nat.mul_comm (10 ^ lo.length) 10, ← Nat.mul_assoc, Nat.mul_comm (M / 10) 10], ← Nat.add_mul, h2]
    rw [← Nat.add_assoc, this]
  rw [e1, e2, h, hM, Nat.add_mul]
  omega
theorem str_cat (b : UInt8) (l : List UInt8) (h : l.length < 2000000000) : evStr .add [b] l = some (.s (b :: l)) := str_add [b] l (by simp; omega)
theorem loop1162_0 {call : CallF} (hC : call.Sound Tryz.prog TT) (s : List UInt8) (base m0 : Nat) (hs : ∀ b ∈ s, digB b) (hb16 : base ≤ 16) (hsl : s.length < 1000000000) (hitoa : ∀ n : Nat, n < 10 → ∀ H, call 149 [.i .i64 n] H = .val (.s [chD n]) H) {Q : Out → Prop}
    (hE : ∀ (t' : Tm) (H' : Heap), t'.wid = 52 → ∀ (m : Nat) (out : List UInt8), m ≤ 16 → (∀ b ∈ out, digB b) → out.length = s.length → valD s * base + m0 = m * 10 ^ s.length + valD out → t'.get 2 = .i .i64 m → t'.get 7 = .s out → Q (.exit 0 t' H')) : ∀ (n : Nat) (out : List UInt8) (m : Nat) (t : Tm) (H : Heap), n ≤ s.length → (∀ b ∈ out, digB b) → m ≤ 16 → out.length = s.length - n → valD (s.drop n) * base + m0 = m * 10 ^ (s.drop n).length + valD out →
    t.wid = 52 → t.get 0 = .s s → t.get 1 = .i .i64 base → t.get 2 = .i .i64 m → t.get 7 = .s out → t.get 8 = .i .i64 ((n : Int) - 1) →
    LTri Tryz.prog TT (sub [true, true, false, true, false, false] (bodyOf Tryz.f162)) t H Q := by
 intro n
 induction n with
 | zero =>
   intro out m t H hn hout hm hlen2 hval hw h0 h1 h2 h7 h8
   simp only [List.drop_zero, Nat.sub_zero] at hval hlen2
   have hneg : ¬ (0 : Int) ≤ ((0 : Nat) : Int) - 1 := by omega
   have hF := ai @h0 (ai @h1 (ai @h2 (ai @h7 (ai @h8 @hneg))))
   refine LTri.round' ?_
   apply sQ
   apply rS hC
   · iterate 2 refine evSeq_go rfl (by simp [hF] <;> rfl) (by rfl) (by simp [hw]) ?_
     rfl
   refine Tri.condG (o := ?oz2) (b := ?bz2) ?gz2 ?rz2 ?yz2 ?nz2
   case gz2 => simp [hF] <;> rfl
   case rz2 => rfl
   case yz2 =>
    intro hy2
    exfalso
    simp [hneg] at hy2
   case nz2 =>
    intro hn2
    refine Tri.exit ?_
    refine inSeq_exit ?_
    refine inLoop_exit ?_
    exact hE _ _ (by simp [hw]) m out hm hout hlen2 hval (by simp [h2]) (by simp [h7])
 | succ n ih =>
   intro out m t H hn hout hm hlen2 hval hw h0 h1 h2 h7 h8
   have h8' : t.get 8 = .i .i64 n := by rw [h8, show (((n + 1 : Nat) : Int) - 1) = n from by omega]
   clear h8
   have h8 := h8'
   clear h8'
   obtain ⟨c, hat⟩ : ∃ c, s[n]? = some c := ⟨_, List.getElem?_eq_getElem (by omega)⟩
   have hat2 : ∀ h, s[n]'h = c := fun h => Option.some.inj ((List.getElem?_eq_getElem h).symm.trans hat)
   have hdr : s.drop n = c :: s.drop (n + 1) := by
    have h9 : n < s.length := by omega
    rw [List.drop_eq_getElem_cons h9, hat2]
   obtain ⟨d1, d2⟩ := hs c (List.mem_of_getElem? hat)
   have hge : (0 : Int) ≤ n := by omega
   have hlt : (n : Int) < s.length := by omega
   obtain ⟨D, hD⟩ : ∃ D, D = c.toNat - 48 := ⟨_, rfl⟩
   obtain ⟨M, hM⟩ : ∃ M, M = m + (c.toNat - 48) * base := ⟨_, rfl⟩
   have hDb : D * base ≤ 9 * 16 := Nat.mul_le_mul (by omega) hb16
   rw [← hD] at hM
   have hw8 : IntKind.u8.wrap ((c.toNat : Int) - 48) = D := by rw [wrap_u8 (by omega) (by omega)]; omega
   have hwv : IntKind.i64.wrap (D : Int) = D := wrap_i64 (by omega) (by omega)
   obtain ⟨E, hE1⟩ : ∃ E, E = D * base := ⟨_, rfl⟩
   obtain ⟨R, hR⟩ : ∃ R, R = M % 10 := ⟨_, rfl⟩
   obtain ⟨U, hU⟩ : ∃ U, U = M / 10 := ⟨_, rfl⟩
   have hmul : IntKind.i64.wrap ((D : Int) * base) = (E : Int) := by
    rw [← Int.natCast_mul, ← hE1]
    exact wrap_i64 (by omega) (by omega)
   have hadd : IntKind.i64.wrap ((m : Int) + (E : Int)) = (M : Int) := by
    rw [hM]
    rw [wrap_i64 (by omega) (by omega)]
    omega
   have hrem : Int.tmod (M : Int) 10 = (R : Int) := by rw [hR]; exact tmod_nat M 10
   have hrem2 : (M : Int) % 10 = (R : Int) := by rw [hR]; omega
   have hquo2 : IntKind.i64.wrap ((M : Int) / 10) = (U : Int) := by
    rw [show (M : Int) / 10 = (U : Int) from by rw [hU]; omega]
    exact wrap_i64 (by omega) (by omega)
   have hit := hitoa R (by omega)
   have hquo : IntKind.i64.wrap (Int.tdiv (M : Int) 10) = (U : Int) := by
    rw [show Int.tdiv (M : Int) 10 = ((M / 10 : Nat) : Int) from tdiv_nat M 10, ← hU]
    exact wrap_i64 (by omega) (by omega)
   have hcat := str_cat (chD R) out (by omega)
   have hdn : IntKind.i64.wrap ((n : Int) - 1) = (n : Int) - 1 := wrap_i64 (by omega) (by omega)
   have hnext : valD (s.drop n) * base + m0 = U * 10 ^ (s.drop n).length + valD (chD R :: out) := by
    rw [hdr]
    rw [hU, hR]
    exact val_step (by simp; omega) hval (by rw [hM, hD])
   have hF := ai @h0 (ai @h1 (ai @h2 (ai @h7 (ai @h8 (ai @hge (ai @hat (ai @hat2 (ai @hlt (ai @hw8 (ai @hwv (ai @hmul (ai @hadd (ai @hrem (ai @hrem2 (ai @hit (ai @hquo (ai @hquo2 @hcat)))))))))))))))))
   refine LTri.round' ?_
   apply sQ
   apply rS hC
   · iterate 2 refine evSeq_go rfl (by simp [hF, -evStr] <;> rfl) (by rfl) (by simp [hw]) ?_
     rfl
   refine Tri.condG (o := ?os2) (b := ?bs2) ?gs2 ?rs2 ?ys2 ?ns2
   case gs2 => simp [hF, -evStr] <;> rfl
   case rs2 => rfl
   case ys2 =>
    intro hy2
    apply Tri.skip
    apply sN
    apply sQ
    apply bK
    apply rS hC
    · iterate 10 refine evSeq_go rfl (by simp [hF, -evStr] <;> rfl) (by rfl) (by simp [hw]) ?_
      rfl
    apply rS hC
    · iterate 6 refine evSeq_go rfl (by simp [hF, -evStr] <;> rfl) (by rfl) (by simp [hw]) ?_
      rfl
    apply rN hC
    · iterate 3 refine evSeq_go rfl (by simp [hF, -evStr] <;> rfl) (by rfl) (by simp [hw]) ?_
      rfl
    apply bN
    apply sN
    apply rN hC
    · iterate 3 refine evSeq_go rfl (by simp [hF, -evStr] <;> rfl) (by rfl) (by simp [hw]) ?_
      rfl
    refine inLoop_norm ?_
    refine ih (chD R :: out) U _ _ (by omega) (fun b hb => ?_) (by omega) (by simp; omega) ?_ (by simp [hw]) (by simp [h0]) (by simp [h1]) (by simp) (by simp) (by simp; exact hdn)
    · rcases List.mem_cons.1 hb with rfl | hb
      · exact (chD_dig _ (by omega)).1
      · exact hout b hb
    · exact hnext
   case ns2 =>
    intro hn2
    exfalso
    simp at hn2

theorem val_more {m : Nat} {out : List UInt8} : m * 10 ^ out.length + valD out = m / 10 * 10 ^ (chD (m % 10) :: out).length + valD (chD (m % 10) :: out) := by
  have h1 := (chD_dig (m % 10) (by omega)).2
  have h2 := Nat.div_add_mod m 10
  simp only [valD, h1, List.length_cons, Nat.pow_succ]
  have : m / 10 * (10 ^ out.length * 10) + m % 10 * 10 ^ out.length = m * 10 ^ out.length := by
    rw [show m / 10 * (10 ^ out.length * 10) = 10 * (m / 10) * 10 ^ out.length from by rw [Nat.mul_comm (10 ^ out.length) 10, ← Nat.mul_assoc, Nat.mul_comm (m / 10) 10], ← Nat.add_mul, h2]
  rw [← Nat.add_assoc, this]
theorem loop1162_1 {call : CallF} (hC : call.Sound Tryz.prog TT) (N : Nat) (hitoa : ∀ n : Nat, n < 10 → ∀ H, call 149 [.i .i64 n] H = .val (.s [chD n]) H) {Q : Out → Prop}
    (hE : ∀ (t' : Tm) (H' : Heap), t'.wid = 52 → ∀ (out : List UInt8), (∀ b ∈ out, digB b) → 0 < out.length → N = valD out → t'.get 7 = .s out → Q (.exit 2 t' H')) : ∀ (m : Nat) (out : List UInt8) (t : Tm) (H : Heap), (∀ b ∈ out, digB b) → 0 < out.length → out.length + m < 1500000000 → N = m * 10 ^ out.length + valD out →
    t.wid = 52 → t.get 2 = .i .i64 m → t.get 7 = .s out →
    LTri Tryz.prog TT (sub [true, true, true, false, false, false] (bodyOf Tryz.f162)) t H Q := by
 intro m
 induction m using Nat.strongRecOn with
 | _ m ih =>
   intro out t H hout hlen hlen2 hval hw h2 h7
   by_cases hm0 : m = 0
   · have hneg : ¬ (0 : Int) < (m : Int) := by omega
     have hneg2 : m = 0 := hm0
     rw [hm0, Nat.zero_mul, Nat.zero_add] at hval
     have hF := ai @h2 (ai @h7 @hm0)
     refine LTri.round' ?_
     apply sQ
     apply rS hC
     · iterate 2 refine evSeq_go rfl (by simp [hF] <;> rfl) (by rfl) (by simp [hw]) ?_
       rfl
     refine Tri.condG (o := ?oz2) (b := ?bz2) ?gz2 ?rz2 ?yz2 ?nz2
     case gz2 => simp [hF] <;> rfl
     case rz2 => rfl
     case yz2 =>
      intro hy2
      exfalso
      simp [hm0] at hy2
     case nz2 =>
      intro hn2
      refine Tri.exit ?_
      refine inSeq_exit ?_
      refine inLoop_exit ?_
      exact hE _ _ (by simp [hw]) out hout hlen hval (by simp [h7])
   · have hge : 0 < m := by omega
     obtain ⟨R, hR⟩ : ∃ R, R = m % 10 := ⟨_, rfl⟩
     obtain ⟨U, hU⟩ : ∃ U, U = m / 10 := ⟨_, rfl⟩
     have hrem : Int.tmod (m : Int) 10 = (R : Int) := by rw [hR]; exact tmod_nat m 10
     have hrem2 : (m : Int) % 10 = (R : Int) := by rw [hR]; omega
     have hquo2 : IntKind.i64.wrap ((m : Int) / 10) = (U : Int) := by
      rw [show (m : Int) / 10 = (U : Int) from by rw [hU]; omega]
      exact wrap_i64 (by omega) (by omega)
     have hit := hitoa R (by omega)
     have hquo : IntKind.i64.wrap (Int.tdiv (m : Int) 10) = (U : Int) := by
      rw [show Int.tdiv (m : Int) 10 = ((m / 10 : Nat) : Int) from tdiv_nat m 10, ← hU]
      exact wrap_i64 (by omega) (by omega)
     have hcat := str_cat (chD R) out (by omega)
     have hF := ai @h2 (ai @h7 (ai @hge (ai @hrem (ai @hrem2 (ai @hit (ai @hquo (ai @hquo2 @hcat)))))))
     refine LTri.round' ?_
     apply sQ
     apply rS hC
     · iterate 2 refine evSeq_go rfl (by simp [hF, -evStr] <;> rfl) (by rfl) (by simp [hw]) ?_
       rfl
     refine Tri.condG (o := ?os2) (b := ?bs2) ?gs2 ?rs2 ?ys2 ?ns2
     case gs2 => simp [hF, -evStr] <;> rfl
     case rs2 => rfl
     case ys2 =>
      intro hy2
      apply Tri.skip
      apply sN
      apply bK
      apply rS hC
      · iterate 6 refine evSeq_go rfl (by simp [hF, -evStr] <;> rfl) (by rfl) (by simp [hw]) ?_
        rfl
      apply rN hC
      · iterate 3 refine evSeq_go rfl (by simp [hF, -evStr] <;> rfl) (by rfl) (by simp [hw]) ?_
        rfl
      apply bN
      refine inLoop_norm ?_
      refine ih U (by omega) (chD R :: out) _ _ (fun b hb => ?_) (by simp only [List.length_cons]; omega) (by simp only [List.length_cons]; omega) ?_ (by simp [hw]) (by simp) (by simp)
      · rcases List.mem_cons.1 hb with rfl | hb
        · exact (chD_dig _ (by omega)).1
        · exact hout b hb
      · rw [hval, hR, hU]
        exact val_more
     case ns2 =>
      intro hn2
      exfalso
      simp [hge] at hn2

theorem loop1162_2 {call : CallF} (hC : call.Sound Tryz.prog TT) (N : Nat) {Q : Out → Prop}
    (hE : ∀ (t' : Tm) (H' : Heap), t'.wid = 52 → ∀ (out : List UInt8), (∀ b ∈ out, digB b) → 0 < out.length → N = valD out → (1 < out.length → out.head? ≠ some 48) → t'.get 7 = .s out → Q (.exit 4 t' H')) : ∀ (out : List UInt8) (t : Tm) (H : Heap), (∀ b ∈ out, digB b) → 0 < out.length → N = valD out →
    t.wid = 52 → t.get 7 = .s out →
    LTri Tryz.prog TT (sub [true, true, true, true, false, false, false] (bodyOf Tryz.f162)) t H Q := by
 intro out
 induction h : out.length using Nat.strongRecOn generalizing out with
 | _ n ih0 =>
   have ih : ∀ o : List UInt8, o.length < out.length → ∀ (t : Tm) (H : Heap), (∀ b ∈ o, digB b) → 0 < o.length → N = valD o → t.wid = 52 → t.get 7 = .s o → LTri Tryz.prog TT (sub [true, true, true, true, false, false, false] (bodyOf Tryz.f162)) t H Q := fun o ho t H a1 a2 a3 a4 a5 => ih0 o.length (by omega) o rfl t H a1 a2 a3 a4 a5
   clear ih0
   subst h
   intro t H hout hlen hval hw h7
   by_cases h1 : 1 < out.length
   · match out, h1 with
     | c :: b2 :: r, h1 =>
       have h1b : (1 : Int) < (r.length : Int) + 1 + 1 := by omega
       have hat : (c :: b2 :: r)[0]? = some c := rfl
       have hat2 : ∀ h, (c :: b2 :: r)[0]'h = c := fun h => rfl
       have hi1 : (1 : Int) ≤ (r.length : Int) + 1 + 1 := by omega
       by_cases hc1 : c = 48
       · have hc0 : ((c.toNat : Int) == 48) = true := by subst hc1; decide
         have hc2 : (c.toNat - 48) = 0 := by subst hc1; decide
         have hF := ai @h7 (ai @h1b (ai @hat (ai @hat2 (ai @hc0 @hi1))))
         refine LTri.round' ?_
         apply sQ
         apply rS hC
         · iterate 4 refine evSeq_go rfl (by simp [hF] <;> rfl) (by rfl) (by simp [hw]) ?_
           iterate 3 refine evSeq_go (by simp [wants, hF]) (by simp [hF] <;> rfl) (by rfl) (by simp [hw]) ?_
           refine evSeq_go rfl (by simp [hF] <;> rfl) (by rfl) (by simp [hw]) ?_
           rfl
         refine cT (by simp [hF] <;> rfl) ?_
         apply Tri.skip
         apply sN
         apply bK
         apply rN hC
         · iterate 3 refine evSeq_go rfl (by simp [hF] <;> rfl) (by rfl) (by simp [hw]) ?_
           rfl
         apply bN
         refine inLoop_norm ?_
         refine ih (b2 :: r) (by simp) _ _ (fun b hb => hout b (by simp [hb])) (by simp) ?_ (by simp [hw]) (by simp)
         rw [hval]
         simp [valD, hc1]
       · have hcne : c ≠ 48 := hc1
         have hc0 : ((c.toNat : Int) == 48) = false := by
          rw [show (48 : Int) = ((48 : UInt8).toNat : Int) from rfl, ← u8_eq]
          exact beq_eq_false_iff_ne.2 hc1
         have hF := ai @h7 (ai @h1b (ai @hat (ai @hat2 @hc0)))
         refine LTri.round' ?_
         apply sQ
         apply rS hC
         · iterate 4 refine evSeq_go rfl (by simp [hF] <;> rfl) (by rfl) (by simp [hw]) ?_
           iterate 3 refine evSeq_go (by simp [wants, hF]) (by simp [hF] <;> rfl) (by rfl) (by simp [hw]) ?_
           refine evSeq_go rfl (by simp [hF] <;> rfl) (by rfl) (by simp [hw]) ?_
           rfl
         refine cF (by simp [hF] <;> rfl) ?_
         refine Tri.exit ?_
         refine inSeq_exit ?_
         refine inLoop_exit ?_
         exact hE _ _ (by simp [hw]) _ hout hlen hval (by simpa using hcne) (by simp [h7])
   · have h1b : ¬ (1 : Int) < (out.length : Int) := by omega
     have hhd : 1 < out.length → out.head? ≠ some 48 := fun h => absurd h h1
     refine LTri.round' ?_
     apply sQ
     apply rS hC
     · iterate 4 refine evSeq_go rfl (by simp [h7, h1b] <;> rfl) (by rfl) (by simp [hw]) ?_
       iterate 3 refine evSeq_off (by simp [wants, h7, h1b]) (by simp [hw]) ?_
       refine evSeq_go rfl (by simp [h7, h1b] <;> rfl) (by rfl) (by simp [hw]) ?_
       rfl
     refine cF (by simp [h7, h1b] <;> rfl) ?_
     refine Tri.exit ?_
     refine inSeq_exit ?_
     refine inLoop_exit ?_
     exact hE _ _ (by simp [hw]) out hout hlen hval hhd (by simp [h7])

def Canon (s : List UInt8) : Prop := (∀ b ∈ s, digB b) ∧ 0 < s.length ∧ (1 < s.length → s.head? ≠ some 48)
theorem body_1162 {call : CallF} (hC : call.Sound Tryz.prog TT) (s : List UInt8) (base m0 : Nat) (hs : ∀ b ∈ s, digB b) (hpos : 0 < s.length) (hb16 : base ≤ 16) (hm0 : m0 ≤ 16) (hsl : s.length < 1000000000) (hitoa : ∀ n : Nat, n < 10 → ∀ H, call 149 [.i .i64 n] H = .val (.s [chD n]) H) (hw1 : IntKind.i64.wrap ((s.length : Int) - 1) = (s.length : Int) - 1)  : EBody Tryz.prog TT 162 [.s s, .i .i64 base, .i .i64 m0] (fun r => ∃ out, r = .val (.s out) ∧ Canon out ∧ valD out = valD s * base + m0) := by
 refine en Tryz.f162 rfl rfl (by simp [Tryz.f162]) 52 rfl fun t hw hg => ?_
 have h0 := hg 0 _ rfl
 have h1 := hg 1 _ rfl
 have h2 := hg 2 _ rfl
 clear hg
 try simp only [Nd.enc_eq] at *
 have hF := ai @h0 (ai @h1 (ai @h2 @hw1))
 apply rS hC
 · refine oA ?_
   rfl
 apply rS hC
 · refine oA ?_
   rfl
 apply sQ
 apply rS hC
 · iterate 4 refine oA ?_
   rfl
 apply bK
 refine Tri.loop ?_
 refine loop1162_0 hC s base m0 hs hb16 hsl hitoa ?exit s.length [] m0 _ _ (Nat.le_refl _) (by simp) hm0 (by simp) (by simp [valD]) (by simp [hw]) (by simp [h0]) (by simp [h1]) (by simp [h2]) (by simp) (by simp [hw1])
 case exit =>
  clear hw h0 h1 h2
  intro t2 H2 hw m out hm hout hol hval h2 h7
  refine inBlk_exit ?_
  apply sN
  apply sQ
  apply bK
  refine Tri.loop ?_
  refine loop1162_1 hC (valD s * base + m0) hitoa ?exit2 m out _ _ hout (by omega) (by omega) (by rw [hol]; exact hval) (by simp [hw]) (by simp [h2]) (by simp [h7])
  case exit2 =>
   clear hw h2 h7 hout hol hval
   intro t3 H3 hw o2 hout hol hval h7
   refine inBlk_exit ?_
   apply sN
   apply sQ
   apply bK
   refine Tri.loop ?_
   refine loop1162_2 hC (valD s * base + m0) ?exit3 o2 _ _ hout hol hval (by simp [hw]) (by simp [h7])
   case exit3 =>
    clear hw hout hol hval h7
    intro t4 H4 hw o3 hout hol hval hhd h7
    refine inBlk_exit ?_
    apply sN
    apply rS hC
    · iterate 2 refine oA ?_
      rfl
    apply Tri.ret
    refine endsE (by simp [Tryz.f162] <;> rfl) (by rfl) ?_
    exact ⟨o3, rfl, ⟨hout, hol, hhd⟩, hval.symm⟩
theorem body_1163a {call : CallF} (hC : call.Sound Tryz.prog TT) (a b : List UInt8) (hh : (b.length : Int) < a.length)  : EBody Tryz.prog TT 163 [.s a, .s b] (fun r => r = .val (.b true)) := by
 refine en Tryz.f163 rfl rfl (by simp [Tryz.f163]) 22 rfl fun t hw hg => ?_
 have h0 := hg 0 _ rfl
 have h1 := hg 1 _ rfl
 clear hg
 try simp only [Nd.enc_eq] at *
 have hF := ai @h0 (ai @h1 @hh)
 apply rS hC
 · refine oA ?_
   rfl
 apply rS hC
 · iterate 6 refine oA ?_
   iterate 10 refine oC ?_
   iterate 2 refine oA ?_
   rfl
 apply Tri.ret
 refine endsE (by simp [Tryz.f163] <;> rfl) (by rfl) ?_
 first
  | rfl
  | simp
theorem body_1163b {call : CallF} (hC : call.Sound Tryz.prog TT) (a b : List UInt8) (hh : ¬ (b.length : Int) < a.length) (hh2 : ((a.length : Int) == b.length) = false)  : EBody Tryz.prog TT 163 [.s a, .s b] (fun r => r = .val (.b false)) := by
 refine en Tryz.f163 rfl rfl (by simp [Tryz.f163]) 22 rfl fun t hw hg => ?_
 have h0 := hg 0 _ rfl
 have h1 := hg 1 _ rfl
 clear hg
 try simp only [Nd.enc_eq] at *
 have hF := ai @h0 (ai @h1 (ai @hh @hh2))
 apply rS hC
 · refine oA ?_
   rfl
 apply rS hC
 · iterate 6 refine oA ?_
   iterate 6 refine oB ?_
   iterate 3 refine oC ?_
   refine oB ?_
   iterate 2 refine oA ?_
   rfl
 apply Tri.ret
 refine endsE (by simp [Tryz.f163] <;> rfl) (by rfl) ?_
 first
  | rfl
  | simp
theorem body_1163c {call : CallF} (hC : call.Sound Tryz.prog TT) (a b : List UInt8) (hh : ¬ (b.length : Int) < a.length) (hh2 : ((a.length : Int) == b.length) = true)  : EBody Tryz.prog TT 163 [.s a, .s b] (fun r => r = .val (.b (!Op.bytesLess a b && !(a == b)))) := by
 refine en Tryz.f163 rfl rfl (by simp [Tryz.f163]) 22 rfl fun t hw hg => ?_
 have h0 := hg 0 _ rfl
 have h1 := hg 1 _ rfl
 clear hg
 try simp only [Nd.enc_eq] at *
 have hF := ai @h0 (ai @h1 (ai @hh @hh2))
 apply rS hC
 · refine oA ?_
   rfl
 apply rS hC
 · iterate 6 refine oA ?_
   iterate 10 refine oB ?_
   iterate 2 refine oA ?_
   rfl
 apply Tri.ret
 refine endsE (by simp [Tryz.f163] <;> rfl) (by rfl) ?_
 first
  | rfl
  | simp
theorem valD_lt : ∀ s : List UInt8, (∀ b ∈ s, digB b) → valD s < 10 ^ s.length
  | [], _ => by simp [valD]
  | b :: s, h => by
    have h1 := valD_lt s fun x hx => h x (by simp [hx])
    have h2 := h b (by simp)
    simp only [valD, List.length_cons, Nat.pow_succ]
    obtain ⟨h3, h4⟩ := h2
    have : (b.toNat - 48) * 10 ^ s.length ≤ 9 * 10 ^ s.length := Nat.mul_le_mul_right _ (by omega)
    omega
theorem u8_inj {a b : UInt8} (h : a.toNat = b.toNat) : a = b := UInt8.toNat.inj h
theorem lead_cmp {p q m x y : Nat} (hx : x < m) (hy : y < m) : (p * m + x < q * m + y ↔ p < q ∨ (p = q ∧ x < y)) ∧ (p * m + x = q * m + y ↔ p = q ∧ x = y) := by
  rcases Nat.lt_trichotomy p q with h | h | h
  · have : (p + 1) * m ≤ q * m := Nat.mul_le_mul_right _ h
    rw [Nat.add_mul, Nat.one_mul] at this
    constructor
    · constructor
      · intro _; exact .inl h
      · intro _; omega
    · constructor
      · intro e; omega
      · rintro ⟨rfl, _⟩; omega
  · subst h
    constructor
    · constructor
      · intro e; exact .inr ⟨rfl, by omega⟩
      · rintro (e | ⟨_, e⟩) <;> omega
    · constructor
      · intro e; exact ⟨rfl, by omega⟩
      · rintro ⟨_, rfl⟩; rfl
  · have : (q + 1) * m ≤ p * m := Nat.mul_le_mul_right _ h
    rw [Nat.add_mul, Nat.one_mul] at this
    constructor
    · constructor
      · intro e; omega
      · rintro (e | ⟨rfl, _⟩) <;> omega
    · constructor
      · intro e; omega
      · rintro ⟨rfl, _⟩; omega
theorem less_dig : ∀ a b : List UInt8, a.length = b.length → (∀ x ∈ a, digB x) → (∀ x ∈ b, digB x) → Op.bytesLess a b = decide (valD a < valD b) ∧ (a == b) = decide (valD a = valD b)
  | [], [], _, _, _ => by simp [Op.bytesLess, valD]
  | [], _ :: _, h, _, _ => by simp at h
  | _ :: _, [], h, _, _ => by simp at h
  | c :: x, d :: y, h, ha, hb => by
    have hl : x.length = y.length := by simpa using h
    obtain ⟨ih1, ih2⟩ := less_dig x y hl (fun z hz => ha z (by simp [hz])) (fun z hz => hb z (by simp [hz]))
    obtain ⟨c1, c2⟩ := ha c (by simp)
    obtain ⟨d1, d2⟩ := hb d (by simp)
    have hx := valD_lt x fun z hz => ha z (by simp [hz])
    have hy := valD_lt y fun z hz => hb z (by simp [hz])
    rw [← hl] at hy
    obtain ⟨k1, k2⟩ := lead_cmp (p := c.toNat - 48) (q := d.toNat - 48) hx hy
    have e1 : (c < d) ↔ c.toNat - 48 < d.toNat - 48 := by
      rw [UInt8.lt_iff_toNat_lt]; omega
    have e2 : (c = d) ↔ c.toNat - 48 = d.toNat - 48 := ⟨fun e => by rw [e], fun e => u8_inj (by omega)⟩
    constructor
    · simp only [Op.bytesLess, valD, ← hl, ih1]
      rw [Bool.eq_iff_iff]
      simp only [Bool.or_eq_true, Bool.and_eq_true, decide_eq_true_eq, beq_iff_eq, k1, e1, e2]
    · simp only [valD, ← hl]
      rw [Bool.eq_iff_iff]
      have ih3 : x = y ↔ valD x = valD y := by
        have := ih2
        rw [Bool.eq_iff_iff] at this
        simpa using this
      simp only [beq_iff_eq, List.cons.injEq, decide_eq_true_eq, k2, e2, ih3]
theorem canon_len {a b : List UInt8} (ha : Canon a) (hb : Canon b) (h : b.length < a.length) : valD b < valD a := by
  obtain ⟨a1, a2, a3⟩ := ha
  obtain ⟨b1, b2, b3⟩ := hb
  have hv := valD_lt b b1
  cases a with
  | nil => simp at a2
  | cons c x =>
    have h1 := a3 (by simp at h ⊢; omega)
    have hc : c ≠ 48 := by simpa using h1
    obtain ⟨c1, c2⟩ := a1 c (by simp)
    have h2 : 1 ≤ c.toNat - 48 := by
      have : c.toNat ≠ 48 := fun e => hc (u8_inj e)
      omega
    simp only [valD]
    have h3 : 10 ^ b.length ≤ 10 ^ x.length := Nat.pow_le_pow_right (by omega) (by simp at h; omega)
    have h4 : 1 * 10 ^ x.length ≤ (c.toNat - 48) * 10 ^ x.length := Nat.mul_le_mul_right _ h2
    omega
theorem canon_eq {a b : List UInt8} (ha : Canon a) (hb : Canon b) (h : valD a = valD b) : a = b := by
  rcases Nat.lt_trichotomy a.length b.length with hl | hl | hl
  · have := canon_len hb ha hl; omega
  · have := (less_dig a b hl ha.1 hb.1).2
    rw [Bool.eq_iff_iff] at this
    simpa [h] using this
  · have := canon_len ha hb hl; omega
theorem sp1163 : ∃ g, SpecOK Tryz.prog TT 163 g ∧ ∀ a b : List UInt8, Canon a → Canon b → ∀ H, g [.s a, .s b] H = .val (.b (decide (valD b < valD a))) H := by
  obtain ⟨g, k, s⟩ := spec_val TT_ok TT_plain 163 (fun p : List UInt8 × List UInt8 => [.s p.1, .s p.2]) (fun p => Canon p.1 ∧ Canon p.2) (fun p => .b (decide (valD p.2 < valD p.1))) (fun p _ => by simp [nlL, nl]) (fun _ => rfl) (fun a b h => by
    simp only [List.cons.injEq, V.s.injEq, and_true] at h
    rw [h.1, h.2]) (fun p hp => by
    obtain ⟨a, b⟩ := p
    obtain ⟨ha, hb⟩ := hp
    simp only at ha hb ⊢
    apply EBody.of1
    by_cases h1 : b.length < a.length
    · have := canon_len ha hb h1
      rw [decide_eq_true this]
      exact body_1163a n0 a b (by omega)
    · by_cases h2 : a.length = b.length
      · obtain ⟨k1, k2⟩ := less_dig a b h2 ha.1 hb.1
        have := body_1163c n0 a b (by omega) (by rw [h2]; simp)
        rw [k1, k2] at this
        have e : (!decide (valD a < valD b) && !decide (valD a = valD b)) = decide (valD b < valD a) := by
          rcases Nat.lt_trichotomy (valD a) (valD b) with h | h | h
          · simp [h]; omega
          · simp [h]
          · have h3 : ¬ valD a < valD b := by omega
            have h4 : ¬ valD a = valD b := by omega
            simp [h, h3, h4]
        rw [e] at this
        exact this
      · have := canon_len hb ha (by omega)
        have h3 : ¬ valD b < valD a := by omega
        rw [decide_eq_false h3]
        exact body_1163b n0 a b (by omega) (by rw [beq_eq_false_iff_ne]; omega))
  exact ⟨g, k, fun a b ha hb H => s (a, b) ⟨ha, hb⟩ H⟩
theorem sp1149 : ∃ g, SpecOK Tryz.prog TT 149 g ∧ ∀ n : Nat, n < 10 → ∀ H, g [.i .i64 n] H = .val (.s [chD n]) H := by
  refine ⟨fun vs H => match vs with | [.i .i64 n] => if 0 ≤ n ∧ n < 10 then .val (.s [chD n.toNat]) H else .no | _ => .no, fun vs H x hx hne => ?_, fun n hn H => ?_⟩
  · simp only at hx
    split at hx
    · rename_i n
      split at hx
      · rename_i hn
        subst hx
        obtain ⟨k, hk, h1⟩ := range_at tab1149 hn.1 (by omega)
        subst hk
        split at h1
        · rename_i v J he
          split at h1
          · rename_i l hf
            have h2 := eq_of_beq h1
            subst h2
            obtain ⟨e1, e2⟩ := con_of_ev_fz TT_ok TT_plain Con.none_sound he hf rfl
            exact ⟨e1, e2 H⟩
          · cases h1
        · cases h1
      · exact absurd hx.symm hne
    · exact absurd hx.symm hne
  · have : (0 : Int) ≤ n ∧ (n : Int) < 10 := by omega
    simp only [this, and_self, if_true]
    simp
def maxS : List UInt8 := [51, 52, 48, 50, 56, 50, 51, 54, 54, 57, 50, 48, 57, 51, 56, 52, 54, 51, 52, 54, 51, 51, 55, 52, 54, 48, 55, 52, 51, 49, 55, 54, 56, 50, 49, 49, 52, 53, 53]
theorem maxS_canon : Canon maxS := ⟨by unfold digB maxS; decide, by decide, by decide⟩
theorem maxS_val : valD maxS = 340282366920938463463374607431768211455 := by decide
def numF (base : Nat) : List UInt8 → Nat → Nat
  | [], v => v
  | b :: l, v => numF base l (v * base + (digR b.toNat base).toNat)
theorem numF_ge (base : Nat) (hb : 0 < base) : ∀ (l : List UInt8) (v : Nat), v ≤ numF base l v
  | [], v => Nat.le_refl _
  | b :: l, v => by
    have h1 := numF_ge base hb l (v * base + (digR b.toNat base).toNat)
    have h2 : v * 1 ≤ v * base := Nat.mul_le_mul_left _ hb
    simp only [numF]
    omega
theorem canon_small {o : List UInt8} (h : Canon o) (hv : valD o ≤ valD maxS) : o.length ≤ 39 := by
  by_cases hl : maxS.length < o.length
  · have := canon_len h maxS_canon hl
    omega
  · have : maxS.length = 39 := rfl
    omega
theorem loop1157 {call : CallF} (hC : call.Sound Tryz.prog TT) (base : Nat) (hb0 : 0 < base) (hb16 : base ≤ 16)
    (hd : ∀ b : UInt8, ∀ H, call 145 [.i .u8 b.toNat, .i .i64 base] H = .val (.i .i64 (digR b.toNat base)) H)
    (hti : ∀ (o : List UInt8) (m : Nat), Canon o → m ≤ 16 → o.length < 1000 → ∃ o', Canon o' ∧ valD o' = valD o * base + m ∧ ∀ H, call 162 [.s o, .i .i64 base, .i .i64 m] H = .val (.s o') H)
    (habove : ∀ o : List UInt8, Canon o → ∀ H, call 163 [.s o, .s maxS] H = .val (.b (decide (valD maxS < valD o))) H) {Q : Out → Prop} : ∀ (L pre out : List UInt8) (t : Tm) (H : Heap), (pre ++ L).length < 1000000000 → (∀ b ∈ L, 0 ≤ digR b.toNat base ∧ digR b.toNat base < 16) → Canon out → valD out ≤ valD maxS →
    t.wid = 25 → t.get 0 = .s (pre ++ L) → t.get 1 = .i .i64 base → t.get 6 = .s out → t.get 7 = .i .i64 pre.length →
    (∀ (t' : Tm) (H' : Heap), t'.wid = 25 → ∀ o : List UInt8, Canon o → valD o = numF base L (valD out) → valD o ≤ valD maxS → t'.get 6 = .s o → Q (.exit 0 t' H')) →
    (∀ (t' : Tm) (H' : Heap), valD maxS < numF base L (valD out) → t'.get 4 = .s [] → t'.get 5 = .b false → Q (.ret t' H')) →
    LTri Tryz.prog TT (sub [true, true, false, true, false, false] (bodyOf Tryz.f157)) t H Q := by
 intro L
 induction L with
 | nil =>
   intro pre out t H hlen hdig hc hv hw h0 h1 h6 h7 hE hR
   have hF := ai @h0 (ai @h1 (ai @h6 @h7))
   refine LTri.round' ?_
   apply sQ
   apply rS hC
   · iterate 4 refine oA ?_
     rfl
   refine cF (by simp [hF] <;> rfl) ?_
   refine Tri.exit ?_
   refine inSeq_exit ?_
   refine inLoop_exit ?_
   exact hE _ _ (by simp [hw]) out hc rfl hv (by simp [h6])
 | cons b L ih =>
   intro pre out t H hlen hdig hc hv hw h0 h1 h6 h7 hE hR
   have hlt := fin_len pre.length L.length
   have hat := str_at pre b L
   have hat2 := str_at2 pre b L
   obtain ⟨d1, d2⟩ := hdig b (by simp)
   obtain ⟨D, hD⟩ : ∃ D : Nat, digR b.toNat base = D := ⟨(digR b.toNat base).toNat, by omega⟩
   have hdg := hd b
   rw [hD] at hdg
   have hsm := canon_small hc hv
   obtain ⟨o2, hc2, hv2, ht⟩ := hti out D hc (by omega) (by omega)
   have hv2' : valD o2 = valD out * base + (digR b.toNat base).toNat := by rw [hv2, hD]; simp
   clear hv2
   have hv2 := hv2'
   have hab := habove o2 hc2
   by_cases hbg : valD maxS < valD o2
   · rw [decide_eq_true hbg] at hab
     unfold maxS at hab
     have hbig : valD maxS < numF base (b :: L) (valD out) := by
      have := numF_ge base hb0 L (valD o2)
      simp only [numF]
      rw [← hv2]
      omega
     have hF := ai @h0 (ai @h1 (ai @h6 (ai @h7 (ai @hlt (ai @hat (ai @hat2 (ai @hdg (ai @ht @hab))))))))
     refine LTri.round' ?_
     apply sQ
     apply rS hC
     · iterate 4 refine oA ?_
       rfl
     refine cT (by simp [hF] <;> rfl) ?_
     apply Tri.skip
     apply sN
     apply sQ
     apply bK
     apply rS hC
     · iterate 9 refine oA ?_
       rfl
     apply rS hC
     · iterate 2 refine oA ?_
       rfl
     refine cT (by simp [hF] <;> rfl) ?_
     apply rS hC
     · iterate 2 refine oA ?_
       rfl
     apply Tri.ret
     apply bR
     apply sR
     refine inLoop_ret ?_
     exact hR _ _ hbig (by simp) (by simp)
   · rw [decide_eq_false hbg] at hab
     unfold maxS at hab
     have hF := ai @h0 (ai @h1 (ai @h6 (ai @h7 (ai @hlt (ai @hat (ai @hat2 (ai @hdg (ai @ht @hab))))))))
     refine LTri.round' ?_
     apply sQ
     apply rS hC
     · iterate 4 refine oA ?_
       rfl
     refine Tri.condG (o := ?og2) (b := ?bg2) ?gg2 ?rg2 ?yg2 ?ng2
     case gg2 => simp [hF] <;> rfl
     case rg2 => rfl
     case yg2 =>
      intro hy2
      apply Tri.skip
      apply sN
      apply sQ
      apply bK
      apply rS hC
      · iterate 9 refine oA ?_
        rfl
      apply rS hC
      · iterate 2 refine oA ?_
        rfl
      refine cF (by simp [hF] <;> rfl) ?_
      apply Tri.skip
      apply bN
      apply sN
      apply rN hC
      · iterate 3 refine oA ?_
        rfl
      refine inLoop_norm ?_
      refine ih (pre ++ [b]) o2 _ _ (by simpa using hlen) (fun c hcc => hdig c (by simp [hcc])) hc2 (by omega) (by simp [hw]) (by simp [h0]) (by simp [h1]) (by simp) (by simp; exact wrap_i64 (by omega) (by simp at hlen; omega)) ?_ ?_
      · intro t' H' k1 o k2 k3 k5 k4
        exact hE t' H' k1 o k2 (by rw [k3, hv2]; rfl) k5 k4
      · intro t' H' k1 k2 k3
        exact hR t' H' (by simp only [numF]; rw [← hv2]; exact k1) k2 k3
     case ng2 =>
      intro hn2
      exfalso
      simp at hn2

theorem body_1157 {call : CallF} (hC : call.Sound Tryz.prog TT) (s : List UInt8) (base : Nat) (hb0 : 0 < base) (hb16 : base ≤ 16) (hlen : s.length < 1000000000) (hdig : ∀ b ∈ s, 0 ≤ digR b.toNat base ∧ digR b.toNat base < 16)
    (hd : ∀ b : UInt8, ∀ H, call 145 [.i .u8 b.toNat, .i .i64 base] H = .val (.i .i64 (digR b.toNat base)) H)
    (hti : ∀ (o : List UInt8) (m : Nat), Canon o → m ≤ 16 → o.length < 1000 → ∃ o', Canon o' ∧ valD o' = valD o * base + m ∧ ∀ H, call 162 [.s o, .i .i64 base, .i .i64 m] H = .val (.s o') H)
    (habove : ∀ o : List UInt8, Canon o → ∀ H, call 163 [.s o, .s maxS] H = .val (.b (decide (valD maxS < valD o))) H)  : EBody Tryz.prog TT 157 [.s s, .i .i64 base] (fun r => (∃ o, Canon o ∧ valD o = numF base s 0 ∧ numF base s 0 ≤ valD maxS ∧ r = .val (.tup [.s o, .b true])) ∨ (valD maxS < numF base s 0 ∧ r = .val (.tup [.s [], .b false]))) := by
 refine en Tryz.f157 rfl rfl (by simp [Tryz.f157]) 25 rfl fun t hw hg => ?_
 have h0 := hg 0 _ rfl
 have h1 := hg 1 _ rfl
 clear hg
 try simp only [Nd.enc_eq] at *
 apply rS hC
 · iterate 2 refine oA ?_
   rfl
 apply rS hC
 · refine oA ?_
   rfl
 apply sQ
 apply rS hC
 · refine oA ?_
   rfl
 apply bK
 refine Tri.loop ?_
 refine loop1157 hC base hb0 hb16 hd hti habove s [] [48] _ _ (by simpa using hlen) hdig ⟨by unfold digB; decide, by decide, by decide⟩ (by rw [maxS_val]; decide) (by simp [hw]) (by simp [h0]) (by simp [h1]) (by simp) (by simp) ?exit ?ret
 case exit =>
  intro t2 H2 hw o hc hv hle h6
  have h4 : True := trivial
  have h5 : True := trivial
  have hres : (∃ o, Canon o ∧ valD o = numF base s 0 ∧ numF base s 0 ≤ valD maxS ∧ Res.val (.tup [.s o, .b true]) = .val (.tup [.s o, .b true])) ∨ True := .inr trivial
  refine inBlk_exit ?_
  apply sN
  apply rS hC
  · iterate 3 refine oA ?_
    rfl
  apply Tri.ret
  first
   | refine endsE (by simp [Tryz.f157, h4, h5] <;> rfl) (by rfl) ?_
     exact .inr ⟨hbig, rfl⟩
   | refine endsE (by simp [Tryz.f157, h4, h5] <;> rfl) (by rfl) ?_
     exact .inl ⟨o, hc, hv, hv ▸ hle, rfl⟩
 case ret =>
  intro t2 H2 hbig h4 h5
  apply bR
  apply sR
  first
   | refine endsE (by simp [Tryz.f157, h4, h5] <;> rfl) (by rfl) ?_
     exact .inr ⟨hbig, rfl⟩
   | refine endsE (by simp [Tryz.f157, h4, h5] <;> rfl) (by rfl) ?_
     exact .inl ⟨o, hc, hv, hv ▸ hle, rfl⟩
theorem sp1162 : ∃ g, SpecOK Tryz.prog TT 162 g ∧ ∀ (o : List UInt8) (base m : Nat), Canon o → base ≤ 16 → m ≤ 16 → o.length < 1000 → ∃ o', Canon o' ∧ valD o' = valD o * base + m ∧ ∀ H, g [.s o, .i .i64 base, .i .i64 m] H = .val (.s o') H := by
  obtain ⟨gi, ki, si⟩ := sp1149
  obtain ⟨g, hg, hs⟩ := spec_pure TT_ok TT_plain 162 (fun vs => ∃ (o : List UInt8) (base m : Nat), Canon o ∧ base ≤ 16 ∧ m ≤ 16 ∧ o.length < 1000 ∧ vs = [.s o, .i .i64 base, .i .i64 m]) (fun vs r => ∃ (o : List UInt8) (base m : Nat) (o' : List UInt8), vs = [.s o, .i .i64 base, .i .i64 m] ∧ r = .val (.s o') ∧ Canon o' ∧ valD o' = valD o * base + m) (by
    rintro vs ⟨o, base, m, hc, hb, hm, hl, rfl⟩
    refine ⟨by simp [nlL, nl], by rintro r ⟨_, _, _, _, _, rfl, _⟩; rfl, ?_⟩
    refine (body_1162 (ws n0 ki) o base m hc.1 hc.2.1 hb hm (by omega) (fun n hn H => by rw [w_here]; exact si n hn H) (wrap_i64 (by omega) (by omega))).mono ?_
    rintro r ⟨o', rfl, h1, h2⟩
    exact ⟨o, base, m, o', rfl, rfl, h1, h2⟩)
  refine ⟨g, hg, fun o base m hc hb hm hl => ?_⟩
  obtain ⟨r, ⟨o1, b1, m1, o', e, rfl, h1, h2⟩, h⟩ := hs _ ⟨o, base, m, hc, hb, hm, hl, rfl⟩
  simp only [List.cons.injEq, V.s.injEq, V.i.injEq, true_and, and_true] at e
  obtain ⟨rfl, e2, e3⟩ := e
  rw [show b1 = base from by omega, show m1 = m from by omega] at h2
  exact ⟨o', h1, h2, h⟩
def DecR (s : List UInt8) (base : Nat) (r : V) : Prop := (∃ o, Canon o ∧ valD o = numF base s 0 ∧ numF base s 0 ≤ valD maxS ∧ r = .tup [.s o, .b true]) ∨ (valD maxS < numF base s 0 ∧ r = .tup [.s [], .b false])
theorem sp1157 : ∃ g, SpecOK Tryz.prog TT 157 g ∧ ∀ (s : List UInt8) (base : Nat), base = 2 ∨ base = 10 ∨ base = 16 → s.length < 1000000000 → (∀ b ∈ s, 0 ≤ digR b.toNat base) → ∃ r, DecR s base r ∧ ∀ H, g [.s s, .i .i64 base] H = .val r H := by
  obtain ⟨g1, k1, s1⟩ := sp1145
  obtain ⟨g2, k2, s2⟩ := sp1162
  obtain ⟨g3, k3, s3⟩ := sp1163
  obtain ⟨g, hg, hs⟩ := spec_pure TT_ok TT_plain 157 (fun vs => ∃ (s : List UInt8) (base : Nat), (base = 2 ∨ base = 10 ∨ base = 16) ∧ s.length < 1000000000 ∧ (∀ b ∈ s, 0 ≤ digR b.toNat base) ∧ vs = [.s s, .i .i64 base]) (fun vs r => ∃ (s : List UInt8) (base : Nat) (v : V), vs = [.s s, .i .i64 base] ∧ r = .val v ∧ DecR s base v) (by
    rintro vs ⟨s, base, hb, hl, hd, rfl⟩
    have hb16 : base ≤ 16 := by rcases hb with rfl | rfl | rfl <;> omega
    have hb0 : 0 < base := by rcases hb with rfl | rfl | rfl <;> omega
    refine ⟨by simp [nlL, nl], ?_, ?_⟩
    · rintro r ⟨_, _, v, _, rfl, ⟨o, _, _, _, rfl⟩ | ⟨_, rfl⟩⟩ <;> rfl
    have hC := ws (ws (ws n0 k1) k2) k3
    generalize hc : ((CallF.none.with 145 g1).with 162 g2).with 163 g3 = call at hC
    have c1 : ∀ b : UInt8, ∀ H, call 145 [.i .u8 b.toNat, .i .i64 base] H = .val (.i .i64 (digR b.toNat base)) H := fun b H => by
      rw [← hc, w_other _ _ _ _ rfl, w_other _ _ _ _ rfl, w_here]
      exact s1 _ _ (by omega) (u8_lt b) (by rcases hb with rfl | rfl | rfl <;> simp) H
    have c2 : ∀ (o : List UInt8) (m : Nat), Canon o → m ≤ 16 → o.length < 1000 → ∃ o', Canon o' ∧ valD o' = valD o * base + m ∧ ∀ H, call 162 [.s o, .i .i64 base, .i .i64 m] H = .val (.s o') H := fun o m a b c => by
      obtain ⟨o', x, y, z⟩ := s2 o base m a hb16 b c
      exact ⟨o', x, y, fun H => by rw [← hc, w_other _ _ _ _ rfl, w_here]; exact z H⟩
    have c3 : ∀ o : List UInt8, Canon o → ∀ H, call 163 [.s o, .s maxS] H = .val (.b (decide (valD maxS < valD o))) H := fun o a H => by
      rw [← hc, w_here]
      exact s3 o maxS a maxS_canon H
    refine (body_1157 hC s base hb0 hb16 hl (fun b hbs => ⟨hd b hbs, ?_⟩) c1 c2 c3).mono ?_
    · have := hd b hbs
      have h2 : digR b.toNat base < base := by
        unfold digR at this ⊢
        split
        · omega
        · omega
      omega
    · rintro r (⟨o, a1, a2, a3, rfl⟩ | ⟨a1, rfl⟩)
      · exact ⟨s, base, _, rfl, rfl, .inl ⟨o, a1, a2, a3, rfl⟩⟩
      · exact ⟨s, base, _, rfl, rfl, .inr ⟨a1, rfl⟩⟩)
  refine ⟨g, hg, fun s base hb hl hd => ?_⟩
  obtain ⟨r, ⟨s1, b1, v, e, rfl, h1⟩, h⟩ := hs _ ⟨s, base, hb, hl, hd, rfl⟩
  simp only [List.cons.injEq, V.s.injEq, V.i.injEq, true_and, and_true] at e
  obtain ⟨rfl, e2⟩ := e
  rw [show b1 = base from by omega] at h1
  exact ⟨v, h1, h⟩
theorem sp1156 : ∃ g, SpecOK Tryz.prog TT 156 g ∧ ∀ (s : List UInt8) (i : Nat) (base : Int), base = 2 ∨ base = 10 ∨ base = 16 → s.length < 1000000000 → i ≤ s.length → ∀ H, g [.s s, .i .i64 i, .i .i64 base] H = .val (.tup [.i .i64 ((i + (digL base (s.drop i) [] false).1 : Nat) : Int), .s (digL base (s.drop i) [] false).2]) H := by
  obtain ⟨g1, k1, s1⟩ := sp1145
  obtain ⟨g2, k2, s2⟩ := sp1142
  obtain ⟨g, k, s⟩ := spec_val TT_ok TT_plain 156 (fun p : List UInt8 × Nat × Int => [.s p.1, .i .i64 p.2.1, .i .i64 p.2.2]) (fun p => (p.2.2 = 2 ∨ p.2.2 = 10 ∨ p.2.2 = 16) ∧ p.1.length < 1000000000 ∧ p.2.1 ≤ p.1.length) (fun p => .tup [.i .i64 ((p.2.1 + (digL p.2.2 (p.1.drop p.2.1) [] false).1 : Nat) : Int), .s (digL p.2.2 (p.1.drop p.2.1) [] false).2]) (fun p _ => by simp [nlL, nl]) (fun _ => by simp [nl, nlL]) (fun a b h => by
    simp only [List.cons.injEq, V.s.injEq, V.i.injEq, true_and, and_true] at h
    rw [h.1, show a.2.1 = b.2.1 from by omega, h.2.2]) (fun p hp => by
    obtain ⟨s, i, base⟩ := p
    obtain ⟨hb, hl, hi⟩ := hp
    simp only at hb hl hi ⊢
    obtain ⟨pre, L, rfl, rfl⟩ : ∃ pre L, s = pre ++ L ∧ i = pre.length := ⟨s.take i, s.drop i, by simp, by simp [Nat.min_eq_left hi]⟩
    have hC := ws (ws n0 k1) k2
    rw [show (pre ++ L).drop pre.length = L from by simp]
    exact EBody.of1 (body_1156 hC pre L base hl (fun b H => by
      rw [w_other _ _ _ _ rfl, w_here]
      exact s1 _ _ (by omega) (u8_lt b) hb H) (fun s i H => by
      rw [w_here]
      exact s2 s i H)))
  exact ⟨g, k, fun a i b h0 h1 h2 H => s (a, i, b) ⟨h0, h1, h2⟩ H⟩
end Go.Ev
