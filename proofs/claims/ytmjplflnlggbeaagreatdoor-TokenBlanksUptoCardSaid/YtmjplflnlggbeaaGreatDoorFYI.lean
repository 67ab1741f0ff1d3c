/- Walks and specification: sign. What look-ups in small maps and must come to. strings.Builder: what stands in its block. strings.Builder: WriteByte, WriteString and String. ValidRune and escape. Trees of quoted. The loop of quoted. quoted. Contracts of the library laid at this program's numbers. character and text. -/
import Derived.Test.YtmjplflnlggbeaaGreatDoorFK8
import Derived.Test.YtmjplflnlggbeaaGreatDoorFWE
import Derived.Shelf.Small.Strs
import Derived.Shelf.Utf8.RuneCount
import Derived.Shelf.Strings.Search3
import Derived.Shelf.Unicode.DecodeAny
namespace Go.Ev
open Go Go.Proofs
set_option linter.unusedSimpArgs false
set_option linter.unusedVariables false
set_option linter.unnecessarySimpa false
set_option maxRecDepth 100000
def okP (s best x : List UInt8) : Bool := decide (best.length < x.length) && (preR s x && !((letR (lastB x) || (lastB x == 95)) && (decide (x.length < s.length) && worR (atR s x.length))))
def sgF (s : List UInt8) : List (List UInt8) → List UInt8 → List UInt8
 | [], best => best
 | x :: l, best => sgF s l (if okP s best x = true then x else best)
theorem loop2054 {call : CallF} (hC : call.Sound Tryz.prog TT) {Q : Out → Prop} {H : Heap} (s : List UInt8) (hpre : ∀ p H, call 70 [.s s, .s p] H = .val (.b (preR s p)) H) (hlet : ∀ c : Int, ∀ H, call 72 [.i .u8 c] H = .val (.b (letR c || (c == 95))) H) (hwor : ∀ c : UInt8, ∀ H, call 73 [.i .u8 c.toNat] H = .val (.b (worR c.toNat)) H) :
 ∀ (L pre : List (List UInt8)) (best : List UInt8) (t : Tm), sgnL = pre ++ L → t.wid = 44 → t.get 0 = .s s → t.get 3 = .s best → t.get 6 = .agg (sgnL.map .s) → t.get 7 = .i .i64 pre.length →
 (∀ t' : Tm, t'.wid = 44 → t'.get 3 = .s (sgF s L best) → Q (.exit 0 t' H)) →
 LTri Tryz.prog TT (sub [true, true, false, true, false, false] (bodyOf Tryz.f54)) t H Q := by
 intro L;induction L with
 | nil =>
  intro pre best t hS hw h0 h3 h6 h7 hE;have hlast : pre.length = 43 := by have := congrArg List.length hS; simpa [sgnL] using this.symm
  have hF := ai @h0 (ai @h3 (ai @h6 (ai @h7 @hlast)));refine LTri.round' ?_;apply rS hC
  ·refine evSeq_go rfl (by simp [hF] <;> rfl) (by rfl) (by simp [hw]) ?_;rfl
  apply sQ;refine cF (by simp [hF] <;> rfl) ?_;refine Tri.exit ?_;refine inSeq_exit ?_;refine inLoop_exit ?_;exact hE _ (by simp [hw]) (by simp [h3, sgF])
 | cons x L ih =>
  intro pre best t hS hw h0 h3 h6 h7 hE;have hlen := congrArg List.length hS;have h43 : sgnL.length = 43 := rfl;rw [h43] at hlen;simp only [List.length_append, List.length_cons] at hlen;have hlt : (pre.length : Int) < 43 := by omega
  have hx : sgnL[pre.length]? = some x := by rw [hS]; simp
  have hwp : IntKind.i64.wrap ((pre.length : Int) + 1) = pre.length + 1 := wrap_i64 (by omega) (by omega);have hmem : x ∈ sgnL := by rw [hS]; simp
  have hall : sgnL.all (fun x => decide (0 < x.length) && decide (x.length < 10)) = true := by decide
  have hx1 := List.all_eq_true.1 hall x hmem;rw [Bool.and_eq_true, decide_eq_true_eq, decide_eq_true_eq] at hx1;obtain ⟨y, b, rfl⟩ : ∃ y b, x = y ++ [b] := ⟨x.dropLast, x.getLast (by intro e; rw [e] at hx1; simp at hx1), (List.dropLast_concat_getLast _).symm⟩;have hxl : (y ++ [b]).length = y.length + 1 := by simp
  rw [hxl] at hx1;have hlb : lastB (y ++ [b]) = b.toNat := by simp [lastB]
  have hwy : IntKind.i64.wrap (y.length : Int) = y.length := wrap_i64 (by omega) (by omega);have hp1 := hpre (y ++ [b]);have hl1 := hlet b.toNat
  cases hb : decide ((y.length : Int) + 1 ≤ best.length) with
  | true =>
   have hok : okP s best (y ++ [b]) = false := by
    have : ¬ best.length < (y ++ [b]).length := by rw [decide_eq_true_eq] at hb; rw [hxl]; omega
    simp only [okP, decide_eq_false this, Bool.false_and]
   have hF := ai @h0 (ai @h3 (ai @h6 (ai @h7 (ai @hlt (ai @hx (ai @hwp @hb))))));refine LTri.round' ?_;apply rS hC
   ·refine evSeq_go rfl (by simp [hF] <;> rfl) (by rfl) (by simp [hw]) ?_;rfl
   apply sQ;refine cT (by simp [hF] <;> rfl) ?_;apply Tri.skip;apply sN;apply sQ;apply bK;apply rS hC
   ·iterate 2 refine evSeq_go rfl (by simp [hF] <;> rfl) (by rfl) (by simp [hw]) ?_
    rfl
   apply sQ;apply rS hC
   ·iterate 6 refine evSeq_go rfl (by simp [hF] <;> rfl) (by rfl) (by simp [hw]) ?_
    iterate 4 refine evSeq_off (by simp [wants, hF]) (by simp [hw]) ?_
    refine evSeq_go rfl (by simp [hF] <;> rfl) (by rfl) (by simp [hw]) ?_;rfl
   refine cT (by simp [hF] <;> rfl) ?_;refine Tri.exit ?_;refine inSeq_exit ?_;refine inBlk_exit ?_;apply sN;apply rN hC
   ·iterate 2 refine evSeq_go rfl (by simp [hF] <;> rfl) (by rfl) (by simp [hw]) ?_
    rfl
   refine inLoop_norm ?_;refine ih (pre ++ [y ++ [b]]) best _ (by simpa using hS) (by simp [hw]) (by simp [h0]) (by simp [h3]) (by simp [h6]) (by simp <;> exact hwp) ?_;intro t' k1 k2;exact hE t' k1 (by rw [k2]; simp only [sgF]; rw [hok]; simp)
  | false =>
   have hbt : best.length < (y ++ [b]).length := by rw [decide_eq_false_iff_not] at hb; rw [hxl]; omega
   cases hpv : preR s (y ++ [b]) with
   | false =>
    have hok : okP s best (y ++ [b]) = false := by simp only [okP, hpv, Bool.false_and, Bool.and_false]
    have hp : ∀ H, call 70 [.s s, .s (y ++ [b])] H = .val (.b false) H := fun H => by rw [hp1, hpv]
    have hF := ai @h0 (ai @h3 (ai @h6 (ai @h7 (ai @hlt (ai @hx (ai @hwp (ai @hb @hp)))))));refine LTri.round' ?_;apply rS hC
    ·refine evSeq_go rfl (by simp [hF] <;> rfl) (by rfl) (by simp [hw]) ?_;rfl
    apply sQ;refine cT (by simp [hF] <;> rfl) ?_;apply Tri.skip;apply sN;apply sQ;apply bK;apply rS hC
    ·iterate 2 refine evSeq_go rfl (by simp [hF] <;> rfl) (by rfl) (by simp [hw]) ?_
     rfl
    apply sQ;apply rS hC
    ·iterate 6 refine evSeq_go rfl (by simp [hF] <;> rfl) (by rfl) (by simp [hw]) ?_
     iterate 4 refine evSeq_go (by simp [wants, hF]) (by simp [hF] <;> rfl) (by rfl) (by simp [hw]) ?_
     refine evSeq_go rfl (by simp [hF] <;> rfl) (by rfl) (by simp [hw]) ?_;rfl
    refine cT (by simp [hF] <;> rfl) ?_;refine Tri.exit ?_;refine inSeq_exit ?_;refine inBlk_exit ?_;apply sN;apply rN hC
    ·iterate 2 refine evSeq_go rfl (by simp [hF] <;> rfl) (by rfl) (by simp [hw]) ?_
     rfl
    refine inLoop_norm ?_;refine ih (pre ++ [y ++ [b]]) best _ (by simpa using hS) (by simp [hw]) (by simp [h0]) (by simp [h3]) (by simp [h6]) (by simp <;> exact hwp) ?_;intro t' k1 k2;exact hE t' k1 (by rw [k2]; simp only [sgF]; rw [hok]; simp)
   | true =>
    have hp : ∀ H, call 70 [.s s, .s (y ++ [b])] H = .val (.b true) H := fun H => by rw [hp1, hpv]
    cases hlv : (letR b.toNat || ((b.toNat : Int) == 95)) with
    | false =>
     have hok : okP s best (y ++ [b]) = true := by simp only [okP, hpv, hlb, hlv, decide_eq_true hbt, Bool.false_and, Bool.not_false, Bool.and_true]
     have hl : ∀ H, call 72 [.i .u8 b.toNat] H = .val (.b false) H := fun H => by rw [hl1, hlv]
     have hF := ai @h0 (ai @h3 (ai @h6 (ai @h7 (ai @hlt (ai @hx (ai @hwp (ai @hb (ai @hp (ai @hwy @hl)))))))));refine LTri.round' ?_;apply rS hC
     ·refine evSeq_go rfl (by simp [hF] <;> rfl) (by rfl) (by simp [hw]) ?_;rfl
     apply sQ;refine cT (by simp [hF] <;> rfl) ?_;apply Tri.skip;apply sN;apply sQ;apply bK;apply rS hC
     ·iterate 2 refine evSeq_go rfl (by simp [hF] <;> rfl) (by rfl) (by simp [hw]) ?_
      rfl
     apply sQ;apply rS hC
     ·iterate 6 refine evSeq_go rfl (by simp [hF] <;> rfl) (by rfl) (by simp [hw]) ?_
      iterate 4 refine evSeq_go (by simp [wants, hF]) (by simp [hF] <;> rfl) (by rfl) (by simp [hw]) ?_
      refine evSeq_go rfl (by simp [hF] <;> rfl) (by rfl) (by simp [hw]) ?_;rfl
     refine cF (by simp [hF] <;> rfl) ?_;apply Tri.skip;apply sN;apply sQ;apply rS hC
     ·iterate 7 refine evSeq_go rfl (by simp [hF] <;> rfl) (by rfl) (by simp [hw]) ?_
      iterate 5 refine evSeq_off (by simp [wants, hF]) (by simp [hw]) ?_
      iterate 2 refine evSeq_go rfl (by simp [hF] <;> rfl) (by rfl) (by simp [hw]) ?_
      iterate 5 refine evSeq_off (by simp [wants, hF]) (by simp [hw]) ?_
      refine evSeq_go rfl (by simp [hF] <;> rfl) (by rfl) (by simp [hw]) ?_;rfl
     refine cF (by simp [hF] <;> rfl) ?_;apply Tri.skip;apply sN;apply rN hC
     ·iterate 2 refine evSeq_go rfl (by simp [hF] <;> rfl) (by rfl) (by simp [hw]) ?_
      rfl
     apply bN;apply sN;apply rN hC
     ·iterate 2 refine evSeq_go rfl (by simp [hF] <;> rfl) (by rfl) (by simp [hw]) ?_
      rfl
     refine inLoop_norm ?_;refine ih (pre ++ [y ++ [b]]) (y ++ [b]) _ (by simpa using hS) (by simp [hw]) (by simp [h0]) (by simp [h3]) (by simp [h6]) (by simp <;> exact hwp) ?_;intro t' k1 k2;exact hE t' k1 (by rw [k2]; simp only [sgF]; rw [hok]; simp)
    | true =>
     have hl : ∀ H, call 72 [.i .u8 b.toNat] H = .val (.b true) H := fun H => by rw [hl1, hlv]
     cases hg : decide ((y.length : Int) + 1 < s.length) with
     | false =>
      have hgn : ¬ (y ++ [b]).length < s.length := by rw [decide_eq_false_iff_not] at hg; rw [hxl]; omega
      have hok : okP s best (y ++ [b]) = true := by simp only [okP, hpv, hlb, hlv, decide_eq_true hbt, decide_eq_false hgn, Bool.false_and, Bool.and_false, Bool.not_false, Bool.and_true]
      have hF := ai @h0 (ai @h3 (ai @h6 (ai @h7 (ai @hlt (ai @hx (ai @hwp (ai @hb (ai @hp (ai @hwy (ai @hl @hg))))))))));refine LTri.round' ?_;apply rS hC
      ·refine evSeq_go rfl (by simp [hF] <;> rfl) (by rfl) (by simp [hw]) ?_;rfl
      apply sQ;refine cT (by simp [hF] <;> rfl) ?_;apply Tri.skip;apply sN;apply sQ;apply bK;apply rS hC
      ·iterate 2 refine evSeq_go rfl (by simp [hF] <;> rfl) (by rfl) (by simp [hw]) ?_
       rfl
      apply sQ;apply rS hC
      ·iterate 6 refine evSeq_go rfl (by simp [hF] <;> rfl) (by rfl) (by simp [hw]) ?_
       iterate 4 refine evSeq_go (by simp [wants, hF]) (by simp [hF] <;> rfl) (by rfl) (by simp [hw]) ?_
       refine evSeq_go rfl (by simp [hF] <;> rfl) (by rfl) (by simp [hw]) ?_;rfl
      refine cF (by simp [hF] <;> rfl) ?_;apply Tri.skip;apply sN;apply sQ;apply rS hC
      ·iterate 7 refine evSeq_go rfl (by simp [hF] <;> rfl) (by rfl) (by simp [hw]) ?_
       iterate 5 refine evSeq_go (by simp [wants, hF]) (by simp [hF] <;> rfl) (by rfl) (by simp [hw]) ?_
       iterate 2 refine evSeq_go rfl (by simp [hF] <;> rfl) (by rfl) (by simp [hw]) ?_
       iterate 5 refine evSeq_off (by simp [wants, hF]) (by simp [hw]) ?_
       refine evSeq_go rfl (by simp [hF] <;> rfl) (by rfl) (by simp [hw]) ?_;rfl
      refine cF (by simp [hF] <;> rfl) ?_;apply Tri.skip;apply sN;apply rN hC
      ·iterate 2 refine evSeq_go rfl (by simp [hF] <;> rfl) (by rfl) (by simp [hw]) ?_
       rfl
      apply bN;apply sN;apply rN hC
      ·iterate 2 refine evSeq_go rfl (by simp [hF] <;> rfl) (by rfl) (by simp [hw]) ?_
       rfl
      refine inLoop_norm ?_;refine ih (pre ++ [y ++ [b]]) (y ++ [b]) _ (by simpa using hS) (by simp [hw]) (by simp [h0]) (by simp [h3]) (by simp [h6]) (by simp <;> exact hwp) ?_;intro t' k1 k2;exact hE t' k1 (by rw [k2]; simp only [sgF]; rw [hok]; simp)
     | true =>
      have hgn : (y ++ [b]).length < s.length := by rw [decide_eq_true_eq] at hg; rw [hxl]; omega
      obtain ⟨d, hd⟩ : ∃ d, s[y.length + 1]? = some d := ⟨_, List.getElem?_eq_getElem (by rw [← hxl]; exact hgn)⟩;have hd2 : ∀ h, s[y.length + 1]'h = d := fun h => by rw [List.getElem?_eq_getElem h] at hd; exact Option.some.inj hd
      have hat : atR s (y ++ [b]).length = d.toNat := by rw [hxl]; simp [atR, hd]
      have hq1 := hwor d;cases hqv : worR d.toNat with
      | true =>
       have hok : okP s best (y ++ [b]) = false := by simp only [okP, hpv, hlb, hlv, hat, hqv, decide_eq_true hbt, decide_eq_true hgn, Bool.and_true, Bool.not_true, Bool.and_false]
       have hq : ∀ H, call 73 [.i .u8 d.toNat] H = .val (.b true) H := fun H => by rw [hq1, hqv]
       have hF := ai @h0 (ai @h3 (ai @h6 (ai @h7 (ai @hlt (ai @hx (ai @hwp (ai @hb (ai @hp (ai @hwy (ai @hl (ai @hg (ai @hd (ai @hd2 @hq)))))))))))));refine LTri.round' ?_;apply rS hC
       ·refine evSeq_go rfl (by simp [hF] <;> rfl) (by rfl) (by simp [hw]) ?_;rfl
       apply sQ;refine cT (by simp [hF] <;> rfl) ?_;apply Tri.skip;apply sN;apply sQ;apply bK;apply rS hC
       ·iterate 2 refine evSeq_go rfl (by simp [hF] <;> rfl) (by rfl) (by simp [hw]) ?_
        rfl
       apply sQ;apply rS hC
       ·iterate 6 refine evSeq_go rfl (by simp [hF] <;> rfl) (by rfl) (by simp [hw]) ?_
        iterate 4 refine evSeq_go (by simp [wants, hF]) (by simp [hF] <;> rfl) (by rfl) (by simp [hw]) ?_
        refine evSeq_go rfl (by simp [hF] <;> rfl) (by rfl) (by simp [hw]) ?_;rfl
       refine cF (by simp [hF] <;> rfl) ?_;apply Tri.skip;apply sN;apply sQ;apply rS hC
       ·iterate 7 refine evSeq_go rfl (by simp [hF] <;> rfl) (by rfl) (by simp [hw]) ?_
        iterate 5 refine evSeq_go (by simp [wants, hF]) (by simp [hF] <;> rfl) (by rfl) (by simp [hw]) ?_
        iterate 2 refine evSeq_go rfl (by simp [hF] <;> rfl) (by rfl) (by simp [hw]) ?_
        iterate 5 refine evSeq_go (by simp [wants, hF]) (by simp [hF] <;> rfl) (by rfl) (by simp [hw]) ?_
        refine evSeq_go rfl (by simp [hF] <;> rfl) (by rfl) (by simp [hw]) ?_;rfl
       refine cT (by simp [hF] <;> rfl) ?_;refine Tri.exit ?_;refine inSeq_exit ?_;refine inBlk_exit ?_;apply sN;apply rN hC
       ·iterate 2 refine evSeq_go rfl (by simp [hF] <;> rfl) (by rfl) (by simp [hw]) ?_
        rfl
       refine inLoop_norm ?_;refine ih (pre ++ [y ++ [b]]) best _ (by simpa using hS) (by simp [hw]) (by simp [h0]) (by simp [h3]) (by simp [h6]) (by simp <;> exact hwp) ?_;intro t' k1 k2;exact hE t' k1 (by rw [k2]; simp only [sgF]; rw [hok]; simp)
      | false =>
       have hok : okP s best (y ++ [b]) = true := by simp only [okP, hpv, hlb, hlv, hat, hqv, decide_eq_true hbt, decide_eq_true hgn, Bool.and_false, Bool.not_false, Bool.and_true]
       have hq : ∀ H, call 73 [.i .u8 d.toNat] H = .val (.b false) H := fun H => by rw [hq1, hqv]
       have hF := ai @h0 (ai @h3 (ai @h6 (ai @h7 (ai @hlt (ai @hx (ai @hwp (ai @hb (ai @hp (ai @hwy (ai @hl (ai @hg (ai @hd (ai @hd2 @hq)))))))))))));refine LTri.round' ?_;apply rS hC
       ·refine evSeq_go rfl (by simp [hF] <;> rfl) (by rfl) (by simp [hw]) ?_;rfl
       apply sQ;refine Tri.condG (o := ?of2) (b := ?bf2) ?gf2 ?rf2 ?yf2 ?nf2;case gf2 => simp [hF] <;> rfl
       case rf2 => rfl
       case yf2 =>
        intro hy2;apply Tri.skip;apply sN;apply sQ;apply bK;apply rS hC
        ·iterate 2 refine evSeq_go rfl (by simp [hF] <;> rfl) (by rfl) (by simp [hw]) ?_
         rfl
        apply sQ;apply rS hC
        ·iterate 6 refine evSeq_go rfl (by simp [hF] <;> rfl) (by rfl) (by simp [hw]) ?_
         iterate 4 refine evSeq_go (by simp [wants, hF]) (by simp [hF] <;> rfl) (by rfl) (by simp [hw]) ?_
         refine evSeq_go rfl (by simp [hF] <;> rfl) (by rfl) (by simp [hw]) ?_;rfl
        refine cF (by simp [hF] <;> rfl) ?_;apply Tri.skip;apply sN;apply sQ;apply rS hC
        ·iterate 7 refine evSeq_go rfl (by simp [hF] <;> rfl) (by rfl) (by simp [hw]) ?_
         iterate 5 refine evSeq_go (by simp [wants, hF]) (by simp [hF] <;> rfl) (by rfl) (by simp [hw]) ?_
         iterate 2 refine evSeq_go rfl (by simp [hF] <;> rfl) (by rfl) (by simp [hw]) ?_
         iterate 5 refine evSeq_go (by simp [wants, hF]) (by simp [hF] <;> rfl) (by rfl) (by simp [hw]) ?_
         refine evSeq_go rfl (by simp [hF] <;> rfl) (by rfl) (by simp [hw]) ?_;rfl
        refine cF (by simp [hF] <;> rfl) ?_;apply Tri.skip;apply sN;apply rN hC
        ·iterate 2 refine evSeq_go rfl (by simp [hF] <;> rfl) (by rfl) (by simp [hw]) ?_
         rfl
        apply bN;apply sN;apply rN hC
        ·iterate 2 refine evSeq_go rfl (by simp [hF] <;> rfl) (by rfl) (by simp [hw]) ?_
         rfl
        refine inLoop_norm ?_;refine ih (pre ++ [y ++ [b]]) (y ++ [b]) _ (by simpa using hS) (by simp [hw]) (by simp [h0]) (by simp [h3]) (by simp [h6]) (by simp <;> exact hwp) ?_;intro t' k1 k2;exact hE t' k1 (by rw [k2]; simp only [sgF]; rw [hok]; simp)
       case nf2 =>
        intro hn2;exact absurd hn2 (by simp [hF])
theorem ld_signs (H : Heap) : loadA TT 77 H (.gp 0 0) = some (.agg (sgnL.map .s)) := rfl
theorem body_2054 {call : CallF} (hC : call.Sound Tryz.prog TT) (s : List UInt8) (hpre : ∀ p H, call 70 [.s s, .s p] H = .val (.b (preR s p)) H) (hlet : ∀ c : Int, ∀ H, call 72 [.i .u8 c] H = .val (.b (letR c || (c == 95))) H) (hwor : ∀ c : UInt8, ∀ H, call 73 [.i .u8 c.toNat] H = .val (.b (worR c.toNat)) H)  : EBody Tryz.prog TT 54 [.s s] (fun r => r = .val (.s (sgF s sgnL []))) := by
 refine en Tryz.f54 rfl rfl (by simp [Tryz.f54]) 44 rfl fun t hw hg => ?_;have h0 := hg 0 _ rfl;clear hg;try simp only [Nd.enc_eq] at *
 apply rS hC
 ·refine evSeq_go rfl (by simp [h0] <;> rfl) (by rfl) (by simp [hw]) ?_;rfl
 apply rS hC
 ·refine evSeq_go rfl (by simp [h0] <;> rfl) (by rfl) (by simp [hw]) ?_;rfl
 apply sQ;apply rS hC
 ·iterate 2 refine evSeq_go rfl (by simp [h0, ld_signs, -loadA] <;> rfl) (by rfl) (by simp [hw]) ?_
  rfl
 apply bK;refine Tri.loop ?_;refine loop2054 hC s hpre hlet hwor sgnL [] [] _ rfl (by simp [hw]) (by simp [h0]) (by simp) (by simp) (by simp) ?exit;case exit =>
  intro t2 hw h3;refine inBlk_exit ?_;apply sN;apply rS hC
  ·iterate 2 refine evSeq_go rfl (by simp [h0, h3] <;> rfl) (by rfl) (by simp [hw]) ?_
   rfl
  apply Tri.ret;refine endsE (by simp [Tryz.f54, h3] <;> rfl) (by rfl) ?_;rfl
theorem sp2054 : ∃ g, SpecOK Tryz.prog TT 54 g ∧ ∀ s : List UInt8, True → ∀ H, g [.s s] H = .val (.s (sgF s sgnL [])) H := by
 obtain ⟨g1, k1, s1⟩ := sp2070;obtain ⟨g2, k2, s2⟩ := sp83p;obtain ⟨g3, k3, s3⟩ := sp84p;refine spT 54 (fun s => .s (sgF s sgnL [])) (fun _ => True) (fun _ => rfl) fun s _ => ?_;exact body_2054 (ws (ws (ws n0 k1) k2) k3) s (fun p H => by rw [w_other _ _ _ _ rfl, w_other _ _ _ _ rfl, w_here]; exact s1 s p H) (fun c H => by rw [w_other _ _ _ _ rfl, w_here]; exact s2 c trivial H) fun c H => by rw [w_here]; exact s3 c trivial H
def plC : List V := [.i .u8 110, .s [10], .i .u8 116, .s [9], .i .u8 114, .s [13], .i .u8 48, .s [0], .i .u8 92, .s [92], .i .u8 34, .s [34], .i .u8 39, .s [39]]
def loC : List V := [.i .u8 120, .i .i64 2, .i .u8 117, .i .i64 4, .i .u8 85, .i .i64 6]
def plT (c : Int) : Option (List UInt8) := if c = 110 then some [10] else if c = 116 then some [9] else if c = 114 then some [13] else if c = 48 then some [0] else if c = 92 then some [92] else if c = 34 then some [34] else if c = 39 then some [39] else none
def loT (c : Int) : Nat := if c = 120 then 2 else if c = 117 then 4 else if c = 85 then 6 else 0
theorem get_pl (c : Int) : mapGet (some (.int .u8)) (.i .u8 c) plC = some ((plT c).map .s) := by
 unfold plC plT;simp only [mapGet, sameKey, if_true];by_cases h1 : c = 110
 ·subst h1; rfl
 by_cases h2 : c = 116
 ·subst h2; rfl
 by_cases h3 : c = 114
 ·subst h3; rfl
 by_cases h4 : c = 48
 ·subst h4; rfl
 by_cases h5 : c = 92
 ·subst h5; rfl
 by_cases h6 : c = 34
 ·subst h6; rfl
 by_cases h7 : c = 39
 ·subst h7; rfl
 simp only [beq_eq_false_iff_ne.2 h1, beq_eq_false_iff_ne.2 h2, beq_eq_false_iff_ne.2 h3, beq_eq_false_iff_ne.2 h4, beq_eq_false_iff_ne.2 h5, beq_eq_false_iff_ne.2 h6, beq_eq_false_iff_ne.2 h7, if_neg h1, if_neg h2, if_neg h3, if_neg h4, if_neg h5, if_neg h6, if_neg h7, Option.map_none]
theorem get_lo (c : Int) : mapGet (some (.int .u8)) (.i .u8 c) loC = some (if loT c = 0 then none else some (.i .i64 (loT c : Nat))) := by
 unfold loC loT;simp only [mapGet, sameKey, if_true];by_cases h1 : c = 120
 ·subst h1; rfl
 by_cases h2 : c = 117
 ·subst h2; rfl
 by_cases h3 : c = 85
 ·subst h3; rfl
 simp only [beq_eq_false_iff_ne.2 h1, beq_eq_false_iff_ne.2 h2, beq_eq_false_iff_ne.2 h3, if_neg h1, if_neg h2, if_neg h3, if_true]
theorem look_pl {K : Heap} {n : Nat} (h : K[n]? = some (some ⟨172, plC, .map⟩)) (c : Int) : evLookup TT 172 (.mp n) (.i .u8 c) true K = some (.tup [.s ((plT c).getD []), .b (plT c).isSome]) := by
  have e : evLookup TT 172 (.mp n) (.i .u8 c) true K = (match mapAt K n with
    | some blk => (match mapGet (some (.int .u8)) (.i .u8 c) blk.cells with
      | some (some v) => some (.tup [v, .b true])
      | some none => some (.tup [.s [], .b false])
      | none => none)
    | none => none) := rfl
  rw [e]
  simp only [mapAt, h, show (frzC plC).isNone = true from rfl, and_self, if_true, get_pl]
  cases plT c <;> rfl
theorem look_lo {K : Heap} {n : Nat} (h : K[n]? = some (some ⟨173, loC, .map⟩)) (c : Int) : evLookup TT 173 (.mp n) (.i .u8 c) false K = some (.i .i64 (loT c : Nat)) := by
  have e : evLookup TT 173 (.mp n) (.i .u8 c) false K = (match mapAt K n with
    | some blk => (match mapGet (some (.int .u8)) (.i .u8 c) blk.cells with
      | some (some v) => some v
      | some none => some (.i .i64 0)
      | none => none)
    | none => none) := rfl
  rw [e]
  simp only [mapAt, h, show (frzC loC).isNone = true from rfl, and_self, if_true, get_lo]
  by_cases h0 : loT c = 0
  · rw [if_pos h0, h0]; rfl
  · rw [if_neg h0]
def Bld (H : Heap) (n : Nat) (l : List UInt8) : Prop :=
 ∃ a, (a = .nilp ∨ a = .ptr n 0) ∧ ((H[n]? = some (some ⟨66, [a, .nils], .all⟩) ∧ l = []) ∨ ∃ m, m ≠ n ∧ l ≠ [] ∧ H[n]? = some (some ⟨66, [a, .sl m 1 0 l.length none], .all⟩) ∧ H[m]? = some (some ⟨5, bysV l, .more⟩))
theorem bysV_inj : ∀ {l l' : List UInt8}, bysV l = bysV l' → l = l'
 | [], [], _ => rfl
 | [], _ :: _, h => by cases h
 | _ :: _, [], h => by cases h
 | c :: l, d :: l', h => by
  simp only [bysV, List.map_cons, List.cons.injEq, V.i.injEq, true_and, Int.ofNat_inj] at h;rw [UInt8.toNat_inj.1 h.1, bysV_inj (l := l) (l' := l') h.2]
theorem Bld.inj {H : Heap} {n : Nat} {l l' : List UInt8} (h : Bld H n l) (h' : Bld H n l') : l = l' := by
 obtain ⟨a, _, ⟨h1, rfl⟩ | ⟨m, h1, h2, h3, h4⟩⟩ := h
 ·obtain ⟨a', _, ⟨_, rfl⟩ | ⟨m', _, _, h3', _⟩⟩ := h'
  ·rfl
  ·rw [h1] at h3'; simp at h3'
 ·obtain ⟨a', _, ⟨h1', rfl⟩ | ⟨m', _, _, h3', h4'⟩⟩ := h'
  ·rw [h3] at h1'; simp at h1'
  ·rw [h3] at h3';simp only [Option.some.injEq, Blk.mk.injEq, List.cons.injEq, V.sl.injEq, true_and, and_true] at h3';obtain ⟨_, rfl, _⟩ := h3';rw [h4] at h4';simp only [Option.some.injEq, Blk.mk.injEq, true_and, and_true] at h4';exact bysV_inj h4'
theorem tr_cc1 : codeT TT shp 20 [] (bodyOf Tryz.f67) [] ⟨[(0, .f1 (.ptr 0) (.va 0))], ⟨.va 1, [(.va 0, some ⟨66, .f2 .cons (.cv .nilp) (.f2 .cons (.va 2) .nil), .all⟩)], []⟩, 3, []⟩ (KF TT Tryz.f67 []) = .asks (.ext 91 (x1 (xp v0))) [] (xp v0) (.fin (xt .nil) ⟨v1,[(v0,xk 66 (x2 (xp v0) v2))],[]⟩) (.stuck 0) := by kernel_rfl
theorem tr_cc2 : codeT TT shp 20 [] (bodyOf Tryz.f67) [] ⟨[(0, .f1 (.ptr 0) (.va 0))], ⟨.va 1, [(.va 0, some ⟨66, .f2 .cons (.f1 (.ptr 0) (.va 0)) (.f2 .cons (.va 2) .nil), .all⟩)], []⟩, 3, []⟩ (KF TT Tryz.f67 []) = .fin (xt .nil) ⟨v1,[(v0,xk 66 (x2 (xp v0) v2))],[]⟩ := by kernel_rfl
theorem tr_wb1 : codeT TT shp 17 [] (bodyOf Tryz.f37) [] ⟨[(0, .f1 (.ptr 0) (.va 0)), (1, .f1 (.vi .u8) (.va 3))], ⟨.va 1, [(.va 0, some ⟨66, .f2 .cons (.va 2) (.f2 .cons (.cv .nils) .nil), .all⟩)], []⟩, 4, []⟩ (KF TT Tryz.f37 []) = .askk (.call 67 (x1 (xp v0))) ⟨v1,[(v0,xk 66 (x2 v2 (.cv .nils)))],[]⟩ [] (.cv (.tup [])) [(v0,xR 66 (x2 (xp v0) (.cv .nils)))] (.need (xE c0 v3) (.need (xL v3 (xc 256)) (.fin (.cv .nili) ⟨v4,[(v0,xk 66 (x2 (xp v0) (.f2 (.sl 1) (xN (xh v4) (.cn 1)) (xl (xB (.cs []) v3)))))],[xk 5 (x1 (xu v3)),some ⟨5,xy (xB (.cs []) v3),.more⟩]⟩))) (.stuck 0) := by kernel_rfl
theorem tr_wb2 : codeT TT shp 17 [] (bodyOf Tryz.f37) [] ⟨[(0, .f1 (.ptr 0) (.va 0)), (1, .f1 (.vi .u8) (.va 3))], ⟨.va 1, [(.va 0, some ⟨66, .f2 .cons (.va 2) (.f2 .cons (.f2 (.sl 1) (.va 4) (.f1 .lenS (.va 5))) .nil), .all⟩), (.va 4, some ⟨5, .f1 .bys (.va 5), .more⟩)], []⟩, 6, []⟩ (KF TT Tryz.f37 []) = let qa:E:=.f2 (.sl 1) v4 (xl v5);let qb:E:=xc 1099511627776;.askk (.call 67 (x1 (xp v0))) ⟨v1,[(v0,xk 66 (x2 v2 qa)),(v4,some ⟨5,xy v5,.more⟩)],[]⟩ [] (.cv (.tup [])) [(v0,xR 66 (x2 (xp v0) qa)),(v4,⟨5,xy v5,.more⟩)] (.need (xE c0 v3) (.need (xL v3 (xc 256)) (.need (xE (.f2 .mul (xa (xl v5) c1) c1) qb) (.need (xE (xa (xl v5) c1) qb) (.fin (.cv .nili) ⟨v6,[(v0,xk 66 (x2 (xp v0) (.f2 (.sl 1) (xN (xh v6) (.cn 1)) (xl (xB v5 v3))))),(v4,none)],[xk 5 (x1 (xu v3)),some ⟨5,xy (xB v5 v3),.more⟩]⟩))))) (.stuck 0) := by kernel_rfl
theorem tr_ws1 : codeT TT shp 19 [] (bodyOf Tryz.f38) [] ⟨[(0, .f1 (.ptr 0) (.va 0)), (1, .f1 .vs (.va 3))], ⟨.va 1, [(.va 0, some ⟨66, .f2 .cons (.va 2) (.f2 .cons (.cv .nils) .nil), .all⟩)], []⟩, 4, []⟩ (KF TT Tryz.f38 []) = let qb:E:=x2 (xp v0) (.cv .nils);let qc:E:=xl v3;let qa:E:=xt (x2 (xi qc) (.cv .nili));let qd:E:=xc 1099511627776;.askk (.call 67 (x1 (xp v0))) ⟨v1,[(v0,xk 66 (x2 v2 (.cv .nils)))],[]⟩ [] (.cv (.tup [])) [(v0,xR 66 qb)] (.ite (xe qc c0) (.fin qa ⟨v4,[(v0,xk 66 qb)],[]⟩) (.need (xE (.f2 .mul qc c1) qd) (.need (xE qc qd) (.fin qa ⟨v4,[(v0,xk 66 (x2 (xp v0) (.f2 (.sl 1) (xN (xh v4) (.cn 0)) qc)))],[some ⟨5,xy v3,.more⟩]⟩)))) (.stuck 0) := by kernel_rfl
theorem tr_ws2 : codeT TT shp 19 [] (bodyOf Tryz.f38) [] ⟨[(0, .f1 (.ptr 0) (.va 0)), (1, .f1 .vs (.va 3))], ⟨.va 1, [(.va 0, some ⟨66, .f2 .cons (.va 2) (.f2 .cons (.f2 (.sl 1) (.va 4) (.f1 .lenS (.va 5))) .nil), .all⟩), (.va 4, some ⟨5, .f1 .bys (.va 5), .more⟩)], []⟩, 6, []⟩ (KF TT Tryz.f38 []) = let qa:E:=.f2 (.sl 1) v4 (xl v5);let qc:E:=xa (xl v5) (xl v3);let qd:E:=xc 1099511627776;let qb:E:=xt (x2 (xi (xl v3)) (.cv .nili));.askk (.call 67 (x1 (xp v0))) ⟨v1,[(v0,xk 66 (x2 v2 qa)),(v4,some ⟨5,xy v5,.more⟩)],[]⟩ [] (.cv (.tup [])) [(v0,xR 66 (x2 (xp v0) qa)),(v4,⟨5,xy v5,.more⟩)] (.need (xE (.f2 .mul qc c1) qd) (.need (xE qc qd) (.ite (xe (xl v3) c0) (.fin qb ⟨v6,[(v0,xk 66 (x2 (xp v0) qa)),(v4,some ⟨5,xy v5,.more⟩)],[]⟩) (.fin qb ⟨v6,[(v0,xk 66 (x2 (xp v0) (.f2 (.sl 1) (xN (xh v6) (.cn 0)) (xl (xP v5 v3))))),(v4,none)],[some ⟨5,xy (xP v5 v3),.more⟩]⟩)))) (.stuck 0) := by kernel_rfl
theorem tr_bs1 : codeT TT shp 14 [] (bodyOf Tryz.f39) [] ⟨[(0, .f1 (.ptr 0) (.va 0))], ⟨.va 1, [(.va 0, some ⟨66, .f2 .cons (.va 2) (.f2 .cons (.cv .nils) .nil), .all⟩)], []⟩, 3, []⟩ (KF TT Tryz.f39 []) = .fin (xs (.cs [])) ⟨v1,[(v0,xk 66 (x2 v2 (.cv .nils)))],[]⟩ := by kernel_rfl
theorem tr_bs2 : codeT TT shp 14 [] (bodyOf Tryz.f39) [] ⟨[(0, .f1 (.ptr 0) (.va 0))], ⟨.va 1, [(.va 0, some ⟨66, .f2 .cons (.va 2) (.f2 .cons (.f2 (.sl 1) (.va 3) (.f1 .lenS (.va 4))) .nil), .all⟩), (.va 3, some ⟨5, .f1 .bys (.va 4), .more⟩)], []⟩, 5, []⟩ (KF TT Tryz.f39 []) = .need (xL c0 (xl v4)) (.need (xE (xl v4) (xc 1099511627776)) (.fin (xs v4) ⟨v1,[(v0,xk 66 (x2 v2 (.f2 (.sl 1) v3 (xl v4)))),(v3,some ⟨5,.f2 .cons (.cv (.tup [])) (xy v4),.map⟩)],[]⟩)) := by kernel_rfl
theorem ext_noesc : TT.ext 91 = some extSame := rfl
theorem sp79 : ∃ g, SpecOK Tryz.prog TT 67 g ∧ ∀ (p : Nat × V × V) (H : Heap), (H[p.1]? = some (some ⟨66, [p.2.1, p.2.2], .all⟩) ∧ (p.2.1 = .nilp ∨ p.2.1 = .ptr p.1 0)) → g [.ptr p.1 0] H = .val (.tup []) (H.set p.1 (some ⟨66, [.ptr p.1 0, p.2.2], .all⟩)) := by
 refine spec_hp TT_ok 67 (fun p : Nat × V × V => [.ptr p.1 0]) (fun p H => H[p.1]? = some (some ⟨66, [p.2.1, p.2.2], .all⟩) ∧ (p.2.1 = .nilp ∨ p.2.1 = .ptr p.1 0)) (fun p H r => r = .val (.tup []) (H.set p.1 (some ⟨66, [.ptr p.1 0, p.2.2], .all⟩))) ?_ ?_
 ·rintro ⟨n, a, b⟩ ⟨n', a', b'⟩ H r ⟨h1, _⟩ ⟨h2, _⟩ he hr;simp only [List.cons.injEq, V.ptr.injEq, and_true] at he;subst he;simp only at h1 h2 hr ⊢;rw [h1] at h2;simp only [Option.some.injEq, Blk.mk.injEq, List.cons.injEq, true_and, and_true] at h2;rw [← h2.2];exact hr
 ·rintro ⟨n, a, b⟩ H ⟨h1, h2⟩;simp only at h1 h2 ⊢;rcases h2 with rfl | rfl
  ·refine XBody.sym TT_ok n0 (fn := Tryz.f67) rfl rfl (by simp [Tryz.f67]) tr_cc1 (by kernel_rfl) [.un n, .uh H, .uv b] rfl ⟨by rw [get_init]; rfl, trivial⟩ (Heap.set_self h1) ⟨by simp; exact Heap.lt h1, by simp⟩ ?_;simp -implicitDefEqProofs only [VC, isR, exU, Ask.den, forall_eq, E.den, O1.den, O2.den, O3.den, U.int_ui, U.boo_ub, U.val_uv, U.lst_ul, U.str_us, U.nat_un, U.heap_uh, SH.den, setsD, newD, bD, SB.den, factsTo, LQ, List.cons_append, List.nil_append, List.getElem?_cons_zero, List.getElem?_cons_succ, Option.getD_some, ltB_true, ltB_false, leB_true, leB_false, beq_iff_eq, bne_iff_ne, beq_eq_false_iff_ne, Int.toNat_natCast, ext_noesc];exact .inl ⟨fun K => rfl, trivial⟩
  ·refine XBody.sym TT_ok n0 (fn := Tryz.f67) rfl rfl (by simp [Tryz.f67]) tr_cc2 (by kernel_rfl) [.un n, .uh H, .uv b] rfl ⟨by rw [get_init]; rfl, trivial⟩ (Heap.set_self h1) ⟨by simp; exact Heap.lt h1, by simp⟩ ?_;simp -implicitDefEqProofs only [VC, isR, exU, Ask.den, forall_eq, E.den, O1.den, O2.den, O3.den, U.int_ui, U.boo_ub, U.val_uv, U.lst_ul, U.str_us, U.nat_un, U.heap_uh, SH.den, setsD, newD, bD, SB.den, factsTo, LQ, List.cons_append, List.nil_append, List.getElem?_cons_zero, List.getElem?_cons_succ, Option.getD_some, ltB_true, ltB_false, leB_true, leB_false, beq_iff_eq, bne_iff_ne, beq_eq_false_iff_ne, Int.toNat_natCast]
theorem get_new2' (K : Heap) (a b : Option Blk) (n : Nat) (h : n = K.length + 1) : (K ++ [a] ++ [b])[n]? = some b := by
 subst h;rw [List.append_assoc, List.getElem?_append_right (by omega), Nat.add_sub_cancel_left];rfl
theorem get_old2' (K : Heap) (a b : Option Blk) (n : Nat) (h : n < K.length) : (K ++ [a] ++ [b])[n]? = K[n]? := by
 rw [List.append_assoc, List.getElem?_append_left h]
theorem get_new1 (K : Heap) (b : Option Blk) (n : Nat) (h : n = K.length) : (K ++ [b])[n]? = some b := by
 subst h;simp
theorem get_old1 (K : Heap) (b : Option Blk) (n : Nat) (h : n < K.length) : (K ++ [b])[n]? = K[n]? := List.getElem?_append_left h
abbrev CcH (call : CallF) : Prop := ∀ (n : Nat) (a b : V) (H : Heap), H[n]? = some (some ⟨66, [a, b], .all⟩) → (a = .nilp ∨ a = .ptr n 0) → call 67 [.ptr n 0] H = .val (.tup []) (H.set n (some ⟨66, [.ptr n 0, b], .all⟩))
theorem sp80 : ∃ g, SpecOK Tryz.prog TT 37 g ∧ ∀ (p : Nat × List UInt8 × UInt8) (H : Heap), (Bld H p.1 p.2.1 ∧ p.2.1.length < 100000000) → ∃ H', g [.ptr p.1 0, .i .u8 p.2.2.toNat] H = .val .nili H' ∧ Bld H' p.1 (p.2.1 ++ [p.2.2]) := by
 obtain ⟨g1, k1, s1⟩ := sp79;have hC := ws n0 k1;have hcc : CcH (CallF.none.with 67 g1) := fun n a b H h1 h2 => by rw [w_here]; exact s1 (n, a, b) H ⟨h1, h2⟩
 generalize CallF.none.with 67 g1 = call at hC hcc;refine spec_hp TT_ok 37 (fun p : Nat × List UInt8 × UInt8 => [.ptr p.1 0, .i .u8 p.2.2.toNat]) (fun p H => Bld H p.1 p.2.1 ∧ p.2.1.length < 100000000) (fun p H r => ∃ H', r = .val .nili H' ∧ Bld H' p.1 (p.2.1 ++ [p.2.2])) ?_ ?_
 ·rintro ⟨n, l, c⟩ ⟨n', l', c'⟩ H r ⟨h1, _⟩ ⟨h2, _⟩ he hr;simp only [List.cons.injEq, V.ptr.injEq, V.i.injEq, true_and, and_true, Int.ofNat_inj] at he;obtain ⟨rfl, hc⟩ := he;have hc := UInt8.toNat_inj.1 hc;subst hc;have := h1.inj h2;simp only at this;subst this;exact hr
 ·rintro ⟨n, l, c⟩ H ⟨hb, hl⟩;simp only at hb hl ⊢;have hc := u8_nn c;obtain ⟨a, ha, ⟨h1, rfl⟩ | ⟨m, hm, hne, h1, h2⟩⟩ := hb
  ·refine XBody.sym TT_ok hC (fn := Tryz.f37) rfl rfl (by simp [Tryz.f37]) tr_wb1 (by kernel_rfl) [.un n, .uh H, .uv a, .ui c.toNat] rfl ⟨by rw [get_init]; rfl, by rw [get_init]; rfl, trivial⟩ (Heap.set_self h1) ⟨by simp; exact Heap.lt h1, by simp⟩ ?_;have e1 : H.set n (some ⟨66, [a, .nils], .all⟩) = H := (Heap.set_self h1).symm;simp -implicitDefEqProofs only [VC, isR, exU, Ask.den, forall_eq, E.den, O1.den, O2.den, O3.den, U.int_ui, U.boo_ub, U.val_uv, U.lst_ul, U.str_us, U.nat_un, U.heap_uh, SH.den, setsD, newD, bD, SB.den, factsTo, LQ, List.cons_append, List.nil_append, List.getElem?_cons_zero, List.getElem?_cons_succ, Option.getD_some, ltB_true, ltB_false, leB_true, leB_false, beq_iff_eq, bne_iff_ne, beq_eq_false_iff_ne, Int.toNat_natCast, knownIn, e1];refine .inl ⟨_, hcc n a _ H h1 ha, ⟨Heap.get_self h1, trivial⟩, by omega, by omega, _, rfl, .ptr n 0, .inr rfl, .inr ⟨(H.set n (some ⟨66, [.ptr n 0, .nils], .all⟩)).length + 1, ?_, by simp, ?_, ?_⟩⟩
   ·have := Heap.lt h1; simp; omega
   ·refine (get_old2' _ _ _ _ (by simp; exact Heap.lt h1)).trans ((Heap.get_self (Heap.get_self h1)).trans ?_);simp
   ·refine (get_new2' _ _ _ _ (by simp)).trans ?_;simp [bysV]
  ·refine XBody.sym TT_ok hC (fn := Tryz.f37) rfl rfl (by simp [Tryz.f37]) tr_wb2 (by kernel_rfl) [.un n, .uh H, .uv a, .ui c.toNat, .un m, .us l] rfl ⟨by rw [get_init]; rfl, by rw [get_init]; rfl, trivial⟩ ?_ ⟨by simp; exact ⟨Heap.lt h1, Heap.lt h2⟩, by simp; exact fun e => hm e.symm⟩ ?_
   ·show H = (H.set m (some ⟨5, bysV l, .more⟩)).set n (some ⟨66, [a, .sl m 1 0 l.length none], .all⟩);rw [← Heap.set_self h2, ← Heap.set_self h1]
   have e1 : H.set n (some ⟨66, [a, .sl m 1 0 l.length none], .all⟩) = H := (Heap.set_self h1).symm;have e2 : H.set m (some ⟨5, l.map fun c => .i .u8 c.toNat, .more⟩) = H := (Heap.set_self h2).symm;simp -implicitDefEqProofs only [VC, isR, exU, Ask.den, forall_eq, E.den, O1.den, O2.den, O3.den, U.int_ui, U.boo_ub, U.val_uv, U.lst_ul, U.str_us, U.nat_un, U.heap_uh, SH.den, setsD, newD, bD, SB.den, factsTo, LQ, List.cons_append, List.nil_append, List.getElem?_cons_zero, List.getElem?_cons_succ, Option.getD_some, ltB_true, ltB_false, leB_true, leB_false, beq_iff_eq, bne_iff_ne, beq_eq_false_iff_ne, Int.toNat_natCast, knownIn, e2, e1];have hml : m < (H.set n (some (⟨66, [.ptr n 0, .sl m 1 0 l.length none], .all⟩ : Blk))).length := by simp; exact Heap.lt h2
   refine .inl ⟨_, hcc n a _ H h1 ha, ⟨Heap.get_self h1, ?_, trivial⟩, by omega, by omega, by omega, by omega, _, rfl, .ptr n 0, .inr rfl, .inr ⟨(H.set n (some ⟨66, [.ptr n 0, .sl m 1 0 l.length none], .all⟩)).length + 1, ?_, by simp, ?_, ?_⟩⟩
   ·rw [List.getElem?_set_ne (fun e => hm e.symm)]; exact h2
   ·have := Heap.lt h1; simp; omega
   ·refine (get_old2' _ _ _ _ (by simp; exact Heap.lt h1)).trans (Heap.get_self (c := some ⟨66, [.ptr n 0, .sl m 1 0 l.length none], .all⟩) ?_ |>.trans ?_)
    ·rw [List.getElem?_set_ne hm]; exact Heap.get_self h1
    ·simp
   ·refine (get_new2' _ _ _ _ (by simp)).trans ?_;simp [bysV]
theorem tr_bs3 : codeT TT shp 14 [] (bodyOf Tryz.f39) [] ⟨[(0, .f1 (.ptr 0) (.va 0))], ⟨.va 1, [(.va 0, some ⟨66, .f2 .cons (.va 2) (.f2 .cons (.f2 (.sl 1) (.va 3) (.f1 .lenS (.va 4))) .nil), .all⟩), (.va 3, some ⟨5, .f2 .cons (.cv (.tup [])) (.f1 .bys (.va 4)), .map⟩)], []⟩, 5, []⟩ (KF TT Tryz.f39 []) = .need (xL c0 (xl v4)) (.need (xE (xl v4) (xc 1099511627776)) (.fin (xs v4) ⟨v1,[(v0,xk 66 (x2 v2 (.f2 (.sl 1) v3 (xl v4)))),(v3,some ⟨5,.f2 .cons (.cv (.tup [])) (xy v4),.map⟩)],[]⟩)) := by kernel_rfl
def BldR (H : Heap) (n : Nat) (l : List UInt8) : Prop :=
 ∃ a, (H[n]? = some (some ⟨66, [a, .nils], .all⟩) ∧ l = []) ∨ ∃ m, m ≠ n ∧ l ≠ [] ∧ H[n]? = some (some ⟨66, [a, .sl m 1 0 l.length none], .all⟩) ∧ (H[m]? = some (some ⟨5, bysV l, .more⟩) ∨ H[m]? = some (some ⟨5, .tup [] :: bysV l, .map⟩))
theorem Bld.read {H : Heap} {n : Nat} {l : List UInt8} (h : Bld H n l) : BldR H n l := by
 obtain ⟨a, _, h | ⟨m, h1, h2, h3, h4⟩⟩ := h
 ·exact ⟨a, .inl h⟩
 ·exact ⟨a, .inr ⟨m, h1, h2, h3, .inl h4⟩⟩
theorem BldR.inj {H : Heap} {n : Nat} {l l' : List UInt8} (h : BldR H n l) (h' : BldR H n l') : l = l' := by
 obtain ⟨a, ⟨h1, rfl⟩ | ⟨m, h1, h2, h3, h4⟩⟩ := h
 ·obtain ⟨a', ⟨_, rfl⟩ | ⟨m', _, _, h3', _⟩⟩ := h'
  ·rfl
  ·rw [h1] at h3'; simp at h3'
 ·obtain ⟨a', ⟨h1', rfl⟩ | ⟨m', _, _, h3', h4'⟩⟩ := h'
  ·rw [h3] at h1'; simp at h1'
  ·rw [h3] at h3';simp only [Option.some.injEq, Blk.mk.injEq, List.cons.injEq, V.sl.injEq, true_and, and_true] at h3';obtain ⟨_, rfl, _⟩ := h3';rcases h4 with h4 | h4 <;> rcases h4' with h4' | h4' <;> rw [h4] at h4'
   ·simp only [Option.some.injEq, Blk.mk.injEq, true_and, and_true] at h4';exact bysV_inj h4'
   ·simp at h4'
   ·simp at h4'
   ·simp only [Option.some.injEq, Blk.mk.injEq, List.cons.injEq, true_and, and_true] at h4';exact bysV_inj h4'
theorem sp44 : ∃ g, SpecOK Tryz.prog TT 39 g ∧ ∀ (p : Nat × List UInt8) (H : Heap), (BldR H p.1 p.2 ∧ p.2.length < 100000000) → ∃ H', g [.ptr p.1 0] H = .val (.s p.2) H' ∧ BldR H' p.1 p.2 := by
 refine spec_hp TT_ok 39 (fun p : Nat × List UInt8 => [.ptr p.1 0]) (fun p H => BldR H p.1 p.2 ∧ p.2.length < 100000000) (fun p H r => ∃ H', r = .val (.s p.2) H' ∧ BldR H' p.1 p.2) ?_ ?_
 ·rintro ⟨n, l⟩ ⟨n', l'⟩ H r ⟨h1, _⟩ ⟨h2, _⟩ he hr;simp only [List.cons.injEq, V.ptr.injEq, and_true] at he;subst he;have := h1.inj h2;simp only at this;subst this;exact hr
 ·rintro ⟨n, l⟩ H ⟨hb, hl⟩;simp only at hb hl ⊢;obtain ⟨a, ⟨h1, rfl⟩ | ⟨m, hm, hne, h1, h2⟩⟩ := hb
  ·refine XBody.sym TT_ok n0 (fn := Tryz.f39) rfl rfl (by simp [Tryz.f39]) tr_bs1 (by kernel_rfl) [.un n, .uh H, .uv a] rfl ⟨by rw [get_init]; rfl, trivial⟩ (Heap.set_self h1) ⟨by simp; exact Heap.lt h1, by simp⟩ ?_;have e1 : H.set n (some ⟨66, [a, .nils], .all⟩) = H := (Heap.set_self h1).symm;simp -implicitDefEqProofs only [VC, isR, exU, Ask.den, forall_eq, E.den, O1.den, O2.den, O3.den, U.int_ui, U.boo_ub, U.val_uv, U.lst_ul, U.str_us, U.nat_un, U.heap_uh, SH.den, setsD, newD, bD, SB.den, factsTo, LQ, List.cons_append, List.nil_append, List.getElem?_cons_zero, List.getElem?_cons_succ, Option.getD_some, ltB_true, ltB_false, leB_true, leB_false, beq_iff_eq, bne_iff_ne, beq_eq_false_iff_ne, Int.toNat_natCast, e1];exact ⟨H, rfl, a, .inl ⟨h1, rfl⟩⟩
  ·have hl0 : 0 < l.length := List.length_pos_iff.2 hne;rcases h2 with h2 | h2
   ·refine XBody.sym TT_ok n0 (fn := Tryz.f39) rfl rfl (by simp [Tryz.f39]) tr_bs2 (by kernel_rfl) [.un n, .uh H, .uv a, .un m, .us l] rfl ⟨by rw [get_init]; rfl, trivial⟩ ?_ ⟨by simp; exact ⟨Heap.lt h1, Heap.lt h2⟩, by simp; exact fun e => hm e.symm⟩ ?_
    ·show H = (H.set m (some ⟨5, bysV l, .more⟩)).set n (some ⟨66, [a, .sl m 1 0 l.length none], .all⟩);rw [← Heap.set_self h2, ← Heap.set_self h1]
    simp -implicitDefEqProofs only [VC, isR, exU, Ask.den, forall_eq, E.den, O1.den, O2.den, O3.den, U.int_ui, U.boo_ub, U.val_uv, U.lst_ul, U.str_us, U.nat_un, U.heap_uh, SH.den, setsD, newD, bD, SB.den, factsTo, LQ, List.cons_append, List.nil_append, List.getElem?_cons_zero, List.getElem?_cons_succ, Option.getD_some, ltB_true, ltB_false, leB_true, leB_false, beq_iff_eq, bne_iff_ne, beq_eq_false_iff_ne, Int.toNat_natCast];refine ⟨by omega, by omega, _, rfl, a, .inr ⟨m, hm, hne, ?_, .inr ?_⟩⟩
    ·exact Heap.get_self (c := some ⟨66, [a, .sl m 1 0 l.length none], .all⟩) (by rw [List.getElem?_set_ne hm]; exact h1)
    ·rw [List.getElem?_set_ne (fun e => hm e.symm), Heap.get_self h2];rfl
   ·refine XBody.sym TT_ok n0 (fn := Tryz.f39) rfl rfl (by simp [Tryz.f39]) tr_bs3 (by kernel_rfl) [.un n, .uh H, .uv a, .un m, .us l] rfl ⟨by rw [get_init]; rfl, trivial⟩ ?_ ⟨by simp; exact ⟨Heap.lt h1, Heap.lt h2⟩, by simp; exact fun e => hm e.symm⟩ ?_
    ·show H = (H.set m (some ⟨5, .tup [] :: bysV l, .map⟩)).set n (some ⟨66, [a, .sl m 1 0 l.length none], .all⟩);rw [← Heap.set_self h2, ← Heap.set_self h1]
    have e1 : H.set n (some ⟨66, [a, .sl m 1 0 l.length none], .all⟩) = H := (Heap.set_self h1).symm;have e2 : H.set m (some ⟨5, .tup [] :: l.map fun c => .i .u8 c.toNat, .map⟩) = H := (Heap.set_self h2).symm;simp -implicitDefEqProofs only [VC, isR, exU, Ask.den, forall_eq, E.den, O1.den, O2.den, O3.den, U.int_ui, U.boo_ub, U.val_uv, U.lst_ul, U.str_us, U.nat_un, U.heap_uh, SH.den, setsD, newD, bD, SB.den, factsTo, LQ, List.cons_append, List.nil_append, List.getElem?_cons_zero, List.getElem?_cons_succ, Option.getD_some, ltB_true, ltB_false, leB_true, leB_false, beq_iff_eq, bne_iff_ne, beq_eq_false_iff_ne, Int.toNat_natCast, e2, e1];exact ⟨by omega, by omega, H, rfl, a, .inr ⟨m, hm, hne, h1, .inr h2⟩⟩
theorem sp67 : ∃ g, SpecOK Tryz.prog TT 38 g ∧ ∀ (p : Nat × List UInt8 × List UInt8) (H : Heap), (Bld H p.1 p.2.1 ∧ p.2.1.length + p.2.2.length < 100000000) → ∃ H', g [.ptr p.1 0, .s p.2.2] H = .val (.tup [.i .i64 p.2.2.length, .nili]) H' ∧ Bld H' p.1 (p.2.1 ++ p.2.2) := by
 obtain ⟨g1, k1, s1⟩ := sp79;have hC := ws n0 k1;have hcc : CcH (CallF.none.with 67 g1) := fun n a b H h1 h2 => by rw [w_here]; exact s1 (n, a, b) H ⟨h1, h2⟩
 generalize CallF.none.with 67 g1 = call at hC hcc;refine spec_hp TT_ok 38 (fun p : Nat × List UInt8 × List UInt8 => [.ptr p.1 0, .s p.2.2]) (fun p H => Bld H p.1 p.2.1 ∧ p.2.1.length + p.2.2.length < 100000000) (fun p H r => ∃ H', r = .val (.tup [.i .i64 p.2.2.length, .nili]) H' ∧ Bld H' p.1 (p.2.1 ++ p.2.2)) ?_ ?_
 ·rintro ⟨n, l, c⟩ ⟨n', l', c'⟩ H r ⟨h1, _⟩ ⟨h2, _⟩ he hr;simp only [List.cons.injEq, V.ptr.injEq, V.s.injEq, true_and, and_true] at he;obtain ⟨rfl, rfl⟩ := he;have := h1.inj h2;simp only at this;subst this;exact hr
 ·rintro ⟨n, l, s⟩ H ⟨hb, hl⟩;simp only at hb hl ⊢;obtain ⟨a, ha, ⟨h1, rfl⟩ | ⟨m, hm, hne, h1, h2⟩⟩ := hb
  ·refine XBody.sym TT_ok hC (fn := Tryz.f38) rfl rfl (by simp [Tryz.f38]) tr_ws1 (by kernel_rfl) [.un n, .uh H, .uv a, .us s] rfl ⟨by rw [get_init]; rfl, by rw [get_init]; rfl, trivial⟩ (Heap.set_self h1) ⟨by simp; exact Heap.lt h1, by simp⟩ ?_;have e1 : H.set n (some ⟨66, [a, .nils], .all⟩) = H := (Heap.set_self h1).symm;simp -implicitDefEqProofs only [VC, isR, exU, Ask.den, forall_eq, E.den, O1.den, O2.den, O3.den, U.int_ui, U.boo_ub, U.val_uv, U.lst_ul, U.str_us, U.nat_un, U.heap_uh, SH.den, setsD, newD, bD, SB.den, factsTo, LQ, List.cons_append, List.nil_append, List.getElem?_cons_zero, List.getElem?_cons_succ, Option.getD_some, ltB_true, ltB_false, leB_true, leB_false, beq_iff_eq, bne_iff_ne, beq_eq_false_iff_ne, Int.toNat_natCast, knownIn, e1];have hl : s.length < 100000000 := by simpa using hl
   refine .inl ⟨_, hcc n a _ H h1 ha, ⟨Heap.get_self h1, trivial⟩, fun h0 => ?_, fun h0 => ⟨by omega, by omega, _, rfl, .ptr n 0, .inr rfl, .inr ⟨(H.set n (some ⟨66, [.ptr n 0, .nils], .all⟩)).length, ?_, ?_, ?_, ?_⟩⟩⟩
   ·have hs : s = [] := List.eq_nil_of_length_eq_zero (by omega);exact ⟨_, rfl, .ptr n 0, .inr rfl, .inl ⟨Heap.get_self (Heap.get_self h1), by simp [hs]⟩⟩
   ·have := Heap.lt h1; simp; omega
   ·intro e;exact h0 (by rw [show s = [] from e]; rfl)
   ·refine (get_old1 _ _ _ (by simp; exact Heap.lt h1)).trans ((Heap.get_self (Heap.get_self h1)).trans ?_);simp
   ·refine (get_new1 _ _ _ (by simp)).trans ?_;simp [bysV]
  ·refine XBody.sym TT_ok hC (fn := Tryz.f38) rfl rfl (by simp [Tryz.f38]) tr_ws2 (by kernel_rfl) [.un n, .uh H, .uv a, .us s, .un m, .us l] rfl ⟨by rw [get_init]; rfl, by rw [get_init]; rfl, trivial⟩ ?_ ⟨by simp; exact ⟨Heap.lt h1, Heap.lt h2⟩, by simp; exact fun e => hm e.symm⟩ ?_
   ·show H = (H.set m (some ⟨5, bysV l, .more⟩)).set n (some ⟨66, [a, .sl m 1 0 l.length none], .all⟩);rw [← Heap.set_self h2, ← Heap.set_self h1]
   have e1 : H.set n (some ⟨66, [a, .sl m 1 0 l.length none], .all⟩) = H := (Heap.set_self h1).symm;have e2 : H.set m (some ⟨5, l.map fun c => .i .u8 c.toNat, .more⟩) = H := (Heap.set_self h2).symm;simp -implicitDefEqProofs only [VC, isR, exU, Ask.den, forall_eq, E.den, O1.den, O2.den, O3.den, U.int_ui, U.boo_ub, U.val_uv, U.lst_ul, U.str_us, U.nat_un, U.heap_uh, SH.den, setsD, newD, bD, SB.den, factsTo, LQ, List.cons_append, List.nil_append, List.getElem?_cons_zero, List.getElem?_cons_succ, Option.getD_some, ltB_true, ltB_false, leB_true, leB_false, beq_iff_eq, bne_iff_ne, beq_eq_false_iff_ne, Int.toNat_natCast, knownIn, e2, e1];have hmm : (H.set n (some (⟨66, [.ptr n 0, .sl m 1 0 l.length none], .all⟩ : Blk)))[m]? = some (some ⟨5, bysV l, .more⟩) := by rw [List.getElem?_set_ne (fun e => hm e.symm)]; exact h2
   refine .inl ⟨_, hcc n a _ H h1 ha, ⟨Heap.get_self h1, hmm, trivial⟩, by omega, by omega, fun h0 => ?_, fun h0 => ⟨_, rfl, .ptr n 0, .inr rfl, .inr ⟨(H.set n (some ⟨66, [.ptr n 0, .sl m 1 0 l.length none], .all⟩)).length, ?_, ?_, ?_, ?_⟩⟩⟩
   ·have hs : s = [] := List.eq_nil_of_length_eq_zero (by omega);subst hs;refine ⟨_, rfl, .ptr n 0, .inr rfl, .inr ⟨m, hm, by simpa using hne, ?_, ?_⟩⟩
    ·refine (Heap.get_self (c := some ⟨66, [.ptr n 0, .sl m 1 0 l.length none], .all⟩) ?_).trans ?_
     ·rw [List.getElem?_set_ne hm]; exact Heap.get_self h1
     ·simp
    ·rw [List.getElem?_set_ne (fun e => hm e.symm), Heap.get_self hmm];simp [bysV]
   ·have := Heap.lt h1; simp; omega
   ·simp [hne]
   ·refine (get_old1 _ _ _ (by simp; exact Heap.lt h1)).trans ((Heap.get_self (c := some ⟨66, [.ptr n 0, .sl m 1 0 l.length none], .all⟩) ?_).trans ?_)
    ·rw [List.getElem?_set_ne hm]; exact Heap.get_self h1
    ·simp
   ·refine (get_new1 _ _ _ (by simp)).trans ?_;simp [bysV]
def vrR (c : Int) : Bool := (decide (0 ≤ c) && decide (c < 55296)) || (decide (57343 < c) && decide (c ≤ 1114111))
theorem tr_vr : codeT TT shp 17 [] (bodyOf Tryz.f116) [] ⟨[(0, .f1 (.vi .i32) (.va 0))], ⟨.va 1, [], []⟩, 2, []⟩ (KF TT Tryz.f116 []) = let qb:SH:=⟨v1,[],[]⟩;let qd:Tree:=.fin (xb (.cb true)) qb;let qc:Tree:=.fin (xb (.cb false)) qb;let qa:Tree:=.ite (xL (xc 57343) v0) (.ite (xE v0 (xc 1114111)) qd qc) qc;.ite (xE c0 v0) (.ite (xL v0 (xc 55296)) qd qa) qa := by kernel_rfl
theorem sp116 : ∃ g, SpecOK Tryz.prog TT 116 g ∧ ∀ c : Int, True → ∀ H, g [.i .i32 c] H = (Res.val (.b (vrR c))).at H := by
 refine spec_fn TT_ok TT_plain 116 (fun c : Int => [.i .i32 c]) (fun _ => True) (fun c => .val (.b (vrR c))) (fun _ _ => ⟨rfl, rfl⟩)
  (fun a b _ _ h => by
   simp only [List.cons.injEq, V.i.injEq, true_and, and_true] at h;rw [h]) fun c _ => ?_
 refine XBody.sym TT_ok n0 (fn := Tryz.f116) rfl rfl (by simp [Tryz.f116]) tr_vr (by kernel_rfl) [.ui c, .uh []] rfl ⟨by rw [get_init]; rfl, trivial⟩ rfl (WF_opq _ _) ?_;simp -implicitDefEqProofs only [VC, isR, exU, Ask.den, forall_eq, E.den, O1.den, O2.den, O3.den, U.int_ui, U.boo_ub, U.val_uv, U.lst_ul, U.str_us, U.nat_un, U.heap_uh, SH.den, setsD, newD, bD, SB.den, factsTo, LQ, List.cons_append, List.nil_append, List.getElem?_cons_zero, List.getElem?_cons_succ, Option.getD_some, ltB_true, ltB_false, leB_true, leB_false, beq_iff_eq, bne_iff_ne, beq_eq_false_iff_ne, Int.toNat_natCast];repeat' (first | refine And.intro ?_ ?_ | intro _)
 all_goals first
  | (exfalso; omega)
  | rw [show vrR c = true from by simp [vrR]; omega]
  | rw [show vrR c = false from by simp [vrR]; omega]
def hexP (s : List UInt8) : Nat → Nat → Nat → Option Nat
 | 0, _, c => some c
 | n + 1, i, c => if valN (atS s i) < 16 then hexP s n (i + 1) (16 * c + (valN (atS s i)).toNat) else none
def finP (l c : Nat) : Option (List UInt8 × Nat) := if c ≤ 1114111 ∧ vrR c = true ∧ (2 < l ∨ c < 128) then some ((Utf8.encode c).data.toList, 1 + l) else none
theorem finP_pos (l c : Nat) (h1 : c ≤ 1114111) (h2 : vrR c = true) (h3 : 2 < l ∨ c < 128) : finP l c = some ((Utf8.encode c).data.toList, 1 + l) := by
 unfold finP;rw [if_pos ⟨h1, h2, h3⟩]
theorem finP_neg (l c : Nat) (h : ¬ (c ≤ 1114111 ∧ vrR c = true ∧ (2 < l ∨ c < 128))) : finP l c = none := by
 unfold finP;rw [if_neg h]
def escQ (s : List UInt8) : Option (List UInt8 × Nat) := if s = [] then none else match plT (atS s 0) with
 | some x => some (x, 1)
 | none => if 0 < loT (atS s 0) ∧ loT (atS s 0) < s.length then (match hexP s (loT (atS s 0)) 1 0 with
  | some c => finP (loT (atS s 0)) c
  | none => none) else none
def escRes (o : Option (List UInt8 × Nat)) (at_ : Int) : Res := match o with
 | some p => .val (.tup [.s p.1, .i .i64 (p.2 : Nat)])
 | none => .pan (fltV 31 at_)
theorem valN_nn (c : Int) (h0 : 0 ≤ c) (h1 : c < 256) : 0 ≤ valN c ∧ valN c < 100 := by
 unfold valN digN;repeat' split
 all_goals omega
theorem w32 (c : Nat) (h : c ≤ 1114111) : IntKind.i32.wrap (c : Int) = (c : Int) := by
 have e : (2 : Int) ^ IntKind.i32.bits = 4294967296 := rfl;have e2 : (2 : Int) ^ (IntKind.i32.bits - 1) = 2147483648 := rfl;simp only [IntKind.wrap, e, e2, IntKind.signed, Bool.true_and, decide_eq_true_eq];split <;> omega
theorem atS_u8 (s : List UInt8) (i : Int) : 0 ≤ atS s i ∧ atS s i < 256 := by
 unfold atS;split
 ·have := UInt8.toNat_lt ‹UInt8›; omega
 ·omega
theorem tr_esc1 : codeT TT shp 85 [] (bodyOf Tryz.f100) [] ⟨[(0, .f1 .vs (.va 0)), (1, .f1 (.vi .i64) (.va 1))], ⟨.va 2, [], []⟩, 3, []⟩ (KF TT Tryz.f100 [0, 1, 9, 10, 11]) = let qf:E:=xi (xc 31);let qe:E:=.cv (.tup []);let qa:E:=.f2 .cons (xu (xc 110)) (.f2 .cons (xs (.cs [10])) (.f2 .cons (xu (xc 116)) (.f2 .cons (xs (.cs [9])) (.f2 .cons (xu (xc 114)) (.f2 .cons (xs (.cs [13])) (.f2 .cons (xu (xc 48)) (.f2 .cons (xs (.cs [0])) (.f2 .cons (xu (xc 92)) (.f2 .cons (xs (.cs [92])) (x4 (xu (xc 34)) (xs (.cs [34])) (xu (xc 39)) (xs (.cs [39]))))))))))));let qd:SH:=⟨v2,[],[some ⟨172,qa,.map⟩]⟩;let qb:SH:=⟨v2,[],[some ⟨172,qa,.map⟩,some ⟨173,.f2 .cons (xu (xc 120)) (.f2 .cons (xi c2) (x4 (xu (xc 117)) (xi (xc 4)) (xu (xc 85)) (xi (xc 6)))),.map⟩]⟩;let qc:Tree:=.leaf (.stop [true,true,true,true,true,true,true,false,true,false]) [(0,xs v0),(1,xi v1),(9,xi v5),(10,xv c0),(11,xi c1)] qb;.asks (.call 55 (x3 (xb (.f2 .neS v0 (.cs []))) qf (xi v1))) [] qe (.need (xL c0 (xl v0)) (.ask (.lookup 172 (xm (xN (xh v2) (.cn 0))) (xu (xA v0 c0)) true) qd [.s,.b] (xt (x2 (xs v3) (xb v4))) false (.ite v4 (.fin (xt (x2 (xs v3) (xi c1))) qd) (.ask (.lookup 173 (xm (xN (xh v2) (.cn 1))) (xu (xA v0 c0)) false) qb [.i] (xi v5) false (.ite (xG v5 c0) (.asks (.call 55 (x3 (xb (xG (xl v0) v5)) qf (xi v1))) [] qe qc (.pnc v6 qb)) (.asks (.call 55 (x3 (xb (.cb false)) qf (xi v1))) [] qe qc (.pnc v6 qb))) (.stuck 0))) (.stuck 0))) (.pnc v3 ⟨v2,[],[]⟩) := by kernel_rfl
theorem tr_esc2 : goT TT shp 85 [] [true, true, true, true, true, true, true, false, true, false, false] (bodyOf Tryz.f100) [] ⟨[(0, .f1 .vs (.va 0)), (1, .f1 (.vi .i64) (.va 1)), (9, .f1 (.vi .i64) (.va 3)), (10, .f1 (.vi .u64) (.va 4)), (11, .f1 (.vi .i64) (.va 5))], ⟨.va 2, [], []⟩, 6, []⟩ (KF TT Tryz.f100 [0, 1, 9, 10, 11]) = let qd:E:=xi (xc 31);let qf:E:=xi v1;let qc:E:=.cv (.tup []);let qb:SH:=⟨v2,[],[]⟩;let qg:E:=.f1 (.wrap .i32) v4;let qa:Tree:=.fin (xt (x2 (xs (.f1 .enc qg)) (xi (xw (xa c1 v3))))) qb;let qh:Tree:=.pnc v7 qb;let qe:E:=x3 (xb (.cb false)) qd qf;.ite (xE v5 v3) (.need (xE c0 v5) (.need (xL v5 (xl v0)) (.asks (.call 94 (x2 (xu (xA v0 v5)) (xi (xc 16)))) [.i,.b] (xt (x2 (xv v6) (xb v7))) (.asks (.call 55 (x3 (xb v7) qd qf)) [] qc (.leaf (.again [true,true,true,true,true,true,true,false,true,false,false]) [(0,xs v0),(1,qf),(9,xi v3),(10,xv (xz (xa (xz (.f2 .mul (xc 16) v4)) v6))),(11,xi (xw (xa v5 c1)))] qb) (.pnc v8 qb)) (.stuck 0)))) (.ite (xE v4 (xc 1114111)) (.asks (.call 116 (x1 (xj qg))) [.b] (xb v6) (.ite v6 (.ite (xG v3 c2) (.asks (.call 55 (x3 (xb (.cb true)) qd qf)) [] qc qa qh) (.asks (.call 55 (x3 (xb (xL v4 (xc 128))) qd qf)) [] qc qa qh)) (.asks (.call 55 qe) [] qc qa qh)) (.stuck 0)) (.asks (.call 55 qe) [] qc qa (.pnc v6 qb))) := by kernel_rfl
theorem head_esc {call : CallF} (hC : call.Sound Tryz.prog TT) (hm : MustH call) (hval : ∀ c : Int, 0 ≤ c → c < 256 → ∀ H, call 94 [.i .u8 c, .i .i64 16] H = .val (.tup [.i .u64 (valN c), .b (decide (valN c < 16))]) H) (hvr : ∀ c : Int, ∀ H, call 116 [.i .i32 c] H = .val (.b (vrR c)) H)
 (s : List UInt8) (at_ : Int) (l : Nat) (hl : l = 2 ∨ l = 4 ∨ l = 6) (hs : l < s.length) (hs2 : s.length < 1100000) : ∀ (n i c : Nat) (t : Tm) (H : Heap), i + n = l + 1 → 1 ≤ i → c < 16 ^ (i - 1) → t.wid = 85 → t.get 0 = .s s → t.get 1 = .i .i64 at_ → t.get 9 = .i .i64 (l : Nat) → t.get 10 = .i .u64 (c : Nat) → t.get 11 = .i .i64 (i : Nat) →
 ctx Tryz.prog TT [true, true, true, true, true, true, true, false, true, false, false] (bodyOf Tryz.f100) (EndsX TT Tryz.f100 (isR (escRes (match hexP s n i c with | some c => finP l c | none => none) at_))) (.norm t H) := by
 intro n;induction n with
 | zero =>
  intro i c t H hi h1 hc hw t0 t1 t9 t10 t11;refine LTri.symIn (p := [true, true, true, true, true, true, true, false, true, false]) TT_ok hC rfl tr_esc2 (by kernel_rfl) [.us s, .ui at_, .uh H, .ui (l : Nat), .ui (c : Nat), .ui (i : Nat)] rfl hw ⟨t0, t1, t9, t10, t11, trivial⟩ rfl (WF_opq _ _) ?_;clear t0 t1 t9 t10 t11 hw;simp -implicitDefEqProofs only [VC, isR, exU, Ask.den, forall_eq, E.den, O1.den, O2.den, O3.den, U.int_ui, U.boo_ub, U.val_uv, U.lst_ul, U.str_us, U.nat_un, U.heap_uh, SH.den, setsD, newD, bD, SB.den, factsTo, LQ, List.cons_append, List.nil_append, List.getElem?_cons_zero, List.getElem?_cons_succ, Option.getD_some, ltB_true, ltB_false, leB_true, leB_false, beq_iff_eq, bne_iff_ne, beq_eq_false_iff_ne, Int.toNat_natCast];simp only [hexP];refine ⟨fun h => absurd h (by omega), fun _ => ⟨fun h2 => ?_, fun h2 => ?_⟩⟩
  ·have hc2 : c ≤ 1114111 := by omega
   simp only [w32 c hc2];have hw1 : IntKind.i64.wrap (1 + (l : Int)) = ((1 + l : Nat) : Int) := by rw [w64 (by omega) (by omega)]; omega
   rw [hw1];refine .inl ⟨_, fun K => hvr _ K, fun h3 => ⟨fun h4 => ?_, fun h4 => ?_⟩, fun h3 => ?_⟩
   ·refine must_ask hm _ _ _ (fun _ => ?_) (fun h => by cases h);have := finP_pos l c hc2 h3 (.inl (by omega));rw [this]; simp only [escRes]
   ·refine must_ask hm _ _ _ (fun h => ?_) (fun h => ?_)
    ·have h : (c : Int) < 128 := by simpa using h
     have := finP_pos l c hc2 h3 (.inr (by omega));rw [this]; simp only [escRes]
    ·have h : ¬ (c : Int) < 128 := by simpa using h
     have := finP_neg l c (fun e => by have := e.2.2; omega);rw [this]; simp only [escRes]
   ·refine must_ask hm _ _ _ (fun h => by cases h) (fun _ => ?_);have := finP_neg l c (fun e => by rw [e.2.1] at h3; cases h3);rw [this]; simp only [escRes]
  ·refine must_ask hm _ _ _ (fun h => by cases h) (fun _ => ?_);have := finP_neg l c (fun e => by have := e.1; omega);rw [this]; simp only [escRes]
 | succ n ih =>
  intro i c t H hi h1 hc hw t0 t1 t9 t10 t11;refine LTri.symIn (p := [true, true, true, true, true, true, true, false, true, false]) TT_ok hC rfl tr_esc2 (by kernel_rfl) [.us s, .ui at_, .uh H, .ui (l : Nat), .ui (c : Nat), .ui (i : Nat)] rfl hw ⟨t0, t1, t9, t10, t11, trivial⟩ rfl (WF_opq _ _) ?_;clear t0 t1 t9 t10 t11 hw;have hu := atS_u8 s i;have hv := valN_nn _ hu.1 hu.2;simp -implicitDefEqProofs only [VC, isR, exU, Ask.den, forall_eq, E.den, O1.den, O2.den, O3.den, U.int_ui, U.boo_ub, U.val_uv, U.lst_ul, U.str_us, U.nat_un, U.heap_uh, SH.den, setsD, newD, bD, SB.den, factsTo, LQ, List.cons_append, List.nil_append, List.getElem?_cons_zero, List.getElem?_cons_succ, Option.getD_some, ltB_true, ltB_false, leB_true, leB_false, beq_iff_eq, bne_iff_ne, beq_eq_false_iff_ne, Int.toNat_natCast];refine ⟨fun _ => ⟨by omega, by omega, .inl ⟨_, _, fun K => hval _ hu.1 hu.2 K, ?_⟩⟩, fun h => absurd (show (i : Int) ≤ l by omega) h⟩;refine must_ask hm _ _ _ (fun h => ?_) (fun h => ?_)
  ·intro t' hw' f0 f1 f9 f10 f11;have h16 : valN (atS s i) < 16 := of_decide_eq_true h;simp only [hexP, if_pos h16];obtain ⟨v, hv'⟩ : ∃ v : Nat, valN (atS s i) = v := ⟨(valN (atS s i)).toNat, by omega⟩;rw [hv'] at f10 h16 ⊢;have hlt : 16 * c + v < 16 ^ i := by
    have e : (16 : Nat) ^ i = 16 ^ (i - 1) * 16 := by rw [← Nat.pow_succ, show (i - 1).succ = i from by omega]
    omega
   have hbig : (16 : Nat) ^ i ≤ 16 ^ 6 := Nat.pow_le_pow_right (by omega) (by omega);have h6 : (16 : Nat) ^ 6 = 16777216 := rfl;refine ih (i + 1) (16 * c + v) t' H (by omega) (by omega) (by rw [Nat.add_sub_cancel]; exact hlt) hw' f0 f1 f9 ?_ ?_
   ·rw [f10, IntKind.wrap_u64, IntKind.wrap_u64];congr 1;omega
   ·rw [f11, w64 (by omega) (by omega)];congr 1
  ·have h16 : ¬ valN (atS s i) < 16 := of_decide_eq_false h;simp only [hexP, if_neg h16, escRes]
theorem body_2100 {call : CallF} (hC : call.Sound Tryz.prog TT) (hm : MustH call) (hval : ∀ c : Int, 0 ≤ c → c < 256 → ∀ H, call 94 [.i .u8 c, .i .i64 16] H = .val (.tup [.i .u64 (valN c), .b (decide (valN c < 16))]) H) (hvr : ∀ c : Int, ∀ H, call 116 [.i .i32 c] H = .val (.b (vrR c)) H)
 (s : List UInt8) (at_ : Int) (hs2 : s.length < 1100000) : XBody Tryz.prog TT 100 [.s s, .i .i64 at_] [] (isR (escRes (escQ s) at_)) := by
 refine XBody.sym TT_ok hC (fn := Tryz.f100) rfl rfl (by simp [Tryz.f100]) tr_esc1 (by kernel_rfl) [.us s, .ui at_, .uh []] rfl ⟨by rw [get_init]; rfl, by rw [get_init]; rfl, trivial⟩ rfl (WF_opq _ _) ?_;simp -implicitDefEqProofs only [VC, isR, exU, Ask.den, forall_eq, E.den, O1.den, O2.den, O3.den, U.int_ui, U.boo_ub, U.val_uv, U.lst_ul, U.str_us, U.nat_un, U.heap_uh, SH.den, setsD, newD, bD, SB.den, factsTo, LQ, List.cons_append, List.nil_append, List.getElem?_cons_zero, List.getElem?_cons_succ, Option.getD_some, ltB_true, ltB_false, leB_true, leB_false, beq_iff_eq, bne_iff_ne, beq_eq_false_iff_ne, Int.toNat_natCast];refine must_ask hm _ _ _ (fun h => ?_) (fun h => ?_)
 ·have hne : s ≠ [] := by simpa using h
  have hl0 : 0 < s.length := List.length_pos_iff.2 hne;refine ⟨by omega, .inl ⟨_, _, by rw [look_pl (K := _) rfl]; rfl, ?_⟩⟩;cases hp : plT (atS s 0) with
  | some x =>
   refine ⟨fun _ => ?_, fun h => by cases h⟩;simp only [escQ, if_neg hne, hp, escRes];rfl
  | none =>
   refine ⟨fun h => (by cases h), fun _ => .inl ⟨_, by rw [look_lo (K := _) rfl]; rfl, fun h0 => ?_, fun h0 => ?_⟩⟩
   ·refine must_ask hm _ _ _ (fun h1 => ?_) (fun h1 => ?_)
    ·intro t' hw' f0 f1 f9 f10 f11;have h1 : loT (atS s 0) < s.length := by simp only [ltB_true] at h1; omega
     have h0 : 0 < loT (atS s 0) := by omega
     have hl : loT (atS s 0) = 2 ∨ loT (atS s 0) = 4 ∨ loT (atS s 0) = 6 := by
      unfold loT at h0 ⊢;repeat' split
      all_goals simp_all
     have e : escQ s = (match hexP s (loT (atS s 0)) 1 0 with | some c => finP (loT (atS s 0)) c | none => none) := by
      simp only [escQ, if_neg hne, hp];rw [if_pos ⟨h0, h1⟩]
     rw [e];exact Tri.symLoop rfl (head_esc hC hm hval hvr s at_ (loT (atS s 0)) hl h1 hs2 (loT (atS s 0)) 1 0 t' _ (by omega) (by omega) (by simp) hw' f0 f1 f9 f10 f11)
    ·have h1 : ¬ loT (atS s 0) < s.length := by simp only [ltB_false] at h1; omega
     simp only [escQ, if_neg hne, hp];rw [if_neg fun e => h1 e.2];simp only [escRes]
   ·refine must_ask hm _ _ _ (fun h1 => by cases h1) (fun _ => ?_);simp only [escQ, if_neg hne, hp];rw [if_neg fun e => h0 (by have := e.1; omega)];simp only [escRes]
 ·have hne : s = [] := by simpa using h
  subst hne;simp only [escQ, if_true, escRes]
theorem sp2100 : ∃ g, SpecOK Tryz.prog TT 100 g ∧ ∀ p : List UInt8 × Int, p.1.length < 1100000 → ∀ H, g [.s p.1, .i .i64 p.2] H = (escRes (escQ p.1) p.2).at H := by
 obtain ⟨g1, k1, s1⟩ := sp2094;obtain ⟨g2, k2, s2⟩ := sp2055;obtain ⟨g3, k3, s3⟩ := sp116;refine spec_fn TT_ok TT_plain 100 (fun p : List UInt8 × Int => [.s p.1, .i .i64 p.2]) _ (fun p => escRes (escQ p.1) p.2) (fun p _ => ⟨rfl, by unfold escRes; split <;> rfl⟩)
  (fun a b _ _ h => by
   simp only [List.cons.injEq, V.s.injEq, V.i.injEq, true_and, and_true] at h;rw [h.1, h.2]) fun p hp => ?_
 exact body_2100 (ws (ws (ws n0 k1) k2) k3) (fun b e k H => by rw [w_other _ _ _ _ rfl, w_here]; exact s2 b e k H) (fun c h0 h1 H => by rw [w_other _ _ _ _ rfl, w_other _ _ _ _ rfl, w_here]; exact s1 c 16 h0 h1 (by simp) H) (fun c H => by rw [w_here]; exact s3 c trivial H) p.1 p.2 hp
theorem tr_quo1 : codeT TT shp 60 [] (bodyOf Tryz.f80) [] ⟨[(0, .f1 .vs (.va 0)), (1, .f1 (.vi .u8) (.va 1)), (2, .f1 (.vi .i64) (.va 2))], ⟨.va 3, [], []⟩, 4, []⟩ (KF TT Tryz.f80 [0, 1, 2, 8, 9]) = .leaf (.stop [true,true,true,false]) [(0,xs v0),(1,xu v1),(2,xi v2),(8,xp (xN (xh v3) (.cn 0))),(9,xi c1)] ⟨v3,[],[xk 66 (x2 (.cv .nilp) (.cv .nils))]⟩ := by kernel_rfl
theorem tr_quo2 : goT TT shp 60 [] [true, true, true, false, false] (bodyOf Tryz.f80) [] ⟨[(0, .f1 .vs (.va 0)), (1, .f1 (.vi .u8) (.va 1)), (2, .f1 (.vi .i64) (.va 2)), (8, .f1 (.ptr 0) (.cn 0)), (9, .f1 (.vi .i64) (.va 4))], ⟨.va 3, [], []⟩, 5, []⟩ (KF TT Tryz.f80 [0, 1, 2, 8, 9]) = let qh:E:=xA v0 v4;let qj:E:=xi (xc 31);let qg:E:=xi v2;let qf:E:=.cv (.tup []);let qd:E:=xp (.cn 0);let qb:SH:=⟨v3,[],[]⟩;let qi:SH:=⟨v5,[],[]⟩;let qc:E:=xw (xa v4 c1);let qe:Tree:=.stuck 0;let qk:Tree:=.pnc v5 qb;let qa:Tree:=.ite (xe qh v1) (.ask (.call 39 (x1 qd)) qb [.s] (xs v6) true (.asks (.call 36 (x1 (xs v6))) [.b] (xb v7) (.asks (.call 55 (x3 (xb v7) qj qg)) [] qf (.ask (.call 39 (x1 qd)) qi [.s] (xs v9) true (.fin (xt (x2 (xs v9) (xi qc))) ⟨v8,[],[]⟩) qe) (.pnc v8 qi)) qe) qe) (.ite (xe qh (xc 92)) (.need (xE c0 qc) (.need (xE qc (xl v0)) (.asks (.call 100 (x2 (xs (.f3 .sub v0 qc (xl v0))) qg)) [.s,.i] (xt (x2 (xs v5) (xi v6))) (.ask (.call 38 (x2 qd (xs v5))) qb [.i] (xt (x2 (xi v8) (.cv .nili))) true (.leaf (.again [true,true,true,false,false]) [(0,xs v0),(1,xu v1),(2,qg),(8,qd),(9,xi (xw (xa v4 (xw (xa c1 v6)))))] ⟨v7,[],[]⟩) qe) qk))) (.ask (.call 37 (x2 qd (xu qh))) qb [] (.cv .nili) true (.leaf (.again [true,true,true,false,false]) [(0,xs v0),(1,xu v1),(2,qg),(8,qd),(9,xi qc)] qi) qe));.ite (xL v4 (xl v0)) (.need (xE c0 v4) (.asks (.call 55 (x3 (xb (xM qh c10)) qj qg)) [] qf qa qk)) (.asks (.call 55 (x3 (xb (.cb false)) qj qg)) [] qf (.need (xE c0 v4) (.need (xL v4 (xl v0)) qa)) qk) := by kernel_rfl
theorem enc_len (c : Int) : (Utf8.encode c).data.toList.length ≤ 4 := by
 have h := runesS_le c;have e : runesS [c] = (ByteArray.empty ++ Utf8.encode c).data.toList := rfl;rw [e, ByteArray.empty_append] at h;exact h
theorem some_aux {x : List UInt8} {k : Nat} {p : List UInt8 × Nat} (hx : x.length ≤ 4) (h : some (x, k) = some p) : p.2 = k ∧ p.1.length ≤ 4 := by
 have h := Option.some.inj h;subst h;exact ⟨rfl, hx⟩
theorem finP_le {l c : Nat} {p : List UInt8 × Nat} (h : finP l c = some p) : p.2 = 1 + l ∧ p.1.length ≤ 4 := by
 by_cases hf : c ≤ 1114111 ∧ vrR c = true ∧ (2 < l ∨ c < 128)
 ·rw [finP_pos _ _ hf.1 hf.2.1 hf.2.2] at h;exact some_aux (enc_len _) h
 ·rw [finP_neg _ _ hf] at h;cases h
theorem escQ_le (s : List UInt8) (p : List UInt8 × Nat) (h : escQ s = some p) : p.2 ≤ s.length ∧ p.1.length ≤ 4 ∧ 1 ≤ p.2 := by
 unfold escQ at h;split at h
 ·cases h
 ·rename_i hne;have hl0 : 0 < s.length := List.length_pos_iff.2 hne;split at h
  ·rename_i x hx;cases h;refine ⟨by simp only; omega, ?_, Nat.le_refl _⟩;unfold plT at hx;repeat' (split at hx)
   all_goals first
    | (cases hx; simp)
    | cases hx
  ·by_cases hl : 0 < loT (atS s 0) ∧ loT (atS s 0) < s.length
   ·rw [if_pos hl] at h;split at h
    ·rename_i c hc;obtain ⟨q1, q2⟩ := finP_le h;exact ⟨by omega, q2, by omega⟩
    ·cases h
   ·rw [if_neg hl] at h;cases h
def quoQ (s : List UInt8) (mk : Int) : Nat → Nat → List UInt8 → Option (List UInt8 × Nat)
 | 0, _, _ => none
 | n + 1, i, out => if s.length ≤ i then none else if atS s i = 10 then none else if atS s i = mk then (if Lib.validD out = true then some (out, i + 1) else none)
  else if atS s i = 92 then (match escQ (s.drop (i + 1)) with
   | some p => quoQ s mk n (i + 1 + p.2) (out ++ p.1)
   | none => none)
  else quoQ s mk n (i + 1) (out ++ [UInt8.ofNat (atS s i).toNat])
theorem atS_byte (s : List UInt8) (i : Nat) (h : i < s.length) : ∃ c : UInt8, atS s i = c.toNat := by
 unfold atS;rw [Int.toNat_natCast, List.getElem?_eq_getElem h];exact ⟨_, rfl⟩
theorem head_quo {call : CallF} (hC : call.Sound Tryz.prog TT) (hm : MustH call) (hesc : ∀ (x : List UInt8) (a : Int), x.length < 1100000 → ∀ H, call 100 [.s x, .i .i64 a] H = (escRes (escQ x) a).at H)
 (hwb : ∀ (n : Nat) (l : List UInt8) (c : UInt8) (H : Heap), Bld H n l → l.length < 100000000 → ∃ H', call 37 [.ptr n 0, .i .u8 c.toNat] H = .val .nili H' ∧ Bld H' n (l ++ [c]))
 (hws : ∀ (n : Nat) (l x : List UInt8) (H : Heap), Bld H n l → l.length + x.length < 100000000 → ∃ H', call 38 [.ptr n 0, .s x] H = .val (.tup [.i .i64 x.length, .nili]) H' ∧ Bld H' n (l ++ x))
 (hst : ∀ (n : Nat) (l : List UInt8) (H : Heap), BldR H n l → l.length < 100000000 → ∃ H', call 39 [.ptr n 0] H = .val (.s l) H' ∧ BldR H' n l)
 (hvs : ∀ x : List UInt8, x.length < 20000000 → ∀ H, call 36 [.s x] H = .val (.b (Lib.validD x)) H) (s : List UInt8) (mk at_ : Int) (hs : s.length < 1100000) :
 ∀ (n i : Nat) (out : List UInt8) (t : Tm) (H : Heap), s.length < n + i → i ≤ s.length → out.length ≤ 4 * i → t.wid = 60 → t.get 0 = .s s → t.get 1 = .i .u8 mk → t.get 2 = .i .i64 at_ → t.get 8 = .ptr 0 0 → t.get 9 = .i .i64 (i : Nat) → Bld H 0 out →
 ctx Tryz.prog TT [true, true, true, false, false] (bodyOf Tryz.f80) (EndsX TT Tryz.f80 (isR (escRes (quoQ s mk n i out) at_))) (.norm t H) := by
 intro n;induction n with
 | zero => intro i out t H h1 h2; omega
 | succ n ih =>
  intro i out t H hn hi ho hw t0 t1 t2 t8 t9 hb;refine LTri.symIn (p := [true, true, true, false]) TT_ok hC rfl tr_quo2 (by kernel_rfl) [.us s, .ui mk, .ui at_, .uh H, .ui (i : Nat)] rfl hw ⟨t0, t1, t2, t8, t9, trivial⟩ rfl (WF_opq _ _) ?_;clear t0 t1 t2 t8 t9 hw;simp -implicitDefEqProofs only [VC, isR, exU, Ask.den, forall_eq, E.den, O1.den, O2.den, O3.den, U.int_ui, U.boo_ub, U.val_uv, U.lst_ul, U.str_us, U.nat_un, U.heap_uh, SH.den, setsD, newD, bD, SB.den, factsTo, LQ, List.cons_append, List.nil_append, List.getElem?_cons_zero, List.getElem?_cons_succ, Option.getD_some, ltB_true, ltB_false, leB_true, leB_false, beq_iff_eq, bne_iff_ne, beq_eq_false_iff_ne, Int.toNat_natCast];have hw1 : IntKind.i64.wrap ((i : Int) + 1) = ((i + 1 : Nat) : Int) := by rw [w64 (by omega) (by omega)]; omega
  simp only [hw1];refine ⟨fun h => ⟨by omega, ?_⟩, fun h => ?_⟩
  ·have hlt : i < s.length := by omega
   have hnl : ¬ s.length ≤ i := by omega
   obtain ⟨c, hc⟩ := atS_byte s i hlt;refine must_ask hm _ _ _ (fun h1 => ?_) (fun h1 => ?_)
   ·have h10 : ¬ atS s i = 10 := by simpa using h1
    refine ⟨fun h2 => ?_, fun h2 => ⟨fun h3 => ?_, fun h3 => ?_⟩⟩
    ·obtain ⟨H1, q1, b1⟩ := hst 0 out H hb.read (by omega);refine .inl ⟨out, H1, q1, .inl ⟨_, fun K => hvs out (by omega) K, ?_⟩⟩;refine must_ask hm _ _ _ (fun h4 => ?_) (fun h4 => ?_)
     ·obtain ⟨H2, q2, b2⟩ := hst 0 out H1 b1 (by omega);refine .inl ⟨out, H2, q2, ?_⟩;simp only [quoQ, if_neg hnl, if_neg h10, if_pos h2, h4, if_true, escRes]
     ·simp only [quoQ, if_neg hnl, if_neg h10, if_pos h2, h4, Bool.false_eq_true, if_false, escRes]
    ·refine ⟨by omega, by omega, ?_⟩;rw [List.take_length, Int.toNat_natCast];rcases hq : escQ (s.drop (i + 1)) with _ | p
     ·refine .inr ⟨fltV 31 at_, fun K => ?_, ?_⟩
      ·rw [hesc _ _ (by rw [List.length_drop]; omega), hq];rfl
      ·simp only [quoQ, if_neg hnl, if_neg h10, if_neg h2, if_pos h3, hq, escRes]
     ·obtain ⟨p1, p2, p3⟩ := escQ_le _ p hq;rw [List.length_drop] at p1;obtain ⟨H1, q1, b1⟩ := hws 0 out p.1 H hb (by omega);refine .inl ⟨p.1, p.2, fun K => ?_, .inl ⟨(p.1.length : Int), ?_⟩⟩
      ·rw [hesc _ _ (by rw [List.length_drop]; omega), hq];rfl
      ·rw [if_pos trivial];refine ⟨H1, q1, ?_⟩;intro t' hw' f0 f1 f2 f8 f9;have e : quoQ s mk (n + 1) i out = quoQ s mk n (i + 1 + p.2) (out ++ p.1) := by
        simp only [quoQ, if_neg hnl, if_neg h10, if_neg h2, if_pos h3, hq]
       have ew : IntKind.i64.wrap ((i : Int) + IntKind.i64.wrap (1 + (p.2 : Int))) = ((i + 1 + p.2 : Nat) : Int) := by
        rw [w64 (by rw [w64 (by omega) (by omega)]; omega) (by rw [w64 (by omega) (by omega)]; omega), w64 (by omega) (by omega)];omega
       rw [ew] at f9;rw [e];exact ih (i + 1 + p.2) (out ++ p.1) t' H1 (by omega) (by omega) (by rw [List.length_append]; omega) hw' f0 f1 f2 f8 f9 b1
    ·rw [hc] at h10 h2 h3 ⊢;obtain ⟨H1, q1, b1⟩ := hwb 0 out c H hb (by omega);refine .inl ⟨H1, q1, ?_⟩;intro t' hw' f0 f1 f2 f8 f9;have e : quoQ s mk (n + 1) i out = quoQ s mk n (i + 1) (out ++ [c]) := by
      simp only [quoQ, if_neg hnl, hc, if_neg h10, if_neg h2, if_neg h3, Int.toNat_natCast, ofNat_u8]
     rw [e];exact ih (i + 1) (out ++ [c]) t' H1 (by omega) (by omega) (by simp; omega) hw' f0 f1 f2 f8 f9 b1
   ·have h10 : atS s i = 10 := by simpa using h1
    simp only [quoQ, if_neg hnl, if_pos h10, escRes]
  ·have hnl : s.length ≤ i := by omega
   refine must_ask hm _ _ _ (fun h1 => by cases h1) (fun h1 => ?_);simp only [quoQ, if_pos hnl, escRes]
def quoted (s : List UInt8) (mk : Int) : Option (List UInt8 × Nat) := quoQ s mk s.length 1 []
theorem sp2080 : ∃ g, SpecOK Tryz.prog TT 80 g ∧ ∀ p : List UInt8 × Int × Int, (0 < p.1.length ∧ p.1.length < 1100000) → ∀ H, g [.s p.1, .i .u8 p.2.1, .i .i64 p.2.2] H = (escRes (quoted p.1 p.2.1) p.2.2).at H := by
 obtain ⟨g1, k1, s1⟩ := sp2055;obtain ⟨g2, k2, s2⟩ := sp2100;obtain ⟨g3, k3, s3⟩ := sp80;obtain ⟨g4, k4, s4⟩ := sp67;obtain ⟨g5, k5, s5⟩ := sp44;obtain ⟨g6, k6, s6⟩ := sp33v;have hC := ws (ws (ws (ws (ws (ws n0 k1) k2) k3) k4) k5) k6;have c1 : MustH ((((((CallF.none.with 55 g1).with 100 g2).with 37 g3).with 38 g4).with 39 g5).with 36 g6) := fun b e k H => by
  rw [w_other _ _ _ _ rfl, w_other _ _ _ _ rfl, w_other _ _ _ _ rfl, w_other _ _ _ _ rfl, w_other _ _ _ _ rfl, w_here]; exact s1 b e k H
 have c2 : ∀ (x : List UInt8) (a : Int), x.length < 1100000 → ∀ H, ((((((CallF.none.with 55 g1).with 100 g2).with 37 g3).with 38 g4).with 39 g5).with 36 g6) 100 [.s x, .i .i64 a] H = (escRes (escQ x) a).at H := fun x a hx H => by
  rw [w_other _ _ _ _ rfl, w_other _ _ _ _ rfl, w_other _ _ _ _ rfl, w_other _ _ _ _ rfl, w_here]; exact s2 (x, a) hx H
 have c3 : ∀ (n : Nat) (l : List UInt8) (c : UInt8) (H : Heap), Bld H n l → l.length < 100000000 → ∃ H', ((((((CallF.none.with 55 g1).with 100 g2).with 37 g3).with 38 g4).with 39 g5).with 36 g6) 37 [.ptr n 0, .i .u8 c.toNat] H = .val .nili H' ∧ Bld H' n (l ++ [c]) := fun n l c H h1 h2 => by
  rw [w_other _ _ _ _ rfl, w_other _ _ _ _ rfl, w_other _ _ _ _ rfl, w_here]; exact s3 (n, l, c) H ⟨h1, h2⟩
 have c4 : ∀ (n : Nat) (l x : List UInt8) (H : Heap), Bld H n l → l.length + x.length < 100000000 → ∃ H', ((((((CallF.none.with 55 g1).with 100 g2).with 37 g3).with 38 g4).with 39 g5).with 36 g6) 38 [.ptr n 0, .s x] H = .val (.tup [.i .i64 x.length, .nili]) H' ∧ Bld H' n (l ++ x) := fun n l x H h1 h2 => by
  rw [w_other _ _ _ _ rfl, w_other _ _ _ _ rfl, w_here]; exact s4 (n, l, x) H ⟨h1, h2⟩
 have c5 : ∀ (n : Nat) (l : List UInt8) (H : Heap), BldR H n l → l.length < 100000000 → ∃ H', ((((((CallF.none.with 55 g1).with 100 g2).with 37 g3).with 38 g4).with 39 g5).with 36 g6) 39 [.ptr n 0] H = .val (.s l) H' ∧ BldR H' n l := fun n l H h1 h2 => by
  rw [w_other _ _ _ _ rfl, w_here]; exact s5 (n, l) H ⟨h1, h2⟩
 have c6 : ∀ x : List UInt8, x.length < 20000000 → ∀ H, ((((((CallF.none.with 55 g1).with 100 g2).with 37 g3).with 38 g4).with 39 g5).with 36 g6) 36 [.s x] H = .val (.b (Lib.validD x)) H := fun x hx H => by
  rw [w_here]; exact s6 x (by omega) H
 generalize (((((CallF.none.with 55 g1).with 100 g2).with 37 g3).with 38 g4).with 39 g5).with 36 g6 = call at hC c1 c2 c3 c4 c5 c6;refine spec_fn TT_ok TT_plain 80 (fun p : List UInt8 × Int × Int => [.s p.1, .i .u8 p.2.1, .i .i64 p.2.2]) _ (fun p => escRes (quoted p.1 p.2.1) p.2.2) (fun p _ => ⟨rfl, by unfold escRes; split <;> rfl⟩)
  (fun a b _ _ h => by
   simp only [List.cons.injEq, V.s.injEq, V.i.injEq, true_and, and_true] at h;rw [h.1, h.2.1, h.2.2]) fun p hp => ?_
 obtain ⟨s, mk, at_⟩ := p;simp only at hp ⊢;refine XBody.sym TT_ok hC (fn := Tryz.f80) rfl rfl (by simp [Tryz.f80]) tr_quo1 (by kernel_rfl) [.us s, .ui mk, .ui at_, .uh []] rfl ⟨by rw [get_init]; rfl, by rw [get_init]; rfl, by rw [get_init]; rfl, trivial⟩ rfl (WF_opq _ _) ?_;simp -implicitDefEqProofs only [VC, isR, exU, Ask.den, forall_eq, E.den, O1.den, O2.den, O3.den, U.int_ui, U.boo_ub, U.val_uv, U.lst_ul, U.str_us, U.nat_un, U.heap_uh, SH.den, setsD, newD, bD, SB.den, factsTo, LQ, List.cons_append, List.nil_append, List.getElem?_cons_zero, List.getElem?_cons_succ, Option.getD_some, ltB_true, ltB_false, leB_true, leB_false, beq_iff_eq, bne_iff_ne, beq_eq_false_iff_ne, Int.toNat_natCast];intro t hw t0 t1 t2 t8 t9;exact Tri.symLoop rfl (head_quo hC c1 c2 c3 c4 c5 c6 s mk at_ hp.2 s.length 1 [] t _ (by omega) (by omega) (by simp) hw t0 t1 t2 t8 t9 ⟨_, .inl rfl, .inl ⟨rfl, rfl⟩⟩)
end Go.Ev
namespace Go.Proofs
open Go.Shelf
set_option maxRecDepth 100000
def Tryz.lays137_ren : Go.Shelf.Ren := ⟨fun | 137 => 71 | 217 => 87 | 266 => 105 | n => n, fun | 9 => 9 | 5 => 5 | 3 => 3 | n => n, fun | n => n⟩
theorem Tryz.lays137 : Go.Proofs.Lays.n137 Tryz.prog Tryz.lays137_ren := {
 mixed := by kernel_rfl
 f137 := Tryz.func71.trans (congrArg some (by kernel_rfl))
 f217 := Tryz.func87.trans (congrArg some (by kernel_rfl))
 f266 := Tryz.func105.trans (congrArg some (by kernel_rfl))
 t3 := Tryz.underlying3
 a3 := Tryz.isAgg3
 z3 := Tryz.sizeOf3
 v3 := Tryz.zeroValue3
 t5 := Tryz.underlying5
 a5 := Tryz.isAgg5
 z5 := Tryz.sizeOf5
 v5 := Tryz.zeroValue5
 t9 := Tryz.underlying9
 a9 := Tryz.isAgg9
 z9 := Tryz.sizeOf9
 v9 := Tryz.zeroValue9 }
open Go.RowKit in
theorem Tryz.strings_IndexByte (s : ByteArray) (c : Int) (w : World) :
 Calls Tryz.prog 71 #[.string s, .int .u8 c] w fun e w' => e = .returned (.int .i64 (Lib.indexByte s.data.toList c.toNat.toUInt8)) ∧ w' = w := Any.strings_IndexByte Tryz.lays137 s c w
def Tryz.lays195_ren : Go.Shelf.Ren := ⟨fun | 195 => 81 | n => n, fun | 9 => 9 | 3 => 3 | 0 => 0 | 4 => 4 | n => n, fun | n => n⟩
theorem Tryz.lays195 : Go.Proofs.Lays.n195 Tryz.prog Tryz.lays195_ren := {
 mixed := by kernel_rfl
 f195 := Tryz.func81.trans (congrArg some (by kernel_rfl))
 t0 := Tryz.underlying0
 a0 := Tryz.isAgg0
 z0 := Tryz.sizeOf0
 v0 := Tryz.zeroValue0
 t3 := Tryz.underlying3
 a3 := Tryz.isAgg3
 z3 := Tryz.sizeOf3
 v3 := Tryz.zeroValue3
 t4 := Tryz.underlying4
 a4 := Tryz.isAgg4
 z4 := Tryz.sizeOf4
 v4 := Tryz.zeroValue4
 t9 := Tryz.underlying9
 a9 := Tryz.isAgg9
 z9 := Tryz.sizeOf9
 v9 := Tryz.zeroValue9 }
open Go.RowKit in
theorem Tryz.utf8_RuneCountInString (s : ByteArray) (w : World) (hs : s.size < 9223372036854775807) :
 Calls Tryz.prog 81 #[.string s] w fun e w' => e = .returned (.int .i64 (Lib.runeCount s)) ∧ ∃ pos, w' = w.iter s pos := Any.utf8_RuneCountInString Tryz.lays195 s w hs
open Go.RowKit Go.Lib in
open Go.RowKit Go.Lib in
theorem Tryz.strings_Index (s sub : ByteArray) (m : Int) (w : World) (hs : s.size < 4294967281) (hm : w.cell? ⟨4, 0, none⟩ = some (.int .i64 m)) :
 Calls Tryz.prog 35 #[.string s, .string sub] w fun e w' => e = .returned (.int .i64 (Lib.index s.data.toList sub.data.toList)) ∧ w' = w := Any.strings_Index Tryz.lays143 s sub m w hs hm
open Go.RowKit Go.Lib in
open Go.RowKit Go.Lib in
theorem Tryz.strings_Contains (s sub : ByteArray) (m : Int) (w : World) (hs : s.size < 4294967281) (hm : w.cell? ⟨4, 0, none⟩ = some (.int .i64 m)) :
 Calls Tryz.prog 15 #[.string s, .string sub] w fun e w' => e = .returned (.bool (Lib.contains s.data.toList sub.data.toList)) ∧ w' = w := Any.strings_Contains Tryz.lays144 s sub m w hs hm
def Tryz.lays197_ren : Go.Shelf.Ren := ⟨fun | 197 => 82 | 260 => 101 | n => n, fun | 9 => 9 | 21 => 21 | 3 => 3 | 4 => 4 | 5 => 5 | 105 => 114 | 119 => 99 | 0 => 0 | 46 => 72 | 139 => 102 | 138 => 101 | n => n, fun | 3 => 1 | 4 => 2 | n => n⟩
theorem Tryz.lays197 : Go.Proofs.Lays.n197 Tryz.prog Tryz.lays197_ren := {
 mixed := by kernel_rfl
 f197 := Tryz.func82.trans (congrArg some (by kernel_rfl))
 f260 := Tryz.func101.trans (congrArg some (by kernel_rfl))
 t0 := Tryz.underlying0
 a0 := Tryz.isAgg0
 z0 := Tryz.sizeOf0
 v0 := Tryz.zeroValue0
 t3 := Tryz.underlying3
 a3 := Tryz.isAgg3
 z3 := Tryz.sizeOf3
 v3 := Tryz.zeroValue3
 t4 := Tryz.underlying4
 a4 := Tryz.isAgg4
 z4 := Tryz.sizeOf4
 v4 := Tryz.zeroValue4
 t5 := Tryz.underlying5
 a5 := Tryz.isAgg5
 z5 := Tryz.sizeOf5
 v5 := Tryz.zeroValue5
 t9 := Tryz.underlying9
 a9 := Tryz.isAgg9
 z9 := Tryz.sizeOf9
 v9 := Tryz.zeroValue9
 t21 := Tryz.underlying21
 a21 := Tryz.isAgg21
 z21 := Tryz.sizeOf21
 v21 := Tryz.zeroValue21
 t46 := Tryz.underlying72
 a46 := Tryz.isAgg72
 z46 := Tryz.sizeOf72
 v46 := Tryz.zeroValue72
 t105 := Tryz.underlying114
 a105 := Tryz.isAgg114
 z105 := Tryz.sizeOf114
 v105 := Tryz.zeroValue114
 t119 := Tryz.underlying99
 a119 := Tryz.isAgg99
 z119 := Tryz.sizeOf99
 t138 := Tryz.underlying101
 a138 := Tryz.isAgg101
 z138 := Tryz.sizeOf101
 v138 := Tryz.zeroValue101
 t139 := Tryz.underlying102
 a139 := Tryz.isAgg102
 z139 := Tryz.sizeOf102
 v139 := Tryz.zeroValue102
 g3 := by kernel_rfl
 g4 := by kernel_rfl }
open Go.RowKit Go.Lib in
theorem Tryz.utf8_DecodeRuneInString (s : ByteArray) (w : World) (hT : Lib.Utf8Tabs 1 2 w) :
 Calls Tryz.prog 82 #[.string s] w fun e w' => e = .returned (.tuple #[.int .i32 (Lib.decodeGo s).1, .int .i64 (Lib.decodeGo s).2]) ∧ Below w.heap.size w w' := Any.utf8_DecodeRuneInString Tryz.lays197 s w hT
end Go.Proofs
namespace Go.Ev
open Go Go.Proofs Go.RowKit
set_option maxRecDepth 100000
theorem maxLen {M : Mem} {ρ : Ren} {H : Heap} {w : World} (hS : SR TT M ρ H w) : ∃ m : Int, w.cell? ⟨4, 0, none⟩ = some (.int .i64 m) := by
 obtain ⟨m, ty, fr, hM⟩ := hS.gint 4 rfl;have hw := hS.frozen _ _ hM;exact ⟨m, by simp [World.cell?, hw]⟩
def spIndexB : List V → Heap → OR
 | [.s s, .i .u8 c], H => .val (.i .i64 (Lib.indexByte s c.toNat.toUInt8)) H
 | _, _ => .no
def spIndex : List V → Heap → OR
 | [.s s, .s p], H => if s.length < 4294967281 then .val (.i .i64 (Lib.index s p)) H else .no
 | _, _ => .no
def spContains : List V → Heap → OR
 | [.s s, .s p], H => if s.length < 4294967281 then .val (.b (Lib.contains s p)) H else .no
 | _, _ => .no
def spRunes : List V → Heap → OR
 | [.s s], H => if s.length < 4294967281 then .val (.i .i64 (Lib.runeCount ⟨s.toArray⟩)) H else .no
 | _, _ => .no
def spDecode : List V → Heap → OR
 | [.s s], H => .val (.tup [.i .i32 (Lib.decodeGo ⟨s.toArray⟩).1, .i .i64 (Lib.decodeGo ⟨s.toArray⟩).2]) H
 | _, _ => .no
theorem ok71 : SpecOK Tryz.prog TT 71 spIndexB := by
 intro vs H r h hne;unfold spIndexB at h;split at h
 ·rename_i H s c;subst h;refine ⟨enters_tz (f := 71) rfl rfl, fun M ρ w args hS hr => ?_⟩;have ha : args = [.string ⟨s.toArray⟩, .int .u8 c] := by
   simp only [relL, rel] at hr;obtain ⟨x, r, rfl, rfl, x, r, rfl, rfl, rfl⟩ := hr; rfl
  rw [ha];refine callOK_below (x := .int .i64 (Lib.indexByte s c.toNat.toUInt8)) hS ?_ (by simp only [rel]);exact (Tryz.strings_IndexByte ⟨s.toArray⟩ c w).mono fun e w' ⟨h1, h2⟩ => ⟨h1, h2 ▸ Below.refl _ _⟩
 ·exact absurd h.symm hne
theorem ok35 : SpecOK Tryz.prog TT 35 spIndex := by
 intro vs H r h hne;unfold spIndex at h;split at h
 ·rename_i H s p;split at h
  ·rename_i hc;subst h;refine ⟨enters_tz (f := 35) rfl rfl, fun M ρ w args hS hr => ?_⟩;rw [relL2 hr];obtain ⟨m, hm⟩ := maxLen hS;refine callOK_below (x := .int .i64 (Lib.index s p)) hS ?_ (by simp only [rel]);exact (Tryz.strings_Index ⟨s.toArray⟩ ⟨p.toArray⟩ m w (by show s.toArray.size < _; simpa using hc) hm).mono fun e w' ⟨h1, h2⟩ => ⟨h1, h2 ▸ Below.refl _ _⟩
  ·exact absurd h.symm hne
 ·exact absurd h.symm hne
theorem ok15 : SpecOK Tryz.prog TT 15 spContains := by
 intro vs H r h hne;unfold spContains at h;split at h
 ·rename_i H s p;split at h
  ·rename_i hc;subst h;refine ⟨enters_tz (f := 15) rfl rfl, fun M ρ w args hS hr => ?_⟩;rw [relL2 hr];obtain ⟨m, hm⟩ := maxLen hS;refine callOK_below (x := .bool (Lib.contains s p)) hS ?_ (by simp only [rel]);exact (Tryz.strings_Contains ⟨s.toArray⟩ ⟨p.toArray⟩ m w (by show s.toArray.size < _; simpa using hc) hm).mono fun e w' ⟨h1, h2⟩ => ⟨h1, h2 ▸ Below.refl _ _⟩
  ·exact absurd h.symm hne
 ·exact absurd h.symm hne
theorem ok81 : SpecOK Tryz.prog TT 81 spRunes := by
 intro vs H r h hne;unfold spRunes at h;split at h
 ·rename_i H s;split at h
  ·rename_i hc;subst h;refine ⟨enters_tz (f := 81) rfl rfl, fun M ρ w args hS hr => ?_⟩;rw [relL1 hr];refine callOK_below (x := .int .i64 (Lib.runeCount ⟨s.toArray⟩)) hS ?_ (by simp only [rel]);refine (Tryz.utf8_RuneCountInString ⟨s.toArray⟩ w (by show s.toArray.size < _; simp; omega)).mono ?_;rintro e w' ⟨rfl, pos, rfl⟩;exact ⟨rfl, rfl, rfl, rfl, by show w.heap.size ≤ (w.heap.push _).size; rw [Array.size_push]; omega, fun k hk => RowKit.Below.heap_alloc w _ k hk⟩
  ·exact absurd h.symm hne
 ·exact absurd h.symm hne
theorem ok82 : SpecOK Tryz.prog TT 82 spDecode := by
 intro vs H r h hne;unfold spDecode at h;split at h
 ·rename_i H s;subst h;refine ⟨enters_tz (f := 82) rfl rfl, fun M ρ w args hS hr => ?_⟩;rw [relL1 hr];refine callOK_below (x := .tuple #[.int .i32 (Lib.decodeGo ⟨s.toArray⟩).1, .int .i64 (Lib.decodeGo ⟨s.toArray⟩).2]) hS ?_ (by simp [rel, relL]);exact Tryz.utf8_DecodeRuneInString ⟨s.toArray⟩ w (tabs_of_sr hS)
 ·exact absurd h.symm hne
end Go.Ev
namespace Go.Ev
open Go Go.Proofs
set_option linter.unusedSimpArgs false
set_option linter.unusedVariables false
set_option linter.unnecessarySimpa false
set_option maxRecDepth 100000
theorem tr_chr : codeT TT shp Tryz.f52.ntmps [] (bodyOf Tryz.f52) [] ⟨[(0, .f1 .vs (.va 0)), (1, .f1 (.vi .i64) (.va 1))], ⟨.va 2, [], []⟩, 3, []⟩ (KF TT Tryz.f52 []) = let qa:SH:=⟨v2,[],[]⟩;.asks (.call 80 (x3 (xs v0) (xu (xc 39)) (xi v1))) [.s,.i] (xt (x2 (xs v3) (xi v4))) (.asks (.call 81 (x1 (xs v3))) [.i] (xi v5) (.asks (.call 55 (x3 (xb (xe v5 c1)) (xi (xc 31)) (xi v1))) [] (.cv (.tup [])) (.asks (.call 82 (x1 (xs v3))) [.i,.i] (xt (x2 (xj v6) (xi v7))) (.asks (.call 61 (x1 (xi (xw v6)))) [.s] (xs v8) (.fin (xt (x2 (xs v8) (xi v4))) qa) (.stuck 0)) (.stuck 0)) (.pnc v6 qa)) (.stuck 0)) (.pnc v3 qa) := by kernel_rfl
theorem tr_txt : codeT TT shp Tryz.f53.ntmps [] (bodyOf Tryz.f53) [] ⟨[(0, .f1 .vs (.va 0)), (1, .f1 (.vi .i64) (.va 1))], ⟨.va 2, [], []⟩, 3, []⟩ (KF TT Tryz.f53 []) = let qf:E:=xs (.cs [34,34,34]);let qb:E:=xw (xa c3 v4);let qe:E:=xs (.f3 .sub v0 c3 qb);let qc:SH:=⟨v2,[],[]⟩;let qa:Tree:=.fin (xt (x2 qe (xi (xw (xa v4 (xc 6)))))) qc;let qd:E:=xt (x2 (xs v4) (xi v5));.asks (.call 70 (x2 (xs v0) qf)) [.b] (xb v3) (.ite v3 (.need (xE c3 (xl v0)) (.asks (.call 35 (x2 (xs (.f3 .sub v0 c3 (xl v0))) qf)) [.i] (xi v4) (.ite (xH v4 c0) (.need (xE c3 qb) (.need (xE qb (xl v0)) (.asks (.call 36 (x1 qe)) [.b] (xb v5) (.asks (.call 55 (x3 (xb v5) (xi (xc 31)) (xi v1))) [] (.cv (.tup [])) qa (.pnc v6 qc)) (.stuck 0)))) (.asks (.call 55 (x3 (xb (.cb false)) (xi (xc 31)) (xi v1))) [] (.cv (.tup [])) (.need (xE c3 qb) (.need (xE qb (xl v0)) qa)) (.pnc v5 qc))) (.stuck 0))) (.asks (.call 80 (x3 (xs v0) (xu (xc 34)) (xi v1))) [.s,.i] qd (.fin qd qc) (.pnc v4 qc))) (.stuck 0) := by kernel_rfl
theorem quoQ_ok (s : List UInt8) (mk : Int) : ∀ (n i : Nat) (out : List UInt8) (p : List UInt8 × Nat), out.length ≤ 4 * i → quoQ s mk n i out = some p → p.1.length ≤ 4 * s.length ∧ i < p.2 ∧ p.2 ≤ s.length
 | 0, _, _, _, _, h => by simp [quoQ] at h
 | n + 1, i, out, p, ho, h => by
  simp only [quoQ] at h;by_cases h1 : s.length ≤ i
  ·rw [if_pos h1] at h; cases h
  ·rw [if_neg h1] at h;by_cases h2 : atS s i = 10
   ·rw [if_pos h2] at h; cases h
   ·rw [if_neg h2] at h;by_cases h3 : atS s i = mk
    ·rw [if_pos h3] at h;by_cases h4 : Lib.validD out = true
     ·rw [if_pos h4] at h;have h := Option.some.inj h;subst h;exact ⟨by simp only; omega, by simp only; omega, by simp only; omega⟩
     ·rw [if_neg h4] at h; cases h
    ·rw [if_neg h3] at h;by_cases h5 : atS s i = 92
     ·rw [if_pos h5] at h;rcases hq : escQ (s.drop (i + 1)) with _ | q
      ·rw [hq] at h; cases h
      ·rw [hq] at h;obtain ⟨p1, p2, p3⟩ := escQ_le _ q hq;have := quoQ_ok s mk n (i + 1 + q.2) (out ++ q.1) p (by rw [List.length_append]; omega) h;omega
     ·rw [if_neg h5] at h;have := quoQ_ok s mk n (i + 1) _ p (by rw [List.length_append, List.length_singleton]; omega) h;omega
theorem quoted_ok {s : List UInt8} {mk : Int} {p : List UInt8 × Nat} (h : quoted s mk = some p) : p.1.length ≤ 4 * s.length ∧ 1 < p.2 ∧ p.2 ≤ s.length := quoQ_ok s mk _ 1 [] p (by simp) h
def chrQ (s : List UInt8) : Option (List UInt8 × Nat) := match quoted s 39 with
 | some p => if Lib.runeCount ⟨p.1.toArray⟩ = 1 then some (Lib.itoa (IntKind.i64.wrap (Lib.decodeGo ⟨p.1.toArray⟩).1), p.2) else none
 | none => none
def txtQ (s : List UInt8) : Option (List UInt8 × Nat) := if preR s [34, 34, 34] = true then
    (if 0 ≤ Lib.index (s.drop 3) [34, 34, 34] ∧ Lib.validD ((s.drop 3).take (Lib.index (s.drop 3) [34, 34, 34]).toNat) = true then some ((s.drop 3).take (Lib.index (s.drop 3) [34, 34, 34]).toNat, (Lib.index (s.drop 3) [34, 34, 34]).toNat + 6) else none)
  else quoted s 34
theorem wrap64_in (n : Int) : -9223372036854775808 ≤ IntKind.i64.wrap n ∧ IntKind.i64.wrap n ≤ 9223372036854775807 := by
 have e : (2 : Int) ^ IntKind.i64.bits = 18446744073709551616 := rfl;have e2 : (2 : Int) ^ (IntKind.i64.bits - 1) = 9223372036854775808 := rfl;simp only [IntKind.wrap, e, e2, IntKind.signed, Bool.true_and, decide_eq_true_eq];split <;> omega
theorem sp2052 : ∃ g, SpecOK Tryz.prog TT 52 g ∧ ∀ p : List UInt8 × Int, (0 < p.1.length ∧ p.1.length < 1100000) → ∀ H, g [.s p.1, .i .i64 p.2] H = (escRes (chrQ p.1) p.2).at H := by
 obtain ⟨g1, k1, s1⟩ := sp2055;obtain ⟨g2, k2, s2⟩ := sp2080;have hC := ws (ws (ws (ws (ws n0 k1) k2) ok81) ok82) ok149;have c1 : MustH (((((CallF.none.with 55 g1).with 80 g2).with 81 spRunes).with 82 spDecode).with 61 spItoa) := fun b e k H => by
  rw [w_other _ _ _ _ rfl, w_other _ _ _ _ rfl, w_other _ _ _ _ rfl, w_other _ _ _ _ rfl, w_here]; exact s1 b e k H
 have c2 : ∀ (x : List UInt8) (a : Int), (0 < x.length ∧ x.length < 1100000) → ∀ H, (((((CallF.none.with 55 g1).with 80 g2).with 81 spRunes).with 82 spDecode).with 61 spItoa) 80 [.s x, .i .u8 39, .i .i64 a] H = (escRes (quoted x 39) a).at H := fun x a hx H => by
  rw [w_other _ _ _ _ rfl, w_other _ _ _ _ rfl, w_other _ _ _ _ rfl, w_here]; exact s2 (x, 39, a) hx H
 have c3 : ∀ x : List UInt8, x.length < 4294967281 → ∀ H, (((((CallF.none.with 55 g1).with 80 g2).with 81 spRunes).with 82 spDecode).with 61 spItoa) 81 [.s x] H = .val (.i .i64 (Lib.runeCount ⟨x.toArray⟩)) H := fun x hx H => by
  rw [w_other _ _ _ _ rfl, w_other _ _ _ _ rfl, w_here]; exact if_pos hx
 have c4 : ∀ x : List UInt8, ∀ H, (((((CallF.none.with 55 g1).with 80 g2).with 81 spRunes).with 82 spDecode).with 61 spItoa) 82 [.s x] H = .val (.tup [.i .i32 (Lib.decodeGo ⟨x.toArray⟩).1, .i .i64 (Lib.decodeGo ⟨x.toArray⟩).2]) H := fun x H => by
  rw [w_other _ _ _ _ rfl, w_here]; rfl
 have c5 : ∀ n : Int, ∀ H, (((((CallF.none.with 55 g1).with 80 g2).with 81 spRunes).with 82 spDecode).with 61 spItoa) 61 [.i .i64 (IntKind.i64.wrap n)] H = .val (.s (Lib.itoa (IntKind.i64.wrap n))) H := fun n H => by
  rw [w_here]; exact if_pos (wrap64_in n)
 generalize ((((CallF.none.with 55 g1).with 80 g2).with 81 spRunes).with 82 spDecode).with 61 spItoa = call at hC c1 c2 c3 c4 c5;refine spec_fn TT_ok TT_plain 52 (fun p : List UInt8 × Int => [.s p.1, .i .i64 p.2]) _ (fun p => escRes (chrQ p.1) p.2) (fun p _ => ⟨rfl, by unfold escRes; split <;> rfl⟩)
  (fun a b _ _ h => by
   simp only [List.cons.injEq, V.s.injEq, V.i.injEq, true_and, and_true] at h;rw [h.1, h.2]) fun p hp => ?_
 obtain ⟨s, at_⟩ := p;simp only at hp ⊢;refine XBody.sym TT_ok hC (fn := Tryz.f52) rfl rfl (by simp [Tryz.f52]) tr_chr (by kernel_rfl) [.us s, .ui at_, .uh []] rfl ⟨by rw [get_init]; rfl, by rw [get_init]; rfl, trivial⟩ rfl (WF_opq _ _) ?_;simp -implicitDefEqProofs only [VC, isR, exU, Ask.den, forall_eq, E.den, O1.den, O2.den, O3.den, U.int_ui, U.boo_ub, U.val_uv, U.lst_ul, U.str_us, U.nat_un, U.heap_uh, SH.den, setsD, newD, bD, SB.den, factsTo, LQ, List.cons_append, List.nil_append, List.getElem?_cons_zero, List.getElem?_cons_succ, Option.getD_some, ltB_true, ltB_false, leB_true, leB_false, beq_iff_eq, bne_iff_ne, beq_eq_false_iff_ne, Int.toNat_natCast];rcases hq : quoted s 39 with _ | p
 ·refine .inr ⟨fltV 31 at_, fun K => ?_, ?_⟩
  ·rw [c2 s at_ hp, hq]; rfl
  ·simp only [chrQ, hq, escRes]
 ·obtain ⟨p1, p2, p3⟩ := quoted_ok hq;refine .inl ⟨p.1, p.2, fun K => by rw [c2 s at_ hp, hq]; rfl, .inl ⟨_, fun K => c3 p.1 (by omega) K, ?_⟩⟩;refine must_ask c1 _ _ _ (fun h => .inl ⟨_, _, fun K => c4 p.1 K, .inl ⟨_, fun K => c5 _ K, ?_⟩⟩) (fun h => ?_)
  ·have h : Lib.runeCount ⟨p.1.toArray⟩ = 1 := by simp at h; omega
   simp only [chrQ, hq, if_pos h, escRes]
  ·have h : ¬ Lib.runeCount ⟨p.1.toArray⟩ = 1 := by simp at h; omega
   simp only [chrQ, hq, if_neg h, escRes]
theorem sp2053 : ∃ g, SpecOK Tryz.prog TT 53 g ∧ ∀ p : List UInt8 × Int, (0 < p.1.length ∧ p.1.length < 1100000) → ∀ H, g [.s p.1, .i .i64 p.2] H = (escRes (txtQ p.1) p.2).at H := by
 obtain ⟨g1, k1, s1⟩ := sp2055;obtain ⟨g2, k2, s2⟩ := sp2080;obtain ⟨g3, k3, s3⟩ := sp2070;obtain ⟨g5, k5, s5⟩ := sp33v;have hC := ws (ws (ws (ws (ws n0 k1) k2) k3) ok35) k5;have c1 : MustH (((((CallF.none.with 55 g1).with 80 g2).with 70 g3).with 35 spIndex).with 36 g5) := fun b e k H => by
  rw [w_other _ _ _ _ rfl, w_other _ _ _ _ rfl, w_other _ _ _ _ rfl, w_other _ _ _ _ rfl, w_here]; exact s1 b e k H
 have c2 : ∀ (x : List UInt8) (a : Int), (0 < x.length ∧ x.length < 1100000) → ∀ H, (((((CallF.none.with 55 g1).with 80 g2).with 70 g3).with 35 spIndex).with 36 g5) 80 [.s x, .i .u8 34, .i .i64 a] H = (escRes (quoted x 34) a).at H := fun x a hx H => by
  rw [w_other _ _ _ _ rfl, w_other _ _ _ _ rfl, w_other _ _ _ _ rfl, w_here]; exact s2 (x, 34, a) hx H
 have c3 : ∀ x y : List UInt8, ∀ H, (((((CallF.none.with 55 g1).with 80 g2).with 70 g3).with 35 spIndex).with 36 g5) 70 [.s x, .s y] H = .val (.b (preR x y)) H := fun x y H => by
  rw [w_other _ _ _ _ rfl, w_other _ _ _ _ rfl, w_here]; exact s3 x y H
 have c4 : ∀ x y : List UInt8, x.length < 4294967281 → ∀ H, (((((CallF.none.with 55 g1).with 80 g2).with 70 g3).with 35 spIndex).with 36 g5) 35 [.s x, .s y] H = .val (.i .i64 (Lib.index x y)) H := fun x y hx H => by
  rw [w_other _ _ _ _ rfl, w_here]; exact if_pos hx
 have c5 : ∀ x : List UInt8, x.length < 20000000 → ∀ H, (((((CallF.none.with 55 g1).with 80 g2).with 70 g3).with 35 spIndex).with 36 g5) 36 [.s x] H = .val (.b (Lib.validD x)) H := fun x hx H => by
  rw [w_here]; exact s5 x (by omega) H
 generalize ((((CallF.none.with 55 g1).with 80 g2).with 70 g3).with 35 spIndex).with 36 g5 = call at hC c1 c2 c3 c4 c5;refine spec_fn TT_ok TT_plain 53 (fun p : List UInt8 × Int => [.s p.1, .i .i64 p.2]) _ (fun p => escRes (txtQ p.1) p.2) (fun p _ => ⟨rfl, by unfold escRes; split <;> rfl⟩)
  (fun a b _ _ h => by
   simp only [List.cons.injEq, V.s.injEq, V.i.injEq, true_and, and_true] at h;rw [h.1, h.2]) fun p hp => ?_
 obtain ⟨s, at_⟩ := p;simp only at hp ⊢;refine XBody.sym TT_ok hC (fn := Tryz.f53) rfl rfl (by simp [Tryz.f53]) tr_txt (by kernel_rfl) [.us s, .ui at_, .uh []] rfl ⟨by rw [get_init]; rfl, by rw [get_init]; rfl, trivial⟩ rfl (WF_opq _ _) ?_;simp -implicitDefEqProofs only [VC, isR, exU, Ask.den, forall_eq, E.den, O1.den, O2.den, O3.den, U.int_ui, U.boo_ub, U.val_uv, U.lst_ul, U.str_us, U.nat_un, U.heap_uh, SH.den, setsD, newD, bD, SB.den, factsTo, LQ, List.cons_append, List.nil_append, List.getElem?_cons_zero, List.getElem?_cons_succ, Option.getD_some, ltB_true, ltB_false, leB_true, leB_false, beq_iff_eq, bne_iff_ne, beq_eq_false_iff_ne, Int.toNat_natCast];refine .inl ⟨_, fun K => c3 s [34, 34, 34] K, fun h => ?_, fun h => ?_⟩
 ·have hl : 3 ≤ s.length := by
   simp only [preR, Bool.and_eq_true, decide_eq_true_eq] at h;have := h.1;simpa using this
  have e0 : (s.take (s.length : Int).toNat).drop 3 = s.drop 3 := by rw [Int.toNat_natCast, List.take_length]
  have hi := Lib.index_ge (s.drop 3) [34, 34, 34];refine ⟨by omega, .inl ⟨Lib.index (s.drop 3) [34, 34, 34], fun K => ?_, fun h4 => ?_, fun h4 => ?_⟩⟩
  ·simp only [Int.toNat_natCast, List.take_length];exact c4 _ _ (by rw [List.length_drop]; omega) K
  ·have hr := Lib.index_room (s.drop 3) [34, 34, 34] (by omega);rw [List.length_drop] at hr;simp only [List.length_cons, List.length_nil] at hr;obtain ⟨k, hk⟩ : ∃ k : Nat, Lib.index (s.drop 3) [34, 34, 34] = k := ⟨(Lib.index (s.drop 3) [34, 34, 34]).toNat, by omega⟩;rw [hk] at hr h4 ⊢;have hw : IntKind.i64.wrap (3 + (k : Int)) = ((3 + k : Nat) : Int) := by rw [w64 (by omega) (by omega)]; omega
   have hw2 : IntKind.i64.wrap ((k : Int) + 6) = ((k + 6 : Nat) : Int) := by rw [w64 (by omega) (by omega)]; omega
   have e1 : (s.take (3 + k)).drop 3 = (s.drop 3).take k := by rw [List.drop_take, Nat.add_sub_cancel_left]
   simp only [hw, hw2, Int.toNat_natCast];have e2 : (s.take (3 + k)).drop (Int.toNat 3) = (s.drop 3).take k := e1;rw [e2];refine ⟨by omega, by omega, .inl ⟨_, fun K => c5 _ (by rw [List.length_take, List.length_drop]; omega) K, ?_⟩⟩
   ·refine must_ask c1 _ _ _ (fun h6 => ?_) (fun h6 => ?_)
    ·simp only [txtQ, if_pos h, hk, Int.toNat_natCast];rw [if_pos ⟨by omega, h6⟩];simp only [escRes]
    ·simp only [txtQ, if_pos h, hk, Int.toNat_natCast];rw [if_neg fun e => by rw [e.2] at h6; cases h6];simp only [escRes]
  ·refine must_ask c1 _ _ _ (fun h5 => by cases h5) (fun h5 => ?_);simp only [txtQ, if_pos h];rw [if_neg fun e => h4 (by have := e.1; omega)];simp only [escRes]
 ·have e : txtQ s = quoted s 34 := by simp only [txtQ]; rw [if_neg (by rw [h]; exact Bool.false_ne_true)]
  rw [e];rcases hq : quoted s 34 with _ | p
  ·refine .inr ⟨fltV 31 at_, fun K => ?_, ?_⟩
   ·rw [c2 s at_ hp, hq]; rfl
   ·simp only [escRes]
  ·exact .inl ⟨p.1, p.2, fun K => by rw [c2 s at_ hp, hq]; rfl, by simp only [escRes]⟩
end Go.Ev
