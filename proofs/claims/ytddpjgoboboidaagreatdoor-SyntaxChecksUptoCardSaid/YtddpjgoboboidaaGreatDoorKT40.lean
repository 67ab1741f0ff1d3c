/- Walks over the signs of shapes. Walks over the signs of further parts. What the signs say of a node. Escapes, literals and names of the reference. Walks over the symbols. Walks over a token at a place. Where a token at a place ends. -/
import Derived.Test.YtddpjgoboboidaaGreatDoorKT30
import Derived.Test.YtddpjgoboboidaaGreatDoorKT15
import Derived.Test.YtddpjgoboboidaaGreatDoorKT3
namespace Go.Ev
open Go Go.Proofs
set_option linter.unusedSimpArgs false
set_option linter.unusedVariables false
set_option maxRecDepth 1000000
def isTypR (x : Nd) : Bool := decide (12 ≤ x.kind) && decide (x.kind ≤ 18)
def isExpR (x : Nd) : Bool := decide (19 ≤ x.kind) && decide (x.kind ≤ 55) && (x.kind != 32) && (x.kind != 48)
def isMemR (x : Nd) : Bool := (x.kind == 8) || (x.kind == 9)
def fitsR (x : Nd) (c : Nat) : Bool := if c = 116 then isTypR x else if c = 84 then isTypR x || (x.kind == 5) else if c = 101 then isExpR x else if c = 69 then isExpR x || (x.kind == 5)
  else if c = 66 then x.kind == 6 else if c = 80 then x.kind == 10 else (x.kind == 4) && ((wordsR c).any fun w => w == x.text)
theorem body_1019 {call : CallF} (hC : call.Sound Tryz.prog TT) (x : Nd)  : Body Tryz.prog TT 19 [x.enc] (.val (.b (decide (12 ≤ x.kind) && decide (x.kind ≤ 18)))) := by
 refine en Tryz.f19 rfl rfl (by simp [Tryz.f19]) 11 rfl fun t hw hg => ?_
 have h0 := hg 0 _ rfl
 clear hg
 try simp only [Nd.enc_eq] at *
 apply rS hC
 · iterate 2 refine oA ?_
   rfl
 apply sQ
 cases hB1 : (decide (12 ≤ x.kind) : Bool)
 case false =>
  apply rN hC
  · iterate 4 refine oA ?_
    iterate 3 refine oC ?_
    iterate 2 refine oA ?_
    rfl
  apply sN
  apply Tri.ret
  simp [Ends, Tryz.f19, h0, hB1]
 case true =>
  apply rN hC
  · iterate 4 refine oA ?_
    iterate 3 refine oB ?_
    iterate 2 refine oA ?_
    rfl
  apply sN
  apply Tri.ret
  simp [Ends, Tryz.f19, h0, hB1]
theorem body_1021 {call : CallF} (hC : call.Sound Tryz.prog TT) (x : Nd)  : Body Tryz.prog TT 21 [x.enc] (.val (.b (decide (19 ≤ x.kind) && decide (x.kind ≤ 55) && (x.kind != 32) && (x.kind != 48)))) := by
 refine en Tryz.f21 rfl rfl (by simp [Tryz.f21]) 21 rfl fun t hw hg => ?_
 have h0 := hg 0 _ rfl
 clear hg
 try simp only [Nd.enc_eq] at *
 apply rS hC
 · iterate 2 refine oA ?_
   rfl
 apply sQ
 cases hB1 : (decide (19 ≤ x.kind) : Bool)
 case false =>
  apply rN hC
  · iterate 4 refine oA ?_
    iterate 3 refine oC ?_
    iterate 2 refine oA ?_
    iterate 3 refine oC ?_
    iterate 2 refine oA ?_
    iterate 3 refine oC ?_
    iterate 2 refine oA ?_
    rfl
  apply sN
  apply Tri.ret
  simp [Ends, Tryz.f21, h0, hB1]
 case true =>
  cases hB2 : (decide (x.kind ≤ 55) : Bool)
  case false =>
   apply rN hC
   · iterate 4 refine oA ?_
     iterate 3 refine oB ?_
     iterate 2 refine oA ?_
     iterate 3 refine oC ?_
     iterate 2 refine oA ?_
     iterate 3 refine oC ?_
     iterate 2 refine oA ?_
     rfl
   apply sN
   apply Tri.ret
   simp [Ends, Tryz.f21, h0, hB1, hB2]
  case true =>
   cases hB3 : (x.kind != 32 : Bool)
   case false =>
    apply rN hC
    · iterate 4 refine oA ?_
      iterate 3 refine oB ?_
      iterate 2 refine oA ?_
      iterate 3 refine oB ?_
      iterate 2 refine oA ?_
      iterate 3 refine oC ?_
      iterate 2 refine oA ?_
      rfl
    apply sN
    apply Tri.ret
    simp [Ends, Tryz.f21, h0, hB1, hB2, hB3]
   case true =>
    apply rN hC
    · iterate 4 refine oA ?_
      iterate 3 refine oB ?_
      iterate 2 refine oA ?_
      iterate 3 refine oB ?_
      iterate 2 refine oA ?_
      iterate 3 refine oB ?_
      iterate 2 refine oA ?_
      rfl
    apply sN
    apply Tri.ret
    simp [Ends, Tryz.f21, h0, hB1, hB2, hB3]
theorem body_1023 {call : CallF} (hC : call.Sound Tryz.prog TT) (x : Nd)  : Body Tryz.prog TT 23 [x.enc] (.val (.b ((x.kind == 8) || (x.kind == 9)))) := by
 refine en Tryz.f23 rfl rfl (by simp [Tryz.f23]) 11 rfl fun t hw hg => ?_
 have h0 := hg 0 _ rfl
 clear hg
 try simp only [Nd.enc_eq] at *
 apply rS hC
 · iterate 2 refine oA ?_
   rfl
 apply sQ
 cases hB1 : (x.kind == 8 : Bool)
 case false =>
  apply rN hC
  · iterate 4 refine oA ?_
    iterate 3 refine oB ?_
    iterate 2 refine oA ?_
    rfl
  apply sN
  apply Tri.ret
  simp [Ends, Tryz.f23, h0, hB1]
 case true =>
  apply rN hC
  · iterate 4 refine oA ?_
    iterate 3 refine oC ?_
    iterate 2 refine oA ?_
    rfl
  apply sN
  apply Tri.ret
  simp [Ends, Tryz.f23, h0, hB1]
theorem loop1100 {call : CallF} (hC : call.Sound Tryz.prog TT) (s : List UInt8) {Q : Out → Prop} : ∀ (L pre : List (List UInt8)) (t : Tm) (H : Heap), (pre ++ L).length < 1100000 → t.wid = 18 → t.get 0 = .isl 1 (encS (pre ++ L)) → t.get 1 = .s s → t.get 5 = .i .i64 pre.length →
    (∀ t' H', t'.wid = 18 → (L.any fun x => x == s) = false → Q (.exit 0 t' H')) → (∀ t' H', t'.wid = 18 → (L.any fun x => x == s) = true → t'.get 4 = .b true → Q (.ret t' H')) →
    LTri Tryz.prog TT (sub [true, false, true, false, false] (bodyOf Tryz.f100)) t H Q := by
 intro L
 induction L with
 | nil =>
   intro pre t H hlen hw h0 h1 h5 hE hR
   have hF := ai @h0 (ai @h1 (ai @h5 @encS_length))
   refine LTri.round' ?_
   apply sQ
   apply rS hC
   · iterate 4 refine oA ?_
     rfl
   refine cF (by simp [hF] <;> rfl) ?_
   refine Tri.exit ?_
   refine inSeq_exit ?_
   refine inLoop_exit ?_
   exact hE _ _ (by simp [hw]) (by simp)
 | cons x L ih =>
   intro pre t H hlen hw h0 h1 h5 hE hR
   have hlt := fin_len pre.length L.length
   have hat := encS_at pre x L
   have hat2 := encS_at2 pre x L
   cases hq : (x == s) with
   | true =>
     have hF := ai @h0 (ai @h1 (ai @h5 (ai @encS_length (ai @hlt (ai @hat (ai @hat2 @hq))))))
     refine LTri.round' ?_
     apply sQ
     apply rS hC
     · iterate 4 refine oA ?_
       rfl
     refine cT (by simp [hF] <;> rfl) ?_
     apply Tri.skip
     apply sN
     apply sQ
     apply bK
     apply rS hC
     · iterate 6 refine oA ?_
       rfl
     refine cT (by simp [hF] <;> rfl) ?_
     apply rS hC
     · refine oA ?_
       rfl
     apply Tri.ret
     apply bR
     apply sR
     refine inLoop_ret ?_
     exact hR _ _ (by simp [hw]) (by simp [hq]) (by simp)
   | false =>
     have hF := ai @h0 (ai @h1 (ai @h5 (ai @encS_length (ai @hlt (ai @hat (ai @hat2 @hq))))))
     refine LTri.round' ?_
     apply sQ
     apply rS hC
     · iterate 4 refine oA ?_
       rfl
     refine Tri.condG (o := ?on2) (b := ?bn2) ?gn2 ?rn2 ?yn2 ?nn2
     case gn2 => simp [hF] <;> rfl
     case rn2 => rfl
     case yn2 =>
      intro hy2
      apply Tri.skip
      apply sN
      apply sQ
      apply bK
      apply rS hC
      · iterate 6 refine oA ?_
        rfl
      refine cF (by simp [hF] <;> rfl) ?_
      apply Tri.skip
      apply bN
      apply sN
      apply rN hC
      · iterate 3 refine oA ?_
        rfl
      refine inLoop_norm ?_
      refine ih (pre ++ [x]) _ _ (by simpa using hlen) (by simp [hw]) (by simp [h0]) (by simp [h1]) (by simp; exact wrap_i64 (by omega) (by simp at hlen; omega)) (fun t' H' k1 k2 => hE t' H' k1 (by simp [hq, k2])) (fun t' H' k1 k2 => hR t' H' k1 (by simp [k2]))
     case nn2 =>
      intro hn2
      exfalso
      simp at hn2

theorem body_1100 {call : CallF} (hC : call.Sound Tryz.prog TT) (l : List (List UInt8)) (s : List UInt8) (hlen : l.length < 1100000)  : EBody Tryz.prog TT 100 [.isl 1 (encS l), .s s] (fun r => r = .val (.b (l.any fun x => x == s))) := by
 refine en Tryz.f100 rfl rfl (by simp [Tryz.f100]) 18 rfl fun t hw hg => ?_
 have h0 := hg 0 _ rfl
 have h1 := hg 1 _ rfl
 clear hg
 try simp only [Nd.enc_eq] at *
 have hF := ai @h0 (ai @h1 @encS_length)
 apply rS hC
 · refine oA ?_
   rfl
 apply sQ
 apply rS hC
 · refine oA ?_
   rfl
 apply bK
 refine Tri.loop ?_
 refine loop1100 hC s l [] _ _ (by simpa using hlen) (by simp [hw]) (by simp [h0]) (by simp [h1]) (by simp) ?exit ?ret
 case exit =>
  intro t2 H2 hw hr
  have h4 : True := trivial
  refine inBlk_exit ?_
  apply sN
  apply rS hC
  · refine oA ?_
    rfl
  apply Tri.ret
  rw [hr]
  refine endsE (by simp [Tryz.f100, h4] <;> rfl) (by rfl) ?_
  rfl
 case ret =>
  intro t2 H2 hw hr h4
  apply bR
  apply sR
  rw [hr]
  refine endsE (by simp [Tryz.f100, h4] <;> rfl) (by rfl) ?_
  rfl
theorem body_1082s116 {call : CallF} (hC : call.Sound Tryz.prog TT) (x : Nd) (hT : ∀ H, call 19 [x.enc] H = .val (.b (isTypR x)) H) (hX : ∀ H, call 21 [x.enc] H = .val (.b (isExpR x)) H)   : EBody Tryz.prog TT 82 [x.enc, .i .u8 116] (fun r => r = .val (.b (isTypR x))) := by
 refine en Tryz.f82 rfl rfl (by simp [Tryz.f82]) 52 rfl fun t hw hg => ?_
 have h0 := hg 0 _ rfl
 have h1 := hg 1 _ rfl
 clear hg
 try simp only [Nd.enc_eq] at *
 have hF := ai @h0 (ai @h1 (ai @hT @hX))
 apply rS hC
 · iterate 2 refine oA ?_
   rfl
 apply sQ
 apply rS hC
 · refine oA ?_
   rfl
 apply bK
 apply rS hC
 · iterate 2 refine oA ?_
   rfl
 refine cT (by simp [hF] <;> rfl) ?_
 apply rS hC
 · iterate 3 refine oA ?_
   rfl
 apply Tri.ret
 apply bR
 apply sR
 refine endsE (by simp [Tryz.f82, *] <;> rfl) (by rfl) ?_
 first
  | rfl
  | simp [*]
theorem body_1082s84 {call : CallF} (hC : call.Sound Tryz.prog TT) (x : Nd) (b : Bool) (hb : ∀ H, call 19 [x.enc] H = .val (.b b) H)  : EBody Tryz.prog TT 82 [x.enc, .i .u8 84] (fun r => r = .val (.b (b || (x.kind == 5)))) := by
 refine en Tryz.f82 rfl rfl (by simp [Tryz.f82]) 52 rfl fun t hw hg => ?_
 have h0 := hg 0 _ rfl
 have h1 := hg 1 _ rfl
 clear hg
 try simp only [Nd.enc_eq] at *
 have hF := ai @h0 (ai @h1 @hb)
 apply rS hC
 · iterate 2 refine oA ?_
   rfl
 apply sQ
 apply rS hC
 · refine oA ?_
   rfl
 apply bK
 apply rS hC
 · iterate 2 refine oA ?_
   rfl
 refine cF (by simp [hF] <;> rfl) ?_
 apply rS hC
 · iterate 2 refine oA ?_
   rfl
 refine cT (by simp [hF] <;> rfl) ?_
 apply sQ
 cases hB1 : (b : Bool)
 case false =>
  apply rN hC
  · iterate 3 refine oA ?_
    iterate 3 refine oB ?_
    iterate 2 refine oA ?_
    rfl
  apply sN
  apply Tri.ret
  apply bR
  apply sR
  refine endsE (by simp [Tryz.f82, *] <;> rfl) (by rfl) ?_
  first
   | rfl
   | simp [*]
 case true =>
  apply rN hC
  · iterate 3 refine oA ?_
    iterate 3 refine oC ?_
    iterate 2 refine oA ?_
    rfl
  apply sN
  apply Tri.ret
  apply bR
  apply sR
  refine endsE (by simp [Tryz.f82, *] <;> rfl) (by rfl) ?_
  first
   | rfl
   | simp [*]
theorem body_1082s101 {call : CallF} (hC : call.Sound Tryz.prog TT) (x : Nd) (hT : ∀ H, call 19 [x.enc] H = .val (.b (isTypR x)) H) (hX : ∀ H, call 21 [x.enc] H = .val (.b (isExpR x)) H)   : EBody Tryz.prog TT 82 [x.enc, .i .u8 101] (fun r => r = .val (.b (isExpR x))) := by
 refine en Tryz.f82 rfl rfl (by simp [Tryz.f82]) 52 rfl fun t hw hg => ?_
 have h0 := hg 0 _ rfl
 have h1 := hg 1 _ rfl
 clear hg
 try simp only [Nd.enc_eq] at *
 have hF := ai @h0 (ai @h1 (ai @hT @hX))
 apply rS hC
 · iterate 2 refine oA ?_
   rfl
 apply sQ
 apply rS hC
 · refine oA ?_
   rfl
 apply bK
 apply rS hC
 · iterate 2 refine oA ?_
   rfl
 refine cF (by simp [hF] <;> rfl) ?_
 apply rS hC
 · iterate 2 refine oA ?_
   rfl
 refine cF (by simp [hF] <;> rfl) ?_
 apply rS hC
 · iterate 2 refine oA ?_
   rfl
 refine cT (by simp [hF] <;> rfl) ?_
 apply rS hC
 · iterate 3 refine oA ?_
   rfl
 apply Tri.ret
 apply bR
 apply sR
 refine endsE (by simp [Tryz.f82, *] <;> rfl) (by rfl) ?_
 first
  | rfl
  | simp [*]
theorem body_1082s69 {call : CallF} (hC : call.Sound Tryz.prog TT) (x : Nd) (b : Bool) (hb : ∀ H, call 21 [x.enc] H = .val (.b b) H)  : EBody Tryz.prog TT 82 [x.enc, .i .u8 69] (fun r => r = .val (.b (b || (x.kind == 5)))) := by
 refine en Tryz.f82 rfl rfl (by simp [Tryz.f82]) 52 rfl fun t hw hg => ?_
 have h0 := hg 0 _ rfl
 have h1 := hg 1 _ rfl
 clear hg
 try simp only [Nd.enc_eq] at *
 have hF := ai @h0 (ai @h1 @hb)
 apply rS hC
 · iterate 2 refine oA ?_
   rfl
 apply sQ
 apply rS hC
 · refine oA ?_
   rfl
 apply bK
 apply rS hC
 · iterate 2 refine oA ?_
   rfl
 refine cF (by simp [hF] <;> rfl) ?_
 apply rS hC
 · iterate 2 refine oA ?_
   rfl
 refine cF (by simp [hF] <;> rfl) ?_
 apply rS hC
 · iterate 2 refine oA ?_
   rfl
 refine cF (by simp [hF] <;> rfl) ?_
 apply rS hC
 · iterate 2 refine oA ?_
   rfl
 refine cT (by simp [hF] <;> rfl) ?_
 apply sQ
 cases hB1 : (b : Bool)
 case false =>
  apply rN hC
  · iterate 3 refine oA ?_
    iterate 3 refine oB ?_
    iterate 2 refine oA ?_
    rfl
  apply sN
  apply Tri.ret
  apply bR
  apply sR
  refine endsE (by simp [Tryz.f82, *] <;> rfl) (by rfl) ?_
  first
   | rfl
   | simp [*]
 case true =>
  apply rN hC
  · iterate 3 refine oA ?_
    iterate 3 refine oC ?_
    iterate 2 refine oA ?_
    rfl
  apply sN
  apply Tri.ret
  apply bR
  apply sR
  refine endsE (by simp [Tryz.f82, *] <;> rfl) (by rfl) ?_
  first
   | rfl
   | simp [*]
theorem body_1082s66 {call : CallF} (hC : call.Sound Tryz.prog TT) (x : Nd)   : EBody Tryz.prog TT 82 [x.enc, .i .u8 66] (fun r => r = .val (.b (x.kind == 6))) := by
 refine en Tryz.f82 rfl rfl (by simp [Tryz.f82]) 52 rfl fun t hw hg => ?_
 have h0 := hg 0 _ rfl
 have h1 := hg 1 _ rfl
 clear hg
 try simp only [Nd.enc_eq] at *
 apply rS hC
 · iterate 2 refine oA ?_
   rfl
 apply sQ
 apply rS hC
 · refine oA ?_
   rfl
 apply bK
 apply rS hC
 · iterate 2 refine oA ?_
   rfl
 refine cF (by simp [h0, h1] <;> rfl) ?_
 apply rS hC
 · iterate 2 refine oA ?_
   rfl
 refine cF (by simp [h0, h1] <;> rfl) ?_
 apply rS hC
 · iterate 2 refine oA ?_
   rfl
 refine cF (by simp [h0, h1] <;> rfl) ?_
 apply rS hC
 · iterate 2 refine oA ?_
   rfl
 refine cF (by simp [h0, h1] <;> rfl) ?_
 apply rS hC
 · iterate 2 refine oA ?_
   rfl
 refine cT (by simp [h0, h1] <;> rfl) ?_
 apply rS hC
 · iterate 4 refine oA ?_
   rfl
 apply Tri.ret
 apply bR
 apply sR
 refine endsE (by simp [Tryz.f82, *] <;> rfl) (by rfl) ?_
 first
  | rfl
  | simp [*]
theorem body_1082s80 {call : CallF} (hC : call.Sound Tryz.prog TT) (x : Nd)   : EBody Tryz.prog TT 82 [x.enc, .i .u8 80] (fun r => r = .val (.b (x.kind == 10))) := by
 refine en Tryz.f82 rfl rfl (by simp [Tryz.f82]) 52 rfl fun t hw hg => ?_
 have h0 := hg 0 _ rfl
 have h1 := hg 1 _ rfl
 clear hg
 try simp only [Nd.enc_eq] at *
 apply rS hC
 · iterate 2 refine oA ?_
   rfl
 apply sQ
 apply rS hC
 · refine oA ?_
   rfl
 apply bK
 apply rS hC
 · iterate 2 refine oA ?_
   rfl
 refine cF (by simp [h0, h1] <;> rfl) ?_
 apply rS hC
 · iterate 2 refine oA ?_
   rfl
 refine cF (by simp [h0, h1] <;> rfl) ?_
 apply rS hC
 · iterate 2 refine oA ?_
   rfl
 refine cF (by simp [h0, h1] <;> rfl) ?_
 apply rS hC
 · iterate 2 refine oA ?_
   rfl
 refine cF (by simp [h0, h1] <;> rfl) ?_
 apply rS hC
 · iterate 2 refine oA ?_
   rfl
 refine cF (by simp [h0, h1] <;> rfl) ?_
 apply rS hC
 · iterate 2 refine oA ?_
   rfl
 refine cT (by simp [h0, h1] <;> rfl) ?_
 apply rS hC
 · iterate 4 refine oA ?_
   rfl
 apply Tri.ret
 apply bR
 apply sR
 refine endsE (by simp [Tryz.f82, *] <;> rfl) (by rfl) ?_
 first
  | rfl
  | simp [*]
theorem body_1082w {call : CallF} (hC : call.Sound Tryz.prog TT) (x : Nd) (c : Nat) (l : List (List UInt8)) (q : Bool) (n116 : ((c : Int) == 116) = false) (n84 : ((c : Int) == 84) = false) (n101 : ((c : Int) == 101) = false) (n69 : ((c : Int) == 69) = false) (n66 : ((c : Int) == 66) = false) (n80 : ((c : Int) == 80) = false) (hwd : ∀ H, call 102 [.i .u8 (c : Nat)] H = .val (.isl 1 (encS l)) H) (hh : ∀ H, call 100 [.isl 1 (encS l), .s x.text] H = .val (.b q) H)  : EBody Tryz.prog TT 82 [x.enc, .i .u8 (c : Nat)] (fun r => r = .val (.b ((x.kind == 4) && q))) := by
 refine en Tryz.f82 rfl rfl (by simp [Tryz.f82]) 52 rfl fun t hw hg => ?_
 have h0 := hg 0 _ rfl
 have h1 := hg 1 _ rfl
 clear hg
 try simp only [Nd.enc_eq] at *
 have hF := ai @h0 (ai @h1 (ai @n116 (ai @n84 (ai @n101 (ai @n69 (ai @n66 (ai @n80 (ai @hwd @hh))))))))
 apply rS hC
 · iterate 2 refine oA ?_
   rfl
 apply sQ
 apply rS hC
 · refine oA ?_
   rfl
 apply bK
 apply rS hC
 · iterate 2 refine oA ?_
   rfl
 refine cF (by simp [hF] <;> rfl) ?_
 apply rS hC
 · iterate 2 refine oA ?_
   rfl
 refine cF (by simp [hF] <;> rfl) ?_
 apply rS hC
 · iterate 2 refine oA ?_
   rfl
 refine cF (by simp [hF] <;> rfl) ?_
 apply rS hC
 · iterate 2 refine oA ?_
   rfl
 refine cF (by simp [hF] <;> rfl) ?_
 apply rS hC
 · iterate 2 refine oA ?_
   rfl
 refine cF (by simp [hF] <;> rfl) ?_
 apply rS hC
 · iterate 2 refine oA ?_
   rfl
 refine cF (by simp [hF] <;> rfl) ?_
 apply Tri.skip
 apply bN
 apply sN
 apply sQ
 cases hB1 : (x.kind == 4 : Bool)
 case false =>
  refine Tri.regN (t' := ?tq1f15) (H' := ?Hq1f15) TT_ok hC ?eq1f15 ?qq1f15
  case eq1f15 =>
   refine evReg_quiet (t' := ?tq1f15) (by kernel_rfl) ?_ ?rq1f915
   iterate 4 refine QR.val rfl (by simp [hF, hB1] <;> rfl) (by rfl) (by simp [hw]) ?_
   iterate 5 refine QR.off (by simp [wants, hF, hB1]) (by simp [hw]) ?_
   iterate 2 refine QR.val rfl (by simp [hF, hB1] <;> rfl) (by rfl) (by simp [hw]) ?_
   exact QR.nil
   case rq1f915 => exact rfl
  apply sN
  apply Tri.ret
  refine endsE (by simp [Tryz.f82, *] <;> rfl) (by rfl) ?_
  first
   | rfl
   | simp [*]
 case true =>
  refine Tri.regN (t' := ?tq1t15) (H' := ?Hq1t15) TT_ok hC ?eq1t15 ?qq1t15
  case eq1t15 =>
   refine evReg_quiet (t' := ?tq1t15) (by kernel_rfl) ?_ ?rq1t915
   iterate 4 refine QR.val rfl (by simp [hF, hB1] <;> rfl) (by rfl) (by simp [hw]) ?_
   iterate 5 refine QR.val (by simp [wants, hF, hB1]) (by simp [hF, hB1] <;> rfl) (by rfl) (by simp [hw]) ?_
   iterate 2 refine QR.val rfl (by simp [hF, hB1] <;> rfl) (by rfl) (by simp [hw]) ?_
   exact QR.nil
   case rq1t915 => exact rfl
  apply sN
  apply Tri.ret
  refine endsE (by simp [Tryz.f82, *] <;> rfl) (by rfl) ?_
  first
   | rfl
   | simp [*]
def moreR (x : Nd) (c : Nat) : Bool := if c = 109 then isMemR x else if c = 98 then x.kind == 7 else if c = 112 then x.kind == 11 else if c = 116 then isTypR x else if c = 101 then isExpR x
  else if c = 97 then isExpR x || (x.kind == 32) else if c = 120 then x.kind == 48 else if c = 121 then x.kind == 56 else if c = 117 then (x.kind == 2) || (x.kind == 3) else false
theorem body_1083s109 {call : CallF} (hC : call.Sound Tryz.prog TT) (x : Nd) (hb : ∀ H, call 23 [x.enc] H = .val (.b (isMemR x)) H)  : EBody Tryz.prog TT 83 [x.enc, .i .u8 109] (fun r => r = .val (.b (isMemR x))) := by
 refine en Tryz.f83 rfl rfl (by simp [Tryz.f83]) 57 rfl fun t hw hg => ?_
 have h0 := hg 0 _ rfl
 have h1 := hg 1 _ rfl
 clear hg
 try simp only [Nd.enc_eq] at *
 have hF := ai @h0 (ai @h1 @hb)
 apply rS hC
 · iterate 2 refine oA ?_
   rfl
 apply sQ
 apply rS hC
 · refine oA ?_
   rfl
 apply bK
 apply rS hC
 · iterate 2 refine oA ?_
   rfl
 refine cT (by simp [hF] <;> rfl) ?_
 apply rS hC
 · iterate 3 refine oA ?_
   rfl
 apply Tri.ret
 apply bR
 apply sR
 refine endsE (by simp [Tryz.f83, *] <;> rfl) (by rfl) ?_
 first
  | rfl
  | simp [*]
theorem body_1083s98 {call : CallF} (hC : call.Sound Tryz.prog TT) (x : Nd)   : EBody Tryz.prog TT 83 [x.enc, .i .u8 98] (fun r => r = .val (.b (x.kind == 7))) := by
 refine en Tryz.f83 rfl rfl (by simp [Tryz.f83]) 57 rfl fun t hw hg => ?_
 have h0 := hg 0 _ rfl
 have h1 := hg 1 _ rfl
 clear hg
 try simp only [Nd.enc_eq] at *
 apply rS hC
 · iterate 2 refine oA ?_
   rfl
 apply sQ
 apply rS hC
 · refine oA ?_
   rfl
 apply bK
 apply rS hC
 · iterate 2 refine oA ?_
   rfl
 refine cF (by simp [h0, h1] <;> rfl) ?_
 apply rS hC
 · iterate 2 refine oA ?_
   rfl
 refine cT (by simp [h0, h1] <;> rfl) ?_
 apply rS hC
 · iterate 4 refine oA ?_
   rfl
 apply Tri.ret
 apply bR
 apply sR
 refine endsE (by simp [Tryz.f83, *] <;> rfl) (by rfl) ?_
 first
  | rfl
  | simp [*]
theorem body_1083s112 {call : CallF} (hC : call.Sound Tryz.prog TT) (x : Nd)   : EBody Tryz.prog TT 83 [x.enc, .i .u8 112] (fun r => r = .val (.b (x.kind == 11))) := by
 refine en Tryz.f83 rfl rfl (by simp [Tryz.f83]) 57 rfl fun t hw hg => ?_
 have h0 := hg 0 _ rfl
 have h1 := hg 1 _ rfl
 clear hg
 try simp only [Nd.enc_eq] at *
 apply rS hC
 · iterate 2 refine oA ?_
   rfl
 apply sQ
 apply rS hC
 · refine oA ?_
   rfl
 apply bK
 apply rS hC
 · iterate 2 refine oA ?_
   rfl
 refine cF (by simp [h0, h1] <;> rfl) ?_
 apply rS hC
 · iterate 2 refine oA ?_
   rfl
 refine cF (by simp [h0, h1] <;> rfl) ?_
 apply rS hC
 · iterate 2 refine oA ?_
   rfl
 refine cT (by simp [h0, h1] <;> rfl) ?_
 apply rS hC
 · iterate 4 refine oA ?_
   rfl
 apply Tri.ret
 apply bR
 apply sR
 refine endsE (by simp [Tryz.f83, *] <;> rfl) (by rfl) ?_
 first
  | rfl
  | simp [*]
theorem body_1083s116 {call : CallF} (hC : call.Sound Tryz.prog TT) (x : Nd) (hb : ∀ H, call 19 [x.enc] H = .val (.b (isTypR x)) H)  : EBody Tryz.prog TT 83 [x.enc, .i .u8 116] (fun r => r = .val (.b (isTypR x))) := by
 refine en Tryz.f83 rfl rfl (by simp [Tryz.f83]) 57 rfl fun t hw hg => ?_
 have h0 := hg 0 _ rfl
 have h1 := hg 1 _ rfl
 clear hg
 try simp only [Nd.enc_eq] at *
 have hF := ai @h0 (ai @h1 @hb)
 apply rS hC
 · iterate 2 refine oA ?_
   rfl
 apply sQ
 apply rS hC
 · refine oA ?_
   rfl
 apply bK
 apply rS hC
 · iterate 2 refine oA ?_
   rfl
 refine cF (by simp [hF] <;> rfl) ?_
 apply rS hC
 · iterate 2 refine oA ?_
   rfl
 refine cF (by simp [hF] <;> rfl) ?_
 apply rS hC
 · iterate 2 refine oA ?_
   rfl
 refine cF (by simp [hF] <;> rfl) ?_
 apply rS hC
 · iterate 2 refine oA ?_
   rfl
 refine cT (by simp [hF] <;> rfl) ?_
 apply rS hC
 · iterate 3 refine oA ?_
   rfl
 apply Tri.ret
 apply bR
 apply sR
 refine endsE (by simp [Tryz.f83, *] <;> rfl) (by rfl) ?_
 first
  | rfl
  | simp [*]
theorem body_1083s101 {call : CallF} (hC : call.Sound Tryz.prog TT) (x : Nd) (hb : ∀ H, call 21 [x.enc] H = .val (.b (isExpR x)) H)  : EBody Tryz.prog TT 83 [x.enc, .i .u8 101] (fun r => r = .val (.b (isExpR x))) := by
 refine en Tryz.f83 rfl rfl (by simp [Tryz.f83]) 57 rfl fun t hw hg => ?_
 have h0 := hg 0 _ rfl
 have h1 := hg 1 _ rfl
 clear hg
 try simp only [Nd.enc_eq] at *
 have hF := ai @h0 (ai @h1 @hb)
 apply rS hC
 · iterate 2 refine oA ?_
   rfl
 apply sQ
 apply rS hC
 · refine oA ?_
   rfl
 apply bK
 apply rS hC
 · iterate 2 refine oA ?_
   rfl
 refine cF (by simp [hF] <;> rfl) ?_
 apply rS hC
 · iterate 2 refine oA ?_
   rfl
 refine cF (by simp [hF] <;> rfl) ?_
 apply rS hC
 · iterate 2 refine oA ?_
   rfl
 refine cF (by simp [hF] <;> rfl) ?_
 apply rS hC
 · iterate 2 refine oA ?_
   rfl
 refine cF (by simp [hF] <;> rfl) ?_
 apply rS hC
 · iterate 2 refine oA ?_
   rfl
 refine cT (by simp [hF] <;> rfl) ?_
 apply rS hC
 · iterate 3 refine oA ?_
   rfl
 apply Tri.ret
 apply bR
 apply sR
 refine endsE (by simp [Tryz.f83, *] <;> rfl) (by rfl) ?_
 first
  | rfl
  | simp [*]
theorem body_1083s97 {call : CallF} (hC : call.Sound Tryz.prog TT) (x : Nd) (b : Bool) (hb : ∀ H, call 21 [x.enc] H = .val (.b b) H)  : EBody Tryz.prog TT 83 [x.enc, .i .u8 97] (fun r => r = .val (.b (b || (x.kind == 32)))) := by
 refine en Tryz.f83 rfl rfl (by simp [Tryz.f83]) 57 rfl fun t hw hg => ?_
 have h0 := hg 0 _ rfl
 have h1 := hg 1 _ rfl
 clear hg
 try simp only [Nd.enc_eq] at *
 have hF := ai @h0 (ai @h1 @hb)
 apply rS hC
 · iterate 2 refine oA ?_
   rfl
 apply sQ
 apply rS hC
 · refine oA ?_
   rfl
 apply bK
 apply rS hC
 · iterate 2 refine oA ?_
   rfl
 refine cF (by simp [hF] <;> rfl) ?_
 apply rS hC
 · iterate 2 refine oA ?_
   rfl
 refine cF (by simp [hF] <;> rfl) ?_
 apply rS hC
 · iterate 2 refine oA ?_
   rfl
 refine cF (by simp [hF] <;> rfl) ?_
 apply rS hC
 · iterate 2 refine oA ?_
   rfl
 refine cF (by simp [hF] <;> rfl) ?_
 apply rS hC
 · iterate 2 refine oA ?_
   rfl
 refine cF (by simp [hF] <;> rfl) ?_
 apply rS hC
 · iterate 2 refine oA ?_
   rfl
 refine cT (by simp [hF] <;> rfl) ?_
 apply sQ
 cases hB1 : (b : Bool)
 case false =>
  apply rN hC
  · iterate 3 refine oA ?_
    iterate 3 refine oB ?_
    iterate 2 refine oA ?_
    rfl
  apply sN
  apply Tri.ret
  apply bR
  apply sR
  refine endsE (by simp [Tryz.f83, *] <;> rfl) (by rfl) ?_
  first
   | rfl
   | simp [*]
 case true =>
  apply rN hC
  · iterate 3 refine oA ?_
    iterate 3 refine oC ?_
    iterate 2 refine oA ?_
    rfl
  apply sN
  apply Tri.ret
  apply bR
  apply sR
  refine endsE (by simp [Tryz.f83, *] <;> rfl) (by rfl) ?_
  first
   | rfl
   | simp [*]
theorem body_1083s120 {call : CallF} (hC : call.Sound Tryz.prog TT) (x : Nd)   : EBody Tryz.prog TT 83 [x.enc, .i .u8 120] (fun r => r = .val (.b (x.kind == 48))) := by
 refine en Tryz.f83 rfl rfl (by simp [Tryz.f83]) 57 rfl fun t hw hg => ?_
 have h0 := hg 0 _ rfl
 have h1 := hg 1 _ rfl
 clear hg
 try simp only [Nd.enc_eq] at *
 apply rS hC
 · iterate 2 refine oA ?_
   rfl
 apply sQ
 apply rS hC
 · refine oA ?_
   rfl
 apply bK
 apply rS hC
 · iterate 2 refine oA ?_
   rfl
 refine cF (by simp [h0, h1] <;> rfl) ?_
 apply rS hC
 · iterate 2 refine oA ?_
   rfl
 refine cF (by simp [h0, h1] <;> rfl) ?_
 apply rS hC
 · iterate 2 refine oA ?_
   rfl
 refine cF (by simp [h0, h1] <;> rfl) ?_
 apply rS hC
 · iterate 2 refine oA ?_
   rfl
 refine cF (by simp [h0, h1] <;> rfl) ?_
 apply rS hC
 · iterate 2 refine oA ?_
   rfl
 refine cF (by simp [h0, h1] <;> rfl) ?_
 apply rS hC
 · iterate 2 refine oA ?_
   rfl
 refine cF (by simp [h0, h1] <;> rfl) ?_
 apply rS hC
 · iterate 2 refine oA ?_
   rfl
 refine cT (by simp [h0, h1] <;> rfl) ?_
 apply rS hC
 · iterate 4 refine oA ?_
   rfl
 apply Tri.ret
 apply bR
 apply sR
 refine endsE (by simp [Tryz.f83, *] <;> rfl) (by rfl) ?_
 first
  | rfl
  | simp [*]
theorem body_1083s121 {call : CallF} (hC : call.Sound Tryz.prog TT) (x : Nd)   : EBody Tryz.prog TT 83 [x.enc, .i .u8 121] (fun r => r = .val (.b (x.kind == 56))) := by
 refine en Tryz.f83 rfl rfl (by simp [Tryz.f83]) 57 rfl fun t hw hg => ?_
 have h0 := hg 0 _ rfl
 have h1 := hg 1 _ rfl
 clear hg
 try simp only [Nd.enc_eq] at *
 apply rS hC
 · iterate 2 refine oA ?_
   rfl
 apply sQ
 apply rS hC
 · refine oA ?_
   rfl
 apply bK
 apply rS hC
 · iterate 2 refine oA ?_
   rfl
 refine cF (by simp [h0, h1] <;> rfl) ?_
 apply rS hC
 · iterate 2 refine oA ?_
   rfl
 refine cF (by simp [h0, h1] <;> rfl) ?_
 apply rS hC
 · iterate 2 refine oA ?_
   rfl
 refine cF (by simp [h0, h1] <;> rfl) ?_
 apply rS hC
 · iterate 2 refine oA ?_
   rfl
 refine cF (by simp [h0, h1] <;> rfl) ?_
 apply rS hC
 · iterate 2 refine oA ?_
   rfl
 refine cF (by simp [h0, h1] <;> rfl) ?_
 apply rS hC
 · iterate 2 refine oA ?_
   rfl
 refine cF (by simp [h0, h1] <;> rfl) ?_
 apply rS hC
 · iterate 2 refine oA ?_
   rfl
 refine cF (by simp [h0, h1] <;> rfl) ?_
 apply rS hC
 · iterate 2 refine oA ?_
   rfl
 refine cT (by simp [h0, h1] <;> rfl) ?_
 apply rS hC
 · iterate 4 refine oA ?_
   rfl
 apply Tri.ret
 apply bR
 apply sR
 refine endsE (by simp [Tryz.f83, *] <;> rfl) (by rfl) ?_
 first
  | rfl
  | simp [*]
theorem body_1083s117 {call : CallF} (hC : call.Sound Tryz.prog TT) (x : Nd)   : EBody Tryz.prog TT 83 [x.enc, .i .u8 117] (fun r => r = .val (.b ((x.kind == 2) || (x.kind == 3)))) := by
 refine en Tryz.f83 rfl rfl (by simp [Tryz.f83]) 57 rfl fun t hw hg => ?_
 have h0 := hg 0 _ rfl
 have h1 := hg 1 _ rfl
 clear hg
 try simp only [Nd.enc_eq] at *
 apply rS hC
 · iterate 2 refine oA ?_
   rfl
 apply sQ
 apply rS hC
 · refine oA ?_
   rfl
 apply bK
 apply rS hC
 · iterate 2 refine oA ?_
   rfl
 refine cF (by simp [h0, h1] <;> rfl) ?_
 apply rS hC
 · iterate 2 refine oA ?_
   rfl
 refine cF (by simp [h0, h1] <;> rfl) ?_
 apply rS hC
 · iterate 2 refine oA ?_
   rfl
 refine cF (by simp [h0, h1] <;> rfl) ?_
 apply rS hC
 · iterate 2 refine oA ?_
   rfl
 refine cF (by simp [h0, h1] <;> rfl) ?_
 apply rS hC
 · iterate 2 refine oA ?_
   rfl
 refine cF (by simp [h0, h1] <;> rfl) ?_
 apply rS hC
 · iterate 2 refine oA ?_
   rfl
 refine cF (by simp [h0, h1] <;> rfl) ?_
 apply rS hC
 · iterate 2 refine oA ?_
   rfl
 refine cF (by simp [h0, h1] <;> rfl) ?_
 apply rS hC
 · iterate 2 refine oA ?_
   rfl
 refine cF (by simp [h0, h1] <;> rfl) ?_
 apply rS hC
 · iterate 2 refine oA ?_
   rfl
 refine cT (by simp [h0, h1] <;> rfl) ?_
 apply sQ
 cases hB1 : (x.kind == 2 : Bool)
 case false =>
  apply rN hC
  · iterate 4 refine oA ?_
    iterate 3 refine oB ?_
    iterate 2 refine oA ?_
    rfl
  apply sN
  apply Tri.ret
  apply bR
  apply sR
  refine endsE (by simp [Tryz.f83, *] <;> rfl) (by rfl) ?_
  first
   | rfl
   | simp [*]
 case true =>
  apply rN hC
  · iterate 4 refine oA ?_
    iterate 3 refine oC ?_
    iterate 2 refine oA ?_
    rfl
  apply sN
  apply Tri.ret
  apply bR
  apply sR
  refine endsE (by simp [Tryz.f83, *] <;> rfl) (by rfl) ?_
  first
   | rfl
   | simp [*]
theorem body_1083w {call : CallF} (hC : call.Sound Tryz.prog TT) (x : Nd) (c : Nat) (n109 : ((c : Int) == 109) = false) (n98 : ((c : Int) == 98) = false) (n112 : ((c : Int) == 112) = false) (n116 : ((c : Int) == 116) = false) (n101 : ((c : Int) == 101) = false) (n97 : ((c : Int) == 97) = false) (n120 : ((c : Int) == 120) = false) (n121 : ((c : Int) == 121) = false) (n117 : ((c : Int) == 117) = false)  : EBody Tryz.prog TT 83 [x.enc, .i .u8 (c : Nat)] (fun r => r = .val (.b false)) := by
 refine en Tryz.f83 rfl rfl (by simp [Tryz.f83]) 57 rfl fun t hw hg => ?_
 have h0 := hg 0 _ rfl
 have h1 := hg 1 _ rfl
 clear hg
 try simp only [Nd.enc_eq] at *
 have hF := ai @h0 (ai @h1 (ai @n109 (ai @n98 (ai @n112 (ai @n116 (ai @n101 (ai @n97 (ai @n120 (ai @n121 @n117)))))))))
 apply rS hC
 · iterate 2 refine oA ?_
   rfl
 apply sQ
 apply rS hC
 · refine oA ?_
   rfl
 apply bK
 apply rS hC
 · iterate 2 refine oA ?_
   rfl
 refine cF (by simp [hF] <;> rfl) ?_
 apply rS hC
 · iterate 2 refine oA ?_
   rfl
 refine cF (by simp [hF] <;> rfl) ?_
 apply rS hC
 · iterate 2 refine oA ?_
   rfl
 refine cF (by simp [hF] <;> rfl) ?_
 apply rS hC
 · iterate 2 refine oA ?_
   rfl
 refine cF (by simp [hF] <;> rfl) ?_
 apply rS hC
 · iterate 2 refine oA ?_
   rfl
 refine cF (by simp [hF] <;> rfl) ?_
 apply rS hC
 · iterate 2 refine oA ?_
   rfl
 refine cF (by simp [hF] <;> rfl) ?_
 apply rS hC
 · iterate 2 refine oA ?_
   rfl
 refine cF (by simp [hF] <;> rfl) ?_
 apply rS hC
 · iterate 2 refine oA ?_
   rfl
 refine cF (by simp [hF] <;> rfl) ?_
 apply rS hC
 · iterate 2 refine oA ?_
   rfl
 refine cF (by simp [hF] <;> rfl) ?_
 apply Tri.skip
 apply bN
 apply sN
 apply rS hC
 · refine oA ?_
   rfl
 apply Tri.ret
 refine endsE (by simp [Tryz.f83, *] <;> rfl) (by rfl) ?_
 first
  | rfl
  | simp [*]
theorem sp1019 : ∃ g, SpecOK Tryz.prog TT 19 g ∧ ∀ x : Nd, ∀ H, g [x.enc] H = .val (.b (isTypR x)) H := by
  obtain ⟨g, k, s⟩ := spec_val TT_ok TT_plain 19 (fun x : Nd => [x.enc]) (fun _ => True) (fun x => .b (isTypR x)) (fun x _ => by simp [nlL, Nd.enc_nl]) (fun _ => rfl) (fun a b h => by simp only [List.cons.injEq, and_true] at h; rw [Nd.enc_inj _ _ h]) fun x _ => body_1019 n0 x
  exact ⟨g, k, fun x => s x trivial⟩
theorem sp1021 : ∃ g, SpecOK Tryz.prog TT 21 g ∧ ∀ x : Nd, ∀ H, g [x.enc] H = .val (.b (isExpR x)) H := by
  obtain ⟨g, k, s⟩ := spec_val TT_ok TT_plain 21 (fun x : Nd => [x.enc]) (fun _ => True) (fun x => .b (isExpR x)) (fun x _ => by simp [nlL, Nd.enc_nl]) (fun _ => rfl) (fun a b h => by simp only [List.cons.injEq, and_true] at h; rw [Nd.enc_inj _ _ h]) fun x _ => body_1021 n0 x
  exact ⟨g, k, fun x => s x trivial⟩
theorem sp1023 : ∃ g, SpecOK Tryz.prog TT 23 g ∧ ∀ x : Nd, ∀ H, g [x.enc] H = .val (.b (isMemR x)) H := by
  obtain ⟨g, k, s⟩ := spec_val TT_ok TT_plain 23 (fun x : Nd => [x.enc]) (fun _ => True) (fun x => .b (isMemR x)) (fun x _ => by simp [nlL, Nd.enc_nl]) (fun _ => rfl) (fun a b h => by simp only [List.cons.injEq, and_true] at h; rw [Nd.enc_inj _ _ h]) fun x _ => body_1023 n0 x
  exact ⟨g, k, fun x => s x trivial⟩
theorem sp1100 : ∃ g, SpecOK Tryz.prog TT 100 g ∧ ∀ (l : List (List UInt8)) (s : List UInt8), l.length < 1100000 → ∀ H, g [.isl 1 (encS l), .s s] H = .val (.b (l.any fun x => x == s)) H := by
  obtain ⟨g, k, s⟩ := spec_val TT_ok TT_plain 100 (fun p : List (List UInt8) × List UInt8 => [.isl 1 (encS p.1), .s p.2]) (fun p => p.1.length < 1100000) (fun p => .b (p.1.any fun x => x == p.2)) (fun p _ => by simp [nlL, nl, encS_nl]) (fun _ => rfl) (fun a b h => by
    simp only [List.cons.injEq, V.s.injEq, V.isl.injEq, true_and, and_true] at h
    rw [encS_inj2 _ _ h.1, h.2]) (fun p hp => EBody.of1 (body_1100 n0 p.1 p.2 hp))
  exact ⟨g, k, fun l s' h H => s (l, s') h H⟩
theorem wordsR_len (c : Nat) : (wordsR c).length < 1100000 := by
  unfold wordsR
  repeat' split
  all_goals decide
theorem ne_cast {c k : Nat} (h : ¬ c = k) : ((c : Int) == (k : Nat)) = false := by
  rw [beq_eq_false_iff_ne]; omega
theorem sp1082 : ∃ g, SpecOK Tryz.prog TT 82 g ∧ ∀ (x : Nd) (c : Nat), c < 256 → ∀ H, g [x.enc, .i .u8 c] H = .val (.b (fitsR x c)) H := by
  obtain ⟨g1, k1, s1⟩ := sp1019
  obtain ⟨g2, k2, s2⟩ := sp1021
  obtain ⟨g3, k3, s3⟩ := sp1102
  obtain ⟨g4, k4, s4⟩ := sp1100
  obtain ⟨g, k, s⟩ := spec_val TT_ok TT_plain 82 (fun p : Nd × Nat => [p.1.enc, .i .u8 p.2]) (fun p => p.2 < 256) (fun p => .b (fitsR p.1 p.2)) (fun p _ => by simp [nlL, nl, Nd.enc_nl]) (fun _ => rfl) (fun a b h => by
    simp only [List.cons.injEq, V.i.injEq, true_and, and_true] at h
    rw [Nd.enc_inj _ _ h.1, show a.2 = b.2 from by omega]) (fun p hp => by
    obtain ⟨x, c⟩ := p
    simp only at hp ⊢
    apply EBody.of1
    have hC := ws (ws (ws (ws n0 k1) k2) k3) k4
    generalize hc : (((CallF.none.with 19 g1).with 21 g2).with 102 g3).with 100 g4 = call at hC
    have c4 : ∀ vs H, call 100 (vs) H = g4 vs H := fun vs H => by rw [← hc, w_here]
    have c3 : ∀ vs H, call 102 (vs) H = g3 vs H := fun vs H => by rw [← hc, w_other _ _ _ _ rfl, w_here]
    have c2 : ∀ vs H, call 21 (vs) H = g2 vs H := fun vs H => by rw [← hc, w_other _ _ _ _ rfl, w_other _ _ _ _ rfl, w_here]
    have c1 : ∀ vs H, call 19 (vs) H = g1 vs H := fun vs H => by rw [← hc, w_other _ _ _ _ rfl, w_other _ _ _ _ rfl, w_other _ _ _ _ rfl, w_here]
    have hT : ∀ H, call 19 [x.enc] H = .val (.b (isTypR x)) H := fun H => (c1 _ H).trans (s1 x H)
    have hX : ∀ H, call 21 [x.enc] H = .val (.b (isExpR x)) H := fun H => (c2 _ H).trans (s2 x H)
    unfold fitsR
    by_cases h1 : c = 116
    · subst h1; exact body_1082s116 hC x hT hX
    rw [if_neg h1]
    by_cases h2 : c = 84
    · subst h2; exact body_1082s84 hC x _ hT
    rw [if_neg h2]
    by_cases h3 : c = 101
    · subst h3; exact body_1082s101 hC x hT hX
    rw [if_neg h3]
    by_cases h4 : c = 69
    · subst h4; exact body_1082s69 hC x _ hX
    rw [if_neg h4]
    by_cases h5 : c = 66
    · subst h5; exact body_1082s66 hC x
    rw [if_neg h5]
    by_cases h6 : c = 80
    · subst h6; exact body_1082s80 hC x
    rw [if_neg h6]
    exact body_1082w hC x c (wordsR c) _ (ne_cast h1) (ne_cast h2) (ne_cast h3) (ne_cast h4) (ne_cast h5) (ne_cast h6) (fun H => (c3 _ H).trans (s3 c hp H)) (fun H => (c4 _ H).trans (s4 _ _ (wordsR_len c) H)))
  exact ⟨g, k, fun x c h H => s (x, c) h H⟩
theorem sp1083 : ∃ g, SpecOK Tryz.prog TT 83 g ∧ ∀ (x : Nd) (c : Nat), c < 256 → ∀ H, g [x.enc, .i .u8 c] H = .val (.b (moreR x c)) H := by
  obtain ⟨g1, k1, s1⟩ := sp1019
  obtain ⟨g2, k2, s2⟩ := sp1021
  obtain ⟨g3, k3, s3⟩ := sp1023
  obtain ⟨g, k, s⟩ := spec_val TT_ok TT_plain 83 (fun p : Nd × Nat => [p.1.enc, .i .u8 p.2]) (fun p => p.2 < 256) (fun p => .b (moreR p.1 p.2)) (fun p _ => by simp [nlL, nl, Nd.enc_nl]) (fun _ => rfl) (fun a b h => by
    simp only [List.cons.injEq, V.i.injEq, true_and, and_true] at h
    rw [Nd.enc_inj _ _ h.1, show a.2 = b.2 from by omega]) (fun p hp => by
    obtain ⟨x, c⟩ := p
    simp only at hp ⊢
    apply EBody.of1
    have hC := ws (ws (ws n0 k1) k2) k3
    generalize hc : ((CallF.none.with 19 g1).with 21 g2).with 23 g3 = call at hC
    have c3 : ∀ vs H, call 23 (vs) H = g3 vs H := fun vs H => by rw [← hc, w_here]
    have c2 : ∀ vs H, call 21 (vs) H = g2 vs H := fun vs H => by rw [← hc, w_other _ _ _ _ rfl, w_here]
    have c1 : ∀ vs H, call 19 (vs) H = g1 vs H := fun vs H => by rw [← hc, w_other _ _ _ _ rfl, w_other _ _ _ _ rfl, w_here]
    have hT : ∀ H, call 19 [x.enc] H = .val (.b (isTypR x)) H := fun H => (c1 _ H).trans (s1 x H)
    have hX : ∀ H, call 21 [x.enc] H = .val (.b (isExpR x)) H := fun H => (c2 _ H).trans (s2 x H)
    have hM : ∀ H, call 23 [x.enc] H = .val (.b (isMemR x)) H := fun H => (c3 _ H).trans (s3 x H)
    unfold moreR
    by_cases h1 : c = 109
    · subst h1; exact body_1083s109 hC x hM
    rw [if_neg h1]
    by_cases h2 : c = 98
    · subst h2; exact body_1083s98 hC x
    rw [if_neg h2]
    by_cases h3 : c = 112
    · subst h3; exact body_1083s112 hC x
    rw [if_neg h3]
    by_cases h4 : c = 116
    · subst h4; exact body_1083s116 hC x hT
    rw [if_neg h4]
    by_cases h5 : c = 101
    · subst h5; exact body_1083s101 hC x hX
    rw [if_neg h5]
    by_cases h6 : c = 97
    · subst h6; exact body_1083s97 hC x _ hX
    rw [if_neg h6]
    by_cases h7 : c = 120
    · subst h7; exact body_1083s120 hC x
    rw [if_neg h7]
    by_cases h8 : c = 121
    · subst h8; exact body_1083s121 hC x
    rw [if_neg h8]
    by_cases h9 : c = 117
    · subst h9; exact body_1083s117 hC x
    rw [if_neg h9]
    exact body_1083w hC x c (ne_cast h1) (ne_cast h2) (ne_cast h3) (ne_cast h4) (ne_cast h5) (ne_cast h6) (ne_cast h7) (ne_cast h8) (ne_cast h9))
  exact ⟨g, k, fun x c h H => s (x, c) h H⟩
theorem escL_some {c : Int} {ok : Bool} : ∀ {l l' r : List UInt8}, escL c ok l l' = some r → ok = true ∧ r.length = 1
  | x :: xs, y :: ys, r, h => by
    simp only [escL] at h
    split at h
    · rename_i hc
      simp only [Bool.and_eq_true] at hc
      cases h
      exact ⟨hc.2, rfl⟩
    · exact escL_some h
  | [], _, r, h => by simp [escL] at h
  | _ :: _, [], r, h => by simp [escL] at h
theorem atR_out {s : List UInt8} {i : Nat} (h : s.length ≤ i) : atR s i = 0 := by simp [atR, List.getElem?_eq_none h]
theorem hexF_in {s : List UInt8} {i : Nat} : ∀ (m k : Nat) (v v' : Int), hexF s i m k v = some v' → 0 < m → i + 2 + k + m ≤ s.length
  | 0, k, v, v', h, h0 => by omega
  | m + 1, k, v, v', h, h0 => by
    simp only [hexF] at h
    split at h
    · cases h
    · rename_i hd
      by_cases hm : m = 0
      · subst hm
        by_cases hl : i + 2 + k < s.length
        · omega
        · rw [atR_out (by omega)] at hd
          exact absurd (by decide) hd
      · have := hexF_in m (k + 1) _ v' h (by omega)
        omega
theorem runesS_le (v : Int) : (runesS [v]).length ≤ 4 := by
  have h := foldl_size_le [v] ByteArray.empty
  have e : (runesS [v]).length = (([v] : List Int).foldl (fun r n => r ++ Utf8.encode n) ByteArray.empty).size := by
    unfold runesS
    rw [Array.length_toList]
    rfl
  rw [e]
  exact h
theorem escR_ok {s : List UInt8} {i : Nat} {tx : List UInt8} {j : Nat} (hi : i < s.length) (h : escR s i = some (tx, j)) : i < j ∧ j ≤ s.length ∧ tx.length ≤ 4 := by
  unfold escR at h
  split at h
  · rename_i t ht
    obtain ⟨h1, h2⟩ := escL_some ht
    simp only [decide_eq_true_eq] at h1
    cases h
    omega
  · split at h
    · cases h
    · rename_i v hv
      unfold escT at h
      split at h
      · cases h
      · rename_i hc
        cases h
        have hm : 0 < manyR (atR s (i + 1)) := by
          rcases Nat.eq_zero_or_pos (manyR (atR s (i + 1))) with h0 | h0
          · rw [h0] at hc; simp at hc
          · exact h0
        have := hexF_in _ _ _ _ hv hm
        exact ⟨by omega, by omega, runesS_le v⟩
theorem sp1158 : ∃ g, SpecOK Tryz.prog TT 158 g ∧ ∀ (s : List UInt8) (i : Nat), i < 100000000 → ∀ H, g [.s s, .i .i64 i] H = .val (escV (escR s i)) H := by
  obtain ⟨g2, k2, s2⟩ := sp1142
  obtain ⟨g3, k3, s3⟩ := sp1145
  obtain ⟨g, k, s⟩ := spec_val TT_ok TT_plain 158 (fun p : List UInt8 × Nat => [.s p.1, .i .i64 p.2]) (fun p => p.2 < 100000000) (fun p => escV (escR p.1 p.2)) (fun p _ => by simp [nlL, nl]) (fun p => by rw [escV_eq]; rfl) (fun a b h => by
    simp only [List.cons.injEq, V.s.injEq, V.i.injEq, true_and, and_true] at h
    rw [h.1, show a.2 = b.2 from by omega]) (fun p hp => by
    obtain ⟨s, i⟩ := p
    simp only at hp ⊢
    have hC := ws (ws n0 k2) k3
    generalize hc : (CallF.none.with 142 g2).with 145 g3 = call at hC
    have c2 : ∀ (j : Nat) H, call 142 [.s s, .i .i64 j] H = .val (.i .u8 (atR s j)) H := fun j H => by rw [← hc, w_other _ _ _ _ rfl, w_here]; exact s2 _ _ H
    have c3 : ∀ c : Int, 0 ≤ c → c < 256 → ∀ H, call 145 [.i .u8 c, .i .i64 16] H = .val (.i .i64 (digR c 16)) H := fun c a b H => by rw [← hc, w_here]; exact s3 c 16 a b (by simp) H
    exact EBody.of1 (body_1158 hC s i (by omega) (wrap_i64 (by omega) (by omega)) (fun H => c2 (i + 1) H) c2 c3))
  exact ⟨g, k, fun s' i h H => s (s', i) h H⟩
def quoR (s : List UInt8) (mk : Int) (i : Nat) : Option (List UInt8 × Nat) := quoF s (escR s) mk (s.length + 1) (i + 1) []
theorem sp1148 : ∃ g, SpecOK Tryz.prog TT 148 g ∧ ∀ (s : List UInt8) (i : Nat) (mk : Int), s.length < 20000000 → i < s.length → ∀ H, g [.s s, .i .i64 i, .i .u8 mk] H = .val (quoV (quoR s mk i)) H := by
  obtain ⟨g2, k2, s2⟩ := sp1158
  obtain ⟨g3, k3, s3⟩ := sp33v
  obtain ⟨g, k, s⟩ := spec_val TT_ok TT_plain 148 (fun p : List UInt8 × Nat × Int => [.s p.1, .i .i64 p.2.1, .i .u8 p.2.2]) (fun p => p.1.length < 20000000 ∧ p.2.1 < p.1.length) (fun p => quoV (quoR p.1 p.2.2 p.2.1)) (fun p _ => by simp [nlL, nl]) (fun p => by rw [quoV_eq]; rfl) (fun a b h => by
    simp only [List.cons.injEq, V.s.injEq, V.i.injEq, true_and, and_true] at h
    rw [h.1, show a.2.1 = b.2.1 from by omega, h.2.2]) (fun p hp => by
    obtain ⟨s, i, mk⟩ := p
    simp only at hp ⊢
    have hC := ws (ws n0 k2) k3
    generalize hc : (CallF.none.with 158 g2).with 47 g3 = call at hC
    have c2 : ∀ i : Nat, i < s.length → ∀ H, call 158 [.s s, .i .i64 i] H = .val (escV (escR s i)) H := fun j hj H => by rw [← hc, w_other _ _ _ _ rfl, w_here]; exact s2 _ _ (by omega) H
    have c3 : ∀ x : List UInt8, x.length ≤ 4 * s.length → ∀ H, call 47 [.s x] H = .val (.b (Lib.validD x)) H := fun x hx H => by rw [← hc, w_here]; exact s3 x (by omega) H
    exact EBody.of1 (body_1148 hC s (escR s) mk i hp.2 (wrap_i64 (by omega) (by omega)) (by omega) c3 c2 (fun i tx j h1 h2 => escR_ok h1 h2)))
  exact ⟨g, k, fun s' i mk h1 h2 H => s (s', i, mk) ⟨h1, h2⟩ H⟩
theorem rawV_nl (s : List UInt8) (i : Nat) : nl (rawV s i) = true := by unfold rawV; split <;> rfl
theorem sp1147 : ∃ g, SpecOK Tryz.prog TT 147 g ∧ ∀ (s : List UInt8) (i : Nat), s.length < 20000000 → i < s.length → ∀ H, g [.s s, .i .i64 i] H = .val (rawV s i) H := by
  obtain ⟨g3, k3, s3⟩ := sp33v
  obtain ⟨g, k, s⟩ := spec_val TT_ok TT_plain 147 (fun p : List UInt8 × Nat => [.s p.1, .i .i64 p.2]) (fun p => p.1.length < 20000000 ∧ p.2 < p.1.length) (fun p => rawV p.1 p.2) (fun p _ => by simp [nlL, nl]) (fun p => rawV_nl _ _) (fun a b h => by
    simp only [List.cons.injEq, V.s.injEq, V.i.injEq, true_and, and_true] at h
    rw [h.1, show a.2 = b.2 from by omega]) (fun p hp => by
    obtain ⟨s, i⟩ := p
    simp only at hp ⊢
    have hC := ws n0 k3
    generalize hc : CallF.none.with 47 g3 = call at hC
    have c3 : ∀ x : List UInt8, x.length < 100000000 → ∀ H, call 47 [.s x] H = .val (.b (Lib.validD x)) H := fun x hx H => by rw [← hc, w_here]; exact s3 x hx H
    exact EBody.of1 (body_1147 hC s i (by omega) (by omega) (wrap_i64 (by omega) (by omega)) c3))
  exact ⟨g, k, fun s' i h1 h2 H => s (s', i) ⟨h1, h2⟩ H⟩
theorem sp1098 : ∃ g, SpecOK Tryz.prog TT 98 g ∧ ∀ s : List UInt8, s.length < 100000000 → ∀ H, g [.s s] H = .val (.b (isIdR s)) H := by
  obtain ⟨g1, k1, s1⟩ := sp1123
  obtain ⟨g2, k2, s2⟩ := sp1125
  obtain ⟨g3, k3, s3⟩ := sp1124
  obtain ⟨g, k, s⟩ := spec_val TT_ok TT_plain 98 (fun p : List UInt8 => [.s p]) (fun p => p.length < 100000000) (fun p => .b (isIdR p)) (fun p _ => by simp [nlL, nl]) (fun p => rfl) (fun a b h => by
    simp only [List.cons.injEq, V.s.injEq, and_true] at h
    rw [h]) (fun s hs => by
    have hC := ws (ws (ws n0 k1) k2) k3
    generalize hc : ((CallF.none.with 123 g1).with 125 g2).with 124 g3 = call at hC
    have c1 : ∀ H, call 123 [.s s, .i .i64 0] H = .val (.i .i64 (idR s 0)) H := fun H => by rw [← hc, w_other _ _ _ _ rfl, w_other _ _ _ _ rfl, w_here]; exact s1 s 0 (by omega) (by omega) H
    have c2 : ∀ H, call 125 [] H = .val (.isl 1 (encS kwL)) H := fun H => by rw [← hc, w_other _ _ _ _ rfl, w_here]; exact s2 H
    have c3 : ∀ H, call 124 [.isl 1 (encS kwL), .s s] H = .val (.b (kwL.any fun x => x == s)) H := fun H => by rw [← hc, w_here]; exact s3 _ _ kwL_len H
    by_cases h0 : s = []
    · subst h0
      exact EBody.of1 (body_1098a hC)
    · have h1 : (s == []) = false := by simpa using h0
      by_cases h2 : s.length ≤ 60
      · cases h3 : (((idR s 0 : Nat) : Int) == s.length) with
        | true =>
          have e : isIdR s = !(kwL.any fun x => x == s) := by simp only [isIdR, h1, h3, decide_eq_true h2]; rfl
          rw [e]
          exact EBody.of1 (body_1098d hC s h1 h0 (by omega) _ _ _ c1 c2 c3 h3)
        | false =>
          have e : isIdR s = false := by simp only [isIdR, h1, h3, decide_eq_true h2]; rfl
          rw [e]
          exact EBody.of1 (body_1098c hC s h1 h0 (by omega) _ _ _ c1 c2 c3 h3)
      · have e : isIdR s = false := by simp only [isIdR, decide_eq_false h2, Bool.false_and, Bool.and_false]
        rw [e]
        exact EBody.of1 (body_1098b hC s h1 h0 (by omega)))
  exact ⟨g, k, fun s' h H => s s' h H⟩
def lastB (x : List UInt8) : Int := match x.getLast? with | some b => b.toNat | none => 0
def okS (s : List UInt8) (i : Nat) (best x : List UInt8) : Bool := decide (best.length < x.length) && (begR s i x && (!(letR (lastB x)) || !(worR (atR s (i + x.length)))))
def symF (s : List UInt8) (i : Nat) : List (List UInt8) → List UInt8 → List UInt8
  | [], best => best
  | x :: l, best => symF s i l (if okS s i best x = true then x else best)
theorem loop1127 {call : CallF} (hC : call.Sound Tryz.prog TT) (s : List UInt8) (i : Nat) (hi : i < 100000000) (SY : List (List UInt8)) (hsy : ∀ H, call 150 [] H = .val (.isl 1 (encS SY)) H)
    (hbt : ∀ t : List UInt8, t.length < 1000 → ∀ H, call 144 [.s s, .i .i64 i, .s t] H = .val (.b (begR s i t)) H) (hlt : ∀ b : UInt8, ∀ H, call 141 [.i .u8 b.toNat] H = .val (.b (letR b.toNat)) H) (hatc : ∀ (j : Nat) H, call 142 [.s s, .i .i64 j] H = .val (.i .u8 (atR s j)) H) (hwc : ∀ (j : Nat) H, call 143 [.i .u8 (atR s j)] H = .val (.b (worR (atR s j))) H) (H : Heap) {Q : Out → Prop} :
    ∀ (L pre : List (List UInt8)) (best : List UInt8) (t : Tm), SY = pre ++ L → (pre ++ L).length < 1100000 → (∀ y ∈ L, y ≠ [] ∧ y.length < 1000) → t.wid = 164 → t.get 0 = .s s → t.get 1 = .i .i64 i → t.get 4 = .ptr 0 0 → t.get 15 = .s best → t.get 16 = .i .i64 pre.length →
    (∀ t' : Tm, t'.wid = 164 → t'.get 0 = .s s → t'.get 1 = .i .i64 i → t'.get 4 = .ptr 0 0 → t'.get 15 = .s (symF s i L best) → Q (.exit 0 t' H)) →
    LTri Tryz.prog TT (sub [true, true, true, true, true, true, false, true, false, false] (bodyOf Tryz.f127)) t H Q := by
 intro L
 induction L with
 | nil =>
   intro pre best t hsp hlen hne hw h0 h1 h4 h15 h16 hE
   rw [hsp] at hsy
   have hF := ai @h0 (ai @h1 (ai @h4 (ai @h15 (ai @h16 (ai @hsy @encS_length)))))
   refine LTri.round' ?_
   apply sQ
   apply rS hC
   · iterate 4 refine gO (by simp [hF, List.append_nil] <;> rfl) ?_
     rfl
   refine cF (by simp [hF, List.append_nil] <;> rfl) ?_
   refine Tri.exit ?_
   refine inSeq_exit ?_
   refine inLoop_exit ?_
   exact hE _ (by simp [hw]) (by simp [h0]) (by simp [h1]) (by simp [h4]) (by simp [h15, symF])
 | cons x L ih =>
   intro pre best t hsp hlen hne hw h0 h1 h4 h15 h16 hE
   have hsy0 := hsy
   rw [hsp] at hsy
   obtain ⟨hx0, hx1⟩ := hne x (by simp)
   obtain ⟨n, hxl⟩ : ∃ n, x.length = n + 1 := ⟨x.length - 1, by have := List.length_pos_iff.2 hx0; omega⟩
   have hbg := hbt x hx1
   have hlbt := hlt
   have hlen2 : pre.length < 1100000 := by simp at hlen; omega
   have hwk : IntKind.i64.wrap ((pre.length : Int) + 1) = (pre.length : Int) + 1 := wrap_i64 (by omega) (by omega)
   have hlt := fin_len pre.length L.length
   have hat := encS_at pre x L
   have hat2 := encS_at2 pre x L
   cases hlg0 : decide (best.length < x.length) with
   | false =>
     have hok : okS s i best x = false := by simp only [okS, hlg0]; rfl
     have hlg : ¬ (best.length : Int) < (n : Int) + 1 := by have := of_decide_eq_false hlg0; omega
     have hF := ai @h0 (ai @h1 (ai @h4 (ai @h15 (ai @h16 (ai @hsy (ai @hlt (ai @hat (ai @hat2 (ai @encS_length (ai @hxl (ai @hbg (ai @hwk @hlg))))))))))))
     refine LTri.round' ?_
     apply sQ
     apply rS hC
     · iterate 4 refine oA ?_
       rfl
     refine cT (by simp [hF] <;> rfl) ?_
     apply Tri.skip
     apply sN
     apply sQ
     apply bK
     apply rS hC
     · iterate 5 refine oA ?_
       rfl
     apply rS hC
     · iterate 6 refine oA ?_
       iterate 4 refine oC ?_
       iterate 2 refine oA ?_
       iterate 17 refine oC ?_
       refine oA ?_
       rfl
     refine cF (by simp [hF] <;> rfl) ?_
     apply Tri.skip
     apply bN
     apply sN
     apply rN hC
     · iterate 3 refine oA ?_
       rfl
     refine inLoop_norm ?_
     refine ih (pre ++ [x]) best _ (by rw [hsp]; simp) (by simpa using hlen) (fun y hy => hne y (by simp [hy])) (by simp [hw]) (by simp [h0]) (by simp [h1]) (by simp [h4]) (by simp [h15]) (by simp [h16, hwk]) (fun t' k1 k2 k3 k4 k5 => hE t' k1 k2 k3 k4 (by rw [k5]; simp only [symF]; rw [if_neg (by rw [hok]; simp)]))
   | true =>
     have hlg : (best.length : Int) < (n : Int) + 1 := by have := of_decide_eq_true hlg0; omega
     cases hb : begR s i x with
     | false =>
       have hok : okS s i best x = false := by simp only [okS, hlg0, hb]; rfl
       have hF := ai @h0 (ai @h1 (ai @h4 (ai @h15 (ai @h16 (ai @hsy (ai @hlt (ai @hat (ai @hat2 (ai @encS_length (ai @hxl (ai @hbg (ai @hwk (ai @hlg @hb)))))))))))))
       refine LTri.round' ?_
       apply sQ
       apply rS hC
       · iterate 4 refine oA ?_
         rfl
       refine cT (by simp [hF] <;> rfl) ?_
       apply Tri.skip
       apply sN
       apply sQ
       apply bK
       apply rS hC
       · iterate 5 refine oA ?_
         rfl
       apply rS hC
       · iterate 6 refine oA ?_
         iterate 4 refine oB ?_
         iterate 2 refine oA ?_
         iterate 17 refine oC ?_
         refine oA ?_
         rfl
       refine cF (by simp [hF] <;> rfl) ?_
       apply Tri.skip
       apply bN
       apply sN
       apply rN hC
       · iterate 3 refine oA ?_
         rfl
       refine inLoop_norm ?_
       refine ih (pre ++ [x]) best _ (by rw [hsp]; simp) (by simpa using hlen) (fun y hy => hne y (by simp [hy])) (by simp [hw]) (by simp [h0]) (by simp [h1]) (by simp [h4]) (by simp [h15]) (by simp [h16, hwk]) (fun t' k1 k2 k3 k4 k5 => hE t' k1 k2 k3 k4 (by rw [k5]; simp only [symF]; rw [if_neg (by rw [hok]; simp)]))
     | true =>
       have hnx : n < x.length := by omega
       obtain ⟨lb, hlb⟩ : ∃ b, x[n]? = some b := ⟨_, List.getElem?_eq_getElem hnx⟩
       have hlb2 : ∀ h, x[n]'h = lb := fun h => Option.some.inj ((List.getElem?_eq_getElem h).symm.trans hlb)
       have hlst : lastB x = lb.toNat := by
        unfold lastB
        rw [List.getLast?_eq_getElem?, hxl, Nat.add_sub_cancel, hlb]
       have hle := hlbt lb
       have hwn : IntKind.i64.wrap (n : Int) = (n : Int) := wrap_i64 (by omega) (by omega)
       have hwi : IntKind.i64.wrap ((i : Int) + ((n : Int) + 1)) = (i : Int) + ((n : Int) + 1) := wrap_i64 (by omega) (by omega)
       have c2 : ∀ H, call 142 [.s s, .i .i64 ((i : Int) + ((n : Int) + 1))] H = .val (.i .u8 (atR s (i + (n + 1)))) H := fun H => hatc (i + (n + 1)) H
       have hwo := hwc (i + (n + 1))
       cases hll : letR (lb.toNat : Int) with
       | false =>
         have hok : okS s i best x = true := by unfold okS; rw [hlg0, hb, hlst, hll]; rfl
         have hF := ai @h0 (ai @h1 (ai @h4 (ai @h15 (ai @h16 (ai @hsy (ai @hlt (ai @hat (ai @hat2 (ai @encS_length (ai @hxl (ai @hbg (ai @hwk (ai @hlg (ai @hb (ai @hll (ai @hwn (ai @hlb (ai @hlb2 (ai @hle (ai @hwi (ai @c2 @hwo)))))))))))))))))))))
         refine LTri.round' ?_
         apply sQ
         apply rS hC
         · iterate 4 refine oA ?_
           rfl
         refine cT (by simp [hF] <;> rfl) ?_
         apply Tri.skip
         apply sN
         apply sQ
         apply bK
         apply rS hC
         · iterate 5 refine oA ?_
           rfl
         apply rS hC
         · iterate 6 refine oA ?_
           iterate 4 refine oB ?_
           iterate 2 refine oA ?_
           iterate 8 refine oB ?_
           iterate 8 refine oC ?_
           refine oB ?_
           refine oA ?_
           rfl
         refine cT (by simp [hF] <;> rfl) ?_
         apply rN hC
         · iterate 2 refine oA ?_
           rfl
         apply bN
         apply sN
         apply rN hC
         · iterate 3 refine oA ?_
           rfl
         refine inLoop_norm ?_
         refine ih (pre ++ [x]) x _ (by rw [hsp]; simp) (by simpa using hlen) (fun y hy => hne y (by simp [hy])) (by simp [hw]) (by simp [h0]) (by simp [h1]) (by simp [h4]) (by simp [h15]) (by simp [h16, hwk]) (fun t' k1 k2 k3 k4 k5 => hE t' k1 k2 k3 k4 (by rw [k5]; simp only [symF]; rw [if_pos hok]))
       | true =>
         cases hww : worR (atR s (i + (n + 1))) with
         | true =>
           have hok : okS s i best x = false := by unfold okS; rw [hlg0, hb, hlst, hll, hxl, hww]; rfl
           have hF := ai @h0 (ai @h1 (ai @h4 (ai @h15 (ai @h16 (ai @hsy (ai @hlt (ai @hat (ai @hat2 (ai @encS_length (ai @hxl (ai @hbg (ai @hwk (ai @hlg (ai @hb (ai @hll (ai @hww (ai @hwn (ai @hlb (ai @hlb2 (ai @hle (ai @hwi (ai @c2 @hwo))))))))))))))))))))))
           refine LTri.round' ?_
           apply sQ
           apply rS hC
           · iterate 4 refine oA ?_
             rfl
           refine cT (by simp [hF] <;> rfl) ?_
           apply Tri.skip
           apply sN
           apply sQ
           apply bK
           apply rS hC
           · iterate 5 refine oA ?_
             rfl
           apply rS hC
           · iterate 6 refine oA ?_
             iterate 4 refine oB ?_
             iterate 2 refine oA ?_
             iterate 17 refine oB ?_
             refine oA ?_
             rfl
           refine cF (by simp [hF] <;> rfl) ?_
           apply Tri.skip
           apply bN
           apply sN
           apply rN hC
           · iterate 3 refine oA ?_
             rfl
           refine inLoop_norm ?_
           refine ih (pre ++ [x]) best _ (by rw [hsp]; simp) (by simpa using hlen) (fun y hy => hne y (by simp [hy])) (by simp [hw]) (by simp [h0]) (by simp [h1]) (by simp [h4]) (by simp [h15]) (by simp [h16, hwk]) (fun t' k1 k2 k3 k4 k5 => hE t' k1 k2 k3 k4 (by rw [k5]; simp only [symF]; rw [if_neg (by rw [hok]; simp)]))
         | false =>
           have hok : okS s i best x = true := by unfold okS; rw [hlg0, hb, hlst, hll, hxl, hww]; rfl
           have hF := ai @h0 (ai @h1 (ai @h4 (ai @h15 (ai @h16 (ai @hsy (ai @hlt (ai @hat (ai @hat2 (ai @encS_length (ai @hxl (ai @hbg (ai @hwk (ai @hlg (ai @hb (ai @hll (ai @hww (ai @hwn (ai @hlb (ai @hlb2 (ai @hle (ai @hwi (ai @c2 @hwo))))))))))))))))))))))
           refine LTri.round' ?_
           apply sQ
           apply rS hC
           · iterate 4 refine oA ?_
             rfl
           refine Tri.condG (o := ?of2) (b := ?bf2) ?gf2 ?rf2 ?yf2 ?nf2
           case gf2 => simp [hF] <;> rfl
           case rf2 => rfl
           case yf2 =>
            intro hy2
            apply Tri.skip
            apply sN
            apply sQ
            apply bK
            apply rS hC
            · iterate 5 refine oA ?_
              rfl
            apply rS hC
            · iterate 6 refine oA ?_
              iterate 4 refine oB ?_
              iterate 2 refine oA ?_
              iterate 17 refine oB ?_
              refine oA ?_
              rfl
            refine cT (by simp [hF] <;> rfl) ?_
            apply rN hC
            · iterate 2 refine oA ?_
              rfl
            apply bN
            apply sN
            apply rN hC
            · iterate 3 refine oA ?_
              rfl
            refine inLoop_norm ?_
            refine ih (pre ++ [x]) x _ (by rw [hsp]; simp) (by simpa using hlen) (fun y hy => hne y (by simp [hy])) (by simp [hw]) (by simp [h0]) (by simp [h1]) (by simp [h4]) (by simp [h15]) (by simp [h16, hwk]) (fun t' k1 k2 k3 k4 k5 => hE t' k1 k2 k3 k4 (by rw [k5]; simp only [symF]; rw [if_pos hok]))
           case nf2 =>
            intro hn2
            exact absurd hn2 (by simp [hF])

def oneV (k : Int) (t : List UInt8) (e : Int) : V := .tup [tokV k t, .i .i64 e, .i .i64 0]
def oneE (c : Int) : V := .tup [tokV 0 [], .i .i64 0, .i .i64 c]
theorem body_1127k {call : CallF} (hC : call.Sound Tryz.prog TT) (s : List UInt8) (i : Nat) (e : Nat) (hid : ∀ H, call 123 [.s s, .i .i64 i] H = .val (.i .i64 e) H) (hlt : i < e) (hle : (e : Int) ≤ s.length) (hle2 : e ≤ s.length) (hlt2 : (i : Int) ≤ e) (hlt3 : (i : Int) < e) (hlt4 : i ≤ e) (hkw : ∀ H, call 125 [] H = .val (.isl 1 (encS kwL)) H) (hh : ∀ H, call 124 [.isl 1 (encS kwL), .s ((s.take e).drop i)] H = .val (.b true) H)  : EBody Tryz.prog TT 127 [.s s, .i .i64 i] (fun r => r = .val (oneV 2 ((s.take e).drop i) e)) := by
 refine en Tryz.f127 rfl rfl (by simp [Tryz.f127]) 164 rfl fun t hw hg => ?_
 have h0 := hg 0 _ rfl
 have h1 := hg 1 _ rfl
 clear hg
 try simp only [Nd.enc_eq] at *
 have hF := ai @h0 (ai @h1 (ai @hid (ai @hlt (ai @hle (ai @hle2 (ai @hlt2 (ai @hlt3 (ai @hlt4 (ai @hkw @hh)))))))))
 apply rS hC
 · iterate 3 refine oA ?_
   rfl
 apply sQ
 apply rS hC
 · iterate 4 refine oA ?_
   rfl
 apply rS hC
 · iterate 3 refine oA ?_
   rfl
 refine cT (by simp [hF] <;> rfl) ?_
 iterate 2 apply sQ
 refine Tri.regN (t' := ?t5) (H' := ?H5) TT_ok hC ?e5 ?q5
 case e5 =>
  refine evReg_quiet (t' := ?t5) (by kernel_rfl) ?_ ?r905
  iterate 6 refine QR.val rfl (by simp [hF] <;> rfl) (by rfl) (by simp [hw]) ?_
  exact QR.nil
  case r905 => exact rfl
 apply sN
 refine cT (by simp [hF] <;> rfl) ?_
 apply rS hC
 · iterate 9 refine oA ?_
   rfl
 apply Tri.ret
 iterate 2 apply sR
 refine endsE (by simp [Tryz.f127] <;> rfl) (by rfl) ?_
 first
  | rfl
  | simp [oneV, oneE, tokV]
theorem body_1127i {call : CallF} (hC : call.Sound Tryz.prog TT) (s : List UInt8) (i : Nat) (e : Nat) (hid : ∀ H, call 123 [.s s, .i .i64 i] H = .val (.i .i64 e) H) (hlt : i < e) (hle : (e : Int) ≤ s.length) (hle2 : e ≤ s.length) (hlt2 : (i : Int) ≤ e) (hlt3 : (i : Int) < e) (hlt4 : i ≤ e) (hkw : ∀ H, call 125 [] H = .val (.isl 1 (encS kwL)) H) (hh : ∀ H, call 124 [.isl 1 (encS kwL), .s ((s.take e).drop i)] H = .val (.b false) H)  : EBody Tryz.prog TT 127 [.s s, .i .i64 i] (fun r => r = .val (oneV 1 ((s.take e).drop i) e)) := by
 refine en Tryz.f127 rfl rfl (by simp [Tryz.f127]) 164 rfl fun t hw hg => ?_
 have h0 := hg 0 _ rfl
 have h1 := hg 1 _ rfl
 clear hg
 try simp only [Nd.enc_eq] at *
 have hF := ai @h0 (ai @h1 (ai @hid (ai @hlt (ai @hle (ai @hle2 (ai @hlt2 (ai @hlt3 (ai @hlt4 (ai @hkw @hh)))))))))
 apply rS hC
 · iterate 3 refine oA ?_
   rfl
 apply sQ
 apply rS hC
 · iterate 4 refine oA ?_
   rfl
 apply rS hC
 · iterate 3 refine oA ?_
   rfl
 refine cT (by simp [hF] <;> rfl) ?_
 iterate 2 apply sQ
 refine Tri.regN (t' := ?t5) (H' := ?H5) TT_ok hC ?e5 ?q5
 case e5 =>
  refine evReg_quiet (t' := ?t5) (by kernel_rfl) ?_ ?r905
  iterate 6 refine QR.val rfl (by simp [hF] <;> rfl) (by rfl) (by simp [hw]) ?_
  exact QR.nil
  case r905 => exact rfl
 apply sN
 refine cF (by simp [hF] <;> rfl) ?_
 apply Tri.skip
 apply sN
 apply rS hC
 · iterate 9 refine oA ?_
   rfl
 apply Tri.ret
 apply sR
 refine endsE (by simp [Tryz.f127] <;> rfl) (by rfl) ?_
 first
  | rfl
  | simp [oneV, oneE, tokV]
theorem body_1127n {call : CallF} (hC : call.Sound Tryz.prog TT) (s : List UInt8) (i : Nat) (e : Nat) (hid : ∀ H, call 123 [.s s, .i .i64 i] H = .val (.i .i64 e) H) (hnl : ¬ i < e) (b : UInt8) (hil : (i : Int) < s.length) (hil2 : i < s.length) (hat : s[i]? = some b) (hat2 : ∀ h, s[i]'h = b) (d : Int) (hdg : ∀ H, call 145 [.i .u8 b.toNat, .i .i64 10] H = .val (.i .i64 d) H) (hd : 0 ≤ d) (k : Int) (t : List UInt8) (e2 c : Int) (hn : ∀ H, call 146 [.s s, .i .i64 i] H = .val (.tup [.agg [.i .i64 k, .s t, .i .i64 0, .b false], .i .i64 e2, .i .i64 c]) H)  : EBody Tryz.prog TT 127 [.s s, .i .i64 i] (fun r => r = .val (.tup [.agg [.i .i64 k, .s t, .i .i64 0, .b false], .i .i64 e2, .i .i64 c])) := by
 refine en Tryz.f127 rfl rfl (by simp [Tryz.f127]) 164 rfl fun t hw hg => ?_
 have h0 := hg 0 _ rfl
 have h1 := hg 1 _ rfl
 clear hg
 try simp only [Nd.enc_eq] at *
 have hF := ai @h0 (ai @h1 (ai @hid (ai @hnl (ai @hil (ai @hil2 (ai @hat (ai @hat2 (ai @hdg (ai @hd @hn)))))))))
 apply rS hC
 · iterate 3 refine oA ?_
   rfl
 apply sQ
 apply rS hC
 · iterate 4 refine oA ?_
   rfl
 apply rS hC
 · iterate 3 refine oA ?_
   rfl
 refine cF (by simp [hF] <;> rfl) ?_
 apply Tri.skip
 apply sN
 apply sQ
 apply rS hC
 · iterate 5 refine oA ?_
   rfl
 refine cT (by simp [hF] <;> rfl) ?_
 apply rS hC
 · iterate 9 refine oA ?_
   rfl
 apply Tri.ret
 apply sR
 refine endsE (by simp [Tryz.f127] <;> rfl) (by rfl) ?_
 first
  | rfl
  | simp [oneV, oneE, tokV]
theorem body_1127rt {call : CallF} (hC : call.Sound Tryz.prog TT) (s : List UInt8) (i : Nat) (e : Nat) (hid : ∀ H, call 123 [.s s, .i .i64 i] H = .val (.i .i64 e) H) (hnl : ¬ i < e) (b : UInt8) (hil : (i : Int) < s.length) (hil2 : i < s.length) (hat : s[i]? = some b) (hat2 : ∀ h, s[i]'h = b) (d : Int) (hdg : ∀ H, call 145 [.i .u8 b.toNat, .i .i64 10] H = .val (.i .i64 d) H) (hd : ¬ 0 ≤ d) (hbg : ∀ H, call 144 [.s s, .i .i64 i, .s [34, 34, 34]] H = .val (.b true) H) (tx : List UInt8) (e2 : Int) (ok : Bool) (hrw : ∀ H, call 147 [.s s, .i .i64 i] H = .val (.tup [.s tx, .i .i64 e2, .b ok]) H) (hok : ok = true)  : EBody Tryz.prog TT 127 [.s s, .i .i64 i] (fun r => r = .val (oneV 5 tx e2)) := by
 refine en Tryz.f127 rfl rfl (by simp [Tryz.f127]) 164 rfl fun t hw hg => ?_
 have h0 := hg 0 _ rfl
 have h1 := hg 1 _ rfl
 clear hg
 try simp only [Nd.enc_eq] at *
 have hF := ai @h0 (ai @h1 (ai @hid (ai @hnl (ai @hil (ai @hil2 (ai @hat (ai @hat2 (ai @hdg (ai @hd (ai @hbg (ai @hrw @hok)))))))))))
 apply rS hC
 · iterate 3 refine oA ?_
   rfl
 apply sQ
 apply rS hC
 · iterate 4 refine oA ?_
   rfl
 apply rS hC
 · iterate 3 refine oA ?_
   rfl
 refine cF (by simp [hF] <;> rfl) ?_
 apply Tri.skip
 apply sN
 apply sQ
 apply rS hC
 · iterate 5 refine oA ?_
   rfl
 refine cF (by simp [hF] <;> rfl) ?_
 apply Tri.skip
 apply sN
 apply sQ
 apply rS hC
 · iterate 4 refine oA ?_
   iterate 4 refine oC ?_
   refine oA ?_
   rfl
 refine cT (by simp [hF] <;> rfl) ?_
 apply rS hC
 · iterate 10 refine oA ?_
   rfl
 apply sQ
 apply rS hC
 · iterate 4 refine oA ?_
   rfl
 refine cF (by simp [hF] <;> rfl) ?_
 apply Tri.skip
 apply sN
 apply sQ
 apply rS hC
 · iterate 2 refine oA ?_
   rfl
 refine cF (by simp [hF] <;> rfl) ?_
 apply Tri.skip
 apply sN
 apply rS hC
 · iterate 6 refine oA ?_
   rfl
 apply Tri.ret
 apply sR
 refine endsE (by simp [Tryz.f127] <;> rfl) (by rfl) ?_
 first
  | rfl
  | simp [oneV, oneE, tokV]
theorem body_1127qt {call : CallF} (hC : call.Sound Tryz.prog TT) (s : List UInt8) (i : Nat) (e : Nat) (hid : ∀ H, call 123 [.s s, .i .i64 i] H = .val (.i .i64 e) H) (hnl : ¬ i < e) (b : UInt8) (hil : (i : Int) < s.length) (hil2 : i < s.length) (hat : s[i]? = some b) (hat2 : ∀ h, s[i]'h = b) (d : Int) (hdg : ∀ H, call 145 [.i .u8 b.toNat, .i .i64 10] H = .val (.i .i64 d) H) (hd : ¬ 0 ≤ d) (hbg : ∀ H, call 144 [.s s, .i .i64 i, .s [34, 34, 34]] H = .val (.b false) H) (tx : List UInt8) (e2 : Int) (ok : Bool) (hrw : ∀ H, call 147 [.s s, .i .i64 i] H = .val (.tup [.s tx, .i .i64 e2, .b ok]) H) (hb34 : ((b.toNat : Int) == 34) = true) (ty : List UInt8) (e3 : Int) (ok2 : Bool) (hqu : ∀ H, call 148 [.s s, .i .i64 i, .i .u8 34] H = .val (.tup [.s ty, .i .i64 e3, .b ok2]) H) (hok : ok2 = true)  : EBody Tryz.prog TT 127 [.s s, .i .i64 i] (fun r => r = .val (oneV 5 ty e3)) := by
 refine en Tryz.f127 rfl rfl (by simp [Tryz.f127]) 164 rfl fun t hw hg => ?_
 have h0 := hg 0 _ rfl
 have h1 := hg 1 _ rfl
 clear hg
 try simp only [Nd.enc_eq] at *
 have hF := ai @h0 (ai @h1 (ai @hid (ai @hnl (ai @hil (ai @hil2 (ai @hat (ai @hat2 (ai @hdg (ai @hd (ai @hbg (ai @hrw (ai @hb34 (ai @hqu @hok)))))))))))))
 apply rS hC
 · iterate 3 refine oA ?_
   rfl
 apply sQ
 apply rS hC
 · iterate 4 refine oA ?_
   rfl
 apply rS hC
 · iterate 3 refine oA ?_
   rfl
 refine cF (by simp [hF] <;> rfl) ?_
 apply Tri.skip
 apply sN
 apply sQ
 apply rS hC
 · iterate 5 refine oA ?_
   rfl
 refine cF (by simp [hF] <;> rfl) ?_
 apply Tri.skip
 apply sN
 apply sQ
 apply rS hC
 · iterate 4 refine oA ?_
   iterate 4 refine oB ?_
   refine oA ?_
   rfl
 refine cT (by simp [hF] <;> rfl) ?_
 apply rS hC
 · iterate 10 refine oA ?_
   rfl
 apply sQ
 apply rS hC
 · iterate 4 refine oA ?_
   rfl
 refine cT (by simp [hF] <;> rfl) ?_
 apply rN hC
 · iterate 10 refine oA ?_
   rfl
 apply sN
 apply sQ
 apply rS hC
 · iterate 2 refine oA ?_
   rfl
 refine cF (by simp [hF] <;> rfl) ?_
 apply Tri.skip
 apply sN
 apply rS hC
 · iterate 6 refine oA ?_
   rfl
 apply Tri.ret
 apply sR
 refine endsE (by simp [Tryz.f127] <;> rfl) (by rfl) ?_
 first
  | rfl
  | simp [oneV, oneE, tokV]
theorem body_1127rf {call : CallF} (hC : call.Sound Tryz.prog TT) (s : List UInt8) (i : Nat) (e : Nat) (hid : ∀ H, call 123 [.s s, .i .i64 i] H = .val (.i .i64 e) H) (hnl : ¬ i < e) (b : UInt8) (hil : (i : Int) < s.length) (hil2 : i < s.length) (hat : s[i]? = some b) (hat2 : ∀ h, s[i]'h = b) (d : Int) (hdg : ∀ H, call 145 [.i .u8 b.toNat, .i .i64 10] H = .val (.i .i64 d) H) (hd : ¬ 0 ≤ d) (hbg : ∀ H, call 144 [.s s, .i .i64 i, .s [34, 34, 34]] H = .val (.b true) H) (tx : List UInt8) (e2 : Int) (ok : Bool) (hrw : ∀ H, call 147 [.s s, .i .i64 i] H = .val (.tup [.s tx, .i .i64 e2, .b ok]) H) (hok : ok = false)  : EBody Tryz.prog TT 127 [.s s, .i .i64 i] (fun r => r = .val (oneE 31)) := by
 refine en Tryz.f127 rfl rfl (by simp [Tryz.f127]) 164 rfl fun t hw hg => ?_
 have h0 := hg 0 _ rfl
 have h1 := hg 1 _ rfl
 clear hg
 try simp only [Nd.enc_eq] at *
 have hF := ai @h0 (ai @h1 (ai @hid (ai @hnl (ai @hil (ai @hil2 (ai @hat (ai @hat2 (ai @hdg (ai @hd (ai @hbg (ai @hrw @hok)))))))))))
 apply rS hC
 · iterate 3 refine oA ?_
   rfl
 apply sQ
 apply rS hC
 · iterate 4 refine oA ?_
   rfl
 apply rS hC
 · iterate 3 refine oA ?_
   rfl
 refine cF (by simp [hF] <;> rfl) ?_
 apply Tri.skip
 apply sN
 apply sQ
 apply rS hC
 · iterate 5 refine oA ?_
   rfl
 refine cF (by simp [hF] <;> rfl) ?_
 apply Tri.skip
 apply sN
 apply sQ
 apply rS hC
 · iterate 4 refine oA ?_
   iterate 4 refine oC ?_
   refine oA ?_
   rfl
 refine cT (by simp [hF] <;> rfl) ?_
 apply rS hC
 · iterate 10 refine oA ?_
   rfl
 apply sQ
 apply rS hC
 · iterate 4 refine oA ?_
   rfl
 refine cF (by simp [hF] <;> rfl) ?_
 apply Tri.skip
 apply sN
 apply sQ
 apply rS hC
 · iterate 2 refine oA ?_
   rfl
 refine cT (by simp [hF] <;> rfl) ?_
 apply rS hC
 · iterate 4 refine oA ?_
   rfl
 apply Tri.ret
 iterate 2 apply sR
 refine endsE (by simp [Tryz.f127] <;> rfl) (by rfl) ?_
 first
  | rfl
  | simp [oneV, oneE, tokV]
theorem body_1127qf {call : CallF} (hC : call.Sound Tryz.prog TT) (s : List UInt8) (i : Nat) (e : Nat) (hid : ∀ H, call 123 [.s s, .i .i64 i] H = .val (.i .i64 e) H) (hnl : ¬ i < e) (b : UInt8) (hil : (i : Int) < s.length) (hil2 : i < s.length) (hat : s[i]? = some b) (hat2 : ∀ h, s[i]'h = b) (d : Int) (hdg : ∀ H, call 145 [.i .u8 b.toNat, .i .i64 10] H = .val (.i .i64 d) H) (hd : ¬ 0 ≤ d) (hbg : ∀ H, call 144 [.s s, .i .i64 i, .s [34, 34, 34]] H = .val (.b false) H) (tx : List UInt8) (e2 : Int) (ok : Bool) (hrw : ∀ H, call 147 [.s s, .i .i64 i] H = .val (.tup [.s tx, .i .i64 e2, .b ok]) H) (hb34 : ((b.toNat : Int) == 34) = true) (ty : List UInt8) (e3 : Int) (ok2 : Bool) (hqu : ∀ H, call 148 [.s s, .i .i64 i, .i .u8 34] H = .val (.tup [.s ty, .i .i64 e3, .b ok2]) H) (hok : ok2 = false)  : EBody Tryz.prog TT 127 [.s s, .i .i64 i] (fun r => r = .val (oneE 31)) := by
 refine en Tryz.f127 rfl rfl (by simp [Tryz.f127]) 164 rfl fun t hw hg => ?_
 have h0 := hg 0 _ rfl
 have h1 := hg 1 _ rfl
 clear hg
 try simp only [Nd.enc_eq] at *
 have hF := ai @h0 (ai @h1 (ai @hid (ai @hnl (ai @hil (ai @hil2 (ai @hat (ai @hat2 (ai @hdg (ai @hd (ai @hbg (ai @hrw (ai @hb34 (ai @hqu @hok)))))))))))))
 apply rS hC
 · iterate 3 refine oA ?_
   rfl
 apply sQ
 apply rS hC
 · iterate 4 refine oA ?_
   rfl
 apply rS hC
 · iterate 3 refine oA ?_
   rfl
 refine cF (by simp [hF] <;> rfl) ?_
 apply Tri.skip
 apply sN
 apply sQ
 apply rS hC
 · iterate 5 refine oA ?_
   rfl
 refine cF (by simp [hF] <;> rfl) ?_
 apply Tri.skip
 apply sN
 apply sQ
 apply rS hC
 · iterate 4 refine oA ?_
   iterate 4 refine oB ?_
   refine oA ?_
   rfl
 refine cT (by simp [hF] <;> rfl) ?_
 apply rS hC
 · iterate 10 refine oA ?_
   rfl
 apply sQ
 apply rS hC
 · iterate 4 refine oA ?_
   rfl
 refine cT (by simp [hF] <;> rfl) ?_
 apply rN hC
 · iterate 10 refine oA ?_
   rfl
 apply sN
 apply sQ
 apply rS hC
 · iterate 2 refine oA ?_
   rfl
 refine cT (by simp [hF] <;> rfl) ?_
 apply rS hC
 · iterate 4 refine oA ?_
   rfl
 apply Tri.ret
 iterate 2 apply sR
 refine endsE (by simp [Tryz.f127] <;> rfl) (by rfl) ?_
 first
  | rfl
  | simp [oneV, oneE, tokV]
theorem body_1127cf {call : CallF} (hC : call.Sound Tryz.prog TT) (s : List UInt8) (i : Nat) (e : Nat) (hid : ∀ H, call 123 [.s s, .i .i64 i] H = .val (.i .i64 e) H) (hnl : ¬ i < e) (b : UInt8) (hil : (i : Int) < s.length) (hil2 : i < s.length) (hat : s[i]? = some b) (hat2 : ∀ h, s[i]'h = b) (d : Int) (hdg : ∀ H, call 145 [.i .u8 b.toNat, .i .i64 10] H = .val (.i .i64 d) H) (hd : ¬ 0 ≤ d) (hbg : ∀ H, call 144 [.s s, .i .i64 i, .s [34, 34, 34]] H = .val (.b false) H) (hb34 : ((b.toNat : Int) == 34) = false) (hb39 : ((b.toNat : Int) == 39) = true) (tx : List UInt8) (e3 : Int) (ok2 : Bool) (hqu : ∀ H, call 148 [.s s, .i .i64 i, .i .u8 39] H = .val (.tup [.s tx, .i .i64 e3, .b ok2]) H) (m : Nat) (l : List V) (hcv : ∀ H, evConvO TT 9 169 (.s tx) H = .val (.sl H.length 1 0 m none) (H ++ [some { ty := 21, cells := l, kind := .more }])) (hok : ok2 = false)  : EBody Tryz.prog TT 127 [.s s, .i .i64 i] (fun r => r = .val (oneE 31)) := by
 refine en Tryz.f127 rfl rfl (by simp [Tryz.f127]) 164 rfl fun t hw hg => ?_
 have h0 := hg 0 _ rfl
 have h1 := hg 1 _ rfl
 clear hg
 try simp only [Nd.enc_eq] at *
 have hF := ai @h0 (ai @h1 (ai @hid (ai @hnl (ai @hil (ai @hil2 (ai @hat (ai @hat2 (ai @hdg (ai @hd (ai @hbg (ai @hb34 (ai @hb39 (ai @hqu @hok)))))))))))))
 apply rS hC
 · iterate 3 refine oA ?_
   rfl
 apply sQ
 apply rS hC
 · iterate 4 refine oA ?_
   rfl
 apply rS hC
 · iterate 3 refine oA ?_
   rfl
 refine cF (by simp [hF] <;> rfl) ?_
 apply Tri.skip
 apply sN
 apply sQ
 apply rS hC
 · iterate 5 refine oA ?_
   rfl
 refine cF (by simp [hF] <;> rfl) ?_
 apply Tri.skip
 apply sN
 apply sQ
 apply rS hC
 · iterate 4 refine oA ?_
   iterate 4 refine oB ?_
   refine oA ?_
   rfl
 refine cF (by simp [hF] <;> rfl) ?_
 apply Tri.skip
 apply sN
 apply sQ
 apply rS hC
 · iterate 4 refine oA ?_
   rfl
 refine cT (by simp [hF] <;> rfl) ?_
 apply rS hC
 · iterate 10 refine oA ?_
   rfl
 apply rS hC
 · iterate 3 refine gO (by simp [hF, hcv, -evConvO] <;> rfl) ?_
   rfl
 apply sQ
 apply rS hC
 · iterate 3 refine oA ?_
   iterate 3 refine oC ?_
   refine oA ?_
   rfl
 refine cT (by simp [hF] <;> rfl) ?_
 apply rS hC
 · iterate 4 refine oA ?_
   rfl
 apply Tri.ret
 iterate 2 apply sR
 refine endsE (by simp [Tryz.f127] <;> rfl) (by rfl) ?_
 first
  | rfl
  | simp [oneV, oneE, tokV]
theorem body_1127cm {call : CallF} (hC : call.Sound Tryz.prog TT) (s : List UInt8) (i : Nat) (e : Nat) (hid : ∀ H, call 123 [.s s, .i .i64 i] H = .val (.i .i64 e) H) (hnl : ¬ i < e) (b : UInt8) (hil : (i : Int) < s.length) (hil2 : i < s.length) (hat : s[i]? = some b) (hat2 : ∀ h, s[i]'h = b) (d : Int) (hdg : ∀ H, call 145 [.i .u8 b.toNat, .i .i64 10] H = .val (.i .i64 d) H) (hd : ¬ 0 ≤ d) (hbg : ∀ H, call 144 [.s s, .i .i64 i, .s [34, 34, 34]] H = .val (.b false) H) (hb34 : ((b.toNat : Int) == 34) = false) (hb39 : ((b.toNat : Int) == 39) = true) (tx : List UInt8) (e3 : Int) (ok2 : Bool) (hqu : ∀ H, call 148 [.s s, .i .i64 i, .i .u8 39] H = .val (.tup [.s tx, .i .i64 e3, .b ok2]) H) (m : Nat) (l : List V) (hcv : ∀ H, evConvO TT 9 169 (.s tx) H = .val (.sl H.length 1 0 m none) (H ++ [some { ty := 21, cells := l, kind := .more }])) (hok : ok2 = true) (hm : ((m : Int) != 1) = true)  : EBody Tryz.prog TT 127 [.s s, .i .i64 i] (fun r => r = .val (oneE 31)) := by
 refine en Tryz.f127 rfl rfl (by simp [Tryz.f127]) 164 rfl fun t hw hg => ?_
 have h0 := hg 0 _ rfl
 have h1 := hg 1 _ rfl
 clear hg
 try simp only [Nd.enc_eq] at *
 have hF := ai @h0 (ai @h1 (ai @hid (ai @hnl (ai @hil (ai @hil2 (ai @hat (ai @hat2 (ai @hdg (ai @hd (ai @hbg (ai @hb34 (ai @hb39 (ai @hqu (ai @hok @hm))))))))))))))
 apply rS hC
 · iterate 3 refine oA ?_
   rfl
 apply sQ
 apply rS hC
 · iterate 4 refine oA ?_
   rfl
 apply rS hC
 · iterate 3 refine oA ?_
   rfl
 refine cF (by simp [hF] <;> rfl) ?_
 apply Tri.skip
 apply sN
 apply sQ
 apply rS hC
 · iterate 5 refine oA ?_
   rfl
 refine cF (by simp [hF] <;> rfl) ?_
 apply Tri.skip
 apply sN
 apply sQ
 apply rS hC
 · iterate 4 refine oA ?_
   iterate 4 refine oB ?_
   refine oA ?_
   rfl
 refine cF (by simp [hF] <;> rfl) ?_
 apply Tri.skip
 apply sN
 apply sQ
 apply rS hC
 · iterate 4 refine oA ?_
   rfl
 refine cT (by simp [hF] <;> rfl) ?_
 apply rS hC
 · iterate 10 refine oA ?_
   rfl
 apply rS hC
 · iterate 3 refine gO (by simp [hF, hcv, -evConvO] <;> rfl) ?_
   rfl
 apply sQ
 apply rS hC
 · iterate 3 refine oA ?_
   iterate 3 refine oB ?_
   refine oA ?_
   rfl
 refine cT (by simp [hF] <;> rfl) ?_
 apply rS hC
 · iterate 4 refine oA ?_
   rfl
 apply Tri.ret
 iterate 2 apply sR
 refine endsE (by simp [Tryz.f127] <;> rfl) (by rfl) ?_
 first
  | rfl
  | simp [oneV, oneE, tokV]
theorem body_1127co {call : CallF} (hC : call.Sound Tryz.prog TT) (s : List UInt8) (i : Nat) (e : Nat) (hid : ∀ H, call 123 [.s s, .i .i64 i] H = .val (.i .i64 e) H) (hnl : ¬ i < e) (b : UInt8) (hil : (i : Int) < s.length) (hil2 : i < s.length) (hat : s[i]? = some b) (hat2 : ∀ h, s[i]'h = b) (d : Int) (hdg : ∀ H, call 145 [.i .u8 b.toNat, .i .i64 10] H = .val (.i .i64 d) H) (hd : ¬ 0 ≤ d) (hbg : ∀ H, call 144 [.s s, .i .i64 i, .s [34, 34, 34]] H = .val (.b false) H) (hb34 : ((b.toNat : Int) == 34) = false) (hb39 : ((b.toNat : Int) == 39) = true) (tx : List UInt8) (e3 : Int) (ok2 : Bool) (hqu : ∀ H, call 148 [.s s, .i .i64 i, .i .u8 39] H = .val (.tup [.s tx, .i .i64 e3, .b ok2]) H) (rn : Int) (hcv : ∀ H, evConvO TT 9 169 (.s tx) H = .val (.sl H.length 1 0 1 none) (H ++ [some { ty := 21, cells := [.i .i32 rn], kind := .more }])) (hok : ok2 = true) (r2 : Int) (hwr : IntKind.i64.wrap rn = r2) (hit : ∀ H, call 149 [.i .i64 r2] H = .val (.s (Lib.itoa r2)) H)  : EBody Tryz.prog TT 127 [.s s, .i .i64 i] (fun r => r = .val (oneV 3 (Lib.itoa r2) e3)) := by
 refine en Tryz.f127 rfl rfl (by simp [Tryz.f127]) 164 rfl fun t hw hg => ?_
 have h0 := hg 0 _ rfl
 have h1 := hg 1 _ rfl
 clear hg
 try simp only [Nd.enc_eq] at *
 have hF := ai @h0 (ai @h1 (ai @hid (ai @hnl (ai @hil (ai @hil2 (ai @hat (ai @hat2 (ai @hdg (ai @hd (ai @hbg (ai @hb34 (ai @hb39 (ai @hqu (ai @hok (ai @hwr @hit)))))))))))))))
 apply rS hC
 · iterate 3 refine oA ?_
   rfl
 apply sQ
 apply rS hC
 · iterate 4 refine oA ?_
   rfl
 apply rS hC
 · iterate 3 refine oA ?_
   rfl
 refine cF (by simp [hF] <;> rfl) ?_
 apply Tri.skip
 apply sN
 apply sQ
 apply rS hC
 · iterate 5 refine oA ?_
   rfl
 refine cF (by simp [hF] <;> rfl) ?_
 apply Tri.skip
 apply sN
 apply sQ
 apply rS hC
 · iterate 4 refine oA ?_
   iterate 4 refine oB ?_
   refine oA ?_
   rfl
 refine cF (by simp [hF] <;> rfl) ?_
 apply Tri.skip
 apply sN
 apply sQ
 apply rS hC
 · iterate 4 refine oA ?_
   rfl
 refine cT (by simp [hF] <;> rfl) ?_
 apply rS hC
 · iterate 10 refine oA ?_
   rfl
 apply rS hC
 · iterate 3 refine gO (by simp [hF, hcv, -evConvO] <;> rfl) ?_
   rfl
 apply sQ
 apply rS hC
 · iterate 3 refine oA ?_
   iterate 3 refine oB ?_
   refine oA ?_
   rfl
 refine cF (by simp [hF] <;> rfl) ?_
 apply Tri.skip
 apply sN
 apply rS hC
 · iterate 10 refine oA ?_
   rfl
 apply Tri.ret
 apply sR
 refine endsE (by simp [Tryz.f127] <;> rfl) (by rfl) ?_
 first
  | rfl
  | simp [oneV, oneE, tokV]
theorem body_1127yn {call : CallF} (hC : call.Sound Tryz.prog TT) (s : List UInt8) (i : Nat) (e : Nat) (hid : ∀ H, call 123 [.s s, .i .i64 i] H = .val (.i .i64 e) H) (hnl : ¬ i < e) (b : UInt8) (hil : (i : Int) < s.length) (hil2 : i < s.length) (hat : s[i]? = some b) (hat2 : ∀ h, s[i]'h = b) (d : Int) (hdg : ∀ H, call 145 [.i .u8 b.toNat, .i .i64 10] H = .val (.i .i64 d) H) (hd : ¬ 0 ≤ d) (hbg : ∀ H, call 144 [.s s, .i .i64 i, .s [34, 34, 34]] H = .val (.b false) H) (hb34 : ((b.toNat : Int) == 34) = false) (hb39 : ((b.toNat : Int) == 39) = false) (hi : i < 100000000) (hsy : ∀ H, call 150 [] H = .val (.isl 1 (encS syL)) H) (hbt : ∀ t : List UInt8, t.length < 1000 → ∀ H, call 144 [.s s, .i .i64 i, .s t] H = .val (.b (begR s i t)) H) (hlt : ∀ b : UInt8, ∀ H, call 141 [.i .u8 b.toNat] H = .val (.b (letR b.toNat)) H) (hatc : ∀ (j : Nat) H, call 142 [.s s, .i .i64 j] H = .val (.i .u8 (atR s j)) H) (hwc : ∀ (j : Nat) H, call 143 [.i .u8 (atR s j)] H = .val (.b (worR (atR s j))) H) (sy : List UInt8) (hsl : symF s i syL [] = sy) (hw5 : IntKind.i64.wrap ((i : Int) + sy.length) = (i : Int) + sy.length) (hse : (sy == []) = true)  : EBody Tryz.prog TT 127 [.s s, .i .i64 i] (fun r => r = .val (oneE 30)) := by
 refine en Tryz.f127 rfl rfl (by simp [Tryz.f127]) 164 rfl fun t hw hg => ?_
 have h0 := hg 0 _ rfl
 have h1 := hg 1 _ rfl
 clear hg
 try simp only [Nd.enc_eq] at *
 have hF := ai @h0 (ai @h1 (ai @hid (ai @hnl (ai @hil (ai @hil2 (ai @hat (ai @hat2 (ai @hdg (ai @hd (ai @hbg (ai @hb34 (ai @hb39 (ai @hw5 @hse)))))))))))))
 apply rS hC
 · iterate 3 refine oA ?_
   rfl
 apply sQ
 apply rS hC
 · iterate 4 refine oA ?_
   rfl
 apply rS hC
 · iterate 3 refine oA ?_
   rfl
 refine cF (by simp [hF] <;> rfl) ?_
 apply Tri.skip
 apply sN
 apply sQ
 apply rS hC
 · iterate 5 refine oA ?_
   rfl
 refine cF (by simp [hF] <;> rfl) ?_
 apply Tri.skip
 apply sN
 apply sQ
 apply rS hC
 · iterate 4 refine oA ?_
   iterate 4 refine oB ?_
   refine oA ?_
   rfl
 refine cF (by simp [hF] <;> rfl) ?_
 apply Tri.skip
 apply sN
 apply sQ
 apply rS hC
 · iterate 4 refine oA ?_
   rfl
 refine cF (by simp [hF] <;> rfl) ?_
 apply Tri.skip
 apply sN
 apply rS hC
 · refine oA ?_
   rfl
 apply sQ
 apply rS hC
 · refine oA ?_
   rfl
 apply bK
 refine Tri.loop ?_
 refine loop1127 hC s i hi syL hsy hbt hlt hatc hwc _ syL [] [] _ rfl (by decide) (by decide) (by simp [hw]) (by simp [h0]) (by simp [h1]) (by simp) (by simp) (by simp) ?exit
 case exit =>
  clear hw
  intro t2 hw q0 q1 q4 q15
  rw [hsl] at q15
  refine inBlk_exit ?_
  apply sN
  apply sQ
  apply rS hC
  · iterate 2 refine oA ?_
    rfl
  refine cT (by simp [hF] <;> rfl) ?_
  apply rS hC
  · iterate 4 refine oA ?_
    rfl
  apply Tri.ret
  apply sR
  refine endsE (by simp [Tryz.f127, q4, q0, q1, q15, hw5] <;> rfl) (by rfl) ?_
  first
   | rfl
   | simp [oneV, oneE, tokV]
theorem body_1127yo {call : CallF} (hC : call.Sound Tryz.prog TT) (s : List UInt8) (i : Nat) (e : Nat) (hid : ∀ H, call 123 [.s s, .i .i64 i] H = .val (.i .i64 e) H) (hnl : ¬ i < e) (b : UInt8) (hil : (i : Int) < s.length) (hil2 : i < s.length) (hat : s[i]? = some b) (hat2 : ∀ h, s[i]'h = b) (d : Int) (hdg : ∀ H, call 145 [.i .u8 b.toNat, .i .i64 10] H = .val (.i .i64 d) H) (hd : ¬ 0 ≤ d) (hbg : ∀ H, call 144 [.s s, .i .i64 i, .s [34, 34, 34]] H = .val (.b false) H) (hb34 : ((b.toNat : Int) == 34) = false) (hb39 : ((b.toNat : Int) == 39) = false) (hi : i < 100000000) (hsy : ∀ H, call 150 [] H = .val (.isl 1 (encS syL)) H) (hbt : ∀ t : List UInt8, t.length < 1000 → ∀ H, call 144 [.s s, .i .i64 i, .s t] H = .val (.b (begR s i t)) H) (hlt : ∀ b : UInt8, ∀ H, call 141 [.i .u8 b.toNat] H = .val (.b (letR b.toNat)) H) (hatc : ∀ (j : Nat) H, call 142 [.s s, .i .i64 j] H = .val (.i .u8 (atR s j)) H) (hwc : ∀ (j : Nat) H, call 143 [.i .u8 (atR s j)] H = .val (.b (worR (atR s j))) H) (sy : List UInt8) (hsl : symF s i syL [] = sy) (hw5 : IntKind.i64.wrap ((i : Int) + sy.length) = (i : Int) + sy.length) (hse : (sy == []) = false) (hs0 : ¬ sy = [])  : EBody Tryz.prog TT 127 [.s s, .i .i64 i] (fun r => r = .val (oneV 6 sy ((i : Int) + sy.length))) := by
 refine en Tryz.f127 rfl rfl (by simp [Tryz.f127]) 164 rfl fun t hw hg => ?_
 have h0 := hg 0 _ rfl
 have h1 := hg 1 _ rfl
 clear hg
 try simp only [Nd.enc_eq] at *
 have hF := ai @h0 (ai @h1 (ai @hid (ai @hnl (ai @hil (ai @hil2 (ai @hat (ai @hat2 (ai @hdg (ai @hd (ai @hbg (ai @hb34 (ai @hb39 (ai @hw5 (ai @hse @hs0))))))))))))))
 apply rS hC
 · iterate 3 refine oA ?_
   rfl
 apply sQ
 apply rS hC
 · iterate 4 refine oA ?_
   rfl
 apply rS hC
 · iterate 3 refine oA ?_
   rfl
 refine cF (by simp [hF] <;> rfl) ?_
 apply Tri.skip
 apply sN
 apply sQ
 apply rS hC
 · iterate 5 refine oA ?_
   rfl
 refine cF (by simp [hF] <;> rfl) ?_
 apply Tri.skip
 apply sN
 apply sQ
 apply rS hC
 · iterate 4 refine oA ?_
   iterate 4 refine oB ?_
   refine oA ?_
   rfl
 refine cF (by simp [hF] <;> rfl) ?_
 apply Tri.skip
 apply sN
 apply sQ
 apply rS hC
 · iterate 4 refine oA ?_
   rfl
 refine cF (by simp [hF] <;> rfl) ?_
 apply Tri.skip
 apply sN
 apply rS hC
 · refine oA ?_
   rfl
 apply sQ
 apply rS hC
 · refine oA ?_
   rfl
 apply bK
 refine Tri.loop ?_
 refine loop1127 hC s i hi syL hsy hbt hlt hatc hwc _ syL [] [] _ rfl (by decide) (by decide) (by simp [hw]) (by simp [h0]) (by simp [h1]) (by simp) (by simp) (by simp) ?exit
 case exit =>
  clear hw
  intro t2 hw q0 q1 q4 q15
  rw [hsl] at q15
  refine inBlk_exit ?_
  apply sN
  apply sQ
  apply rS hC
  · iterate 2 refine oA ?_
    rfl
  refine cF (by simp [hF] <;> rfl) ?_
  apply Tri.skip
  apply sN
  apply rS hC
  · iterate 9 refine oA ?_
    rfl
  apply Tri.ret
  refine endsE (by simp [Tryz.f127, q4, q0, q1, q15, hw5] <;> rfl) (by rfl) ?_
  first
   | rfl
   | simp [oneV, oneE, tokV]
theorem digL_pos (base : Int) (L : List UInt8) (h : (digL base L [] false).2 ≠ []) : 0 < (digL base L [] false).1 := by
  cases L with
  | nil => exact absurd rfl h
  | cons b L =>
    simp only [digL] at h ⊢
    split
    · omega
    · rename_i h1
      rw [if_neg h1] at h
      split
      · rename_i h2; exact absurd rfl h2.2.1
      · rename_i h2
        rw [if_neg h2] at h
        exact absurd rfl h
theorem signR_le {s : List UInt8} {k : Nat} (h : k ≤ s.length) : k ≤ (signR s k).1 ∧ (signR s k).1 ≤ s.length := by
  unfold signR
  split
  · rename_i hc
    have hl : k < s.length := atR_in (by
      intro h0
      rw [h0] at hc
      exact absurd hc (by decide))
    simp only
    omega
  · exact ⟨Nat.le_refl _, h⟩
theorem expR_le {s t t' : List UInt8} {e e' : Nat} {k k' : Int} (hx : expR s e t k = some (e', t', k')) (he : e ≤ s.length) : e ≤ e' ∧ e' ≤ s.length := by
  unfold expR at hx
  split at hx
  · rename_i hc
    split at hx
    · cases hx
    · have hl : e < s.length := atR_in (by
        intro h0
        rw [h0] at hc
        exact absurd hc (by decide))
      have h1 := signR_le (s := s) (k := e + 1) (by omega)
      have h2 := digL_le 10 (s.drop (signR s (e + 1)).1) [] false
      rw [List.length_drop] at h2
      simp only [Option.some.injEq, Prod.mk.injEq] at hx
      omega
  · simp only [Option.some.injEq, Prod.mk.injEq] at hx
    omega
theorem restR_le {s d t' : List UInt8} {e e' : Nat} {k' : Int} (h : restR s e d = some (e', t', k')) (he : e ≤ s.length) : e ≤ e' ∧ e' ≤ s.length := by
  unfold restR fracR at h
  split at h
  · rename_i hc
    simp only [Bool.and_eq_true, beq_iff_eq, decide_eq_true_eq] at hc
    have hl : e < s.length := atR_in (by rw [hc.1]; decide)
    have h2 := digL_le 10 (s.drop (e + 1)) [] false
    rw [List.length_drop] at h2
    have := expR_le h (by omega)
    omega
  · exact expR_le h he
theorem numEnd_ok {s d text : List UInt8} {base e : Nat} {k : Int} {v : V} (h : NumEnd s d base e text k v) : v = errV ∨ (d ≠ [] ∧ ∃ (k : Int) (t : List UInt8), (k = 3 ∨ k = 4) ∧ v = okV k t e) := by
  rcases h with ⟨_, h⟩ | ⟨h0, h⟩
  · exact .inl h
  · have hd : d ≠ [] := by
      intro hd
      subst hd
      exact absurd h0 (by simp)
    rcases h with ⟨_, rfl⟩ | ⟨_, ⟨o, _, _, _, rfl⟩ | ⟨_, rfl⟩⟩
    · exact .inr ⟨hd, 4, _, .inr rfl, rfl⟩
    · exact .inr ⟨hd, 3, _, .inl rfl, rfl⟩
    · exact .inl rfl
theorem NumR_ok {s : List UInt8} {i : Nat} {v : V} (h : NumR s i v) (hi : i ≤ s.length) : v = errV ∨ ∃ (k : Int) (t : List UInt8) (e : Nat), (k = 3 ∨ k = 4) ∧ v = okV k t e ∧ i < e ∧ e ≤ s.length := by
  unfold NumR at h
  split at h
  · rename_i hx
    have hl := begR_len hx
    simp only [List.length_cons, List.length_nil] at hl
    have h2 := digL_le 16 (s.drop (i + 2)) [] false
    rw [List.length_drop] at h2
    rcases numEnd_ok h with h | ⟨_, k, t, hk, hv⟩
    · exact .inl h
    · exact .inr ⟨k, t, _, hk, hv, by omega, by omega⟩
  · split at h
    · rename_i hx
      have hl := begR_len hx
      simp only [List.length_cons, List.length_nil] at hl
      have h2 := digL_le 2 (s.drop (i + 2)) [] false
      rw [List.length_drop] at h2
      rcases numEnd_ok h with h | ⟨_, k, t, hk, hv⟩
      · exact .inl h
      · exact .inr ⟨k, t, _, hk, hv, by omega, by omega⟩
    · rcases h with ⟨_, h⟩ | ⟨e', t', k', hr, h⟩
      · exact .inl h
      · have h2 := digL_le 10 (s.drop i) [] false
        rw [List.length_drop] at h2
        rcases numEnd_ok h with h | ⟨hd, k, t, hk, hv⟩
        · exact .inl h
        · have h3 := restR_le hr (by omega)
          have h4 := digL_pos _ _ hd
          exact .inr ⟨k, t, _, hk, hv, by omega, by omega⟩
theorem idR_le {s : List UInt8} {i : Nat} (h : i ≤ s.length) : i ≤ idR s i ∧ idR s i ≤ s.length := by
  unfold idR
  split
  · exact ⟨Nat.le_refl _, h⟩
  · have h1 := runW_le (s.drop i)
    have h2 := runQ_le (s.drop (i + runW (s.drop i)))
    simp only [List.length_drop] at h1 h2
    omega
theorem quoF_ok {s : List UInt8} {esc : Nat → Option (List UInt8 × Nat)} {mk : Int} (hej : ∀ (i : Nat) (tx : List UInt8) (j : Nat), i < s.length → esc i = some (tx, j) → i < j ∧ j ≤ s.length ∧ tx.length ≤ 4) :
    ∀ (n i : Nat) (out t : List UInt8) (e : Nat), out.length ≤ 4 * i → quoF s esc mk n i out = some (t, e) → i < e ∧ e ≤ s.length ∧ t.length ≤ 4 * s.length
  | 0, i, out, t, e, hl, h => by cases h
  | n + 1, i, out, t, e, hl, h => by
    simp only [quoF] at h
    split at h
    · cases h
    · rename_i hi
      split at h
      · cases h
      · split at h
        · cases h
          omega
        · split at h
          · split at h
            · rename_i p hp
              obtain ⟨tx, j⟩ := p
              obtain ⟨h1, h2, h3⟩ := hej i tx j (by omega) hp
              have := quoF_ok hej n j (out ++ tx) t e (by simp; omega) h
              omega
            · cases h
          · have := quoF_ok hej n (i + 1) _ t e (by simp; omega) h
            omega
def rawP (s : List UInt8) (i : Nat) : List UInt8 × Nat × Bool := match rawF s (s.length + 1) (i + 3) with
  | none => ([], 0, false)
  | some k => (cutR s (i + 3) k, k + 3, Lib.validD (cutR s (i + 3) k))
theorem rawV_eq (s : List UInt8) (i : Nat) : rawV s i = .tup [.s (rawP s i).1, .i .i64 ((rawP s i).2.1 : Nat), .b (rawP s i).2.2] := by
  unfold rawV rawP
  cases rawF s (s.length + 1) (i + 3) <;> rfl
theorem rawP_ok {s : List UInt8} {i : Nat} (h : (rawP s i).2.2 = true) : i < (rawP s i).2.1 ∧ (rawP s i).2.1 ≤ s.length := by
  unfold rawP at h ⊢
  cases hr : rawF s (s.length + 1) (i + 3) with
  | none => rw [hr] at h; cases h
  | some k =>
    have := rawF_le s _ _ _ hr
    simp only
    omega
theorem quoP_ok {s : List UInt8} {mk : Int} {i : Nat} : ((quoP (quoR s mk i)).2.2 = true → i < (quoP (quoR s mk i)).2.1 ∧ (quoP (quoR s mk i)).2.1 ≤ s.length) ∧ (quoP (quoR s mk i)).1.length ≤ 4 * s.length := by
  cases h : quoR s mk i with
  | none => simp [quoP]
  | some p =>
    obtain ⟨t, e⟩ := p
    have := quoF_ok (fun i tx j h1 h2 => escR_ok h1 h2) _ _ _ _ _ (by simp) h
    simp only [quoP]
    omega
def strR (p : List UInt8 × Nat × Bool) : V := if p.2.2 = true then oneV 5 p.1 p.2.1 else oneE 31
def chrR (p : List UInt8 × Nat × Bool) : V := if p.2.2 = true then (match runesV p.1 with
    | [.i .i32 r] => oneV 3 (Lib.itoa (IntKind.i64.wrap r)) p.2.1
    | _ => oneE 31) else oneE 31
def symR (s : List UInt8) (i : Nat) : V := if (symF s i syL [] == []) = true then oneE 30 else oneV 6 (symF s i syL []) ((i : Int) + (symF s i syL []).length)
def OneR (s : List UInt8) (i : Nat) (v : V) : Prop :=
  if i < idR s i then v = oneV (if (kwL.any fun x => x == (s.take (idR s i)).drop i) = true then 2 else 1) ((s.take (idR s i)).drop i) (idR s i)
  else if 0 ≤ digR (atR s i) 10 then NumR s i v
  else if begR s i [34, 34, 34] = true then v = strR (rawP s i)
  else if ((atR s i == 34) : Bool) = true then v = strR (quoP (quoR s 34 i))
  else if ((atR s i == 39) : Bool) = true then v = chrR (quoP (quoR s 39 i))
  else v = symR s i
theorem symF_mem {s : List UInt8} {i : Nat} : ∀ (L : List (List UInt8)) (best : List UInt8), (best = [] ∨ begR s i best = true) → symF s i L best = [] ∨ begR s i (symF s i L best) = true
  | [], best, h => h
  | x :: L, best, h => by
    simp only [symF]
    refine symF_mem L _ ?_
    split
    · rename_i hok
      simp only [okS, Bool.and_eq_true] at hok
      exact .inr hok.2.1
    · exact h
theorem OneR_ok {s : List UInt8} {i : Nat} {v : V} (h : OneR s i v) (hi : i < s.length) : (∃ c : Int, c ≠ 0 ∧ v = oneE c) ∨ ∃ (k : Int) (t : List UInt8) (e : Nat), v = oneV k t e ∧ i < e ∧ e ≤ s.length := by
  unfold OneR at h
  split at h
  · rename_i h1
    have := idR_le (s := s) (i := i) (by omega)
    exact .inr ⟨_, _, _, h, h1, this.2⟩
  · split at h
    · rcases NumR_ok h (by omega) with h | ⟨k, t, e, hk, hv, h1, h2⟩
      · exact .inl ⟨33, by decide, h⟩
      · exact .inr ⟨k, t, e, hv, h1, h2⟩
    · split at h
      · unfold strR at h
        split at h
        · rename_i hp
          have := rawP_ok hp
          exact .inr ⟨_, _, _, h, this.1, this.2⟩
        · exact .inl ⟨31, by decide, h⟩
      · split at h
        · unfold strR at h
          split at h
          · rename_i hp
            have := quoP_ok.1 hp
            exact .inr ⟨_, _, _, h, this.1, this.2⟩
          · exact .inl ⟨31, by decide, h⟩
        · split at h
          · unfold chrR at h
            split at h
            · rename_i hp
              have := quoP_ok.1 hp
              split at h
              · exact .inr ⟨_, _, _, h, this.1, this.2⟩
              · exact .inl ⟨31, by decide, h⟩
            · exact .inl ⟨31, by decide, h⟩
          · unfold symR at h
            split at h
            · exact .inl ⟨30, by decide, h⟩
            · rename_i hne
              rcases symF_mem (s := s) (i := i) syL [] (.inl rfl) with h0 | h0
              · exact absurd (by rw [h0]; rfl) hne
              · have h1 := begR_len h0
                have h2 : 0 < (symF s i syL []).length := by
                  rcases Nat.eq_zero_or_pos (symF s i syL []).length with h | h
                  · exact absurd (by rw [List.length_eq_zero_iff.1 h]; rfl) hne
                  · exact h
                refine .inr ⟨6, _, i + (symF s i syL []).length, h, by omega, h1⟩
theorem wrap_range (n : Int) : -9223372036854775808 ≤ IntKind.i64.wrap n ∧ IntKind.i64.wrap n ≤ 9223372036854775807 := by
  have e : (2 : Int) ^ IntKind.i64.bits = 18446744073709551616 := rfl
  have e2 : (2 : Int) ^ (IntKind.i64.bits - 1) = 9223372036854775808 := rfl
  simp only [IntKind.wrap, e, e2, IntKind.signed, Bool.true_and, decide_eq_true_eq]
  split <;> omega
theorem cv9 {tx : List UInt8} (h : tx.length < 100000000) (H : Heap) : evConvO TT 9 169 (.s tx) H = .val (.sl H.length 1 0 (runesV tx).length none) (H ++ [some { ty := 21, cells := runesV tx, kind := .more }]) := by
  have e1 : TT.und 169 = some (.slice 21) := rfl
  have e2 : TT.und 9 = some .string := rfl
  have e3 : TT.und 21 = some (.int .i32) := rfl
  simp only [evConvO, e1, e2, e3]
  rw [if_pos ⟨rfl, by omega⟩, newB_eq]
theorem oneV_nl (k : Int) (t : List UInt8) (e : Int) : nl (oneV k t e) = true := by simp [oneV, tokV, nl, nlL]
theorem oneE_nl (c : Int) : nl (oneE c) = true := by simp [oneE, tokV, nl, nlL]
end Go.Ev
