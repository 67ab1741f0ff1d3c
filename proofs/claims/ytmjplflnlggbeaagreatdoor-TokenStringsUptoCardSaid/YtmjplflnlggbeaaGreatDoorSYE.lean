/- Walks and specification: a run of digits. Walks and specification: an exponent. What is left of the text at a place. Walks and specification: HasPrefix. Walks and specification: sign. What look-ups in small maps and must come to. strings.Builder: what stands in its block. strings.Builder: WriteByte, WriteString and String. -/
import Derived.Test.YtmjplflnlggbeaaGreatDoorSZA
import Derived.Test.YtmjplflnlggbeaaGreatDoorSWC
namespace Go.Ev
open Go Go.Proofs
set_option linter.unusedSimpArgs false
set_option linter.unusedVariables false
set_option linter.unnecessarySimpa false
set_option maxRecDepth 100000
def runF (base : Int) : List UInt8 → Nat → Option Nat
  | [], n => some n
  | c :: r, n => if valN c.toNat < base then runF base r (n + 1) else if c.toNat ≠ 95 ∨ n = 0 then some n else match r with
    | d :: _ => if valN d.toNat < base then runF base r (n + 1) else none
    | [] => none
def RunE (r : Option Nat) (at_ : Int) (R : Res → Prop) : Prop := match r with
  | some n => R (.val (.i .i64 n))
  | none => R (.pan (fltV 33 at_))

theorem loop2075 {call : CallF} (hC : call.Sound Tryz.prog TT) {Q : Out → Prop} (base at_ : Int) (hb : base = 2 ∨ base = 10 ∨ base = 16) (hval : ∀ c : UInt8, ∀ H, call 94 [.i .u8 c.toNat, .i .i64 base] H = .val (.tup [.i .u64 (valN c.toNat), .b (decide (valN c.toNat < base))]) H)
    (hmust : ∀ (b : Bool) (e k : Int) (H : Heap), call 55 [.b b, .i .i64 e, .i .i64 k] H = if b = true then .val .un H else .pan (fltV e k) H) : ∀ (L pre : List UInt8) (t : Tm) (H : Heap), (pre ++ L).length < 1100000 → t.wid = 55 → t.get 0 = .s (pre ++ L) → t.get 1 = .i .i64 base → t.get 2 = .i .i64 at_ → t.get 7 = .i .i64 pre.length →
    (∀ (t' : Tm) (H' : Heap) (n : Nat), runF base L pre.length = some n → t'.wid = 55 → t'.get 7 = .i .i64 n → Q (.exit 0 t' H')) →
    (∀ (v : V) (t' : Tm) (H' : Heap), runF base L pre.length = none → v = fltV 33 at_ → Q (.pan v t' H')) →
    LTri Tryz.prog TT (sub [true, true, false, false, false] (bodyOf Tryz.f75)) t H Q := by
 intro L
 induction L with
 | nil =>
   intro pre t H hlen hw h0 h1 h2 h7 hE hP
   have hF := ai @h0 (ai @h1 (ai @h2 @h7))
   refine LTri.round' ?_
   apply sQ
   apply rS hC
   · iterate 4 refine evSeq_go rfl (by simp [hF] <;> rfl) (by rfl) (by simp [hw]) ?_
     rfl
   refine cF (by simp [hF] <;> rfl) ?_
   refine Tri.exit ?_
   refine inSeq_exit ?_
   refine inLoop_exit ?_
   exact hE _ _ pre.length rfl (by simp [hw]) (by simp [h7])
 | cons b L ih =>
   intro pre t H hlen hw h0 h1 h2 h7 hE hP
   have hlt := fin_len pre.length L.length
   have hat := str_at pre b L
   have hat2 := str_at2 pre b L
   cases hd : decide (valN b.toNat < base) with
   | true =>
     have hv : ∀ H, call 94 [.i .u8 b.toNat, .i .i64 base] H = .val (.tup [.i .u64 (valN b.toNat), .b true]) H := fun H => by rw [hval, hd]
     rw [decide_eq_true_eq] at hd
     have hF := ai @h0 (ai @h1 (ai @h2 (ai @h7 (ai @hlt (ai @hat (ai @hat2 @hv))))))
     refine LTri.round' ?_
     apply sQ
     apply rS hC
     · iterate 4 refine evSeq_go rfl (by simp [hF] <;> rfl) (by rfl) (by simp [hw]) ?_
       rfl
     refine cT (by simp [hF] <;> rfl) ?_
     apply Tri.skip
     apply sN
     apply bK
     apply sQ
     apply rS hC
     · iterate 10 refine evSeq_go rfl (by simp [hF] <;> rfl) (by rfl) (by simp [hw]) ?_
       rfl
     apply rS hC
     · refine evSeq_go rfl (by simp [hF] <;> rfl) (by rfl) (by simp [hw]) ?_
       rfl
     refine cT (by simp [hF] <;> rfl) ?_
     apply rS hC
     · iterate 3 refine evSeq_go rfl (by simp [hF] <;> rfl) (by rfl) (by simp [hw]) ?_
       rfl
     refine Tri.exit ?_
     refine inSeq_exit ?_
     refine inBlk_exit ?_
     refine inLoop_norm ?_
     refine ih (pre ++ [b]) _ _ (by simpa using hlen) (by simp [hw]) (by simp [h0]) (by simp [h1]) (by simp [h2]) (by simp <;> exact wrap_i64 (by omega) (by simp at hlen; omega)) (fun t' H' n k1 k2 k3 => hE t' H' n (by simp only [runF, hd, if_true]; simpa using k1) k2 k3) (fun v t' H' k1 k2 => hP v t' H' (by simp only [runF, hd, if_true]; simpa using k1) k2)
   | false =>
     have hv : ∀ H, call 94 [.i .u8 b.toNat, .i .i64 base] H = .val (.tup [.i .u64 (valN b.toNat), .b false]) H := fun H => by rw [hval, hd]
     cases hc : ((b.toNat : Int) != 95) with
     | true =>
       have hcc : b.toNat ≠ 95 ∨ pre.length = 0 := .inl (by simp at hc; omega)
       have hF := ai @h0 (ai @h1 (ai @h2 (ai @h7 (ai @hlt (ai @hat (ai @hat2 (ai @hv @hc)))))))
       refine LTri.round' ?_
       apply sQ
       apply rS hC
       · iterate 4 refine evSeq_go rfl (by simp [hF] <;> rfl) (by rfl) (by simp [hw]) ?_
         rfl
       refine cT (by simp [hF] <;> rfl) ?_
       apply Tri.skip
       apply sN
       apply bK
       apply sQ
       apply rS hC
       · iterate 10 refine evSeq_go rfl (by simp [hF] <;> rfl) (by rfl) (by simp [hw]) ?_
         rfl
       apply rS hC
       · refine evSeq_go rfl (by simp [hF] <;> rfl) (by rfl) (by simp [hw]) ?_
         rfl
       refine cF (by simp [hF] <;> rfl) ?_
       apply Tri.skip
       apply sN
       apply sQ
       apply rS hC
       · iterate 5 refine evSeq_go rfl (by simp [hF] <;> rfl) (by rfl) (by simp [hw]) ?_
         iterate 2 refine evSeq_off (by simp [wants, hF]) (by simp [hw]) ?_
         refine evSeq_go rfl (by simp [hF] <;> rfl) (by rfl) (by simp [hw]) ?_
         rfl
       refine cT (by simp [hF] <;> rfl) ?_
       refine Tri.exit ?_
       refine inSeq_exit ?_
       refine inBlk_pass rfl ?_
       refine inLoop_exit ?_
       exact hE _ _ pre.length (by simp only [runF]; rw [if_neg (by simpa using hd), if_pos hcc]) (by simp [hw]) (by simp [h7])
     | false =>
       have hc5 : b.toNat = 95 := by simp at hc; omega
       cases hz : ((pre.length : Int) == 0) with
       | true =>
         have hcc : b.toNat ≠ 95 ∨ pre.length = 0 := .inr (by simp at hz; simp [hz])
         have hF := ai @h0 (ai @h1 (ai @h2 (ai @h7 (ai @hlt (ai @hat (ai @hat2 (ai @hv (ai @hc @hz))))))))
         refine LTri.round' ?_
         apply sQ
         apply rS hC
         · iterate 4 refine evSeq_go rfl (by simp [hF] <;> rfl) (by rfl) (by simp [hw]) ?_
           rfl
         refine cT (by simp [hF] <;> rfl) ?_
         apply Tri.skip
         apply sN
         apply bK
         apply sQ
         apply rS hC
         · iterate 10 refine evSeq_go rfl (by simp [hF] <;> rfl) (by rfl) (by simp [hw]) ?_
           rfl
         apply rS hC
         · refine evSeq_go rfl (by simp [hF] <;> rfl) (by rfl) (by simp [hw]) ?_
           rfl
         refine cF (by simp [hF] <;> rfl) ?_
         apply Tri.skip
         apply sN
         apply sQ
         apply rS hC
         · iterate 5 refine evSeq_go rfl (by simp [hF] <;> rfl) (by rfl) (by simp [hw]) ?_
           iterate 2 refine evSeq_go (by simp [wants, hF]) (by simp [hF] <;> rfl) (by rfl) (by simp [hw]) ?_
           refine evSeq_go rfl (by simp [hF] <;> rfl) (by rfl) (by simp [hw]) ?_
           rfl
         refine cT (by simp [hF] <;> rfl) ?_
         refine Tri.exit ?_
         refine inSeq_exit ?_
         refine inBlk_pass rfl ?_
         refine inLoop_exit ?_
         exact hE _ _ pre.length (by simp only [runF]; rw [if_neg (by simpa using hd), if_pos hcc]) (by simp [hw]) (by simp [h7])
       | false =>
         have hzn : pre.length ≠ 0 := by simp at hz; simp [hz]
         have hncc : ¬ (b.toNat ≠ 95 ∨ pre.length = 0) := by omega
         have hdd : ¬ valN b.toNat < base := by simpa using hd
         have hw1 : IntKind.i64.wrap ((pre.length : Int) + 1) = pre.length + 1 := wrap_i64 (by omega) (by simp at hlen; omega)
         cases L with
         | nil =>
           have hlt : (pre.length : Int) < pre.length + 1 := by omega
           have hrun : runF base [b] pre.length = none := by simp only [runF]; rw [if_neg hdd, if_neg hncc]
           have hm : ∀ H, call 55 [.b false, .i .i64 33, .i .i64 at_] H = .pan (fltV 33 at_) H := fun H => by rw [hmust]; rfl
           have hF := ai @h0 (ai @h1 (ai @h2 (ai @h7 (ai @hlt (ai @hat (ai @hat2 (ai @hv (ai @hc (ai @hz (ai @hw1 @hm))))))))))
           refine LTri.round' ?_
           apply sQ
           apply rS hC
           · iterate 4 refine evSeq_go rfl (by simp [hF] <;> rfl) (by rfl) (by simp [hw]) ?_
             rfl
           refine cT (by simp [hF] <;> rfl) ?_
           apply Tri.skip
           apply sN
           apply bK
           apply sQ
           apply rS hC
           · iterate 10 refine evSeq_go rfl (by simp [hF] <;> rfl) (by rfl) (by simp [hw]) ?_
             rfl
           apply rS hC
           · refine evSeq_go rfl (by simp [hF] <;> rfl) (by rfl) (by simp [hw]) ?_
             rfl
           refine cF (by simp [hF] <;> rfl) ?_
           apply Tri.skip
           apply sN
           apply sQ
           apply rS hC
           · iterate 5 refine evSeq_go rfl (by simp [hF] <;> rfl) (by rfl) (by simp [hw]) ?_
             iterate 2 refine evSeq_go (by simp [wants, hF]) (by simp [hF] <;> rfl) (by rfl) (by simp [hw]) ?_
             refine evSeq_go rfl (by simp [hF] <;> rfl) (by rfl) (by simp [hw]) ?_
             rfl
           refine cF (by simp [hF] <;> rfl) ?_
           apply Tri.skip
           apply sN
           apply rS hC
           · iterate 6 refine evSeq_go rfl (by simp [hF] <;> rfl) (by rfl) (by simp [hw]) ?_
             rfl
           apply sQ
           apply rS hC
           · refine evSeq_go rfl (by simp [hF] <;> rfl) (by rfl) (by simp [hw]) ?_
             rfl
           refine cF (by simp [hF] <;> rfl) ?_
           apply Tri.skip
           apply sN
           apply sQ
           refine Tri.regP (v := ?ve11) (t' := ?te11) (H' := ?He11) TT_ok hC ?ee11 ?qe11
           case ee11 =>
            refine go_false ?_
            iterate 2 refine evSeq_go rfl (by simp [hF] <;> rfl) (by rfl) (by simp [hw]) ?_
            refine evSeq_panG rfl (by simp [hF] <;> rfl) (by rfl) ?_
            exact rfl
           refine inSeq_pan ?_
           refine inBlk_pan ?_
           refine inLoop_pan ?_
           exact hP _ _ _ hrun rfl
         | cons d L =>
           have hlt : (pre.length : Int) < pre.length + (L.length + 1 + 1) := by omega
           have hl1 : (pre.length : Int) + 1 < pre.length + (L.length + 1 + 1) := by omega
           have hat3 : (pre ++ b :: d :: L)[pre.length + 1]? = some d := by have := str_at (pre ++ [b]) d L; simpa using this
           have hat4 : ∀ h, (pre ++ b :: d :: L)[pre.length + 1]'h = d := fun h => by rw [List.getElem?_eq_getElem h] at hat3; exact Option.some.inj hat3
           cases hd2 : decide (valN d.toNat < base) with
           | true =>
             have hv2 : ∀ H, call 94 [.i .u8 d.toNat, .i .i64 base] H = .val (.tup [.i .u64 (valN d.toNat), .b true]) H := fun H => by rw [hval, hd2]
             have hrun : runF base (b :: d :: L) pre.length = runF base (d :: L) (pre.length + 1) := by simp only [runF]; rw [if_neg hdd, if_neg hncc, if_pos (by simpa using hd2)]
             have hm : ∀ H, call 55 [.b true, .i .i64 33, .i .i64 at_] H = .val .un H := fun H => by rw [hmust]; rfl
             have hF := ai @h0 (ai @h1 (ai @h2 (ai @h7 (ai @hlt (ai @hat (ai @hat2 (ai @hv (ai @hc (ai @hz (ai @hw1 (ai @hl1 (ai @hat3 (ai @hat4 (ai @hv2 @hm))))))))))))))
             refine LTri.round' ?_
             apply sQ
             apply rS hC
             · iterate 4 refine evSeq_go rfl (by simp [hF] <;> rfl) (by rfl) (by simp [hw]) ?_
               rfl
             refine cT (by simp [hF] <;> rfl) ?_
             apply Tri.skip
             apply sN
             apply bK
             apply sQ
             apply rS hC
             · iterate 10 refine evSeq_go rfl (by simp [hF] <;> rfl) (by rfl) (by simp [hw]) ?_
               rfl
             apply rS hC
             · refine evSeq_go rfl (by simp [hF] <;> rfl) (by rfl) (by simp [hw]) ?_
               rfl
             refine cF (by simp [hF] <;> rfl) ?_
             apply Tri.skip
             apply sN
             apply sQ
             apply rS hC
             · iterate 5 refine evSeq_go rfl (by simp [hF] <;> rfl) (by rfl) (by simp [hw]) ?_
               iterate 2 refine evSeq_go (by simp [wants, hF]) (by simp [hF] <;> rfl) (by rfl) (by simp [hw]) ?_
               refine evSeq_go rfl (by simp [hF] <;> rfl) (by rfl) (by simp [hw]) ?_
               rfl
             refine cF (by simp [hF] <;> rfl) ?_
             apply Tri.skip
             apply sN
             apply rS hC
             · iterate 6 refine evSeq_go rfl (by simp [hF] <;> rfl) (by rfl) (by simp [hw]) ?_
               rfl
             apply sQ
             apply rS hC
             · refine evSeq_go rfl (by simp [hF] <;> rfl) (by rfl) (by simp [hw]) ?_
               rfl
             refine cT (by simp [hF] <;> rfl) ?_
             apply rN hC
             · iterate 10 refine evSeq_go rfl (by simp [hF] <;> rfl) (by rfl) (by simp [hw]) ?_
               rfl
             apply sN
             apply rS hC
             · iterate 3 refine evSeq_go rfl (by simp [hF] <;> rfl) (by rfl) (by simp [hw]) ?_
               rfl
             apply rN hC
             · iterate 3 refine evSeq_go rfl (by simp [hF] <;> rfl) (by rfl) (by simp [hw]) ?_
               rfl
             apply bN
             refine inLoop_norm ?_
             refine ih (pre ++ [b]) _ _ (by simpa using hlen) (by simp [hw]) (by simp [h0]) (by simp [h1]) (by simp [h2]) (by simp <;> exact wrap_i64 (by omega) (by simp at hlen; omega)) (fun t' H' n k1 k2 k3 => hE t' H' n (by rw [hrun]; simpa using k1) k2 k3) (fun v t' H' k1 k2 => hP v t' H' (by rw [hrun]; simpa using k1) k2)
           | false =>
             have hv2 : ∀ H, call 94 [.i .u8 d.toNat, .i .i64 base] H = .val (.tup [.i .u64 (valN d.toNat), .b false]) H := fun H => by rw [hval, hd2]
             have hrun : runF base (b :: d :: L) pre.length = none := by simp only [runF]; rw [if_neg hdd, if_neg hncc, if_neg (by simpa using hd2)]
             have hm : ∀ H, call 55 [.b false, .i .i64 33, .i .i64 at_] H = .pan (fltV 33 at_) H := fun H => by rw [hmust]; rfl
             have hF := ai @h0 (ai @h1 (ai @h2 (ai @h7 (ai @hlt (ai @hat (ai @hat2 (ai @hv (ai @hc (ai @hz (ai @hw1 (ai @hl1 (ai @hat3 (ai @hat4 (ai @hv2 @hm))))))))))))))
             refine LTri.round' ?_
             apply sQ
             apply rS hC
             · iterate 4 refine evSeq_go rfl (by simp [hF] <;> rfl) (by rfl) (by simp [hw]) ?_
               rfl
             refine Tri.condG (o := ?of2) (b := ?bf2) ?gf2 ?rf2 ?yf2 ?nf2
             case gf2 => simp [hF] <;> rfl
             case rf2 => rfl
             case yf2 =>
              intro hy2
              apply Tri.skip
              apply sN
              apply bK
              apply sQ
              apply rS hC
              · iterate 10 refine evSeq_go rfl (by simp [hF] <;> rfl) (by rfl) (by simp [hw]) ?_
                rfl
              apply rS hC
              · refine evSeq_go rfl (by simp [hF] <;> rfl) (by rfl) (by simp [hw]) ?_
                rfl
              refine cF (by simp [hF] <;> rfl) ?_
              apply Tri.skip
              apply sN
              apply sQ
              apply rS hC
              · iterate 5 refine evSeq_go rfl (by simp [hF] <;> rfl) (by rfl) (by simp [hw]) ?_
                iterate 2 refine evSeq_go (by simp [wants, hF]) (by simp [hF] <;> rfl) (by rfl) (by simp [hw]) ?_
                refine evSeq_go rfl (by simp [hF] <;> rfl) (by rfl) (by simp [hw]) ?_
                rfl
              refine cF (by simp [hF] <;> rfl) ?_
              apply Tri.skip
              apply sN
              apply rS hC
              · iterate 6 refine evSeq_go rfl (by simp [hF] <;> rfl) (by rfl) (by simp [hw]) ?_
                rfl
              apply sQ
              apply rS hC
              · refine evSeq_go rfl (by simp [hF] <;> rfl) (by rfl) (by simp [hw]) ?_
                rfl
              refine cT (by simp [hF] <;> rfl) ?_
              apply rN hC
              · iterate 10 refine evSeq_go rfl (by simp [hF] <;> rfl) (by rfl) (by simp [hw]) ?_
                rfl
              apply sN
              apply sQ
              refine Tri.regP (v := ?vf12) (t' := ?tf12) (H' := ?Hf12) TT_ok hC ?ef12 ?qf12
              case ef12 =>
               refine go_false ?_
               iterate 2 refine evSeq_go rfl (by simp [hF] <;> rfl) (by rfl) (by simp [hw]) ?_
               refine evSeq_panG rfl (by simp [hF] <;> rfl) (by rfl) ?_
               exact rfl
              refine inSeq_pan ?_
              refine inBlk_pan ?_
              refine inLoop_pan ?_
              exact hP _ _ _ hrun rfl
             case nf2 =>
              intro hn2
              exact absurd hn2 (by simp [hF])

theorem body_2075 {call : CallF} (hC : call.Sound Tryz.prog TT) (s : List UInt8) (hs : s.length < 1100000) (base at_ : Int) (hb : base = 2 ∨ base = 10 ∨ base = 16) (hval : ∀ c : UInt8, ∀ H, call 94 [.i .u8 c.toNat, .i .i64 base] H = .val (.tup [.i .u64 (valN c.toNat), .b (decide (valN c.toNat < base))]) H)
    (hmust : ∀ (b : Bool) (e k : Int) (H : Heap), call 55 [.b b, .i .i64 e, .i .i64 k] H = if b = true then .val .un H else .pan (fltV e k) H)  : EBody Tryz.prog TT 75 [.s s, .i .i64 base, .i .i64 at_] (fun r => r = (match runF base s 0 with | some n => .val (.i .i64 n) | none => .pan (fltV 33 at_))) := by
 refine en Tryz.f75 rfl rfl (by simp [Tryz.f75]) 55 rfl fun t hw hg => ?_
 have h0 := hg 0 _ rfl
 have h1 := hg 1 _ rfl
 have h2 := hg 2 _ rfl
 clear hg
 try simp only [Nd.enc_eq] at *
 have hF := ai @h0 (ai @h1 @h2)
 apply rS hC
 · refine evSeq_go rfl (by simp [hF] <;> rfl) (by rfl) (by simp [hw]) ?_
   rfl
 apply rS hC
 · refine evSeq_go rfl (by simp [hF] <;> rfl) (by rfl) (by simp [hw]) ?_
   rfl
 apply sQ
 apply bK
 refine Tri.loop ?_
 refine loop2075 hC base at_ hb hval hmust s [] _ _ (by simpa using hs) (by simp [hw]) (by simp [h0]) (by simp [h1]) (by simp [h2]) (by simp) ?exit ?pan
 case exit =>
  intro t2 H2 n hn hw h7
  refine inBlk_exit ?_
  apply sN
  apply rS hC
  · iterate 2 refine evSeq_go rfl (by simp [hF, h7] <;> rfl) (by rfl) (by simp [hw]) ?_
    rfl
  apply Tri.ret
  refine endsE (by simp [Tryz.f75, h7] <;> rfl) (by rfl) ?_
  simp only [List.length_nil] at hn
  rw [hn]
 case pan =>
  intro v t2 H2 hn hv
  subst hv
  refine inBlk_pan ?_
  refine inSeq_pan ?_
  refine endsP ?_
  simp only [List.length_nil] at hn
  rw [hn]
theorem sp2075 : ∃ g, SpecOK Tryz.prog TT 75 g ∧ ∀ (s : List UInt8) (base at_ : Int), s.length < 1100000 → base = 2 ∨ base = 10 ∨ base = 16 → ∀ H, g [.s s, .i .i64 base, .i .i64 at_] H = (match runF base s 0 with | some n => .val (.i .i64 n) H | none => .pan (fltV 33 at_) H) := by
  obtain ⟨g1, k1, s1⟩ := sp2094
  obtain ⟨g2, k2, s2⟩ := sp2055
  obtain ⟨g, h, s⟩ := spec_pure (P := Tryz.prog) (T := TT) TT_ok TT_plain 75 (fun vs => ∃ (s : List UInt8) (base at_ : Int), s.length < 1100000 ∧ (base = 2 ∨ base = 10 ∨ base = 16) ∧ vs = [.s s, .i .i64 base, .i .i64 at_]) (fun vs r => ∃ (s : List UInt8) (base at_ : Int), vs = [.s s, .i .i64 base, .i .i64 at_] ∧ r = (match runF base s 0 with | some n => .val (.i .i64 n) | none => .pan (fltV 33 at_))) (by
    rintro vs ⟨s, base, at_, hs, hb, rfl⟩
    refine ⟨rfl, ?_, ?_⟩
    · rintro r ⟨s', b', a', _, rfl⟩
      cases runF b' s' 0 <;> rfl
    · obtain ⟨fn, c, h1, h2, h3, h4⟩ := body_2075 (ws (ws n0 k1) k2) s hs base at_ hb (fun c H => by rw [w_other _ _ _ _ rfl, w_here]; exact s1 _ _ (by omega) (by have := c.toNat_lt; omega) hb H) (fun b e k H => by rw [w_here]; exact s2 b e k H)
      exact ⟨fn, c, h1, h2, h3, h4.mono fun o ⟨r, hr, ho⟩ => ⟨r, ⟨s, base, at_, rfl, hr⟩, ho⟩⟩)
  refine ⟨g, h, fun x base at_ hx hb H => ?_⟩
  obtain ⟨r, ⟨x', b', a', he, rfl⟩, h2⟩ := s _ ⟨x, base, at_, hx, hb, rfl⟩
  simp only [List.cons.injEq, V.s.injEq, V.i.injEq, true_and, and_true] at he
  obtain ⟨rfl, rfl, rfl⟩ := he
  rw [h2]
  cases runF base x 0 <;> rfl

def sgnE : List UInt8 → Nat
  | d :: _ => if d = 43 ∨ d = 45 then 2 else 1
  | [] => 1
def expF : List UInt8 → Option Nat
  | [] => some 0
  | c :: r => if c = 101 ∨ c = 69 then match runF 10 ((c :: r).drop (sgnE r)) 0 with
      | some (k + 1) => some (sgnE r + (k + 1))
      | _ => none
    else some 0
def optR (o : Option Nat) (at_ : Int) : Res := match o with
  | some n => .val (.i .i64 n)
  | none => .pan (fltV 33 at_)

theorem exp_a {call : CallF} (hC : call.Sound Tryz.prog TT) {t : Tm} {H : Heap} (hw : t.wid = 49) (s : List UInt8) (at_ : Int) (n : Nat) (hs : s.length < 1100000) (hn : (n : Int) ≤ s.length) (h0 : t.get 0 = .s s) (h1 : t.get 1 = .i .i64 at_) (h5 : t.get 5 = .i .i64 n) (hr : ∀ H, call 75 [.s (s.drop n), .i .i64 10, .i .i64 at_] H = .pan (fltV 33 at_) H) : Tri Tryz.prog TT (sub [true, true, true, true] (bodyOf Tryz.f77)) t H (fun o => ∃ r, r = .pan (fltV 33 at_) ∧ Ends TT Tryz.f77 r o) := by
  have hF := ai @h0 (ai @h1 (ai @h5 (ai @hn @hr)))
  apply sQ
  refine Tri.regP (v := ?v1) (t' := ?t1) (H' := ?H1) TT_ok hC ?e1 ?q1
  case e1 =>
    refine go_false ?_
    iterate 4 refine oA ?_
    refine evSeq_panG rfl (by simp [hF] <;> rfl) (by rfl) ?_
    exact rfl
  refine inSeq_pan ?_
  exact endsP rfl
theorem exp_b {call : CallF} (hC : call.Sound Tryz.prog TT) {t : Tm} {H : Heap} (hw : t.wid = 49) (s : List UInt8) (at_ : Int) (n : Nat) (hs : s.length < 1100000) (hn : (n : Int) ≤ s.length) (h0 : t.get 0 = .s s) (h1 : t.get 1 = .i .i64 at_) (h5 : t.get 5 = .i .i64 n) (hr : ∀ H, call 75 [.s (s.drop n), .i .i64 10, .i .i64 at_] H = .val (.i .i64 0) H) (hm : ∀ H, call 55 [.b false, .i .i64 33, .i .i64 at_] H = .pan (fltV 33 at_) H) : Tri Tryz.prog TT (sub [true, true, true, true] (bodyOf Tryz.f77)) t H (fun o => ∃ r, r = .pan (fltV 33 at_) ∧ Ends TT Tryz.f77 r o) := by
 have hF := ai @h0 (ai @h1 (ai @h5 (ai @hn (ai @hr @hm))))
 apply rS hC
 · iterate 6 refine oA ?_
   rfl
 apply sQ
 refine Tri.regP (v := ?v2) (t' := ?t2) (H' := ?H2) TT_ok hC ?e2 ?q2
 case e2 =>
  refine go_false ?_
  iterate 3 refine oA ?_
  refine evSeq_panG rfl (by simp [hF] <;> rfl) (by rfl) ?_
  exact rfl
 refine inSeq_pan ?_
 exact endsP rfl
theorem exp_c {call : CallF} (hC : call.Sound Tryz.prog TT) {t : Tm} {H : Heap} (hw : t.wid = 49) (s : List UInt8) (at_ : Int) (n : Nat) (hs : s.length < 1100000) (hn : (n : Int) ≤ s.length) (h0 : t.get 0 = .s s) (h1 : t.get 1 = .i .i64 at_) (h5 : t.get 5 = .i .i64 n) (k : Nat) (hr : ∀ H, call 75 [.s (s.drop n), .i .i64 10, .i .i64 at_] H = .val (.i .i64 ((k : Int) + 1)) H) (hk : decide ((0 : Int) < (k : Int) + 1) = true) (hm : ∀ H, call 55 [.b true, .i .i64 33, .i .i64 at_] H = .val .un H) (hw2 : IntKind.i64.wrap ((n : Int) + ((k : Int) + 1)) = ((n + (k + 1) : Nat) : Int)) : Tri Tryz.prog TT (sub [true, true, true, true] (bodyOf Tryz.f77)) t H (fun o => ∃ r, r = .val (.i .i64 ((n + (k + 1) : Nat) : Int)) ∧ Ends TT Tryz.f77 r o) := by
 have hF := ai @h0 (ai @h1 (ai @h5 (ai @hn (ai @hr (ai @hk (ai @hm @hw2))))))
 apply rS hC
 · iterate 6 refine oA ?_
   rfl
 apply rS hC
 · iterate 4 refine oA ?_
   rfl
 apply rS hC
 · iterate 4 refine oA ?_
   rfl
 apply Tri.ret
 refine endsE (by simp [Tryz.f77, hF] <;> rfl) (by rfl) ?_
 simp
theorem runF_le (base : Int) : ∀ (L : List UInt8) (n m : Nat), runF base L n = some m → m ≤ n + L.length
  | [], n, m, h => by simp only [runF, Option.some.injEq] at h; simp; omega
  | [c], n, m, h => by
    simp only [runF] at h
    split at h
    · simp only [Option.some.injEq] at h; simp; omega
    · split at h
      · simp only [Option.some.injEq] at h; simp; omega
      · cases h
  | c :: d :: r, n, m, h => by
    rw [runF] at h
    split at h
    · have := runF_le base (d :: r) (n + 1) m h
      simp only [List.length_cons] at this ⊢; omega
    · split at h
      · simp only [Option.some.injEq] at h; simp only [List.length_cons]; omega
      · split at h
        · have := runF_le base (d :: r) (n + 1) m h
          simp only [List.length_cons] at this ⊢; omega
        · cases h
def expT (s : List UInt8) (n : Nat) : Option Nat := match runF 10 (s.drop n) 0 with
  | some (k + 1) => some (n + (k + 1))
  | _ => none
theorem exp_tail {call : CallF} (hC : call.Sound Tryz.prog TT) {t : Tm} {H : Heap} (hw : t.wid = 49) (s : List UInt8) (at_ : Int) (n : Nat) (hs : s.length < 1100000) (hn : (n : Int) ≤ s.length) (h0 : t.get 0 = .s s) (h1 : t.get 1 = .i .i64 at_) (h5 : t.get 5 = .i .i64 n) (hrun : ∀ (x : List UInt8), x.length < 1100000 → ∀ H, call 75 [.s x, .i .i64 10, .i .i64 at_] H = (match runF 10 x 0 with | some n => .val (.i .i64 n) H | none => .pan (fltV 33 at_) H))
    (hmust : ∀ (b : Bool) (e k : Int) (H : Heap), call 55 [.b b, .i .i64 e, .i .i64 k] H = if b = true then .val .un H else .pan (fltV e k) H) : Tri Tryz.prog TT (sub [true, true, true, true] (bodyOf Tryz.f77)) t H (fun o => ∃ r, r = optR (expT s n) at_ ∧ Ends TT Tryz.f77 r o) := by
  have hr := hrun (s.drop n) (by simp; omega)
  unfold expT
  cases he : runF 10 (s.drop n) 0 with
  | none => exact exp_a hC hw s at_ n hs hn h0 h1 h5 fun H => by rw [hr, he]
  | some k =>
    cases k with
    | zero => exact exp_b hC hw s at_ n hs hn h0 h1 h5 (fun H => by rw [hr, he]; rfl) fun H => by rw [hmust]; rfl
    | succ k =>
      have := runF_le 10 _ _ _ he
      exact exp_c hC hw s at_ n hs hn h0 h1 h5 k (fun H => by rw [hr, he]; simp) (by simp <;> omega) (fun H => by rw [hmust]; rfl) (by push_cast; exact wrap_i64 (by omega) (by simp at this; omega))

theorem exp_mn {call : CallF} (hC : call.Sound Tryz.prog TT) {t : Tm} {H : Heap} (hw : t.wid = 49) (c d : UInt8) (r : List UInt8) (at_ : Int) (hs : ([c]).length < 1100000) (h0 : t.get 0 = .s ([c])) (h1 : t.get 1 = .i .i64 at_)  (hrun : ∀ (x : List UInt8), x.length < 1100000 → ∀ H, call 75 [.s x, .i .i64 10, .i .i64 at_] H = (match runF 10 x 0 with | some n => .val (.i .i64 n) H | none => .pan (fltV 33 at_) H)) (hmust : ∀ (b : Bool) (e k : Int) (H : Heap), call 55 [.b b, .i .i64 e, .i .i64 k] H = if b = true then .val .un H else .pan (fltV e k) H) : Tri Tryz.prog TT (sub [true, true] (bodyOf Tryz.f77)) t H (fun o => ∃ r', r' = optR (expT ([c]) 1) at_ ∧ Ends TT Tryz.f77 r' o) := by
 apply rS hC
 · refine oA ?_
   rfl
 apply sQ
 apply rS hC
 · iterate 5 refine oA ?_
   iterate 10 refine oC ?_
   refine oA ?_
   rfl
 refine cF (by simp [h0, h1] <;> rfl) ?_
 apply Tri.skip
 apply sN
 exact exp_tail hC (by simp [hw]) ([c]) at_ 1 hs (by simp <;> omega) (by simp [h0]) (by simp [h1]) (by simp <;> rfl) hrun hmust
theorem exp_mp {call : CallF} (hC : call.Sound Tryz.prog TT) {t : Tm} {H : Heap} (hw : t.wid = 49) (c d : UInt8) (r : List UInt8) (at_ : Int) (hs : (c :: d :: r).length < 1100000) (h0 : t.get 0 = .s (c :: d :: r)) (h1 : t.get 1 = .i .i64 at_) (hl : (1 : Int) < r.length + 1 + 1) (hd : ((d.toNat : Int) == 43) = true) (hrun : ∀ (x : List UInt8), x.length < 1100000 → ∀ H, call 75 [.s x, .i .i64 10, .i .i64 at_] H = (match runF 10 x 0 with | some n => .val (.i .i64 n) H | none => .pan (fltV 33 at_) H)) (hmust : ∀ (b : Bool) (e k : Int) (H : Heap), call 55 [.b b, .i .i64 e, .i .i64 k] H = if b = true then .val .un H else .pan (fltV e k) H) : Tri Tryz.prog TT (sub [true, true] (bodyOf Tryz.f77)) t H (fun o => ∃ r', r' = optR (expT (c :: d :: r) 2) at_ ∧ Ends TT Tryz.f77 r' o) := by
 have hF := ai @h0 (ai @h1 (ai @hl @hd))
 apply rS hC
 · refine oA ?_
   rfl
 apply sQ
 apply rS hC
 · iterate 5 refine oA ?_
   iterate 5 refine oB ?_
   iterate 4 refine oC ?_
   refine oB ?_
   refine oA ?_
   rfl
 refine cT (by simp [hF] <;> rfl) ?_
 apply rN hC
 · iterate 3 refine oA ?_
   rfl
 apply sN
 exact exp_tail hC (by simp [hw]) (c :: d :: r) at_ 2 hs (by simp <;> omega) (by simp [h0]) (by simp [h1]) (by simp <;> rfl) hrun hmust
theorem exp_mq {call : CallF} (hC : call.Sound Tryz.prog TT) {t : Tm} {H : Heap} (hw : t.wid = 49) (c d : UInt8) (r : List UInt8) (at_ : Int) (hs : (c :: d :: r).length < 1100000) (h0 : t.get 0 = .s (c :: d :: r)) (h1 : t.get 1 = .i .i64 at_) (hl : (1 : Int) < r.length + 1 + 1) (hd : ((d.toNat : Int) == 43) = false) (hd2 : ((d.toNat : Int) == 45) = true) (hrun : ∀ (x : List UInt8), x.length < 1100000 → ∀ H, call 75 [.s x, .i .i64 10, .i .i64 at_] H = (match runF 10 x 0 with | some n => .val (.i .i64 n) H | none => .pan (fltV 33 at_) H)) (hmust : ∀ (b : Bool) (e k : Int) (H : Heap), call 55 [.b b, .i .i64 e, .i .i64 k] H = if b = true then .val .un H else .pan (fltV e k) H) : Tri Tryz.prog TT (sub [true, true] (bodyOf Tryz.f77)) t H (fun o => ∃ r', r' = optR (expT (c :: d :: r) 2) at_ ∧ Ends TT Tryz.f77 r' o) := by
 have hF := ai @h0 (ai @h1 (ai @hl (ai @hd @hd2)))
 apply rS hC
 · refine oA ?_
   rfl
 apply sQ
 apply rS hC
 · iterate 5 refine oA ?_
   iterate 10 refine oB ?_
   refine oA ?_
   rfl
 refine cT (by simp [hF] <;> rfl) ?_
 apply rN hC
 · iterate 3 refine oA ?_
   rfl
 apply sN
 exact exp_tail hC (by simp [hw]) (c :: d :: r) at_ 2 hs (by simp <;> omega) (by simp [h0]) (by simp [h1]) (by simp <;> rfl) hrun hmust
theorem exp_mo {call : CallF} (hC : call.Sound Tryz.prog TT) {t : Tm} {H : Heap} (hw : t.wid = 49) (c d : UInt8) (r : List UInt8) (at_ : Int) (hs : (c :: d :: r).length < 1100000) (h0 : t.get 0 = .s (c :: d :: r)) (h1 : t.get 1 = .i .i64 at_) (hl : (1 : Int) < r.length + 1 + 1) (hd : ((d.toNat : Int) == 43) = false) (hd2 : ((d.toNat : Int) == 45) = false) (hrun : ∀ (x : List UInt8), x.length < 1100000 → ∀ H, call 75 [.s x, .i .i64 10, .i .i64 at_] H = (match runF 10 x 0 with | some n => .val (.i .i64 n) H | none => .pan (fltV 33 at_) H)) (hmust : ∀ (b : Bool) (e k : Int) (H : Heap), call 55 [.b b, .i .i64 e, .i .i64 k] H = if b = true then .val .un H else .pan (fltV e k) H) : Tri Tryz.prog TT (sub [true, true] (bodyOf Tryz.f77)) t H (fun o => ∃ r', r' = optR (expT (c :: d :: r) 1) at_ ∧ Ends TT Tryz.f77 r' o) := by
 have hF := ai @h0 (ai @h1 (ai @hl (ai @hd @hd2)))
 apply rS hC
 · refine oA ?_
   rfl
 apply sQ
 apply rS hC
 · iterate 5 refine oA ?_
   iterate 10 refine oB ?_
   refine oA ?_
   rfl
 refine cF (by simp [hF] <;> rfl) ?_
 apply Tri.skip
 apply sN
 exact exp_tail hC (by simp [hw]) (c :: d :: r) at_ 1 hs (by simp <;> omega) (by simp [h0]) (by simp [h1]) (by simp <;> rfl) hrun hmust
theorem exp_mid {call : CallF} (hC : call.Sound Tryz.prog TT) {t : Tm} {H : Heap} (hw : t.wid = 49) (c : UInt8) (r : List UInt8) (at_ : Int) (hs : (c :: r).length < 1100000) (h0 : t.get 0 = .s (c :: r)) (h1 : t.get 1 = .i .i64 at_) (hrun : ∀ (x : List UInt8), x.length < 1100000 → ∀ H, call 75 [.s x, .i .i64 10, .i .i64 at_] H = (match runF 10 x 0 with | some n => .val (.i .i64 n) H | none => .pan (fltV 33 at_) H)) (hmust : ∀ (b : Bool) (e k : Int) (H : Heap), call 55 [.b b, .i .i64 e, .i .i64 k] H = if b = true then .val .un H else .pan (fltV e k) H) : Tri Tryz.prog TT (sub [true, true] (bodyOf Tryz.f77)) t H (fun o => ∃ r', r' = optR (expT (c :: r) (sgnE r)) at_ ∧ Ends TT Tryz.f77 r' o) := by
  cases r with
  | nil => exact exp_mn hC hw c 0 [] at_ hs h0 h1 hrun hmust
  | cons d r =>
    have hl : (1 : Int) < r.length + 1 + 1 := by omega
    by_cases h43 : d = 43
    · subst h43
      exact exp_mp hC hw c 43 r at_ hs h0 h1 hl rfl hrun hmust
    · have e1 : ((d.toNat : Int) == 43) = false := (u8_eq d 43).symm.trans (by simpa using h43)
      by_cases h45 : d = 45
      · subst h45
        exact exp_mq hC hw c 45 r at_ hs h0 h1 hl rfl rfl hrun hmust
      · have e2 : ((d.toNat : Int) == 45) = false := (u8_eq d 45).symm.trans (by simpa using h45)
        have e3 : sgnE (d :: r) = 1 := by simp [sgnE, h43, h45]
        rw [e3]
        exact exp_mo hC hw c d r at_ hs h0 h1 hl e1 e2 hrun hmust

theorem body_2077n {call : CallF} (hC : call.Sound Tryz.prog TT) (c : UInt8) (r : List UInt8) (at_ : Int) (hs : (c :: r).length < 1100000)  (hrun : ∀ (x : List UInt8), x.length < 1100000 → ∀ H, call 75 [.s x, .i .i64 10, .i .i64 at_] H = (match runF 10 x 0 with | some n => .val (.i .i64 n) H | none => .pan (fltV 33 at_) H)) (hmust : ∀ (b : Bool) (e k : Int) (H : Heap), call 55 [.b b, .i .i64 e, .i .i64 k] H = if b = true then .val .un H else .pan (fltV e k) H)  : EBody Tryz.prog TT 77 [.s [], .i .i64 at_] (fun x => x = optR (some 0) at_) := by
 refine en Tryz.f77 rfl rfl (by simp [Tryz.f77]) 49 rfl fun t hw hg => ?_
 have h0 := hg 0 _ rfl
 have h1 := hg 1 _ rfl
 clear hg
 try simp only [Nd.enc_eq] at *
 apply rS hC
 · refine oA ?_
   rfl
 apply sQ
 apply rS hC
 · iterate 3 refine oA ?_
   iterate 8 refine oC ?_
   refine oA ?_
   rfl
 refine cT (by simp [h0, h1] <;> rfl) ?_
 apply rS hC
 · refine oA ?_
   rfl
 apply Tri.ret
 apply sR
 refine endsE (by simp [Tryz.f77, h0, h1] <;> rfl) (by rfl) ?_
 rfl
theorem body_2077o {call : CallF} (hC : call.Sound Tryz.prog TT) (c : UInt8) (r : List UInt8) (at_ : Int) (hs : (c :: r).length < 1100000) (h5 : ((c.toNat : Int) != 101) = true) (h6 : ((c.toNat : Int) != 69) = true) (hrun : ∀ (x : List UInt8), x.length < 1100000 → ∀ H, call 75 [.s x, .i .i64 10, .i .i64 at_] H = (match runF 10 x 0 with | some n => .val (.i .i64 n) H | none => .pan (fltV 33 at_) H)) (hmust : ∀ (b : Bool) (e k : Int) (H : Heap), call 55 [.b b, .i .i64 e, .i .i64 k] H = if b = true then .val .un H else .pan (fltV e k) H)  : EBody Tryz.prog TT 77 [.s (c :: r), .i .i64 at_] (fun x => x = optR (some 0) at_) := by
 refine en Tryz.f77 rfl rfl (by simp [Tryz.f77]) 49 rfl fun t hw hg => ?_
 have h0 := hg 0 _ rfl
 have h1 := hg 1 _ rfl
 clear hg
 try simp only [Nd.enc_eq] at *
 have hF := ai @h0 (ai @h1 (ai @h5 @h6))
 apply rS hC
 · refine oA ?_
   rfl
 apply sQ
 apply rS hC
 · iterate 3 refine oA ?_
   iterate 8 refine oB ?_
   refine oA ?_
   rfl
 refine cT (by simp [hF] <;> rfl) ?_
 apply rS hC
 · refine oA ?_
   rfl
 apply Tri.ret
 apply sR
 refine endsE (by simp [Tryz.f77, hF] <;> rfl) (by rfl) ?_
 rfl
theorem body_2077e {call : CallF} (hC : call.Sound Tryz.prog TT) (c : UInt8) (r : List UInt8) (at_ : Int) (hs : (c :: r).length < 1100000) (h5 : ((c.toNat : Int) != 101) = false) (hrun : ∀ (x : List UInt8), x.length < 1100000 → ∀ H, call 75 [.s x, .i .i64 10, .i .i64 at_] H = (match runF 10 x 0 with | some n => .val (.i .i64 n) H | none => .pan (fltV 33 at_) H)) (hmust : ∀ (b : Bool) (e k : Int) (H : Heap), call 55 [.b b, .i .i64 e, .i .i64 k] H = if b = true then .val .un H else .pan (fltV e k) H)  : EBody Tryz.prog TT 77 [.s (c :: r), .i .i64 at_] (fun x => x = optR (expT (c :: r) (sgnE r)) at_) := by
 refine en Tryz.f77 rfl rfl (by simp [Tryz.f77]) 49 rfl fun t hw hg => ?_
 have h0 := hg 0 _ rfl
 have h1 := hg 1 _ rfl
 clear hg
 try simp only [Nd.enc_eq] at *
 have hF := ai @h0 (ai @h1 @h5)
 apply rS hC
 · refine oA ?_
   rfl
 apply sQ
 apply rS hC
 · iterate 3 refine oA ?_
   iterate 4 refine oB ?_
   iterate 3 refine oC ?_
   refine oB ?_
   refine oA ?_
   rfl
 refine cF (by simp [hF] <;> rfl) ?_
 apply Tri.skip
 apply sN
 exact exp_mid hC (by simp [hw]) c r at_ hs (by simp [h0]) (by simp [h1]) hrun hmust
theorem body_2077f {call : CallF} (hC : call.Sound Tryz.prog TT) (c : UInt8) (r : List UInt8) (at_ : Int) (hs : (c :: r).length < 1100000) (h5 : ((c.toNat : Int) != 101) = true) (h6 : ((c.toNat : Int) != 69) = false) (hrun : ∀ (x : List UInt8), x.length < 1100000 → ∀ H, call 75 [.s x, .i .i64 10, .i .i64 at_] H = (match runF 10 x 0 with | some n => .val (.i .i64 n) H | none => .pan (fltV 33 at_) H)) (hmust : ∀ (b : Bool) (e k : Int) (H : Heap), call 55 [.b b, .i .i64 e, .i .i64 k] H = if b = true then .val .un H else .pan (fltV e k) H)  : EBody Tryz.prog TT 77 [.s (c :: r), .i .i64 at_] (fun x => x = optR (expT (c :: r) (sgnE r)) at_) := by
 refine en Tryz.f77 rfl rfl (by simp [Tryz.f77]) 49 rfl fun t hw hg => ?_
 have h0 := hg 0 _ rfl
 have h1 := hg 1 _ rfl
 clear hg
 try simp only [Nd.enc_eq] at *
 have hF := ai @h0 (ai @h1 (ai @h5 @h6))
 apply rS hC
 · refine oA ?_
   rfl
 apply sQ
 apply rS hC
 · iterate 3 refine oA ?_
   iterate 8 refine oB ?_
   refine oA ?_
   rfl
 refine cF (by simp [hF] <;> rfl) ?_
 apply Tri.skip
 apply sN
 exact exp_mid hC (by simp [hw]) c r at_ hs (by simp [h0]) (by simp [h1]) hrun hmust
theorem sp2077 : ∃ g, SpecOK Tryz.prog TT 77 g ∧ ∀ (s : List UInt8) (at_ : Int), s.length < 1100000 → ∀ H, g [.s s, .i .i64 at_] H = (optR (expF s) at_).at H := by
  obtain ⟨g1, k1, s1⟩ := sp2075
  obtain ⟨g2, k2, s2⟩ := sp2055
  obtain ⟨g, h, s⟩ := spec_pure (P := Tryz.prog) (T := TT) TT_ok TT_plain 77 (fun vs => ∃ (s : List UInt8) (at_ : Int), s.length < 1100000 ∧ vs = [.s s, .i .i64 at_]) (fun vs r => ∃ (s : List UInt8) (at_ : Int), vs = [.s s, .i .i64 at_] ∧ r = optR (expF s) at_) (by
    rintro vs ⟨s, at_, hs, rfl⟩
    refine ⟨rfl, ?_, ?_⟩
    · rintro r ⟨s', a', _, rfl⟩
      cases expF s' <;> rfl
    · have hC := ws (ws n0 k1) k2
      have hrun : ∀ (x : List UInt8), x.length < 1100000 → ∀ H, ((CallF.none.with 75 g1).with 55 g2) 75 [.s x, .i .i64 10, .i .i64 at_] H = (match runF 10 x 0 with | some n => .val (.i .i64 n) H | none => .pan (fltV 33 at_) H) := fun x hx H => by rw [w_other _ _ _ _ rfl, w_here]; exact s1 x 10 at_ hx (by simp) H
      have hmust : ∀ (b : Bool) (e k : Int) (H : Heap), ((CallF.none.with 75 g1).with 55 g2) 55 [.b b, .i .i64 e, .i .i64 k] H = if b = true then .val .un H else .pan (fltV e k) H := fun b e k H => by rw [w_here]; exact s2 b e k H
      have key : EBody Tryz.prog TT 77 [.s s, .i .i64 at_] (fun x => x = optR (expF s) at_) := by
        cases s with
        | nil => exact body_2077n hC 0 [] at_ (by simp) hrun hmust
        | cons c r =>
          by_cases h101 : c = 101
          · subst h101
            exact body_2077e hC 101 r at_ hs rfl hrun hmust
          · have e1 : ((c.toNat : Int) != 101) = true := by rw [bne, show ((c.toNat : Int) == 101) = (c == 101) from (u8_eq c 101).symm]; simpa using h101
            by_cases h69 : c = 69
            · subst h69
              exact body_2077f hC 69 r at_ hs rfl rfl hrun hmust
            · have e2 : ((c.toNat : Int) != 69) = true := by rw [bne, show ((c.toNat : Int) == 69) = (c == 69) from (u8_eq c 69).symm]; simpa using h69
              have e3 : expF (c :: r) = some 0 := by simp [expF, h101, h69]
              rw [e3]
              exact body_2077o hC c r at_ hs e1 e2 hrun hmust
      obtain ⟨fn, c, h1, h2, h3, h4⟩ := key
      exact ⟨fn, c, h1, h2, h3, h4.mono fun o ⟨r, hr, ho⟩ => ⟨r, ⟨s, at_, rfl, hr⟩, ho⟩⟩)
  refine ⟨g, h, fun x at_ hx H => ?_⟩
  obtain ⟨r, ⟨x', a', he, rfl⟩, h2⟩ := s _ ⟨x, at_, hx, rfl⟩
  simp only [List.cons.injEq, V.s.injEq, V.i.injEq, true_and, and_true] at he
  obtain ⟨rfl, rfl⟩ := he
  exact h2 H

def ScB (H : Heap) (n : Nat) (s : List UInt8) (i : Nat) (l : Bool) (m : Nat) : Prop := H[n]? = some (some { ty := 55, cells := [.s s, .i .i64 i, .b l, .mp m], kind := .all })

theorem body_2048 {call : CallF} (hC : call.Sound Tryz.prog TT) (H : Heap) (n : Nat) (s : List UInt8) (i : Nat) (l : Bool) (m : Nat) (hb : H[n]? = some (some { ty := 55, cells := [.s s, .i .i64 i, .b l, .mp m], kind := .all })) (hi : (i : Int) ≤ s.length)  : HBody Tryz.prog TT 48 [.ptr n 0] H (fun v H2 => v = .s (s.drop i) ∧ H2 = H) := by
 refine en Tryz.f48 rfl rfl (by simp [Tryz.f48]) 12 rfl fun t hw hg => ?_
 have h0 := hg 0 _ rfl
 clear hg
 try simp only [Nd.enc_eq] at *
 have hF := ai @h0 (ai @hb @hi)
 apply rS hC
 · refine oA ?_
   rfl
 apply sQ
 refine Tri.regN (t' := ?t2) (H' := ?H2) TT_ok hC ?e2 ?q2
 case e2 =>
  refine evReg_quiet (t' := ?t2) (by kernel_rfl) ?_ ?r902
  iterate 10 refine QR.val rfl (by simp [hF] <;> rfl) (by rfl) (by simp [hw]) ?_
  exact QR.nil
  case r902 => exact rfl
 apply sN
 apply Tri.ret
 refine endsH (by simp [Tryz.f48, hF] <;> rfl) (by rfl) ?_
 exact ⟨rfl, rfl⟩
theorem sp2048 : ∃ g, SpecOK Tryz.prog TT 48 g ∧ ∀ (n : Nat) (s : List UInt8) (i : Nat) (l : Bool) (m : Nat) (H : Heap), ScB H n s i l m → i ≤ s.length → g [.ptr n 0] H = .val (.s (s.drop i)) H := by
  obtain ⟨g, h, k⟩ := HFact.spec (F := 48) TT_ok (D := fun vs H => ∃ (n : Nat) (s : List UInt8) (i : Nat) (l : Bool) (m : Nat), ScB H n s i l m ∧ i ≤ s.length ∧ vs = [.ptr n 0]) (R := fun vs H v H2 => ∀ (n : Nat) (s : List UInt8) (i : Nat) (l : Bool) (m : Nat), ScB H n s i l m → vs = [.ptr n 0] → v = .s (s.drop i) ∧ H2 = H) (by
    rintro vs H ⟨n, s, i, l, m, hb, hi, rfl⟩
    refine (HBody.fact TT_ok (body_2048 n0 H n s i l m hb (by omega))).mono fun v H2 ⟨h1, h2⟩ => ?_
    intro n' s' i' l' m' hb' e
    cases e
    unfold ScB at hb hb'
    rw [hb] at hb'
    simp only [Option.some.injEq, Blk.mk.injEq, List.cons.injEq, V.s.injEq, V.i.injEq, true_and, Int.ofNat_inj] at hb'
    obtain ⟨⟨rfl, rfl, _⟩, _⟩ := hb'
    exact ⟨h1, h2⟩)
  refine ⟨g, h, fun n s i l m H hb hi => ?_⟩
  obtain ⟨v, H2, h1, h2⟩ := k _ H ⟨n, s, i, l, m, hb, hi, rfl⟩
  obtain ⟨rfl, rfl⟩ := h1 n s i l m hb rfl
  exact h2

def preR (s p : List UInt8) : Bool := decide (p.length ≤ s.length) && (s.take p.length == p)
theorem body_2093t {call : CallF} (hC : call.Sound Tryz.prog TT) (s p : List UInt8) (hl : (p.length : Int) ≤ s.length)  : EBody Tryz.prog TT 93 [.s s, .s p] (fun r => r = .val (.b (s.take p.length == p))) := by
 refine en Tryz.f93 rfl rfl (by simp [Tryz.f93]) 18 rfl fun t hw hg => ?_
 have h0 := hg 0 _ rfl
 have h1 := hg 1 _ rfl
 clear hg
 try simp only [Nd.enc_eq] at *
 have hF := ai @h0 (ai @h1 @hl)
 apply rS hC
 · refine oA ?_
   rfl
 apply rS hC
 · iterate 6 refine oA ?_
   iterate 6 refine oB ?_
   iterate 2 refine oA ?_
   rfl
 apply Tri.ret
 refine endsE (by simp [Tryz.f93, hF] <;> rfl) (by rfl) ?_
 rfl
theorem body_2093f {call : CallF} (hC : call.Sound Tryz.prog TT) (s p : List UInt8) (hl : ¬ (p.length : Int) ≤ s.length)  : EBody Tryz.prog TT 93 [.s s, .s p] (fun r => r = .val (.b false)) := by
 refine en Tryz.f93 rfl rfl (by simp [Tryz.f93]) 18 rfl fun t hw hg => ?_
 have h0 := hg 0 _ rfl
 have h1 := hg 1 _ rfl
 clear hg
 try simp only [Nd.enc_eq] at *
 have hF := ai @h0 (ai @h1 @hl)
 apply rS hC
 · refine oA ?_
   rfl
 apply rS hC
 · iterate 6 refine oA ?_
   iterate 6 refine oC ?_
   iterate 2 refine oA ?_
   rfl
 apply Tri.ret
 refine endsE (by simp [Tryz.f93, hF] <;> rfl) (by rfl) ?_
 rfl
theorem body_2070 {call : CallF} (hC : call.Sound Tryz.prog TT) (s p : List UInt8) (x : Bool) (hq : ∀ H, call 93 [.s s, .s p] H = .val (.b x) H)  : EBody Tryz.prog TT 70 [.s s, .s p] (fun r => r = .val (.b x)) := by
 refine en Tryz.f70 rfl rfl (by simp [Tryz.f70]) 8 rfl fun t hw hg => ?_
 have h0 := hg 0 _ rfl
 have h1 := hg 1 _ rfl
 clear hg
 try simp only [Nd.enc_eq] at *
 have hF := ai @h0 (ai @h1 @hq)
 apply rS hC
 · refine oA ?_
   rfl
 apply rS hC
 · iterate 4 refine oA ?_
   rfl
 apply Tri.ret
 refine endsE (by simp [Tryz.f70, hF] <;> rfl) (by rfl) ?_
 rfl
theorem sp2093 : ∃ g, SpecOK Tryz.prog TT 93 g ∧ ∀ p : List UInt8 × List UInt8, True → ∀ H, g [.s p.1, .s p.2] H = .val (.b (preR p.1 p.2)) H := by
  refine spec_val TT_ok TT_plain 93 (fun p : List UInt8 × List UInt8 => [.s p.1, .s p.2]) (fun _ => True) (fun p => .b (preR p.1 p.2)) (fun _ _ => rfl) (fun _ => rfl) (fun a b h => by simp only [List.cons.injEq, V.s.injEq, and_true] at h; rw [h.1, h.2]) fun p _ => EBody.of2 ?_
  by_cases h : p.2.length ≤ p.1.length
  · have e : preR p.1 p.2 = (p.1.take p.2.length == p.2) := by simp [preR, h]
    rw [e]
    exact body_2093t n0 p.1 p.2 (by omega)
  · have e : preR p.1 p.2 = false := by simp [preR, h]
    rw [e]
    exact body_2093f n0 p.1 p.2 (by omega)
theorem sp2070 : ∃ g, SpecOK Tryz.prog TT 70 g ∧ ∀ (s p : List UInt8) (H : Heap), g [.s s, .s p] H = .val (.b (preR s p)) H := by
  obtain ⟨g1, k1, s1⟩ := sp2093
  obtain ⟨g, h, s⟩ := spec_val TT_ok TT_plain 70 (fun p : List UInt8 × List UInt8 => [.s p.1, .s p.2]) (fun _ => True) (fun p => .b (preR p.1 p.2)) (fun _ _ => rfl) (fun _ => rfl) (fun a b h => by simp only [List.cons.injEq, V.s.injEq, and_true] at h; rw [h.1, h.2]) fun p _ => EBody.of2 (body_2070 (ws n0 k1) p.1 p.2 _ fun H => by rw [w_here]; exact s1 p trivial H)
  exact ⟨g, h, fun x p H => s (x, p) trivial H⟩

def okP (s best x : List UInt8) : Bool := decide (best.length < x.length) && (preR s x && !((letR (lastB x) || (lastB x == 95)) && (decide (x.length < s.length) && worR (atR s x.length))))
def sgF (s : List UInt8) : List (List UInt8) → List UInt8 → List UInt8
  | [], best => best
  | x :: l, best => sgF s l (if okP s best x = true then x else best)

theorem loop2054 {call : CallF} (hC : call.Sound Tryz.prog TT) {Q : Out → Prop} {H : Heap} (s : List UInt8) (hpre : ∀ p H, call 70 [.s s, .s p] H = .val (.b (preR s p)) H) (hlet : ∀ c : Int, ∀ H, call 72 [.i .u8 c] H = .val (.b (letR c || (c == 95))) H) (hwor : ∀ c : UInt8, ∀ H, call 73 [.i .u8 c.toNat] H = .val (.b (worR c.toNat)) H) :
    ∀ (L pre : List (List UInt8)) (best : List UInt8) (t : Tm), sgnL = pre ++ L → t.wid = 44 → t.get 0 = .s s → t.get 3 = .s best → t.get 6 = .agg (sgnL.map .s) → t.get 7 = .i .i64 pre.length →
    (∀ t' : Tm, t'.wid = 44 → t'.get 3 = .s (sgF s L best) → Q (.exit 0 t' H)) →
    LTri Tryz.prog TT (sub [true, true, false, true, false, false] (bodyOf Tryz.f54)) t H Q := by
 intro L
 induction L with
 | nil =>
   intro pre best t hS hw h0 h3 h6 h7 hE
   have hlast : pre.length = 43 := by have := congrArg List.length hS; simpa [sgnL] using this.symm
   have hF := ai @h0 (ai @h3 (ai @h6 (ai @h7 @hlast)))
   refine LTri.round' ?_
   apply rS hC
   · refine evSeq_go rfl (by simp [hF] <;> rfl) (by rfl) (by simp [hw]) ?_
     rfl
   apply sQ
   refine cF (by simp [hF] <;> rfl) ?_
   refine Tri.exit ?_
   refine inSeq_exit ?_
   refine inLoop_exit ?_
   exact hE _ (by simp [hw]) (by simp [h3, sgF])
 | cons x L ih =>
   intro pre best t hS hw h0 h3 h6 h7 hE
   have hlen := congrArg List.length hS
   have h43 : sgnL.length = 43 := rfl
   rw [h43] at hlen
   simp only [List.length_append, List.length_cons] at hlen
   have hlt : (pre.length : Int) < 43 := by omega
   have hx : sgnL[pre.length]? = some x := by rw [hS]; simp
   have hwp : IntKind.i64.wrap ((pre.length : Int) + 1) = pre.length + 1 := wrap_i64 (by omega) (by omega)
   have hmem : x ∈ sgnL := by rw [hS]; simp
   have hall : sgnL.all (fun x => decide (0 < x.length) && decide (x.length < 10)) = true := by decide
   have hx1 := List.all_eq_true.1 hall x hmem
   rw [Bool.and_eq_true, decide_eq_true_eq, decide_eq_true_eq] at hx1
   obtain ⟨y, b, rfl⟩ : ∃ y b, x = y ++ [b] := ⟨x.dropLast, x.getLast (by intro e; rw [e] at hx1; simp at hx1), (List.dropLast_concat_getLast _).symm⟩
   have hxl : (y ++ [b]).length = y.length + 1 := by simp
   rw [hxl] at hx1
   have hlb : lastB (y ++ [b]) = b.toNat := by simp [lastB]
   have hwy : IntKind.i64.wrap (y.length : Int) = y.length := wrap_i64 (by omega) (by omega)
   have hp1 := hpre (y ++ [b])
   have hl1 := hlet b.toNat
   cases hb : decide ((y.length : Int) + 1 ≤ best.length) with
   | true =>
     have hok : okP s best (y ++ [b]) = false := by
      have : ¬ best.length < (y ++ [b]).length := by rw [decide_eq_true_eq] at hb; rw [hxl]; omega
      simp only [okP, decide_eq_false this, Bool.false_and]
     have hF := ai @h0 (ai @h3 (ai @h6 (ai @h7 (ai @hlt (ai @hx (ai @hwp @hb))))))
     refine LTri.round' ?_
     apply rS hC
     · refine evSeq_go rfl (by simp [hF] <;> rfl) (by rfl) (by simp [hw]) ?_
       rfl
     apply sQ
     refine cT (by simp [hF] <;> rfl) ?_
     apply Tri.skip
     apply sN
     apply sQ
     apply bK
     apply rS hC
     · iterate 2 refine evSeq_go rfl (by simp [hF] <;> rfl) (by rfl) (by simp [hw]) ?_
       rfl
     apply sQ
     apply rS hC
     · iterate 6 refine evSeq_go rfl (by simp [hF] <;> rfl) (by rfl) (by simp [hw]) ?_
       iterate 4 refine evSeq_off (by simp [wants, hF]) (by simp [hw]) ?_
       refine evSeq_go rfl (by simp [hF] <;> rfl) (by rfl) (by simp [hw]) ?_
       rfl
     refine cT (by simp [hF] <;> rfl) ?_
     refine Tri.exit ?_
     refine inSeq_exit ?_
     refine inBlk_exit ?_
     apply sN
     apply rN hC
     · iterate 2 refine evSeq_go rfl (by simp [hF] <;> rfl) (by rfl) (by simp [hw]) ?_
       rfl
     refine inLoop_norm ?_
     refine ih (pre ++ [y ++ [b]]) best _ (by simpa using hS) (by simp [hw]) (by simp [h0]) (by simp [h3]) (by simp [h6]) (by simp <;> exact hwp) ?_
     intro t' k1 k2
     exact hE t' k1 (by rw [k2]; simp only [sgF]; rw [hok]; simp)
   | false =>
     have hbt : best.length < (y ++ [b]).length := by rw [decide_eq_false_iff_not] at hb; rw [hxl]; omega
     cases hpv : preR s (y ++ [b]) with
     | false =>
       have hok : okP s best (y ++ [b]) = false := by simp only [okP, hpv, Bool.false_and, Bool.and_false]
       have hp : ∀ H, call 70 [.s s, .s (y ++ [b])] H = .val (.b false) H := fun H => by rw [hp1, hpv]
       have hF := ai @h0 (ai @h3 (ai @h6 (ai @h7 (ai @hlt (ai @hx (ai @hwp (ai @hb @hp)))))))
       refine LTri.round' ?_
       apply rS hC
       · refine evSeq_go rfl (by simp [hF] <;> rfl) (by rfl) (by simp [hw]) ?_
         rfl
       apply sQ
       refine cT (by simp [hF] <;> rfl) ?_
       apply Tri.skip
       apply sN
       apply sQ
       apply bK
       apply rS hC
       · iterate 2 refine evSeq_go rfl (by simp [hF] <;> rfl) (by rfl) (by simp [hw]) ?_
         rfl
       apply sQ
       apply rS hC
       · iterate 6 refine evSeq_go rfl (by simp [hF] <;> rfl) (by rfl) (by simp [hw]) ?_
         iterate 4 refine evSeq_go (by simp [wants, hF]) (by simp [hF] <;> rfl) (by rfl) (by simp [hw]) ?_
         refine evSeq_go rfl (by simp [hF] <;> rfl) (by rfl) (by simp [hw]) ?_
         rfl
       refine cT (by simp [hF] <;> rfl) ?_
       refine Tri.exit ?_
       refine inSeq_exit ?_
       refine inBlk_exit ?_
       apply sN
       apply rN hC
       · iterate 2 refine evSeq_go rfl (by simp [hF] <;> rfl) (by rfl) (by simp [hw]) ?_
         rfl
       refine inLoop_norm ?_
       refine ih (pre ++ [y ++ [b]]) best _ (by simpa using hS) (by simp [hw]) (by simp [h0]) (by simp [h3]) (by simp [h6]) (by simp <;> exact hwp) ?_
       intro t' k1 k2
       exact hE t' k1 (by rw [k2]; simp only [sgF]; rw [hok]; simp)
     | true =>
       have hp : ∀ H, call 70 [.s s, .s (y ++ [b])] H = .val (.b true) H := fun H => by rw [hp1, hpv]
       cases hlv : (letR b.toNat || ((b.toNat : Int) == 95)) with
       | false =>
         have hok : okP s best (y ++ [b]) = true := by simp only [okP, hpv, hlb, hlv, decide_eq_true hbt, Bool.false_and, Bool.not_false, Bool.and_true]
         have hl : ∀ H, call 72 [.i .u8 b.toNat] H = .val (.b false) H := fun H => by rw [hl1, hlv]
         have hF := ai @h0 (ai @h3 (ai @h6 (ai @h7 (ai @hlt (ai @hx (ai @hwp (ai @hb (ai @hp (ai @hwy @hl)))))))))
         refine LTri.round' ?_
         apply rS hC
         · refine evSeq_go rfl (by simp [hF] <;> rfl) (by rfl) (by simp [hw]) ?_
           rfl
         apply sQ
         refine cT (by simp [hF] <;> rfl) ?_
         apply Tri.skip
         apply sN
         apply sQ
         apply bK
         apply rS hC
         · iterate 2 refine evSeq_go rfl (by simp [hF] <;> rfl) (by rfl) (by simp [hw]) ?_
           rfl
         apply sQ
         apply rS hC
         · iterate 6 refine evSeq_go rfl (by simp [hF] <;> rfl) (by rfl) (by simp [hw]) ?_
           iterate 4 refine evSeq_go (by simp [wants, hF]) (by simp [hF] <;> rfl) (by rfl) (by simp [hw]) ?_
           refine evSeq_go rfl (by simp [hF] <;> rfl) (by rfl) (by simp [hw]) ?_
           rfl
         refine cF (by simp [hF] <;> rfl) ?_
         apply Tri.skip
         apply sN
         apply sQ
         apply rS hC
         · iterate 7 refine evSeq_go rfl (by simp [hF] <;> rfl) (by rfl) (by simp [hw]) ?_
           iterate 5 refine evSeq_off (by simp [wants, hF]) (by simp [hw]) ?_
           iterate 2 refine evSeq_go rfl (by simp [hF] <;> rfl) (by rfl) (by simp [hw]) ?_
           iterate 5 refine evSeq_off (by simp [wants, hF]) (by simp [hw]) ?_
           refine evSeq_go rfl (by simp [hF] <;> rfl) (by rfl) (by simp [hw]) ?_
           rfl
         refine cF (by simp [hF] <;> rfl) ?_
         apply Tri.skip
         apply sN
         apply rN hC
         · iterate 2 refine evSeq_go rfl (by simp [hF] <;> rfl) (by rfl) (by simp [hw]) ?_
           rfl
         apply bN
         apply sN
         apply rN hC
         · iterate 2 refine evSeq_go rfl (by simp [hF] <;> rfl) (by rfl) (by simp [hw]) ?_
           rfl
         refine inLoop_norm ?_
         refine ih (pre ++ [y ++ [b]]) (y ++ [b]) _ (by simpa using hS) (by simp [hw]) (by simp [h0]) (by simp [h3]) (by simp [h6]) (by simp <;> exact hwp) ?_
         intro t' k1 k2
         exact hE t' k1 (by rw [k2]; simp only [sgF]; rw [hok]; simp)
       | true =>
         have hl : ∀ H, call 72 [.i .u8 b.toNat] H = .val (.b true) H := fun H => by rw [hl1, hlv]
         cases hg : decide ((y.length : Int) + 1 < s.length) with
         | false =>
           have hgn : ¬ (y ++ [b]).length < s.length := by rw [decide_eq_false_iff_not] at hg; rw [hxl]; omega
           have hok : okP s best (y ++ [b]) = true := by simp only [okP, hpv, hlb, hlv, decide_eq_true hbt, decide_eq_false hgn, Bool.false_and, Bool.and_false, Bool.not_false, Bool.and_true]
           have hF := ai @h0 (ai @h3 (ai @h6 (ai @h7 (ai @hlt (ai @hx (ai @hwp (ai @hb (ai @hp (ai @hwy (ai @hl @hg))))))))))
           refine LTri.round' ?_
           apply rS hC
           · refine evSeq_go rfl (by simp [hF] <;> rfl) (by rfl) (by simp [hw]) ?_
             rfl
           apply sQ
           refine cT (by simp [hF] <;> rfl) ?_
           apply Tri.skip
           apply sN
           apply sQ
           apply bK
           apply rS hC
           · iterate 2 refine evSeq_go rfl (by simp [hF] <;> rfl) (by rfl) (by simp [hw]) ?_
             rfl
           apply sQ
           apply rS hC
           · iterate 6 refine evSeq_go rfl (by simp [hF] <;> rfl) (by rfl) (by simp [hw]) ?_
             iterate 4 refine evSeq_go (by simp [wants, hF]) (by simp [hF] <;> rfl) (by rfl) (by simp [hw]) ?_
             refine evSeq_go rfl (by simp [hF] <;> rfl) (by rfl) (by simp [hw]) ?_
             rfl
           refine cF (by simp [hF] <;> rfl) ?_
           apply Tri.skip
           apply sN
           apply sQ
           apply rS hC
           · iterate 7 refine evSeq_go rfl (by simp [hF] <;> rfl) (by rfl) (by simp [hw]) ?_
             iterate 5 refine evSeq_go (by simp [wants, hF]) (by simp [hF] <;> rfl) (by rfl) (by simp [hw]) ?_
             iterate 2 refine evSeq_go rfl (by simp [hF] <;> rfl) (by rfl) (by simp [hw]) ?_
             iterate 5 refine evSeq_off (by simp [wants, hF]) (by simp [hw]) ?_
             refine evSeq_go rfl (by simp [hF] <;> rfl) (by rfl) (by simp [hw]) ?_
             rfl
           refine cF (by simp [hF] <;> rfl) ?_
           apply Tri.skip
           apply sN
           apply rN hC
           · iterate 2 refine evSeq_go rfl (by simp [hF] <;> rfl) (by rfl) (by simp [hw]) ?_
             rfl
           apply bN
           apply sN
           apply rN hC
           · iterate 2 refine evSeq_go rfl (by simp [hF] <;> rfl) (by rfl) (by simp [hw]) ?_
             rfl
           refine inLoop_norm ?_
           refine ih (pre ++ [y ++ [b]]) (y ++ [b]) _ (by simpa using hS) (by simp [hw]) (by simp [h0]) (by simp [h3]) (by simp [h6]) (by simp <;> exact hwp) ?_
           intro t' k1 k2
           exact hE t' k1 (by rw [k2]; simp only [sgF]; rw [hok]; simp)
         | true =>
           have hgn : (y ++ [b]).length < s.length := by rw [decide_eq_true_eq] at hg; rw [hxl]; omega
           obtain ⟨d, hd⟩ : ∃ d, s[y.length + 1]? = some d := ⟨_, List.getElem?_eq_getElem (by rw [← hxl]; exact hgn)⟩
           have hd2 : ∀ h, s[y.length + 1]'h = d := fun h => by rw [List.getElem?_eq_getElem h] at hd; exact Option.some.inj hd
           have hat : atR s (y ++ [b]).length = d.toNat := by rw [hxl]; simp [atR, hd]
           have hq1 := hwor d
           cases hqv : worR d.toNat with
           | true =>
             have hok : okP s best (y ++ [b]) = false := by simp only [okP, hpv, hlb, hlv, hat, hqv, decide_eq_true hbt, decide_eq_true hgn, Bool.and_true, Bool.not_true, Bool.and_false]
             have hq : ∀ H, call 73 [.i .u8 d.toNat] H = .val (.b true) H := fun H => by rw [hq1, hqv]
             have hF := ai @h0 (ai @h3 (ai @h6 (ai @h7 (ai @hlt (ai @hx (ai @hwp (ai @hb (ai @hp (ai @hwy (ai @hl (ai @hg (ai @hd (ai @hd2 @hq)))))))))))))
             refine LTri.round' ?_
             apply rS hC
             · refine evSeq_go rfl (by simp [hF] <;> rfl) (by rfl) (by simp [hw]) ?_
               rfl
             apply sQ
             refine cT (by simp [hF] <;> rfl) ?_
             apply Tri.skip
             apply sN
             apply sQ
             apply bK
             apply rS hC
             · iterate 2 refine evSeq_go rfl (by simp [hF] <;> rfl) (by rfl) (by simp [hw]) ?_
               rfl
             apply sQ
             apply rS hC
             · iterate 6 refine evSeq_go rfl (by simp [hF] <;> rfl) (by rfl) (by simp [hw]) ?_
               iterate 4 refine evSeq_go (by simp [wants, hF]) (by simp [hF] <;> rfl) (by rfl) (by simp [hw]) ?_
               refine evSeq_go rfl (by simp [hF] <;> rfl) (by rfl) (by simp [hw]) ?_
               rfl
             refine cF (by simp [hF] <;> rfl) ?_
             apply Tri.skip
             apply sN
             apply sQ
             apply rS hC
             · iterate 7 refine evSeq_go rfl (by simp [hF] <;> rfl) (by rfl) (by simp [hw]) ?_
               iterate 5 refine evSeq_go (by simp [wants, hF]) (by simp [hF] <;> rfl) (by rfl) (by simp [hw]) ?_
               iterate 2 refine evSeq_go rfl (by simp [hF] <;> rfl) (by rfl) (by simp [hw]) ?_
               iterate 5 refine evSeq_go (by simp [wants, hF]) (by simp [hF] <;> rfl) (by rfl) (by simp [hw]) ?_
               refine evSeq_go rfl (by simp [hF] <;> rfl) (by rfl) (by simp [hw]) ?_
               rfl
             refine cT (by simp [hF] <;> rfl) ?_
             refine Tri.exit ?_
             refine inSeq_exit ?_
             refine inBlk_exit ?_
             apply sN
             apply rN hC
             · iterate 2 refine evSeq_go rfl (by simp [hF] <;> rfl) (by rfl) (by simp [hw]) ?_
               rfl
             refine inLoop_norm ?_
             refine ih (pre ++ [y ++ [b]]) best _ (by simpa using hS) (by simp [hw]) (by simp [h0]) (by simp [h3]) (by simp [h6]) (by simp <;> exact hwp) ?_
             intro t' k1 k2
             exact hE t' k1 (by rw [k2]; simp only [sgF]; rw [hok]; simp)
           | false =>
             have hok : okP s best (y ++ [b]) = true := by simp only [okP, hpv, hlb, hlv, hat, hqv, decide_eq_true hbt, decide_eq_true hgn, Bool.and_false, Bool.not_false, Bool.and_true]
             have hq : ∀ H, call 73 [.i .u8 d.toNat] H = .val (.b false) H := fun H => by rw [hq1, hqv]
             have hF := ai @h0 (ai @h3 (ai @h6 (ai @h7 (ai @hlt (ai @hx (ai @hwp (ai @hb (ai @hp (ai @hwy (ai @hl (ai @hg (ai @hd (ai @hd2 @hq)))))))))))))
             refine LTri.round' ?_
             apply rS hC
             · refine evSeq_go rfl (by simp [hF] <;> rfl) (by rfl) (by simp [hw]) ?_
               rfl
             apply sQ
             refine Tri.condG (o := ?of2) (b := ?bf2) ?gf2 ?rf2 ?yf2 ?nf2
             case gf2 => simp [hF] <;> rfl
             case rf2 => rfl
             case yf2 =>
              intro hy2
              apply Tri.skip
              apply sN
              apply sQ
              apply bK
              apply rS hC
              · iterate 2 refine evSeq_go rfl (by simp [hF] <;> rfl) (by rfl) (by simp [hw]) ?_
                rfl
              apply sQ
              apply rS hC
              · iterate 6 refine evSeq_go rfl (by simp [hF] <;> rfl) (by rfl) (by simp [hw]) ?_
                iterate 4 refine evSeq_go (by simp [wants, hF]) (by simp [hF] <;> rfl) (by rfl) (by simp [hw]) ?_
                refine evSeq_go rfl (by simp [hF] <;> rfl) (by rfl) (by simp [hw]) ?_
                rfl
              refine cF (by simp [hF] <;> rfl) ?_
              apply Tri.skip
              apply sN
              apply sQ
              apply rS hC
              · iterate 7 refine evSeq_go rfl (by simp [hF] <;> rfl) (by rfl) (by simp [hw]) ?_
                iterate 5 refine evSeq_go (by simp [wants, hF]) (by simp [hF] <;> rfl) (by rfl) (by simp [hw]) ?_
                iterate 2 refine evSeq_go rfl (by simp [hF] <;> rfl) (by rfl) (by simp [hw]) ?_
                iterate 5 refine evSeq_go (by simp [wants, hF]) (by simp [hF] <;> rfl) (by rfl) (by simp [hw]) ?_
                refine evSeq_go rfl (by simp [hF] <;> rfl) (by rfl) (by simp [hw]) ?_
                rfl
              refine cF (by simp [hF] <;> rfl) ?_
              apply Tri.skip
              apply sN
              apply rN hC
              · iterate 2 refine evSeq_go rfl (by simp [hF] <;> rfl) (by rfl) (by simp [hw]) ?_
                rfl
              apply bN
              apply sN
              apply rN hC
              · iterate 2 refine evSeq_go rfl (by simp [hF] <;> rfl) (by rfl) (by simp [hw]) ?_
                rfl
              refine inLoop_norm ?_
              refine ih (pre ++ [y ++ [b]]) (y ++ [b]) _ (by simpa using hS) (by simp [hw]) (by simp [h0]) (by simp [h3]) (by simp [h6]) (by simp <;> exact hwp) ?_
              intro t' k1 k2
              exact hE t' k1 (by rw [k2]; simp only [sgF]; rw [hok]; simp)
             case nf2 =>
              intro hn2
              exact absurd hn2 (by simp [hF])

theorem ld_signs (H : Heap) : loadA TT 77 H (.gp 0 0) = some (.agg (sgnL.map .s)) := rfl

theorem body_2054 {call : CallF} (hC : call.Sound Tryz.prog TT) (s : List UInt8) (hpre : ∀ p H, call 70 [.s s, .s p] H = .val (.b (preR s p)) H) (hlet : ∀ c : Int, ∀ H, call 72 [.i .u8 c] H = .val (.b (letR c || (c == 95))) H) (hwor : ∀ c : UInt8, ∀ H, call 73 [.i .u8 c.toNat] H = .val (.b (worR c.toNat)) H)  : EBody Tryz.prog TT 54 [.s s] (fun r => r = .val (.s (sgF s sgnL []))) := by
 refine en Tryz.f54 rfl rfl (by simp [Tryz.f54]) 44 rfl fun t hw hg => ?_
 have h0 := hg 0 _ rfl
 clear hg
 try simp only [Nd.enc_eq] at *
 apply rS hC
 · refine evSeq_go rfl (by simp [h0] <;> rfl) (by rfl) (by simp [hw]) ?_
   rfl
 apply rS hC
 · refine evSeq_go rfl (by simp [h0] <;> rfl) (by rfl) (by simp [hw]) ?_
   rfl
 apply sQ
 apply rS hC
 · iterate 2 refine evSeq_go rfl (by simp [h0, ld_signs, -loadA] <;> rfl) (by rfl) (by simp [hw]) ?_
   rfl
 apply bK
 refine Tri.loop ?_
 refine loop2054 hC s hpre hlet hwor sgnL [] [] _ rfl (by simp [hw]) (by simp [h0]) (by simp) (by simp) (by simp) ?exit
 case exit =>
  intro t2 hw h3
  refine inBlk_exit ?_
  apply sN
  apply rS hC
  · iterate 2 refine evSeq_go rfl (by simp [h0, h3] <;> rfl) (by rfl) (by simp [hw]) ?_
    rfl
  apply Tri.ret
  refine endsE (by simp [Tryz.f54, h3] <;> rfl) (by rfl) ?_
  rfl
theorem sp2054 : ∃ g, SpecOK Tryz.prog TT 54 g ∧ ∀ s : List UInt8, True → ∀ H, g [.s s] H = .val (.s (sgF s sgnL [])) H := by
  obtain ⟨g1, k1, s1⟩ := sp2070
  obtain ⟨g2, k2, s2⟩ := sp83p
  obtain ⟨g3, k3, s3⟩ := sp84p
  refine spT 54 (fun s => .s (sgF s sgnL [])) (fun _ => True) (fun _ => rfl) fun s _ => ?_
  exact body_2054 (ws (ws (ws n0 k1) k2) k3) s (fun p H => by rw [w_other _ _ _ _ rfl, w_other _ _ _ _ rfl, w_here]; exact s1 s p H) (fun c H => by rw [w_other _ _ _ _ rfl, w_here]; exact s2 c trivial H) fun c H => by rw [w_here]; exact s3 c trivial H

abbrev MustH (call : CallF) : Prop := ∀ (b : Bool) (e k : Int) (H : Heap), call 55 [.b b, .i .i64 e, .i .i64 k] H = if b = true then .val .un H else .pan (fltV e k) H
theorem must_ask {call : CallF} (hm : MustH call) (b : Bool) (e k : Int) {A : Prop} {B : V → Prop} (h1 : b = true → A) (h2 : b = false → B (fltV e k)) :
    ((∀ K, call 55 [.b b, .i .i64 e, .i .i64 k] K = .val (.tup []) K) ∧ A) ∨ ∃ v, (∀ K, call 55 [.b b, .i .i64 e, .i .i64 k] K = .pan v K) ∧ B v := by
  cases b with
  | true => exact .inl ⟨fun K => hm true e k K, h1 rfl⟩
  | false => exact .inr ⟨_, fun K => hm false e k K, h2 rfl⟩
def plC : List V := [.i .u8 110, .s [10], .i .u8 116, .s [9], .i .u8 114, .s [13], .i .u8 48, .s [0], .i .u8 92, .s [92], .i .u8 34, .s [34], .i .u8 39, .s [39]]
def loC : List V := [.i .u8 120, .i .i64 2, .i .u8 117, .i .i64 4, .i .u8 85, .i .i64 6]
def plT (c : Int) : Option (List UInt8) := if c = 110 then some [10] else if c = 116 then some [9] else if c = 114 then some [13] else if c = 48 then some [0] else if c = 92 then some [92] else if c = 34 then some [34] else if c = 39 then some [39] else none
def loT (c : Int) : Nat := if c = 120 then 2 else if c = 117 then 4 else if c = 85 then 6 else 0
theorem get_pl (c : Int) : mapGet (some (.int .u8)) (.i .u8 c) plC = some ((plT c).map .s) := by
  unfold plC plT
  simp only [mapGet, sameKey, if_true]
  by_cases h1 : c = 110
  · subst h1; rfl
  by_cases h2 : c = 116
  · subst h2; rfl
  by_cases h3 : c = 114
  · subst h3; rfl
  by_cases h4 : c = 48
  · subst h4; rfl
  by_cases h5 : c = 92
  · subst h5; rfl
  by_cases h6 : c = 34
  · subst h6; rfl
  by_cases h7 : c = 39
  · subst h7; rfl
  simp only [beq_eq_false_iff_ne.2 h1, beq_eq_false_iff_ne.2 h2, beq_eq_false_iff_ne.2 h3, beq_eq_false_iff_ne.2 h4, beq_eq_false_iff_ne.2 h5, beq_eq_false_iff_ne.2 h6, beq_eq_false_iff_ne.2 h7, if_neg h1, if_neg h2, if_neg h3, if_neg h4, if_neg h5, if_neg h6, if_neg h7, Option.map_none]
theorem get_lo (c : Int) : mapGet (some (.int .u8)) (.i .u8 c) loC = some (if loT c = 0 then none else some (.i .i64 (loT c : Nat))) := by
  unfold loC loT
  simp only [mapGet, sameKey, if_true]
  by_cases h1 : c = 120
  · subst h1; rfl
  by_cases h2 : c = 117
  · subst h2; rfl
  by_cases h3 : c = 85
  · subst h3; rfl
  simp only [beq_eq_false_iff_ne.2 h1, beq_eq_false_iff_ne.2 h2, beq_eq_false_iff_ne.2 h3, if_neg h1, if_neg h2, if_neg h3, if_true]
theorem look_pl {K : Heap} {n : Nat} (h : K[n]? = some (some ⟨172, plC, .map⟩)) (c : Int) : evLookup TT 172 (.mp n) (.i .u8 c) true K = some (.tup [.s ((plT c).getD []), .b (plT c).isSome]) := by
  have e : evLookup TT 172 (.mp n) (.i .u8 c) true K = (match mapAt K n with
    | some blk => (match mapGet (some (.int .u8)) (.i .u8 c) blk.cells with
      | some (some v) => some (.tup [v, .b true])
      | some none => some (.tup [.s [], .b false])
      | none => none)
    | none => none) := rfl
  rw [e]
  simp only [mapAt, h, show (frzC plC).isNone = true from rfl, and_self, if_true, get_pl]
  cases plT c <;> rfl
theorem look_lo {K : Heap} {n : Nat} (h : K[n]? = some (some ⟨173, loC, .map⟩)) (c : Int) : evLookup TT 173 (.mp n) (.i .u8 c) false K = some (.i .i64 (loT c : Nat)) := by
  have e : evLookup TT 173 (.mp n) (.i .u8 c) false K = (match mapAt K n with
    | some blk => (match mapGet (some (.int .u8)) (.i .u8 c) blk.cells with
      | some (some v) => some v
      | some none => some (.i .i64 0)
      | none => none)
    | none => none) := rfl
  rw [e]
  simp only [mapAt, h, show (frzC loC).isNone = true from rfl, and_self, if_true, get_lo]
  by_cases h0 : loT c = 0
  · rw [if_pos h0, h0]; rfl
  · rw [if_neg h0]
def Bld (H : Heap) (n : Nat) (l : List UInt8) : Prop :=
  ∃ a, (a = .nilp ∨ a = .ptr n 0) ∧ ((H[n]? = some (some ⟨66, [a, .nils], .all⟩) ∧ l = []) ∨ ∃ m, m ≠ n ∧ l ≠ [] ∧ H[n]? = some (some ⟨66, [a, .sl m 1 0 l.length none], .all⟩) ∧ H[m]? = some (some ⟨5, bysV l, .more⟩))
theorem bysV_inj : ∀ {l l' : List UInt8}, bysV l = bysV l' → l = l'
  | [], [], _ => rfl
  | [], _ :: _, h => by cases h
  | _ :: _, [], h => by cases h
  | c :: l, d :: l', h => by
    simp only [bysV, List.map_cons, List.cons.injEq, V.i.injEq, true_and, Int.ofNat_inj] at h
    rw [UInt8.toNat_inj.1 h.1, bysV_inj (l := l) (l' := l') h.2]
theorem Bld.inj {H : Heap} {n : Nat} {l l' : List UInt8} (h : Bld H n l) (h' : Bld H n l') : l = l' := by
  obtain ⟨a, _, ⟨h1, rfl⟩ | ⟨m, h1, h2, h3, h4⟩⟩ := h
  · obtain ⟨a', _, ⟨_, rfl⟩ | ⟨m', _, _, h3', _⟩⟩ := h'
    · rfl
    · rw [h1] at h3'; simp at h3'
  · obtain ⟨a', _, ⟨h1', rfl⟩ | ⟨m', _, _, h3', h4'⟩⟩ := h'
    · rw [h3] at h1'; simp at h1'
    · rw [h3] at h3'
      simp only [Option.some.injEq, Blk.mk.injEq, List.cons.injEq, V.sl.injEq, true_and, and_true] at h3'
      obtain ⟨_, rfl, _⟩ := h3'
      rw [h4] at h4'
      simp only [Option.some.injEq, Blk.mk.injEq, true_and, and_true] at h4'
      exact bysV_inj h4'
theorem tr_cc1 : codeT TT shp 20 [] (bodyOf Tryz.f67) [] ⟨[(0, .f1 (.ptr 0) (.va 0))], ⟨.va 1, [(.va 0, some ⟨66, .f2 .cons (.cv .nilp) (.f2 .cons (.va 2) .nil), .all⟩)], []⟩, 3, []⟩ (KF TT Tryz.f67 []) = .asks (.ext 91 (.f2 .cons (.f1 (.ptr 0) (.va 0)) .nil)) [] (.f1 (.ptr 0) (.va 0)) (.fin (.f1 .tup .nil) ⟨.va 1, [(.va 0, .some ⟨66, .f2 .cons (.f1 (.ptr 0) (.va 0)) (.f2 .cons (.va 2) .nil), .all⟩)], []⟩) (.stuck 0) := by kernel_rfl
theorem tr_cc2 : codeT TT shp 20 [] (bodyOf Tryz.f67) [] ⟨[(0, .f1 (.ptr 0) (.va 0))], ⟨.va 1, [(.va 0, some ⟨66, .f2 .cons (.f1 (.ptr 0) (.va 0)) (.f2 .cons (.va 2) .nil), .all⟩)], []⟩, 3, []⟩ (KF TT Tryz.f67 []) = .fin (.f1 .tup .nil) ⟨.va 1, [(.va 0, .some ⟨66, .f2 .cons (.f1 (.ptr 0) (.va 0)) (.f2 .cons (.va 2) .nil), .all⟩)], []⟩ := by kernel_rfl
theorem tr_wb1 : codeT TT shp 17 [] (bodyOf Tryz.f37) [] ⟨[(0, .f1 (.ptr 0) (.va 0)), (1, .f1 (.vi .u8) (.va 3))], ⟨.va 1, [(.va 0, some ⟨66, .f2 .cons (.va 2) (.f2 .cons (.cv .nils) .nil), .all⟩)], []⟩, 4, []⟩ (KF TT Tryz.f37 []) = .askk (.call 67 (.f2 .cons (.f1 (.ptr 0) (.va 0)) .nil)) ⟨.va 1, [(.va 0, .some ⟨66, .f2 .cons (.va 2) (.f2 .cons (.cv .nils) .nil), .all⟩)], []⟩ [] (.cv (.tup [])) [(.va 0, ⟨66, .f2 .cons (.f1 (.ptr 0) (.va 0)) (.f2 .cons (.cv .nils) .nil), .all⟩)] (.need (.f2 .leI (.ci 0) (.va 3)) (.need (.f2 .ltI (.va 3) (.ci 256)) (.fin (.cv .nili) ⟨.va 4, [(.va 0, .some ⟨66, .f2 .cons (.f1 (.ptr 0) (.va 0)) (.f2 .cons (.f2 (.sl 1) (.f2 .addn (.f1 .hlen (.va 4)) (.cn 1)) (.f1 .lenS (.f2 .pushB (.cs []) (.va 3)))) .nil), .all⟩)], [.some ⟨5, .f2 .cons (.f1 (.vi .u8) (.va 3)) .nil, .all⟩, .some ⟨5, .f1 .bys (.f2 .pushB (.cs []) (.va 3)), .more⟩]⟩))) (.stuck 0) := by kernel_rfl
theorem tr_wb2 : codeT TT shp 17 [] (bodyOf Tryz.f37) [] ⟨[(0, .f1 (.ptr 0) (.va 0)), (1, .f1 (.vi .u8) (.va 3))], ⟨.va 1, [(.va 0, some ⟨66, .f2 .cons (.va 2) (.f2 .cons (.f2 (.sl 1) (.va 4) (.f1 .lenS (.va 5))) .nil), .all⟩), (.va 4, some ⟨5, .f1 .bys (.va 5), .more⟩)], []⟩, 6, []⟩ (KF TT Tryz.f37 []) = .askk (.call 67 (.f2 .cons (.f1 (.ptr 0) (.va 0)) .nil)) ⟨.va 1, [(.va 0, .some ⟨66, .f2 .cons (.va 2) (.f2 .cons (.f2 (.sl 1) (.va 4) (.f1 .lenS (.va 5))) .nil), .all⟩), (.va 4, .some ⟨5, .f1 .bys (.va 5), .more⟩)], []⟩ [] (.cv (.tup [])) [(.va 0, ⟨66, .f2 .cons (.f1 (.ptr 0) (.va 0)) (.f2 .cons (.f2 (.sl 1) (.va 4) (.f1 .lenS (.va 5))) .nil), .all⟩), (.va 4, ⟨5, .f1 .bys (.va 5), .more⟩)] (.need (.f2 .leI (.ci 0) (.va 3)) (.need (.f2 .ltI (.va 3) (.ci 256)) (.need (.f2 .leI (.f2 .mul (.f2 .add (.f1 .lenS (.va 5)) (.ci 1)) (.ci 1)) (.ci 1099511627776)) (.need (.f2 .leI (.f2 .add (.f1 .lenS (.va 5)) (.ci 1)) (.ci 1099511627776)) (.fin (.cv .nili) ⟨.va 6, [(.va 0, .some ⟨66, .f2 .cons (.f1 (.ptr 0) (.va 0)) (.f2 .cons (.f2 (.sl 1) (.f2 .addn (.f1 .hlen (.va 6)) (.cn 1)) (.f1 .lenS (.f2 .pushB (.va 5) (.va 3)))) .nil), .all⟩), (.va 4, .none)], [.some ⟨5, .f2 .cons (.f1 (.vi .u8) (.va 3)) .nil, .all⟩, .some ⟨5, .f1 .bys (.f2 .pushB (.va 5) (.va 3)), .more⟩]⟩))))) (.stuck 0) := by kernel_rfl
theorem tr_ws1 : codeT TT shp 19 [] (bodyOf Tryz.f38) [] ⟨[(0, .f1 (.ptr 0) (.va 0)), (1, .f1 .vs (.va 3))], ⟨.va 1, [(.va 0, some ⟨66, .f2 .cons (.va 2) (.f2 .cons (.cv .nils) .nil), .all⟩)], []⟩, 4, []⟩ (KF TT Tryz.f38 []) = .askk (.call 67 (.f2 .cons (.f1 (.ptr 0) (.va 0)) .nil)) ⟨.va 1, [(.va 0, .some ⟨66, .f2 .cons (.va 2) (.f2 .cons (.cv .nils) .nil), .all⟩)], []⟩ [] (.cv (.tup [])) [(.va 0, ⟨66, .f2 .cons (.f1 (.ptr 0) (.va 0)) (.f2 .cons (.cv .nils) .nil), .all⟩)] (.ite (.f2 .eqI (.f1 .lenS (.va 3)) (.ci 0)) (.fin (.f1 .tup (.f2 .cons (.f1 (.vi .i64) (.f1 .lenS (.va 3))) (.f2 .cons (.cv .nili) .nil))) ⟨.va 4, [(.va 0, .some ⟨66, .f2 .cons (.f1 (.ptr 0) (.va 0)) (.f2 .cons (.cv .nils) .nil), .all⟩)], []⟩) (.need (.f2 .leI (.f2 .mul (.f1 .lenS (.va 3)) (.ci 1)) (.ci 1099511627776)) (.need (.f2 .leI (.f1 .lenS (.va 3)) (.ci 1099511627776)) (.fin (.f1 .tup (.f2 .cons (.f1 (.vi .i64) (.f1 .lenS (.va 3))) (.f2 .cons (.cv .nili) .nil))) ⟨.va 4, [(.va 0, .some ⟨66, .f2 .cons (.f1 (.ptr 0) (.va 0)) (.f2 .cons (.f2 (.sl 1) (.f2 .addn (.f1 .hlen (.va 4)) (.cn 0)) (.f1 .lenS (.va 3))) .nil), .all⟩)], [.some ⟨5, .f1 .bys (.va 3), .more⟩]⟩)))) (.stuck 0) := by kernel_rfl
theorem tr_ws2 : codeT TT shp 19 [] (bodyOf Tryz.f38) [] ⟨[(0, .f1 (.ptr 0) (.va 0)), (1, .f1 .vs (.va 3))], ⟨.va 1, [(.va 0, some ⟨66, .f2 .cons (.va 2) (.f2 .cons (.f2 (.sl 1) (.va 4) (.f1 .lenS (.va 5))) .nil), .all⟩), (.va 4, some ⟨5, .f1 .bys (.va 5), .more⟩)], []⟩, 6, []⟩ (KF TT Tryz.f38 []) = .askk (.call 67 (.f2 .cons (.f1 (.ptr 0) (.va 0)) .nil)) ⟨.va 1, [(.va 0, .some ⟨66, .f2 .cons (.va 2) (.f2 .cons (.f2 (.sl 1) (.va 4) (.f1 .lenS (.va 5))) .nil), .all⟩), (.va 4, .some ⟨5, .f1 .bys (.va 5), .more⟩)], []⟩ [] (.cv (.tup [])) [(.va 0, ⟨66, .f2 .cons (.f1 (.ptr 0) (.va 0)) (.f2 .cons (.f2 (.sl 1) (.va 4) (.f1 .lenS (.va 5))) .nil), .all⟩), (.va 4, ⟨5, .f1 .bys (.va 5), .more⟩)] (.need (.f2 .leI (.f2 .mul (.f2 .add (.f1 .lenS (.va 5)) (.f1 .lenS (.va 3))) (.ci 1)) (.ci 1099511627776)) (.need (.f2 .leI (.f2 .add (.f1 .lenS (.va 5)) (.f1 .lenS (.va 3))) (.ci 1099511627776)) (.ite (.f2 .eqI (.f1 .lenS (.va 3)) (.ci 0)) (.fin (.f1 .tup (.f2 .cons (.f1 (.vi .i64) (.f1 .lenS (.va 3))) (.f2 .cons (.cv .nili) .nil))) ⟨.va 6, [(.va 0, .some ⟨66, .f2 .cons (.f1 (.ptr 0) (.va 0)) (.f2 .cons (.f2 (.sl 1) (.va 4) (.f1 .lenS (.va 5))) .nil), .all⟩), (.va 4, .some ⟨5, .f1 .bys (.va 5), .more⟩)], []⟩) (.fin (.f1 .tup (.f2 .cons (.f1 (.vi .i64) (.f1 .lenS (.va 3))) (.f2 .cons (.cv .nili) .nil))) ⟨.va 6, [(.va 0, .some ⟨66, .f2 .cons (.f1 (.ptr 0) (.va 0)) (.f2 .cons (.f2 (.sl 1) (.f2 .addn (.f1 .hlen (.va 6)) (.cn 0)) (.f1 .lenS (.f2 .app (.va 5) (.va 3)))) .nil), .all⟩), (.va 4, .none)], [.some ⟨5, .f1 .bys (.f2 .app (.va 5) (.va 3)), .more⟩]⟩)))) (.stuck 0) := by kernel_rfl
theorem tr_bs1 : codeT TT shp 14 [] (bodyOf Tryz.f39) [] ⟨[(0, .f1 (.ptr 0) (.va 0))], ⟨.va 1, [(.va 0, some ⟨66, .f2 .cons (.va 2) (.f2 .cons (.cv .nils) .nil), .all⟩)], []⟩, 3, []⟩ (KF TT Tryz.f39 []) = .fin (.f1 .vs (.cs [])) ⟨.va 1, [(.va 0, .some ⟨66, .f2 .cons (.va 2) (.f2 .cons (.cv .nils) .nil), .all⟩)], []⟩ := by kernel_rfl
theorem tr_bs2 : codeT TT shp 14 [] (bodyOf Tryz.f39) [] ⟨[(0, .f1 (.ptr 0) (.va 0))], ⟨.va 1, [(.va 0, some ⟨66, .f2 .cons (.va 2) (.f2 .cons (.f2 (.sl 1) (.va 3) (.f1 .lenS (.va 4))) .nil), .all⟩), (.va 3, some ⟨5, .f1 .bys (.va 4), .more⟩)], []⟩, 5, []⟩ (KF TT Tryz.f39 []) = .need (.f2 .ltI (.ci 0) (.f1 .lenS (.va 4))) (.need (.f2 .leI (.f1 .lenS (.va 4)) (.ci 1099511627776)) (.fin (.f1 .vs (.va 4)) ⟨.va 1, [(.va 0, .some ⟨66, .f2 .cons (.va 2) (.f2 .cons (.f2 (.sl 1) (.va 3) (.f1 .lenS (.va 4))) .nil), .all⟩), (.va 3, .some ⟨5, .f2 .cons (.cv (.tup [])) (.f1 .bys (.va 4)), .map⟩)], []⟩)) := by kernel_rfl
theorem ext_noesc : TT.ext 91 = some extSame := rfl
theorem sp79 : ∃ g, SpecOK Tryz.prog TT 67 g ∧ ∀ (p : Nat × V × V) (H : Heap), (H[p.1]? = some (some ⟨66, [p.2.1, p.2.2], .all⟩) ∧ (p.2.1 = .nilp ∨ p.2.1 = .ptr p.1 0)) → g [.ptr p.1 0] H = .val (.tup []) (H.set p.1 (some ⟨66, [.ptr p.1 0, p.2.2], .all⟩)) := by
  refine spec_hp TT_ok 67 (fun p : Nat × V × V => [.ptr p.1 0]) (fun p H => H[p.1]? = some (some ⟨66, [p.2.1, p.2.2], .all⟩) ∧ (p.2.1 = .nilp ∨ p.2.1 = .ptr p.1 0)) (fun p H r => r = .val (.tup []) (H.set p.1 (some ⟨66, [.ptr p.1 0, p.2.2], .all⟩))) ?_ ?_
  · rintro ⟨n, a, b⟩ ⟨n', a', b'⟩ H r ⟨h1, _⟩ ⟨h2, _⟩ he hr
    simp only [List.cons.injEq, V.ptr.injEq, and_true] at he
    subst he
    simp only at h1 h2 hr ⊢
    rw [h1] at h2
    simp only [Option.some.injEq, Blk.mk.injEq, List.cons.injEq, true_and, and_true] at h2
    rw [← h2.2]
    exact hr
  · rintro ⟨n, a, b⟩ H ⟨h1, h2⟩
    simp only at h1 h2 ⊢
    rcases h2 with rfl | rfl
    · refine XBody.sym TT_ok n0 (fn := Tryz.f67) rfl rfl (by simp [Tryz.f67]) tr_cc1 (by kernel_rfl) [.un n, .uh H, .uv b] rfl ⟨by rw [get_init]; rfl, trivial⟩ (Heap.set_self h1) ⟨by simp; exact Heap.lt h1, by simp⟩ ?_
      simp -implicitDefEqProofs only [VC, isR, exU, Ask.den, forall_eq, E.den, O1.den, O2.den, O3.den, U.int_ui, U.boo_ub, U.val_uv, U.lst_ul, U.str_us, U.nat_un, U.heap_uh, SH.den, setsD, newD, bD, SB.den, factsTo, LQ, List.cons_append, List.nil_append, List.getElem?_cons_zero, List.getElem?_cons_succ, Option.getD_some, ltB_true, ltB_false, leB_true, leB_false, beq_iff_eq, bne_iff_ne, beq_eq_false_iff_ne, Int.toNat_natCast, ext_noesc]
      exact .inl ⟨fun K => rfl, trivial⟩
    · refine XBody.sym TT_ok n0 (fn := Tryz.f67) rfl rfl (by simp [Tryz.f67]) tr_cc2 (by kernel_rfl) [.un n, .uh H, .uv b] rfl ⟨by rw [get_init]; rfl, trivial⟩ (Heap.set_self h1) ⟨by simp; exact Heap.lt h1, by simp⟩ ?_
      simp -implicitDefEqProofs only [VC, isR, exU, Ask.den, forall_eq, E.den, O1.den, O2.den, O3.den, U.int_ui, U.boo_ub, U.val_uv, U.lst_ul, U.str_us, U.nat_un, U.heap_uh, SH.den, setsD, newD, bD, SB.den, factsTo, LQ, List.cons_append, List.nil_append, List.getElem?_cons_zero, List.getElem?_cons_succ, Option.getD_some, ltB_true, ltB_false, leB_true, leB_false, beq_iff_eq, bne_iff_ne, beq_eq_false_iff_ne, Int.toNat_natCast]
theorem get_new2' (K : Heap) (a b : Option Blk) (n : Nat) (h : n = K.length + 1) : (K ++ [a] ++ [b])[n]? = some b := by
  subst h
  rw [List.append_assoc, List.getElem?_append_right (by omega), Nat.add_sub_cancel_left]
  rfl
theorem get_old2' (K : Heap) (a b : Option Blk) (n : Nat) (h : n < K.length) : (K ++ [a] ++ [b])[n]? = K[n]? := by
  rw [List.append_assoc, List.getElem?_append_left h]
theorem get_new1 (K : Heap) (b : Option Blk) (n : Nat) (h : n = K.length) : (K ++ [b])[n]? = some b := by
  subst h
  simp
theorem get_old1 (K : Heap) (b : Option Blk) (n : Nat) (h : n < K.length) : (K ++ [b])[n]? = K[n]? := List.getElem?_append_left h
abbrev CcH (call : CallF) : Prop := ∀ (n : Nat) (a b : V) (H : Heap), H[n]? = some (some ⟨66, [a, b], .all⟩) → (a = .nilp ∨ a = .ptr n 0) → call 67 [.ptr n 0] H = .val (.tup []) (H.set n (some ⟨66, [.ptr n 0, b], .all⟩))
theorem sp80 : ∃ g, SpecOK Tryz.prog TT 37 g ∧ ∀ (p : Nat × List UInt8 × UInt8) (H : Heap), (Bld H p.1 p.2.1 ∧ p.2.1.length < 100000000) → ∃ H', g [.ptr p.1 0, .i .u8 p.2.2.toNat] H = .val .nili H' ∧ Bld H' p.1 (p.2.1 ++ [p.2.2]) := by
  obtain ⟨g1, k1, s1⟩ := sp79
  have hC := ws n0 k1
  have hcc : CcH (CallF.none.with 67 g1) := fun n a b H h1 h2 => by rw [w_here]; exact s1 (n, a, b) H ⟨h1, h2⟩
  generalize CallF.none.with 67 g1 = call at hC hcc
  refine spec_hp TT_ok 37 (fun p : Nat × List UInt8 × UInt8 => [.ptr p.1 0, .i .u8 p.2.2.toNat]) (fun p H => Bld H p.1 p.2.1 ∧ p.2.1.length < 100000000) (fun p H r => ∃ H', r = .val .nili H' ∧ Bld H' p.1 (p.2.1 ++ [p.2.2])) ?_ ?_
  · rintro ⟨n, l, c⟩ ⟨n', l', c'⟩ H r ⟨h1, _⟩ ⟨h2, _⟩ he hr
    simp only [List.cons.injEq, V.ptr.injEq, V.i.injEq, true_and, and_true, Int.ofNat_inj] at he
    obtain ⟨rfl, hc⟩ := he
    have hc := UInt8.toNat_inj.1 hc
    subst hc
    have := h1.inj h2
    simp only at this
    subst this
    exact hr
  · rintro ⟨n, l, c⟩ H ⟨hb, hl⟩
    simp only at hb hl ⊢
    have hc := u8_nn c
    obtain ⟨a, ha, ⟨h1, rfl⟩ | ⟨m, hm, hne, h1, h2⟩⟩ := hb
    · refine XBody.sym TT_ok hC (fn := Tryz.f37) rfl rfl (by simp [Tryz.f37]) tr_wb1 (by kernel_rfl) [.un n, .uh H, .uv a, .ui c.toNat] rfl ⟨by rw [get_init]; rfl, by rw [get_init]; rfl, trivial⟩ (Heap.set_self h1) ⟨by simp; exact Heap.lt h1, by simp⟩ ?_
      have e1 : H.set n (some ⟨66, [a, .nils], .all⟩) = H := (Heap.set_self h1).symm
      simp -implicitDefEqProofs only [VC, isR, exU, Ask.den, forall_eq, E.den, O1.den, O2.den, O3.den, U.int_ui, U.boo_ub, U.val_uv, U.lst_ul, U.str_us, U.nat_un, U.heap_uh, SH.den, setsD, newD, bD, SB.den, factsTo, LQ, List.cons_append, List.nil_append, List.getElem?_cons_zero, List.getElem?_cons_succ, Option.getD_some, ltB_true, ltB_false, leB_true, leB_false, beq_iff_eq, bne_iff_ne, beq_eq_false_iff_ne, Int.toNat_natCast, knownIn, e1]
      refine .inl ⟨_, hcc n a _ H h1 ha, ⟨Heap.get_self h1, trivial⟩, by omega, by omega, _, rfl, .ptr n 0, .inr rfl, .inr ⟨(H.set n (some ⟨66, [.ptr n 0, .nils], .all⟩)).length + 1, ?_, by simp, ?_, ?_⟩⟩
      · have := Heap.lt h1; simp; omega
      · refine (get_old2' _ _ _ _ (by simp; exact Heap.lt h1)).trans ((Heap.get_self (Heap.get_self h1)).trans ?_)
        simp
      · refine (get_new2' _ _ _ _ (by simp)).trans ?_
        simp [bysV]
    · refine XBody.sym TT_ok hC (fn := Tryz.f37) rfl rfl (by simp [Tryz.f37]) tr_wb2 (by kernel_rfl) [.un n, .uh H, .uv a, .ui c.toNat, .un m, .us l] rfl ⟨by rw [get_init]; rfl, by rw [get_init]; rfl, trivial⟩ ?_ ⟨by simp; exact ⟨Heap.lt h1, Heap.lt h2⟩, by simp; exact fun e => hm e.symm⟩ ?_
      · show H = (H.set m (some ⟨5, bysV l, .more⟩)).set n (some ⟨66, [a, .sl m 1 0 l.length none], .all⟩)
        rw [← Heap.set_self h2, ← Heap.set_self h1]
      have e1 : H.set n (some ⟨66, [a, .sl m 1 0 l.length none], .all⟩) = H := (Heap.set_self h1).symm
      have e2 : H.set m (some ⟨5, l.map fun c => .i .u8 c.toNat, .more⟩) = H := (Heap.set_self h2).symm
      simp -implicitDefEqProofs only [VC, isR, exU, Ask.den, forall_eq, E.den, O1.den, O2.den, O3.den, U.int_ui, U.boo_ub, U.val_uv, U.lst_ul, U.str_us, U.nat_un, U.heap_uh, SH.den, setsD, newD, bD, SB.den, factsTo, LQ, List.cons_append, List.nil_append, List.getElem?_cons_zero, List.getElem?_cons_succ, Option.getD_some, ltB_true, ltB_false, leB_true, leB_false, beq_iff_eq, bne_iff_ne, beq_eq_false_iff_ne, Int.toNat_natCast, knownIn, e2, e1]
      have hml : m < (H.set n (some (⟨66, [.ptr n 0, .sl m 1 0 l.length none], .all⟩ : Blk))).length := by simp; exact Heap.lt h2
      refine .inl ⟨_, hcc n a _ H h1 ha, ⟨Heap.get_self h1, ?_, trivial⟩, by omega, by omega, by omega, by omega, _, rfl, .ptr n 0, .inr rfl, .inr ⟨(H.set n (some ⟨66, [.ptr n 0, .sl m 1 0 l.length none], .all⟩)).length + 1, ?_, by simp, ?_, ?_⟩⟩
      · rw [List.getElem?_set_ne (fun e => hm e.symm)]; exact h2
      · have := Heap.lt h1; simp; omega
      · refine (get_old2' _ _ _ _ (by simp; exact Heap.lt h1)).trans (Heap.get_self (c := some ⟨66, [.ptr n 0, .sl m 1 0 l.length none], .all⟩) ?_ |>.trans ?_)
        · rw [List.getElem?_set_ne hm]; exact Heap.get_self h1
        · simp
      · refine (get_new2' _ _ _ _ (by simp)).trans ?_
        simp [bysV]
theorem tr_bs3 : codeT TT shp 14 [] (bodyOf Tryz.f39) [] ⟨[(0, .f1 (.ptr 0) (.va 0))], ⟨.va 1, [(.va 0, some ⟨66, .f2 .cons (.va 2) (.f2 .cons (.f2 (.sl 1) (.va 3) (.f1 .lenS (.va 4))) .nil), .all⟩), (.va 3, some ⟨5, .f2 .cons (.cv (.tup [])) (.f1 .bys (.va 4)), .map⟩)], []⟩, 5, []⟩ (KF TT Tryz.f39 []) = .need (.f2 .ltI (.ci 0) (.f1 .lenS (.va 4))) (.need (.f2 .leI (.f1 .lenS (.va 4)) (.ci 1099511627776)) (.fin (.f1 .vs (.va 4)) ⟨.va 1, [(.va 0, .some ⟨66, .f2 .cons (.va 2) (.f2 .cons (.f2 (.sl 1) (.va 3) (.f1 .lenS (.va 4))) .nil), .all⟩), (.va 3, .some ⟨5, .f2 .cons (.cv (.tup [])) (.f1 .bys (.va 4)), .map⟩)], []⟩)) := by kernel_rfl
def BldR (H : Heap) (n : Nat) (l : List UInt8) : Prop :=
  ∃ a, (H[n]? = some (some ⟨66, [a, .nils], .all⟩) ∧ l = []) ∨ ∃ m, m ≠ n ∧ l ≠ [] ∧ H[n]? = some (some ⟨66, [a, .sl m 1 0 l.length none], .all⟩) ∧ (H[m]? = some (some ⟨5, bysV l, .more⟩) ∨ H[m]? = some (some ⟨5, .tup [] :: bysV l, .map⟩))
theorem Bld.read {H : Heap} {n : Nat} {l : List UInt8} (h : Bld H n l) : BldR H n l := by
  obtain ⟨a, _, h | ⟨m, h1, h2, h3, h4⟩⟩ := h
  · exact ⟨a, .inl h⟩
  · exact ⟨a, .inr ⟨m, h1, h2, h3, .inl h4⟩⟩
theorem BldR.inj {H : Heap} {n : Nat} {l l' : List UInt8} (h : BldR H n l) (h' : BldR H n l') : l = l' := by
  obtain ⟨a, ⟨h1, rfl⟩ | ⟨m, h1, h2, h3, h4⟩⟩ := h
  · obtain ⟨a', ⟨_, rfl⟩ | ⟨m', _, _, h3', _⟩⟩ := h'
    · rfl
    · rw [h1] at h3'; simp at h3'
  · obtain ⟨a', ⟨h1', rfl⟩ | ⟨m', _, _, h3', h4'⟩⟩ := h'
    · rw [h3] at h1'; simp at h1'
    · rw [h3] at h3'
      simp only [Option.some.injEq, Blk.mk.injEq, List.cons.injEq, V.sl.injEq, true_and, and_true] at h3'
      obtain ⟨_, rfl, _⟩ := h3'
      rcases h4 with h4 | h4 <;> rcases h4' with h4' | h4' <;> rw [h4] at h4'
      · simp only [Option.some.injEq, Blk.mk.injEq, true_and, and_true] at h4'
        exact bysV_inj h4'
      · simp at h4'
      · simp at h4'
      · simp only [Option.some.injEq, Blk.mk.injEq, List.cons.injEq, true_and, and_true] at h4'
        exact bysV_inj h4'
theorem sp44 : ∃ g, SpecOK Tryz.prog TT 39 g ∧ ∀ (p : Nat × List UInt8) (H : Heap), (BldR H p.1 p.2 ∧ p.2.length < 100000000) → ∃ H', g [.ptr p.1 0] H = .val (.s p.2) H' ∧ BldR H' p.1 p.2 := by
  refine spec_hp TT_ok 39 (fun p : Nat × List UInt8 => [.ptr p.1 0]) (fun p H => BldR H p.1 p.2 ∧ p.2.length < 100000000) (fun p H r => ∃ H', r = .val (.s p.2) H' ∧ BldR H' p.1 p.2) ?_ ?_
  · rintro ⟨n, l⟩ ⟨n', l'⟩ H r ⟨h1, _⟩ ⟨h2, _⟩ he hr
    simp only [List.cons.injEq, V.ptr.injEq, and_true] at he
    subst he
    have := h1.inj h2
    simp only at this
    subst this
    exact hr
  · rintro ⟨n, l⟩ H ⟨hb, hl⟩
    simp only at hb hl ⊢
    obtain ⟨a, ⟨h1, rfl⟩ | ⟨m, hm, hne, h1, h2⟩⟩ := hb
    · refine XBody.sym TT_ok n0 (fn := Tryz.f39) rfl rfl (by simp [Tryz.f39]) tr_bs1 (by kernel_rfl) [.un n, .uh H, .uv a] rfl ⟨by rw [get_init]; rfl, trivial⟩ (Heap.set_self h1) ⟨by simp; exact Heap.lt h1, by simp⟩ ?_
      have e1 : H.set n (some ⟨66, [a, .nils], .all⟩) = H := (Heap.set_self h1).symm
      simp -implicitDefEqProofs only [VC, isR, exU, Ask.den, forall_eq, E.den, O1.den, O2.den, O3.den, U.int_ui, U.boo_ub, U.val_uv, U.lst_ul, U.str_us, U.nat_un, U.heap_uh, SH.den, setsD, newD, bD, SB.den, factsTo, LQ, List.cons_append, List.nil_append, List.getElem?_cons_zero, List.getElem?_cons_succ, Option.getD_some, ltB_true, ltB_false, leB_true, leB_false, beq_iff_eq, bne_iff_ne, beq_eq_false_iff_ne, Int.toNat_natCast, e1]
      exact ⟨H, rfl, a, .inl ⟨h1, rfl⟩⟩
    · have hl0 : 0 < l.length := List.length_pos_iff.2 hne
      rcases h2 with h2 | h2
      · refine XBody.sym TT_ok n0 (fn := Tryz.f39) rfl rfl (by simp [Tryz.f39]) tr_bs2 (by kernel_rfl) [.un n, .uh H, .uv a, .un m, .us l] rfl ⟨by rw [get_init]; rfl, trivial⟩ ?_ ⟨by simp; exact ⟨Heap.lt h1, Heap.lt h2⟩, by simp; exact fun e => hm e.symm⟩ ?_
        · show H = (H.set m (some ⟨5, bysV l, .more⟩)).set n (some ⟨66, [a, .sl m 1 0 l.length none], .all⟩)
          rw [← Heap.set_self h2, ← Heap.set_self h1]
        simp -implicitDefEqProofs only [VC, isR, exU, Ask.den, forall_eq, E.den, O1.den, O2.den, O3.den, U.int_ui, U.boo_ub, U.val_uv, U.lst_ul, U.str_us, U.nat_un, U.heap_uh, SH.den, setsD, newD, bD, SB.den, factsTo, LQ, List.cons_append, List.nil_append, List.getElem?_cons_zero, List.getElem?_cons_succ, Option.getD_some, ltB_true, ltB_false, leB_true, leB_false, beq_iff_eq, bne_iff_ne, beq_eq_false_iff_ne, Int.toNat_natCast]
        refine ⟨by omega, by omega, _, rfl, a, .inr ⟨m, hm, hne, ?_, .inr ?_⟩⟩
        · exact Heap.get_self (c := some ⟨66, [a, .sl m 1 0 l.length none], .all⟩) (by rw [List.getElem?_set_ne hm]; exact h1)
        · rw [List.getElem?_set_ne (fun e => hm e.symm), Heap.get_self h2]
          rfl
      · refine XBody.sym TT_ok n0 (fn := Tryz.f39) rfl rfl (by simp [Tryz.f39]) tr_bs3 (by kernel_rfl) [.un n, .uh H, .uv a, .un m, .us l] rfl ⟨by rw [get_init]; rfl, trivial⟩ ?_ ⟨by simp; exact ⟨Heap.lt h1, Heap.lt h2⟩, by simp; exact fun e => hm e.symm⟩ ?_
        · show H = (H.set m (some ⟨5, .tup [] :: bysV l, .map⟩)).set n (some ⟨66, [a, .sl m 1 0 l.length none], .all⟩)
          rw [← Heap.set_self h2, ← Heap.set_self h1]
        have e1 : H.set n (some ⟨66, [a, .sl m 1 0 l.length none], .all⟩) = H := (Heap.set_self h1).symm
        have e2 : H.set m (some ⟨5, .tup [] :: l.map fun c => .i .u8 c.toNat, .map⟩) = H := (Heap.set_self h2).symm
        simp -implicitDefEqProofs only [VC, isR, exU, Ask.den, forall_eq, E.den, O1.den, O2.den, O3.den, U.int_ui, U.boo_ub, U.val_uv, U.lst_ul, U.str_us, U.nat_un, U.heap_uh, SH.den, setsD, newD, bD, SB.den, factsTo, LQ, List.cons_append, List.nil_append, List.getElem?_cons_zero, List.getElem?_cons_succ, Option.getD_some, ltB_true, ltB_false, leB_true, leB_false, beq_iff_eq, bne_iff_ne, beq_eq_false_iff_ne, Int.toNat_natCast, e2, e1]
        exact ⟨by omega, by omega, H, rfl, a, .inr ⟨m, hm, hne, h1, .inr h2⟩⟩
theorem sp67 : ∃ g, SpecOK Tryz.prog TT 38 g ∧ ∀ (p : Nat × List UInt8 × List UInt8) (H : Heap), (Bld H p.1 p.2.1 ∧ p.2.1.length + p.2.2.length < 100000000) → ∃ H', g [.ptr p.1 0, .s p.2.2] H = .val (.tup [.i .i64 p.2.2.length, .nili]) H' ∧ Bld H' p.1 (p.2.1 ++ p.2.2) := by
  obtain ⟨g1, k1, s1⟩ := sp79
  have hC := ws n0 k1
  have hcc : CcH (CallF.none.with 67 g1) := fun n a b H h1 h2 => by rw [w_here]; exact s1 (n, a, b) H ⟨h1, h2⟩
  generalize CallF.none.with 67 g1 = call at hC hcc
  refine spec_hp TT_ok 38 (fun p : Nat × List UInt8 × List UInt8 => [.ptr p.1 0, .s p.2.2]) (fun p H => Bld H p.1 p.2.1 ∧ p.2.1.length + p.2.2.length < 100000000) (fun p H r => ∃ H', r = .val (.tup [.i .i64 p.2.2.length, .nili]) H' ∧ Bld H' p.1 (p.2.1 ++ p.2.2)) ?_ ?_
  · rintro ⟨n, l, c⟩ ⟨n', l', c'⟩ H r ⟨h1, _⟩ ⟨h2, _⟩ he hr
    simp only [List.cons.injEq, V.ptr.injEq, V.s.injEq, true_and, and_true] at he
    obtain ⟨rfl, rfl⟩ := he
    have := h1.inj h2
    simp only at this
    subst this
    exact hr
  · rintro ⟨n, l, s⟩ H ⟨hb, hl⟩
    simp only at hb hl ⊢
    obtain ⟨a, ha, ⟨h1, rfl⟩ | ⟨m, hm, hne, h1, h2⟩⟩ := hb
    · refine XBody.sym TT_ok hC (fn := Tryz.f38) rfl rfl (by simp [Tryz.f38]) tr_ws1 (by kernel_rfl) [.un n, .uh H, .uv a, .us s] rfl ⟨by rw [get_init]; rfl, by rw [get_init]; rfl, trivial⟩ (Heap.set_self h1) ⟨by simp; exact Heap.lt h1, by simp⟩ ?_
      have e1 : H.set n (some ⟨66, [a, .nils], .all⟩) = H := (Heap.set_self h1).symm
      simp -implicitDefEqProofs only [VC, isR, exU, Ask.den, forall_eq, E.den, O1.den, O2.den, O3.den, U.int_ui, U.boo_ub, U.val_uv, U.lst_ul, U.str_us, U.nat_un, U.heap_uh, SH.den, setsD, newD, bD, SB.den, factsTo, LQ, List.cons_append, List.nil_append, List.getElem?_cons_zero, List.getElem?_cons_succ, Option.getD_some, ltB_true, ltB_false, leB_true, leB_false, beq_iff_eq, bne_iff_ne, beq_eq_false_iff_ne, Int.toNat_natCast, knownIn, e1]
      have hl : s.length < 100000000 := by simpa using hl
      refine .inl ⟨_, hcc n a _ H h1 ha, ⟨Heap.get_self h1, trivial⟩, fun h0 => ?_, fun h0 => ⟨by omega, by omega, _, rfl, .ptr n 0, .inr rfl, .inr ⟨(H.set n (some ⟨66, [.ptr n 0, .nils], .all⟩)).length, ?_, ?_, ?_, ?_⟩⟩⟩
      · have hs : s = [] := List.eq_nil_of_length_eq_zero (by omega)
        exact ⟨_, rfl, .ptr n 0, .inr rfl, .inl ⟨Heap.get_self (Heap.get_self h1), by simp [hs]⟩⟩
      · have := Heap.lt h1; simp; omega
      · intro e
        exact h0 (by rw [show s = [] from e]; rfl)
      · refine (get_old1 _ _ _ (by simp; exact Heap.lt h1)).trans ((Heap.get_self (Heap.get_self h1)).trans ?_)
        simp
      · refine (get_new1 _ _ _ (by simp)).trans ?_
        simp [bysV]
    · refine XBody.sym TT_ok hC (fn := Tryz.f38) rfl rfl (by simp [Tryz.f38]) tr_ws2 (by kernel_rfl) [.un n, .uh H, .uv a, .us s, .un m, .us l] rfl ⟨by rw [get_init]; rfl, by rw [get_init]; rfl, trivial⟩ ?_ ⟨by simp; exact ⟨Heap.lt h1, Heap.lt h2⟩, by simp; exact fun e => hm e.symm⟩ ?_
      · show H = (H.set m (some ⟨5, bysV l, .more⟩)).set n (some ⟨66, [a, .sl m 1 0 l.length none], .all⟩)
        rw [← Heap.set_self h2, ← Heap.set_self h1]
      have e1 : H.set n (some ⟨66, [a, .sl m 1 0 l.length none], .all⟩) = H := (Heap.set_self h1).symm
      have e2 : H.set m (some ⟨5, l.map fun c => .i .u8 c.toNat, .more⟩) = H := (Heap.set_self h2).symm
      simp -implicitDefEqProofs only [VC, isR, exU, Ask.den, forall_eq, E.den, O1.den, O2.den, O3.den, U.int_ui, U.boo_ub, U.val_uv, U.lst_ul, U.str_us, U.nat_un, U.heap_uh, SH.den, setsD, newD, bD, SB.den, factsTo, LQ, List.cons_append, List.nil_append, List.getElem?_cons_zero, List.getElem?_cons_succ, Option.getD_some, ltB_true, ltB_false, leB_true, leB_false, beq_iff_eq, bne_iff_ne, beq_eq_false_iff_ne, Int.toNat_natCast, knownIn, e2, e1]
      have hmm : (H.set n (some (⟨66, [.ptr n 0, .sl m 1 0 l.length none], .all⟩ : Blk)))[m]? = some (some ⟨5, bysV l, .more⟩) := by rw [List.getElem?_set_ne (fun e => hm e.symm)]; exact h2
      refine .inl ⟨_, hcc n a _ H h1 ha, ⟨Heap.get_self h1, hmm, trivial⟩, by omega, by omega, fun h0 => ?_, fun h0 => ⟨_, rfl, .ptr n 0, .inr rfl, .inr ⟨(H.set n (some ⟨66, [.ptr n 0, .sl m 1 0 l.length none], .all⟩)).length, ?_, ?_, ?_, ?_⟩⟩⟩
      · have hs : s = [] := List.eq_nil_of_length_eq_zero (by omega)
        subst hs
        refine ⟨_, rfl, .ptr n 0, .inr rfl, .inr ⟨m, hm, by simpa using hne, ?_, ?_⟩⟩
        · refine (Heap.get_self (c := some ⟨66, [.ptr n 0, .sl m 1 0 l.length none], .all⟩) ?_).trans ?_
          · rw [List.getElem?_set_ne hm]; exact Heap.get_self h1
          · simp
        · rw [List.getElem?_set_ne (fun e => hm e.symm), Heap.get_self hmm]
          simp [bysV]
      · have := Heap.lt h1; simp; omega
      · simp [hne]
      · refine (get_old1 _ _ _ (by simp; exact Heap.lt h1)).trans ((Heap.get_self (c := some ⟨66, [.ptr n 0, .sl m 1 0 l.length none], .all⟩) ?_).trans ?_)
        · rw [List.getElem?_set_ne hm]; exact Heap.get_self h1
        · simp
      · refine (get_new1 _ _ _ (by simp)).trans ?_
        simp [bysV]
end Go.Ev
